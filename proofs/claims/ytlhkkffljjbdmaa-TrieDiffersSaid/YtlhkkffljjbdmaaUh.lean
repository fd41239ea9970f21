/- Walks of the law: the document's digest of no pair and of one pair. Conditions: each theorem's own. -/
import Derived.Test.YtlhkkffljjbdmaaUy
namespace Go.Proofs.Ytlhkkffljjbdmaa
open Go.RowKit Go.Sig

set_option maxRecDepth 100000 in
theorem lsized_t (w : World) (s : ByteArray) (hs : s.size ≤ 1000000) :
   Calls Try.prog 48 #[.string s] w fun e w' => ∃ A c, e = .returned (.slice A (4 + s.size) c) ∧ Byts w' A (4 + s.size) (szd s) ∧ 4 + s.size ≤ c ∧ (∀ ad, A = some ad → w.heap.size ≤ ad.block) ∧ Fr [] w w' := by
  obtain ⟨i, hi, hz, h1, hb⟩ := info_parts infoU8
  have hbc := Lib.hid (be4_cells s.size hs)
  go_enter Try.func48, Try.ntmps48
  have hB := Blk.new w 5 #[.int .u8 ((s.size : Int) / 16777216), .int .u8 ((s.size : Int) / 65536), .int .u8 ((s.size : Int) / 256 % 256), .int .u8 ((s.size : Int) % 256)]
  go_wp2_with (refine wpList_append_str tBytes tStr hi hz h1 rfl hb hB rfl s (by simp; omega) rfl rfl rfl rfl ?_; intro A c w' hR hc hA hF)
  go_ret
  refine ⟨A, c, rfl, ?_, hc, fun ad e => ?_, ((Fr.refl _ _).alloc _).trans hF⟩
  · unfold Byts szd
    rw [List.map_append, hbc.out]
    exact hR
  · rcases hA ad e with h | h
    · rw [h]; exact Nat.le_refl _
    · simp at h; omega
/-- 'append(xs, ys...)' in a region that draws its order. -/
theorem wp_own_append {P : Program} {w : World} {e size n m c : Nat} {v z : Value} {xs news : List Value} {t : TypeId} {bytes : Nat} {A : Option Addr}
    {o : Oper} {a : Act} {K : Act → World → Prop} {Q : Exit → Act → World → Prop} (T : SliceTy P t e size bytes z) (h : Own w e size v n xs) (hr : Rd w size A m news)
    (h1 : ∀ u ∈ news, u.oneCell' = true) (hm : A = none → m = 0) (h63 : n + m ≤ maxLen) (hb : (n + m) * bytes ≤ 140737488355328)
    {s x : Operand} (hop : o.op = .call { callee := .builtin .append, args := #[s, x], argTypes := #[t, t] }) (hs : a.eval s = v) (hx : a.eval x = .slice A m c)
    (hK : ∀ v' w', Own w' e size v' (n + m) (xs ++ news) → Fr (rowOf v) w w' → (∀ g, g ∈ rowOf v' → g ∈ rowOf v ∨ g = w.heap.size) → K (a.put o.dst v') w') : Oper.wp P o a w K Q := by
  obtain ⟨v', w', hrun, r1, r2, r3⟩ := h.run_append (ty := o.type) (c := c) T hr h1 hm h63 hb
  unfold Oper.wp
  simp [execOp, hop, resolve, invoke, builtin, hs, hx, hrun, Result.andThen]
  exact hK v' w' r1 r2 r3
end Go.Proofs.Ytlhkkffljjbdmaa
namespace Go.Proofs.Ytlhkkffljjbdmaa
open Go.RowKit Go.Sig

theorem laid_whole {cs : Array Value} {vs : List Value} (h : cs.size = vs.length) : laid cs 0 vs = vs.toArray := by
  unfold laid
  rw [List.take_zero, List.nil_append, List.drop_of_length_le (by rw [Array.length_toList]; omega), List.append_nil]
set_option maxRecDepth 100000 in
set_option maxHeartbeats 1000000 in
theorem digest0_t (w : World) (A : Option Addr) (c : Nat) (dv : Value) :
   Calls Try.prog 23 #[.slice A 0 c, dv] w fun e w' => e = .returned (.agg (digCells (List.replicate 32 0))) ∧ Fr [] w w' := by
  have hlen : (List.replicate 32 (0 : UInt8)).length = 32 := rfl
  obtain ⟨D, HDD⟩ : ∃ x, Hid (List.replicate 32 (0 : UInt8) = x) := ⟨_, Lib.hid rfl⟩
  rw [HDD.out] at hlen ⊢
  go_enter Try.func23, Try.ntmps23
  go_upto_region 1 with (fail)
  refine wp_gen (fun W => (∃ zs, Blk W w.heap.size 42 zs ∧ zs.size = 32) ∧ Fr [] w W) ⟨⟨_, Blk.new _ _ _, rfl⟩, (Fr.refl _ _).alloc _⟩ ?_
  rintro W ⟨⟨zs, hD, hz⟩, fW⟩
  obtain ⟨gd, HGD⟩ : ∃ x, Hid (w.heap.size = x) := ⟨_, Lib.hid rfl⟩
  rw [HGD.out] at hD ⊢
  go_wp2_with (first
    | (refine wpList_build_k rfl 42 _ rfl (cells := digCells (List.replicate 32 0)) ?_ ?_; (focus kernel_rfl); rw [HDD.out])
    | refine wpList_store_row rfl 42 _ _ rfl gd (digCells D) rfl rfl 42 zs hD (infoDigA hlen) (by rw [hz, digCells_size hlen]) (digCells_one D) ?_)
  exact bodyPost_ret (v := .agg (digCells D)) (results_cell_row rfl _ _ gd 42 (digCells D) (0, 0) _ rfl (Blk.setRow hD _) uDig rfl (infoDigA hlen)) rfl ⟨rfl, fW.setRow (.inr (by have := HGD.out; omega)) _⟩

set_option maxRecDepth 100000 in
set_option maxHeartbeats 1000000 in
theorem digest1_t (w : World) (A : Option Addr) (c : Nat) (dv : Value) (y : Pr) (hR : Rd w 2 A 1 (pairCells [y])) (hs : Small [y]) :
   Calls Try.prog 23 #[.slice A 1 c, dv] w fun e w' => e = .returned (.agg (digCells (leaf1 y))) ∧ Fr [] w w' := by
  obtain ⟨b, o, rfl, hcell⟩ := hR.2 (by decide)
  have hname := hcell 0 (.string y.1) rfl
  have hval := hcell 1 (.string y.2) rfl
  have hbl : b < w.heap.size := block_lt_of_cell hname
  have hs1 := (hs.1 y (by simp)).1
  have hs2 := (hs.1 y (by simp)).2
  go_enter Try.func23, Try.ntmps23
  go_upto_region 1 with (fail)
  refine wp_gen (fun W => (∃ zs, Blk W w.heap.size 42 zs ∧ zs.size = 32) ∧ Fr [] w W) ⟨⟨_, Blk.new _ _ _, rfl⟩, (Fr.refl _ _).alloc _⟩ ?_
  rintro W ⟨⟨zs, hB, hz⟩, fW⟩
  have cn : W.cell? ⟨b, o, none⟩ = some (.string y.1) := (fW.cell (p := ⟨b, o, none⟩) hbl (by simp)).trans hname
  have cv : W.cell? ⟨b, o + 1, none⟩ = some (.string y.2) := (fW.cell (p := ⟨b, o + 1, none⟩) hbl (by simp)).trans hval
  obtain ⟨g, HG⟩ : ∃ x, Hid (w.heap.size = x) := ⟨_, Lib.hid rfl⟩
  rw [HG.out] at hB hbl ⊢
  clear hname hval hcell hR
  have hgl := hB.lt
  go_upto_region 4 with (fail)
  have th : W.there g 0 32 := there_blk hB (by omega)
  obtain ⟨cW, cC, hcv, hcF, hcB, hcS, hcc⟩ := conv_any y.2
  have hu := uDig
  have hlen := sha_length ([0] ++ szd y.1 ++ y.2.data.toList)
  have hsha := Lib.hid (show leaf1 y = sha ([0] ++ szd y.1 ++ y.2.data.toList) from rfl)
  have hsz := fun W' => lsized_t W' y.1 (by omega)
  obtain ⟨D, HDD⟩ : ∃ x, Hid (sha ([0] ++ szd y.1 ++ y.2.data.toList) = x) := ⟨_, Lib.hid rfl⟩
  rw [HDD.out] at hlen hsha
  obtain ⟨L2, HL2⟩ : ∃ x, Hid (szd y.1 = x) := ⟨_, Lib.hid rfl⟩
  obtain ⟨L3, HL3⟩ : ∃ x, Hid (y.2.data.toList = x) := ⟨_, Lib.hid rfl⟩
  obtain ⟨N1, HN1⟩ : ∃ x, Hid (4 + y.1.size = x) := ⟨_, Lib.hid rfl⟩
  have hN1 : N1 ≤ 200000 := by have := HN1.out; omega
  rw [HL2.out, HN1.out] at hsz
  rw [HL3.out] at hcB
  have HD2 := HDD.out
  rw [HL2.out, HL3.out] at HD2
  have HD3 := Lib.hid HD2
  have hszh := Lib.hid hsz
  have hcBh := Lib.hid hcB
  have hcFh := Lib.hid hcF
  have hcch := Lib.hid hcc
  clear HD2 HDD hsz hcB hcF hcc
  have hbg : b ≠ g := by omega
  have hi := infoDigL hlen
  have h1 := bv_one D
  have hl32 : (D.map bv).length = 32 := by rw [List.length_map, hlen]
  go_region_held_law (fun w' => w'.cell? ⟨b, o, none⟩ = some (.string y.1) ∧ w'.cell? ⟨b, o + 1, none⟩ = some (.string y.2) ∧ w'.there g 0 32) ((refine ⟨?_, ?_, ?_⟩ <;> with_reducible (repeat (first | exact cn | exact cv | exact th | refine cell_sc hbg ?_ | refine World.there_setCells ?_ _ _ _ | exact k1 | exact k2 | exact k3 | exact k4 | exact k5 | exact k6 | apply cell_al | apply cell_dr | refine cell_fr (hcFh.out _) ?_ | apply there_al | apply there_dr | refine there_fr0 (hcFh.out _) ?_))))
    (first
      | (try go_simp
         go_at_call 48; refine (hszh.out _).mono ?_; rintro e w' ⟨A1, c1, rfl, hb1, hc1, hA1, F1⟩
         have G1 : Fr [] W w' := Fr.trans (by with_reducible repeat (first | exact Fr.refl _ _ | apply Fr.alloc | refine Fr.trans ?_ (hcFh.out _) | apply Fr.drew)) F1
         have k1 := cell_fr G1 cn
         have k2 := cell_fr G1 cv
         have k3 := there_fr0 G1 th
         dsimp only)
      | (try go_simp
         go_at_call 47
         refine (all3_t (D := D) (l1 := [0]) (l2 := L2) (l3 := L3) (by simp [hcS]) ?_ ?_ ?_ (Nat.le_refl _) hc1 (hcch.out _) (by omega) HD3.out).mono ?_
         · with_reducible repeat (first | exact byts_bs0 (by simp [hcS]) | apply byts_alloc | refine byts_fr0 (hcFh.out _) ?_ | apply byts_dr | refine byts_fr0 F1 ?_)
         · with_reducible repeat (first | exact hb1 | apply byts_alloc | refine byts_fr0 (hcFh.out _) ?_ | apply byts_dr | refine byts_fr0 F1 ?_)
         · with_reducible repeat (first | exact hcBh.out _ _ (by simp) | apply byts_alloc | refine byts_fr0 (hcFh.out _) ?_ | apply byts_dr | refine byts_fr0 F1 ?_)
         rintro e w'' ⟨rfl, F2⟩
         have G2 : Fr [] W w'' := Fr.trans (by with_reducible repeat (first | exact G1 | exact Fr.refl _ _ | apply Fr.alloc | refine Fr.trans ?_ (hcFh.out _) | apply Fr.drew)) F2
         have k4 := cell_fr G2 cn
         have k5 := cell_fr G2 cv
         have k6 := there_fr0 G2 th
         dsimp only))
  all_goals
    go_wp2
    have hfin := setCells_blk (D.map bv) 0 w'' _ (hB.fr G2 (by simp)) (by rw [hz, hl32]; decide)
    rw [laid_whole (by rw [hz, hl32]), show (D.map bv).toArray = digCells D from rfl] at hfin
    rw [hsha.out]
    exact bodyPost_ret (v := .agg (digCells D)) (results_cell_row rfl _ _ g 42 (digCells D) (0, 0) _ rfl hfin uDig rfl (infoDigA hlen)) rfl ⟨rfl, (fW.trans G2).andThen (setCells_fr _ _ _) (fun x hx => .inr (by have := HG.out; simp at hx; omega))⟩
end Go.Proofs.Ytlhkkffljjbdmaa
