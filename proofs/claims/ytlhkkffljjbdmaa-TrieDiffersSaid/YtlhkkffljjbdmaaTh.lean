/- Walks of the trie: a node with a pair, the other cases. Conditions: each theorem's own. -/
import Derived.Test.YtlhkkffljjbdmaaTg
namespace Go.Proofs.Ytlhkkffljjbdmaa
open Go.RowKit Go.Sig

set_option maxRecDepth 100000 in
set_option maxHeartbeats 1000000 in
theorem with_nil (x : Pr) (hsx : x.1.size ≤ 100000 ∧ x.2.size ≤ 100000) (f : Nat) (w : World) (X : List Nat) (d : Int) (hX : ∀ g ∈ X, g < w.heap.size) :
   Calls Try.prog 35 #[nilP, xV x, .agg ((pathOf x.1).map bv).toArray, .int .i64 d] w fun e w' => ∃ p', e = .returned p' ∧ NodeAt w' X f (put x []) p' ∧ Fr [] w w' := by
  obtain ⟨D, HD⟩ : ∃ z, Hid (pathOf x.1 = z) := ⟨_, Lib.hid rfl⟩
  rw [HD.out]
  unfold xV nilP
  go_enter Try.func35, Try.ntmps35
  go_upto_region 1 with (fail)
  refine wp_gen (fun W => Blk W w.heap.size 66 #[.string x.1, .string x.2] ∧ Fr [] w W) ⟨(Blk.new _ _ _).alloc _, ((Fr.refl _ _).alloc _).alloc _⟩ ?_
  rintro W ⟨hBx, fW⟩
  have hx1 := hBx.cell 0
  have hx2 := hBx.cell 1
  simp only [List.getElem?_toArray, List.getElem?_cons_zero, List.getElem?_cons_succ] at hx1 hx2
  have hR : Rd (W.alloc (.cells #[.string x.1, .string x.2] 66)) 2 (some ⟨W.heap.size, 0, none⟩) 1 (pairCells [x]) := ⟨rfl, fun _ => ⟨_, 0, rfl, fun j v hv => by
    rw [Nat.zero_add, (Blk.new W 66 _).cell]
    simpa [pairCells] using hv⟩⟩
  have FA : Fr [] W (W.alloc (.cells #[.string x.1, .string x.2] 66)) := (Fr.refl _ _).alloc _
  have hl := laid1_t _ X _ 1 x hR (Nat.le_refl _) (fun g hg => Nat.lt_of_lt_of_le (hX g hg) (Nat.le_trans fW.size FA.size)) (by
    intro ad e hx
    cases e
    exact absurd (hX W.heap.size hx) (by have := fW.size; omega)) ⟨fun y hy => by simp at hy; rw [hy]; exact hsx, by simp⟩
  go_wp2_with (go_at_call 55; refine hl.mono ?_; rintro e W2 ⟨p2, rfl, hL, F2⟩)
  go_ret
  refine ⟨_, rfl, ?_, fW.trans (FA.trans F2)⟩
  show NodeAt W2 X f [x] p2
  rw [node_one]
  exact hL

theorem sorted_rising {l : List Pr} (h : Sorted l) (hn : (l.map (·.1)).Nodup) : Rising l := by
  rw [List.nodup_iff_pairwise_ne, List.pairwise_map] at hn
  refine List.Pairwise.imp₂ (fun a b h1 h2 => ?_) h hn
  exact (bl_total h2).resolve_right (by rw [h1]; simp)
theorem sorted_put {x : Pr} {l l' : List Pr} (hr : Rising l) (hp : l'.Perm (del x.1 l ++ [x])) (hs : Sorted l') : l' = put x l := by
  have h1 : l'.Perm (put x l) := hp.trans (put_perm hr).symm
  exact rising_ext (sorted_rising hs ((h1.map (·.1)).nodup_iff.2 (rising_nodup (put_rising hr)))) (put_rising hr) h1
theorem own_cap {w : World} {e size n c : Nat} {A : Option Addr} {xs : List Value} (h : Own w e size (.slice A n c) n xs) : n ≤ c := by
  rcases h.2 with ⟨hv, h0⟩ | ⟨g, cap, cur, hv, _, _, h1, _⟩
  · omega
  · injection hv with _ _ h3
    rw [h3]
    exact h1
theorem laid_t (w : World) (X : List Nat) (f : Nat) (A : Option Addr) (n c : Nat) (l : List Pr) (hR : Rd w 2 A n (pairCells l)) (hn : l.length = n) (hf : 2 ≤ n → f = 0) (hc : n ≤ c) (hX : ∀ x ∈ X, x < w.heap.size) (hA : 0 < n → Off X A) (hs : Small l) :
   Calls Try.prog 55 #[.slice A n c] w fun e w' => ∃ p, e = .returned p ∧ NodeAt w' X f l p ∧ Fr [] w w' := by
  match l, hn, hR, hs with
  | [], hn, hR, hs =>
    simp at hn
    subst hn
    exact (laid0_t w A c).mono fun e w' ⟨he, hF⟩ => ⟨_, he, node_nil.2 rfl, hF⟩
  | [y], hn, hR, hs =>
    simp at hn
    subst hn
    exact (laid1_t w X A c y hR hc hX (hA (by decide)) hs).mono fun e w' ⟨p, he, hL, hF⟩ => ⟨p, he, node_one.2 hL, hF⟩
  | y :: z :: l, hn, hR, hs =>
    have h2 : 2 ≤ n := by rw [← hn]; simp
    obtain rfl := hf h2
    exact (laidN_t w X A n c _ hR hn h2 hc hX (hA (by omega)) hs).mono fun e w' ⟨p, he, hL, hF⟩ => ⟨p, he, (node_leaf (by simp)).2 hL, hF⟩

set_option maxRecDepth 100000 in
set_option maxHeartbeats 4000000 in
theorem with_leaf (x : Pr) (hsx : x.1.size ≤ 100000 ∧ x.2.size ≤ 100000) (f : Nat) (hf64 : f ≤ 64) (w : World) (X : List Nat) (l : List Pr) (p : Value) (D0 : List UInt8) (hL : LeafAt w X D0 l p) (hD0 : D0.length = 32) (h0 : l ≠ []) (hcase : (∃ y, l = [y] ∧ y.1 = x.1) ∨ f = 0) (hr : Rising l) (hs : Small l) (hl : l.length + 1 ≤ 10000) (hX : ∀ g ∈ X, g < w.heap.size) :
   Calls Try.prog 35 #[p, xV x, .agg ((pathOf x.1).map bv).toArray, .int .i64 (64 - f : Int)] w fun e w' => ∃ p', e = .returned p' ∧ NodeAt w' X f (put x l) p' ∧ Fr [] w w' := by
  obtain ⟨g, A, c, rfl, hg, hB, hR, hc, hA⟩ := hL
  have hn0 : 0 < l.length := List.length_pos_iff.2 h0
  obtain ⟨n, hn⟩ : ∃ n, l.length = n := ⟨_, rfl⟩
  rw [hn] at hB hR hc hA hn0 hl
  obtain ⟨b, o, rfl, hcell⟩ := hR.2 hn0
  have c32 := (hB.cell 32).trans (nodeCells_at hD0).1
  have c33 := (hB.cell 33).trans (nodeCells_at hD0).2.1
  have hgl := hB.lt
  unfold nilP at c33
  obtain ⟨D, HD⟩ : ∃ z, Hid (pathOf x.1 = z) := ⟨_, Lib.hid rfl⟩
  have hdep : (64 - (f : Int)) = ((64 - f : Nat) : Int) := by omega
  rw [hdep, HD.out]
  obtain ⟨dp, HDP⟩ : ∃ z, Hid (64 - f = z) := ⟨_, Lib.hid rfl⟩
  rw [HDP.out]
  obtain ⟨y, hy0⟩ : ∃ y, l[0]? = some y := ⟨l[0], List.getElem?_eq_getElem (by omega)⟩
  have hcn := hcell 0 (.string y.1) (by
    cases l with
    | nil => simp at hy0
    | cons a l => simp at hy0; rw [hy0]; rfl)
  rw [Nat.add_zero] at hcn
  have hbl : b < w.heap.size := block_lt_of_cell hcn
  -- what the test says
  have htest : ((n : Int) == 1) = false ∨ (((n : Int) == 1) = true ∧ (y.1.toList == x.1.toList) = true) ∨ (((n : Int) == 1) = true ∧ (y.1.toList == x.1.toList) = false ∧ decide ((dp : Int) < 64) = false) := by
    cases h1 : ((n : Int) == 1) with
    | false => exact .inl rfl
    | true =>
      right
      cases h2 : (y.1.toList == x.1.toList) with
      | true => exact .inl ⟨rfl, rfl⟩
      | false =>
        refine .inr ⟨rfl, rfl, ?_⟩
        rcases hcase with ⟨z, hz, hzx⟩ | hz
        · rw [hz] at hy0
          simp at hy0
          rw [← hy0, hzx] at h2
          simp at h2
        · have := HDP.out
          simp
          omega
  unfold xV
  go_enter Try.func35, Try.ntmps35
  go_upto_region 1 with (fail)
  refine wp_gen (fun W => Blk W w.heap.size 66 #[.string x.1, .string x.2] ∧ Fr [] w W) ⟨(Blk.new _ _ _).alloc _, ((Fr.refl _ _).alloc _).alloc _⟩ ?_
  rintro W ⟨hBx, fW⟩
  have hx1 := hBx.cell 0
  have hx2 := hBx.cell 1
  simp only [List.getElem?_toArray, List.getElem?_cons_zero, List.getElem?_cons_succ] at hx1 hx2
  have c32W := cell_fr fW c32
  have c33W := cell_fr fW c33
  have hcnW := cell_fr fW hcn
  have hRW := Rd.fr hR fW (by simp [Off])
  obtain ⟨gx, HGX⟩ : ∃ z, Hid (w.heap.size = z) := ⟨_, Lib.hid rfl⟩
  rw [HGX.out] at hx1 hx2 hBx hgl hbl ⊢
  have hcaseh := Lib.hid hcase
  clear c32 c33 hcn hcell hR hcase
  have hbp : (0 : Int) < n := by omega
  rcases htest with h1 | ⟨h1, h2⟩ | ⟨h1, h2, h3⟩
  all_goals
    go_upto_region 8 with (fail)
    go_quiet (fail)
    go_upto_region 15 with (fail)
  all_goals
    refine wp_gen (fun W1 => Fr [] W W1) ((Fr.refl _ _).drewN _) ?_
    rintro W1 FW1
    have f1 := fW.trans FW1
    have hBx1 := hBx.fr FW1 (by simp)
    have hR1 := Rd.fr hRW FW1 (by simp [Off])
    have c32V := cell_fr FW1 c32W
    have hgxl := hBx1.lt
    have hX1 : ∀ z ∈ X, z < gx := fun z hz => by rw [← HGX.out]; exact hX z hz
    clear hBx hRW c32W c33W hcnW hx1 hx2 FW1 fW
    have hclone := clone_t W1 ⟨b, o, none⟩ n c (pairCells l) hR1 (pairCells_one l) (by omega)
    go_wp2_with fail
    refine hclone.mono ?_
    rintro e W2 ⟨v2, rfl, hO2, F2, hrow2⟩
    have hBx2 := hBx1.fr F2 (by simp)
    have hxc : W2.cell? ⟨gx, 0, none⟩ = some (.string x.1) := by rw [hBx2.cell]; rfl
    have eg : ∀ args w, (callFunc 59 args).run Try.prog w = .ok (.enter 59 args) w := enters_of Try.func59 (by kernel_rfl) rfl
    have hdel := delf_t W2 59 gx x.1 (with1_p gx x.1) eg hxc v2 n l hO2 hn (by omega) (fun hm => by have := hrow2 gx hm; omega)
    clear hclone hR1 hBx1 eg hxc c32V
    go_wp2_with fail
    refine hdel.mono ?_
    rintro e W3 ⟨v3, rfl, hO3, hrow3, F3⟩
    have hgx2 : gx ∉ rowOf v2 := fun hm => by have := hrow2 gx hm; omega
    have hBx3 := hBx2.fr F3 hgx2
    have hy1 := hBx3.cell 0
    have hy2 := hBx3.cell 1
    simp only [List.getElem?_toArray, List.getElem?_cons_zero, List.getElem?_cons_succ] at hy1 hy2
    obtain ⟨m, hm⟩ : ∃ m, Hid ((del x.1 l).length = m) := ⟨_, Lib.hid rfl⟩
    have hml : m ≤ n := by rw [← hm.out, ← hn]; exact List.length_filter_le _ _
    rw [hm.out] at hO3
    have F23 : Fr (rowOf v2) W1 W3 := F2.nil.trans F3
    clear hdel hBx2 hO2 F2 F3
    go_upto_region 16 with (fail)
    have hFA : Fr [] W3 (W3.alloc (.cells #[.string x.1, .string x.2] 66)) := (Fr.refl _ _).alloc _
    have hRx : Rd (W3.alloc (.cells #[.string x.1, .string x.2] 66)) 2 (some ⟨W3.heap.size, 0, none⟩) 1 (pairCells [x]) := ⟨rfl, fun _ => ⟨_, 0, rfl, fun j u hu => by
      rw [Nat.zero_add, (Blk.new W3 66 _).cell]
      simpa [pairCells] using hu⟩⟩
    have hO3a := hO3.fr hFA (by simp)
    go_upto_region 17 with (refine wpList_own_append tPairs hO3a hRx (pairCells_one [x]) (by simp) (by unfold maxLen; omega) (by omega) rfl rfl rfl rfl (fun v4 W4 hO4 F4 hrow4 => ?_))
    rw [← pairCells_append] at hO4
    have hsort := sort_t W4 v4 (m + 1) (del x.1 l ++ [x]) hO4 (by rw [List.length_append, hm.out]; rfl) (by omega) (by omega)
    have F14 : Fr (rowOf v2) W1 W4 := (F23.trans hFA.nil).andThen F4 (fun z hz => .inl (by rw [hrow3] at hz; exact hz))
    have hW13 := F23.size
    have hW3A : W3.heap.size ≤ (W3.alloc (.cells #[.string x.1, .string x.2] 66)).heap.size := hFA.size
    have hr4 : ∀ z ∈ rowOf v4, W1.heap.size ≤ z := fun z hz => by
      rcases hrow4 z hz with h | h
      · rw [hrow3] at h
        exact hrow2 z h
      · omega
    clear hO3 hO3a hRx hFA hy1 hy2 hBx3 F23 F4 hO4 hrow4
    go_wp2_with fail
    refine hsort.mono ?_
    rintro e W5 ⟨rfl, l', hperm, hsrt, hO5, F5⟩
    have hl' := sorted_put hr hperm hsrt
    subst hl'
    obtain ⟨A5, c5, rfl, hA5⟩ := hO5.form
    have hlen5 := hO5.length
    rw [pairCells_length] at hlen5
    have F15 : Fr [] W1 W5 := (F14.andThen (T := rowOf (.slice A5 (m + 1) c5)) F5 (fun z hz => .inr (hr4 z hz))).mono' (fun z hz => .inr (hrow2 z hz))
    have hsm : Small (put x l) := ⟨fun z hz => (mem_put hz).elim (fun e => by rw [e]; exact hsx) (hs.1 z), by have := put_length_le x l; omega⟩
    have hlaid := laid_t W5 X f A5 (m + 1) c5 (put x l) hO5.rd (by omega) (fun h2 => by
      rcases hcaseh.out with ⟨z, hz, hzx⟩ | hz
      · exfalso
        have : (put x l).length = 1 := by rw [hz]; simp [put, hzx]
        omega
      · exact hz) (own_cap hO5) (fun z hz => by have := hX1 z hz; have := F15.size; omega) (fun _ ad e hz => by
      have h1 := hr4 ad.block (by simp [rowOf, Value.ownBlock, e])
      have h2 := hX1 _ hz
      omega) hsm
    clear hsort hO5 F14 F5
    go_wp2_with (go_at_call 55; refine hlaid.mono ?_; rintro e W6 ⟨p6, rfl, hN6, F6⟩)
    go_ret
    exact ⟨_, rfl, hN6, f1.trans (F15.trans F6)⟩
end Go.Proofs.Ytlhkkffljjbdmaa
