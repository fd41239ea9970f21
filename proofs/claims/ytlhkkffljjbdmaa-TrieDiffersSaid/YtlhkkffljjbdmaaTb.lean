/- Walks of the trie: a node of pairs. Conditions: each theorem's own. -/
import Derived.Test.YtlhkkffljjbdmaaTa
import Derived.Deep.MidRow
import Derived.Laws.IdiomStrings
import Derived.Deep.RegionHeldLaw
namespace Go.Proofs.Ytlhkkffljjbdmaa
open Go.RowKit Go.Sig

theorem byts_alloc {w : World} {A : Option Addr} {n : Nat} {l : List UInt8} {o : Obj} (h : Byts w A n l) : Byts (w.alloc o) A n l := Rd.fr h ((Fr.refl [] w).alloc o) (by simp [Off])
theorem byts_fr0 {w w' : World} {A : Option Addr} {n : Nat} {l : List UInt8} (hf : Fr [] w w') (h : Byts w A n l) : Byts w' A n l := Rd.fr h hf (by simp [Off])
theorem pairCells_length (l : List Pr) : (pairCells l).length = l.length * 2 := by
  induction l with
  | nil => rfl
  | cons y l ih => simp [pairCells] at ih ⊢; omega
theorem pairCells_at : ∀ {l : List Pr} {i : Nat} (h : i < l.length), (pairCells l)[i * 2]? = some (.string l[i].1) ∧ (pairCells l)[i * 2 + 1]? = some (.string l[i].2)
  | y :: l, 0, h => ⟨rfl, rfl⟩
  | y :: l, i + 1, h => by
    have := pairCells_at (l := l) (i := i) (by simpa using h)
    rw [show (i + 1) * 2 = i * 2 + 2 by omega]
    exact this
theorem pairCells_append (l m : List Pr) : pairCells (l ++ m) = pairCells l ++ pairCells m := List.flatMap_append
theorem pairCells_one (l : List Pr) : ∀ u ∈ pairCells l, u.oneCell' = true := by
  intro u hu
  obtain ⟨y, _, hy⟩ := List.mem_flatMap.1 hu
  simp at hy
  rcases hy with rfl | rfl <;> rfl
/-- The texts are no longer than the program lets them be. -/
def Small (l : List Pr) : Prop := (∀ y ∈ l, y.1.size ≤ 100000 ∧ y.2.size ≤ 100000) ∧ l.length ≤ 10000
theorem szd_length (s : ByteArray) : (szd s).length = 4 + s.size := by
  unfold szd
  rw [List.length_append, Array.length_toList]
  rfl
def zeroDig : List UInt8 := List.replicate 32 0
theorem zeroNode (A : Option Addr) (n c : Nat) : (nodeCells zeroDig (.slice A n c) nilP n) = nodeCells zeroDig (.slice A n c) nilP n := rfl
/-- A node's digest is laid into it. -/
theorem laid_dig {D E : List UInt8} (hD : D.length = 32) (hE : E.length = 32) (s k : Value) (n : Nat) : laid (nodeCells D s k n) 0 (digCells E).toList = nodeCells E s k n := by
  unfold laid nodeCells digCells
  have e : (E.map bv).length = 32 := by rw [List.length_map, hE]
  have e2 : (D.map bv).length = 32 := by rw [List.length_map, hD]
  simp only [List.take_zero, List.nil_append, Nat.zero_add]
  rw [e, List.drop_append_of_le_length (by omega), List.drop_of_length_le (by omega)]
  simp
theorem digCells_one' (l : List UInt8) : ∀ v ∈ (digCells l).toList, v.oneCell' = true := by
  simp only [digCells]
  exact bv_one l

theorem cell_al {w : World} {a : Addr} {v : Value} {o : Obj} (h : w.cell? a = some v) : (w.alloc o).cell? a = some v := ((Fr.refl [] w).alloc o).cell (block_lt_of_cell h) (by simp) |>.trans h
theorem cell_dr {w : World} {a : Addr} {v : Value} (h : w.cell? a = some v) : w.drew.cell? a = some v := h
theorem cell_fr {w w' : World} {a : Addr} {v : Value} (hf : Fr [] w w') (h : w.cell? a = some v) : w'.cell? a = some v := (hf.cell (block_lt_of_cell h) (by simp)).trans h

theorem there_fr {S : List Nat} {w w' : World} {g n : Nat} (hf : Fr S w w') (hg : g ∉ S) (h : w.there g 0 n) : w'.there g 0 n := by
  intro j hj
  have h1 := h j hj
  obtain ⟨v, hv⟩ := Option.isSome_iff_exists.1 h1.1
  have hb := block_lt_of_cell hv
  have e := hf.block g hb hg
  refine ⟨?_, ?_⟩
  · rw [hf.cell hb hg]; exact h1.1
  · have := h1.2
    simp only [World.frozen?] at this ⊢
    rw [e]
    exact this
theorem there_fr0 {w w' : World} {g n : Nat} (hf : Fr [] w w') (h : w.there g 0 n) : w'.there g 0 n := there_fr hf (by simp) h
theorem there_al {w : World} {g n : Nat} {o : Obj} (h : w.there g 0 n) : (w.alloc o).there g 0 n := there_fr0 ((Fr.refl [] w).alloc o) h
theorem there_dr {w : World} {g n : Nat} (h : w.there g 0 n) : w.drew.there g 0 n := h
theorem there_blk {w : World} {g n : Nat} {t : TypeId} {cs : Array Value} (h : Blk w g t cs) (hn : n ≤ cs.size) : w.there g 0 n := fun j hj => ⟨by rw [h.cell, Nat.zero_add, Array.getElem?_eq_getElem (by omega)]; rfl, h.frozen _⟩
theorem setCells_blk {g : Nat} {t : TypeId} : ∀ (vs : List Value) (o : Nat) (w : World) (cs : Array Value), Blk w g t cs → o + vs.length ≤ cs.size → Blk (w.setCells g o vs) g t (laid cs o vs)
  | [], o, w, cs, h, _ => by
    have e : laid cs o [] = cs := by simp [laid]
    rw [e]
    exact h
  | v :: vs, o, w, cs, h, hl => by
    simp only [List.length_cons] at hl
    have := setCells_blk vs (o + 1) (w.setCell ⟨g, o, none⟩ v) (cs.setIfInBounds o v) (h.set o v) (by simp; omega)
    have e : laid (cs.setIfInBounds o v) (o + 1) vs = laid cs o (v :: vs) := by
      apply Array.ext_getElem?
      intro k
      rw [laid_get (by simp; omega), laid_get (by simp; omega)]
      simp only [List.length_cons, Array.getElem?_setIfInBounds]
      by_cases hk : k = o
      · subst hk
        rw [if_neg (by omega), if_pos rfl, if_pos (by omega), if_pos (by omega), Nat.sub_self]
        rfl
      · by_cases hk2 : o ≤ k ∧ k < o + (vs.length + 1)
        · rw [if_pos (by omega), if_pos hk2, show k - o = (k - (o + 1)) + 1 by omega]
          rfl
        · rw [if_neg (by omega), if_neg hk2, if_neg (by omega)]
    rw [e] at this
    exact this
theorem setCells_fr {g : Nat} : ∀ (vs : List Value) (o : Nat) (w : World), Fr [g] w (w.setCells g o vs)
  | [], o, w => Fr.refl _ _
  | v :: vs, o, w => ((Fr.refl [g] w).setCell (p := ⟨g, o, none⟩) (by simp) v).trans (setCells_fr vs (o + 1) _)

/-- The world behind '[]byte(s)', and how many cells it has made. -/
def convC (s : ByteArray) (w : World) : Nat := grownCap w s.size 0 5
def convW (s : ByteArray) (w : World) : World := w.drew.alloc (.cells (bytesRow s (convC s w)) 5 ((bytesRow s (convC s w)).size, (bytesRow s (convC s w)).size + 1))
theorem conv_run (s : ByteArray) (w : World) : (convert 9 27 (.string s)).run Try.prog w = .ok (.slice (some ⟨w.heap.size, 0, none⟩) s.size (convC s w)) (convW s w) :=
  run_bytes_of_string w 9 27 5 s tStr tBytes (by kernel_rfl)
theorem convC_ge (s : ByteArray) (w : World) : s.size ≤ convC s w := grownCap_ge _ _ _ _
@[simp] theorem convW_size (s : ByteArray) (w : World) : (convW s w).heap.size = w.heap.size + 1 := by simp [convW]
theorem convW_fr (s : ByteArray) (w : World) : Fr [] w (convW s w) := ((Fr.refl [] w).drew).alloc _
theorem cell_cv {w : World} {a : Addr} {v : Value} {s : ByteArray} (h : w.cell? a = some v) : (convW s w).cell? a = some v := cell_fr (convW_fr s w) h
theorem there_cv {w : World} {g n : Nat} {s : ByteArray} (h : w.there g 0 n) : (convW s w).there g 0 n := there_fr0 (convW_fr s w) h
theorem byts_cv {w : World} {A : Option Addr} {n : Nat} {l : List UInt8} {s : ByteArray} (h : Byts w A n l) : Byts (convW s w) A n l := byts_fr0 (convW_fr s w) h
theorem byts_dr {w : World} {A : Option Addr} {n : Nat} {l : List UInt8} (h : Byts w A n l) : Byts w.drew A n l := h
theorem byts_cvn {s : ByteArray} {w : World} {g : Nat} (hg : g = w.heap.size) : Byts (convW s w) (some ⟨g, 0, none⟩) s.size s.data.toList := by
  subst hg
  have hds : s.data.toList.length = s.size := by rw [Array.length_toList]; rfl
  refine ⟨by rw [List.length_map, hds, Nat.mul_one], fun _ => ⟨w.heap.size, 0, rfl, fun j v hv => ?_⟩⟩
  have hj : j < s.data.size := by
    have := (List.getElem?_eq_some_iff.1 hv).1
    simpa using this
  have e : (convW s w).heap[w.heap.size]? = some (.cells (bytesRow s (convC s w)) 5 ((bytesRow s (convC s w)).size, (bytesRow s (convC s w)).size + 1)) := heap_alloc_new w.drew _
  rw [Nat.zero_add]
  have e2 := cell_of_row (convW s w) w.heap.size j _ _ _ e
  rw [e2, bytesRow_at s _ j hj, ← hv, List.getElem?_map, Array.getElem?_toList, Array.getElem?_eq_getElem hj]
  rfl
theorem byts_bs {w : World} {g : Nat} {b : UInt8} {t : TypeId} (hg : g = w.heap.size) : Byts (w.alloc (.cells #[.int .u8 (b.toNat : Int)] t)) (some ⟨g, 0, none⟩) 1 [b] := by
  subst hg
  exact byts_new (Blk.new _ _ _) rfl rfl
theorem byts_bs0 {w : World} {g : Nat} {t : TypeId} (hg : g = w.heap.size) : Byts (w.alloc (.cells #[.int .u8 0] t)) (some ⟨g, 0, none⟩) 1 [0] := byts_bs (b := 0) hg
theorem cell_sc {w : World} {b o : Nat} {v : Value} {g p : Nat} {vs : List Value} (hne : b ≠ g) (h : w.cell? ⟨b, o, none⟩ = some v) : (w.setCells g p vs).cell? ⟨b, o, none⟩ = some v := ((setCells_fr vs p w).cell (block_lt_of_cell h) (by simpa using hne)).trans h
theorem parts3 {w : World} {g : Nat} {t : TypeId} {a b c : Value} (hg : g = w.heap.size) : Rd (w.alloc (.cells #[a, b, c] t)) 1 (some ⟨g, 0, none⟩) 3 [a, b, c] := by
  subst hg
  refine ⟨rfl, fun _ => ⟨_, 0, rfl, fun j v hv => ?_⟩⟩
  rw [Nat.zero_add, (Blk.new w t #[a, b, c]).cell]
  simpa using hv

theorem all3_t {w : World} {g n1 c1 n2 c2 n3 c3 : Nat} {A1 A2 A3 : Option Addr} {l1 l2 l3 D : List UInt8} {t : TypeId} (hg : g = w.heap.size) (h1 : Byts w A1 n1 l1) (h2 : Byts w A2 n2 l2) (h3 : Byts w A3 n3 l3)
    (k1 : n1 ≤ c1) (k2 : n2 ≤ c2) (k3 : n3 ≤ c3) (hmax : n1 + n2 + n3 ≤ 1000000000) (hD : sha (l1 ++ l2 ++ l3) = D) :
    Calls Try.prog 47 #[.slice (some ⟨g, 0, none⟩) 3 3] (w.alloc (.cells #[.slice A1 n1 c1, .slice A2 n2 c2, .slice A3 n3 c3] t)) fun e w' => e = .returned (.agg (D.map bv).toArray) ∧ Fr [] (w.alloc (.cells #[.slice A1 n1 c1, .slice A2 n2 c2, .slice A3 n3 c3] t)) w' := by
  have e : List.flatMap (fun (x : Part) => x.2) [((A1, n1, c1), l1), ((A2, n2, c2), l2), ((A3, n3, c3), l3)] = l1 ++ l2 ++ l3 := by simp
  have q1 := Byts.length h1
  have q2 := Byts.length h2
  have q3 := Byts.length h3
  have := all_t (w.alloc (.cells #[.slice A1 n1 c1, .slice A2 n2 c2, .slice A3 n3 c3] t)) (some ⟨g, 0, none⟩) 3 3 [((A1, n1, c1), l1), ((A2, n2, c2), l2), ((A3, n3, c3), l3)] (by decide) (parts3 hg) (fun p hp => by
    simp only [List.mem_cons, List.not_mem_nil, or_false] at hp
    rcases hp with rfl | rfl | rfl
    · exact ⟨byts_alloc h1, k1⟩
    · exact ⟨byts_alloc h2, k2⟩
    · exact ⟨byts_alloc h3, k3⟩) (by rw [e]; simp only [List.length_append]; omega)
  rw [e, hD] at this
  exact this
/-- What '[]byte(s)' does, with no look inside. -/
theorem conv_any (s : ByteArray) : ∃ (cW : World → World) (cC : World → Nat), (∀ w, (convert 9 27 (.string s)).run Try.prog w = .ok (.slice (some ⟨w.heap.size, 0, none⟩) s.size (cC w)) (cW w)) ∧ (∀ w, Fr [] w (cW w)) ∧
    (∀ w g, g = w.heap.size → Byts (cW w) (some ⟨g, 0, none⟩) s.size s.data.toList) ∧ (∀ w, (cW w).heap.size = w.heap.size + 1) ∧ (∀ w, s.size ≤ cC w) :=
  ⟨convW s, convC s, conv_run s, convW_fr s, fun _ _ h => byts_cvn h, convW_size s, convC_ge s⟩

set_option maxRecDepth 100000 in
set_option maxHeartbeats 1000000 in
theorem laid1_t (w : World) (X : List Nat) (A : Option Addr) (c : Nat) (y : Pr) (hR : Rd w 2 A 1 (pairCells [y])) (hc : 1 ≤ c) (hX : ∀ x ∈ X, x < w.heap.size) (hA : Off X A) (hs : Small [y]) :
   Calls Try.prog 55 #[.slice A 1 c] w fun e w' => ∃ p, e = .returned p ∧ LeafAt w' X (leaf1 y) [y] p ∧ Fr [] w w' := by
  obtain ⟨b, o, rfl, hcell⟩ := hR.2 (by decide)
  have hname := hcell 0 (.string y.1) rfl
  have hval := hcell 1 (.string y.2) rfl
  have hbl : b < w.heap.size := block_lt_of_cell hname
  have hs1 := (hs.1 y (by simp)).1
  have hs2 := (hs.1 y (by simp)).2
  go_enter Try.func55, Try.ntmps55
  go_upto_region 4 with (fail)
  refine wp_gen (fun W => Blk W w.heap.size 84 (nodeCells zeroDig (.slice (some ⟨b, o, none⟩) 1 c) nilP 1) ∧ Fr [] w W) ⟨Blk.new _ _ _, (Fr.refl _ _).alloc _⟩ ?_
  rintro W ⟨hB, fW⟩
  have hRW := Rd.fr hR fW (by simp [Off])
  have cn : W.cell? ⟨b, o, none⟩ = some (.string y.1) := (fW.cell (p := ⟨b, o, none⟩) hbl (by simp)).trans hname
  have cv : W.cell? ⟨b, o + 1, none⟩ = some (.string y.2) := (fW.cell (p := ⟨b, o + 1, none⟩) hbl (by simp)).trans hval
  obtain ⟨g, HG⟩ : ∃ x, Hid (w.heap.size = x) := ⟨_, Lib.hid rfl⟩
  rw [HG.out] at hB hbl ⊢
  clear hname hval hcell
  have hgl := hB.lt
  go_upto_region 5 with (fail)
  have th : W.there g 0 32 := there_blk hB (by rw [nodeCells_size rfl]; decide)
  obtain ⟨cW, cC, hcv, hcF, hcB, hcS, hcc⟩ := conv_any y.2
  have hu := uDig
  have hlen := sha_length ([0] ++ szd y.1 ++ y.2.data.toList)
  have hsha := Lib.hid (show leaf1 y = sha ([0] ++ szd y.1 ++ y.2.data.toList) from rfl)
  have hsz := fun W' => sized_t W' y.1 (by omega)
  obtain ⟨D, HDD⟩ : ∃ x, Hid (sha ([0] ++ szd y.1 ++ y.2.data.toList) = x) := ⟨_, Lib.hid rfl⟩
  rw [HDD.out] at hlen hsha
  obtain ⟨L2, HL2⟩ : ∃ x, Hid (szd y.1 = x) := ⟨_, Lib.hid rfl⟩
  obtain ⟨L3, HL3⟩ : ∃ x, Hid (y.2.data.toList = x) := ⟨_, Lib.hid rfl⟩
  obtain ⟨N1, HN1⟩ : ∃ x, Hid (4 + y.1.size = x) := ⟨_, Lib.hid rfl⟩
  have hN1 : N1 ≤ 200000 := by have := HN1.out; omega
  rw [HL2.out, HN1.out] at hsz
  rw [HL3.out] at hcB
  have HD2 := HDD.out
  rw [HL2.out, HL3.out] at HD2
  have HD3 := Lib.hid HD2
  have hszh := Lib.hid hsz
  have hcBh := Lib.hid hcB
  have hcFh := Lib.hid hcF
  have hcch := Lib.hid hcc
  clear HD2 HDD hsz hcB hcF hcc
  have hbg : b ≠ g := by omega
  have hi := infoDigL hlen
  have h1 := bv_one D
  have hl32 : (D.map bv).length = 32 := by rw [List.length_map, hlen]
  go_region_held_law (fun w' => w'.cell? ⟨b, o, none⟩ = some (.string y.1) ∧ w'.cell? ⟨b, o + 1, none⟩ = some (.string y.2) ∧ w'.there g 0 32) ((refine ⟨?_, ?_, ?_⟩ <;> with_reducible (repeat (first | exact cn | exact cv | exact th | refine cell_sc hbg ?_ | refine World.there_setCells ?_ _ _ _ | exact k1 | exact k2 | exact k3 | exact k4 | exact k5 | exact k6 | apply cell_al | apply cell_dr | refine cell_fr (hcFh.out _) ?_ | apply there_al | apply there_dr | refine there_fr0 (hcFh.out _) ?_))))
    (first
      | (try go_simp
         go_at_call 75; refine (hszh.out _).mono ?_; rintro e w' ⟨A1, c1, rfl, hb1, hc1, hA1, F1⟩
         have G1 : Fr [] W w' := Fr.trans (by with_reducible repeat (first | exact Fr.refl _ _ | apply Fr.alloc | refine Fr.trans ?_ (hcFh.out _) | apply Fr.drew)) F1
         have k1 := cell_fr G1 cn
         have k2 := cell_fr G1 cv
         have k3 := there_fr0 G1 th
         dsimp only)
      | (try go_simp
         go_at_call 47
         refine (all3_t (D := D) (l1 := [0]) (l2 := L2) (l3 := L3) (by simp [hcS]) ?_ ?_ ?_ (Nat.le_refl _) hc1 (hcch.out _) (by omega) HD3.out).mono ?_
         · with_reducible repeat (first | exact byts_bs0 (by simp [hcS]) | apply byts_alloc | refine byts_fr0 (hcFh.out _) ?_ | apply byts_dr | refine byts_fr0 F1 ?_)
         · with_reducible repeat (first | exact hb1 | apply byts_alloc | refine byts_fr0 (hcFh.out _) ?_ | apply byts_dr | refine byts_fr0 F1 ?_)
         · with_reducible repeat (first | exact hcBh.out _ _ (by simp) | apply byts_alloc | refine byts_fr0 (hcFh.out _) ?_ | apply byts_dr | refine byts_fr0 F1 ?_)
         rintro e w'' ⟨rfl, F2⟩
         have G2 : Fr [] W w'' := Fr.trans (by with_reducible repeat (first | exact G1 | exact Fr.refl _ _ | apply Fr.alloc | refine Fr.trans ?_ (hcFh.out _) | apply Fr.drew)) F2
         have k4 := cell_fr G2 cn
         have k5 := cell_fr G2 cv
         have k6 := there_fr0 G2 th
         dsimp only))
  all_goals
    go_wp2
    go_ret
    refine ⟨_, rfl, ⟨g, some ⟨b, o, none⟩, c, rfl, fun hx => by have := hX g hx; have := HG.out; omega, ?_, Rd.fr hRW (G2.nil.trans (setCells_fr _ _ _)) (fun _ ad e => by cases e; simpa using hbg), hc, fun _ => hA⟩, (fW.trans G2).andThen (setCells_fr _ _ _) (fun x hx => .inr (by have := HG.out; simp at hx; omega))⟩
    have hfin := setCells_blk (D.map bv) 0 w'' _ (hB.fr G2 (by simp)) (by rw [nodeCells_size rfl, hl32]; decide)
    have hl := laid_dig (D := zeroDig) (E := D) rfl hlen (.slice (some ⟨b, o, none⟩) 1 c) nilP 1
    rw [show (digCells D).toList = D.map bv from rfl] at hl
    rw [hl] at hfin
    rw [hsha.out]
    exact hfin
end Go.Proofs.Ytlhkkffljjbdmaa
