/- Walks of the trie: the chapter's example. Conditions: each theorem's own. -/
import Derived.Test.YtlhkkffljjbdmaaTq
import Derived.Stop.BytesEq
namespace Go.Proofs.Ytlhkkffljjbdmaa
open Go.RowKit Go.Sig

theorem eql_dig (x y : List UInt8) (hx : x.length = 32) (hy : y.length = 32) (w : World) : (binOp .eql 42 (.agg (x.map bv).toArray) (.agg (y.map bv).toArray)).run Try.prog w = .ok (.bool (x == y)) w :=
  run_eql_bytes w 42 5 32 uDig (by kernel_rfl) (fun w => by kernel_rfl) x y hx hy
def nameA : ByteArray := ⟨#[97]⟩
def valOne : ByteArray := ⟨#[49]⟩
def pairA : Pr := (nameA, valOne)
theorem newA : newR [pairA] [] = (0, [pairA]) := by decide +kernel
theorem pathA : nib (pathOf nameA) 0 = 12 ∧ nib (pathOf nameA) 1 = 10 := by decide +kernel
theorem nodeA1 : nodeD [pairA] [12, 10] = sha [0, 0, 0, 0, 1, 97, 49] := by
  have hb : begins (pathOf nameA) 0 [12, 10] = true := by
    simp only [begins, pathA.1, pathA.2]
    decide
  have hu : underL [pairA] [12, 10] = [pairA] := by
    unfold underL
    rw [List.filter_cons, if_pos (show begins (pathOf pairA.1) 0 [12, 10] = true from hb)]
    rfl
  unfold nodeD
  rw [if_neg (by decide), hu, dig_one]
  rfl
theorem nodeA2 : nodeD [pairA] [3] = List.replicate 32 0 := by
  have hb : begins (pathOf nameA) 0 [3] = false := by
    simp only [begins, pathA.1]
    decide
  have hu : underL [pairA] [3] = [] := by
    unfold underL
    rw [List.filter_cons, if_neg (by rw [show begins (pathOf pairA.1) 0 [3] = false from hb]; simp)]
    rfl
  unfold nodeD
  rw [if_neg (by decide), hu, dig_nil]
theorem ints_new {w : World} {g : Nat} {t : TypeId} {ns : List Int} {cs : Array Value} (hc : cs = (intCells ns).toArray) (hg : g = w.heap.size) : Rd (w.alloc (.cells cs t)) 1 (some ⟨g, 0, none⟩) ns.length (intCells ns) := by
  subst hg hc
  refine ⟨by simp [intCells], fun _ => ⟨_, 0, rfl, fun j v hv => ?_⟩⟩
  rw [Nat.zero_add, (Blk.new w t _).cell]
  simpa using hv

set_option maxRecDepth 100000 in
set_option maxHeartbeats 4000000 in
theorem known_t (w : World) : Calls Try.prog 12 #[] w fun e w' => e = .returned (.bool true) ∧ Fr [] w w' := by
  go_enter Try.func12, Try.ntmps12
  go_wp2_with fail
  have hR : Rd (w.alloc (.cells #[.string nameA, .string valOne] 66)) 2 (some ⟨w.heap.size, 0, none⟩) 1 (pairCells [pairA]) := ⟨rfl, fun _ => ⟨_, 0, rfl, fun j v hv => by
    rw [Nat.zero_add, (Blk.new w 66 _).cell]
    simpa [pairCells, pairA] using hv⟩⟩
  have hnew := new_t (w.alloc (.cells #[.string nameA, .string valOne] 66)) [] (by simp) _ 1 1 [pairA] hR rfl (by decide) (by intro y hy; simp at hy; subst hy; decide)
  rw [newA] at hnew
  refine Calls.mono (show Calls Try.prog 10 _ _ _ from hnew) ?_
  rintro e W ⟨F0, hcase⟩
  rcases hcase with ⟨_, t, rfl, hwt, hT, hG⟩ | ⟨h, _⟩
  case inr => exact absurd rfl h
  have fW : Fr [] w W := ((Fr.refl [] w).alloc _).trans F0
  simp only at hT hG
  have hsm := hG.small
  have hTh := Lib.hid hT
  have hsmh := Lib.hid hsm
  clear hnew hR hT hG hsm F0
  go_wp2_with fail
  have hFA : Fr [] W (W.alloc (.cells #[.int .i64 12, .int .i64 10] 3)) := (Fr.refl _ _).alloc _
  have hn1 := node_t _ [t] t [pairA] (hTh.out.fr0 hFA) hsmh.out _ 2 2 [12, 10] (ints_new (w := W) rfl rfl) rfl (by decide)
  rw [nodeA1, show nodeE [12, 10] = 0 from rfl] at hn1
  refine hn1.mono ?_
  rintro e W1 ⟨rfl, F1⟩
  have f1 := (fW.trans hFA).trans F1
  have hT1 := Lib.hid ((hTh.out.fr0 hFA).fr0 F1)
  have hl1 := sha_length [0, 0, 0, 0, 1, 97, 49]
  obtain ⟨D1, HD1⟩ : ∃ z, Hid (sha [0, 0, 0, 0, 1, 97, 49] = z) := ⟨_, Lib.hid rfl⟩
  rw [HD1.out] at hl1 ⊢
  clear hn1 hFA F1
  go_upto_region 5 with (refine wpList_store_row rfl 42 _ _ rfl W1.heap.size (digCells D1) rfl rfl 42 _ (Blk.new W1 42 _) (infoDigA hl1) (by rw [digCells_size hl1]; rfl) (digCells_one D1) ?_)
  refine wp_gen (fun W2 => Blk W2 W1.heap.size 42 (digCells D1) ∧ Fr [] W1 W2) ⟨Blk.setRow (Blk.new W1 42 _) _, ((Fr.refl _ _).alloc _).setRow (.inr (Nat.le_refl _)) _⟩ ?_
  rintro W2 ⟨hB1, F2⟩
  have f2 := f1.trans F2
  have hT2 := Lib.hid (hT1.out.fr0 F2)
  obtain ⟨g3, HG3⟩ : ∃ x, Hid (W1.heap.size = x) := ⟨_, Lib.hid rfl⟩
  rw [HG3.out] at hB1 ⊢
  have hFA : Fr [] W2 (W2.alloc (.cells #[.int .i64 3] 3)) := (Fr.refl _ _).alloc _
  have hn2 := node_t _ [t] t [pairA] (hT2.out.fr0 hFA) hsmh.out _ 1 1 [3] (ints_new (w := W2) rfl rfl) rfl (by decide)
  rw [nodeA2, show nodeE [3] = 0 from rfl] at hn2
  clear F2 f1 hT1
  go_wp2_with fail
  refine hn2.mono ?_
  rintro e W3 ⟨rfl, F3⟩
  have hB13 := (hB1.fr hFA (by simp)).fr F3 (by simp)
  have f3 := (f2.trans hFA).trans F3
  have hl2 : (List.replicate 32 (0 : UInt8)).length = 32 := rfl
  obtain ⟨Z, HZ⟩ : ∃ z, Hid (List.replicate 32 (0 : UInt8) = z) := ⟨_, Lib.hid rfl⟩
  rw [HZ.out] at hl2 ⊢
  have hg3l := hB13.lt
  clear hn2 hFA F3 hB1 f2
  go_upto_region 6 with (refine wpList_store_row rfl 42 _ _ rfl W3.heap.size (digCells Z) rfl rfl 42 _ (Blk.new W3 42 _) (infoDigA hl2) (by rw [digCells_size hl2]; rfl) (digCells_one Z) ?_)
  refine wp_gen (fun W4 => Blk W4 W3.heap.size 42 (digCells Z) ∧ Fr [] W3 W4) ⟨Blk.setRow (Blk.new W3 42 _) _, ((Fr.refl _ _).alloc _).setRow (.inr (Nat.le_refl _)) _⟩ ?_
  rintro W4 ⟨hB2, F4⟩
  have hB14 := hB13.fr F4 (by simp)
  have f4 := f3.trans F4
  obtain ⟨g5, HG5⟩ : ∃ x, Hid (W3.heap.size = x) := ⟨_, Lib.hid rfl⟩
  rw [HG5.out] at hB2 ⊢
  have r1 := range_blk hB14
  have r2 := range_blk hB2
  have hu := uDig
  have hi1 := infoDigL hl1
  have hi2 := infoDigL hl2
  have heq1 := eql_dig D1 D1 hl1 hl1
  have heq2 := eql_dig Z Z hl2 hl2
  rw [beq_self_eq_true] at heq1 heq2
  have hbs : Byts (W4.drew.alloc (.cells #[.int .u8 0, .int .u8 0, .int .u8 0, .int .u8 0, .int .u8 1, .int .u8 97, .int .u8 49] 5)) (some ⟨W4.heap.size, 0, none⟩) 7 [0, 0, 0, 0, 1, 97, 49] := byts_new (Blk.new W4.drew 5 _) rfl rfl
  have hgl3 := hB14.lt
  have hgl5 := hB2.lt
  have hzz : Z.map bv = (List.replicate 32 (0 : UInt8)).map bv := by rw [← HZ.out]
  have hlit : (Z.map bv).toArray = #[.int .u8 0, .int .u8 0, .int .u8 0, .int .u8 0, .int .u8 0, .int .u8 0, .int .u8 0, .int .u8 0, .int .u8 0, .int .u8 0, .int .u8 0, .int .u8 0, .int .u8 0, .int .u8 0, .int .u8 0, .int .u8 0, .int .u8 0, .int .u8 0, .int .u8 0, .int .u8 0, .int .u8 0, .int .u8 0, .int .u8 0, .int .u8 0, .int .u8 0, .int .u8 0, .int .u8 0, .int .u8 0, .int .u8 0, .int .u8 0, .int .u8 0, .int .u8 0] := by rw [hzz]; rfl
  have heq3 : ∀ w, (binOp .eql 42 (.agg (Z.map bv).toArray) (.agg #[.int .u8 0, .int .u8 0, .int .u8 0, .int .u8 0, .int .u8 0, .int .u8 0, .int .u8 0, .int .u8 0, .int .u8 0, .int .u8 0, .int .u8 0, .int .u8 0, .int .u8 0, .int .u8 0, .int .u8 0, .int .u8 0, .int .u8 0, .int .u8 0, .int .u8 0, .int .u8 0, .int .u8 0, .int .u8 0, .int .u8 0, .int .u8 0, .int .u8 0, .int .u8 0, .int .u8 0, .int .u8 0, .int .u8 0, .int .u8 0, .int .u8 0, .int .u8 0])).run Try.prog w = .ok (.bool true) w := fun w => by
    rw [← hlit]
    exact heq2 w
  clear hB13 hB14 hB2 F4 f3 hlit heq2 hzz
  refine wp_region_held_drew (S := fun w' => w'.rangeAt g3 0 (D1.map bv) ∧ w'.rangeAt g5 0 (Z.map bv)) (by kernel_rfl) ⟨r1, r2⟩ ?_
  intro hHeld
  refine wpAnyH_take (i := 0) (v := ?_) rfl (by kernel_rfl) (by kernel_rfl) (by kernel_rfl) (fun _ _ _ h => h) (Or.inl ⟨by rfl, ?_⟩) hHeld ?_
  rotate_left
  · (intro w hSw; (try dsimp only at hSw); go_simp <;> with_reducible rfl)
  try simp only [Act.put, List.setIfInBounds_toArray]
  refine wpAnyH_take (i := 1) (v := ?_) rfl (by kernel_rfl) (by kernel_rfl) (by kernel_rfl) (fun _ _ _ h => h) (Or.inl ⟨by rfl, ?_⟩) hHeld ?_
  rotate_left
  · (intro w hSw; (try dsimp only at hSw); go_simp <;> with_reducible rfl)
  try simp only [Act.put]
  refine wpAnyH_take (i := 2) (v := ?_) rfl (by kernel_rfl) (by kernel_rfl) (by kernel_rfl) (fun _ _ _ h => h) (Or.inl ⟨by rfl, ?_⟩) hHeld ?_
  rotate_left
  · (intro w hSw; (try dsimp only at hSw); go_simp <;> with_reducible rfl)
  try simp only [Act.put]
  refine wpAnyH_take (i := 3) rfl (by kernel_rfl) (by kernel_rfl) (by kernel_rfl) (fun _ _ _ h => h) (yieldsIf_load_mid (by rfl) 42 _ rfl g3 0 rfl (D1.map bv) _ (fun w h => h.1) uDig rfl hi1) hHeld ?_
  try simp only [Act.put]
  refine wpAnyH_ready (rs := [4]) (by kernel_rfl) (by simp) ?_
  refine AllReadyH.cons rfl (fun K hK => ?_) AllReadyH.nil
  go_simp
  refine hK.out _ _ ⟨range_fr0 ((Fr.refl [] W4).drew.alloc _) r1, range_fr0 ((Fr.refl [] W4).drew.alloc _) r2⟩ (fun hHeld => ?_)
  clear hK K
  try simp only [Act.put, List.setIfInBounds_toArray, List.set_cons_zero, List.set_cons_succ]
  refine wpAnyH_ready (rs := [5]) (by kernel_rfl) (by simp) ?_
  refine AllReadyH.cons rfl (fun K hK => ?_) AllReadyH.nil
  go_simp
  go_wp2_with fail
  refine (sum1_t _ _ _ _ _ hbs (Nat.le_refl _) (by decide)).mono ?_
  rintro e W5 ⟨rfl, F5⟩
  have FF : Fr [] W4 W5 := ((Fr.refl [] W4).drew.alloc _).trans F5
  rw [HD1.out]
  unfold digCells
  dsimp only
  refine hK.out _ _ ⟨range_fr0 FF r1, range_fr0 FF r2⟩ (fun hHeld => ?_)
  clear hK K
  try simp only [Act.put, List.setIfInBounds_toArray, List.set_cons_zero, List.set_cons_succ]
  refine wpAnyH_take (i := 6) (v := ?_) rfl (by kernel_rfl) (by kernel_rfl) (by kernel_rfl) (fun _ _ _ h => h) (Or.inl ⟨by rfl, ?_⟩) hHeld ?_
  rotate_left
  · (intro w hSw; (try dsimp only at hSw); go_simp <;> with_reducible rfl)
  try simp only [Act.put, List.setIfInBounds_toArray]
  refine wpAnyH_take (i := 7) (v := ?_) rfl (by kernel_rfl) (by kernel_rfl) (by kernel_rfl) (fun _ _ _ h => h) (Or.inl ⟨by rfl, ?_⟩) hHeld ?_
  rotate_left
  · (intro w hSw; (try dsimp only at hSw); go_simp <;> with_reducible rfl)
  try simp only [Act.put]
  refine wpAnyH_take (i := 8) (v := ?_) rfl (by kernel_rfl) (by kernel_rfl) (by kernel_rfl) (fun _ _ _ h => h) (Or.inl ⟨by rfl, ?_⟩) hHeld ?_
  rotate_left
  · (intro w hSw; (try dsimp only at hSw); go_simp <;> with_reducible rfl)
  try simp only [Act.put]
  refine wpAnyH_take (i := 9) rfl (by kernel_rfl) (by kernel_rfl) (by kernel_rfl) (fun _ _ _ h => h) (yieldsIf_load_mid (by rfl) 42 _ rfl g5 0 rfl (Z.map bv) _ (fun w h => h.2) uDig rfl hi2) hHeld ?_
  try simp only [Act.put]
  refine wpAnyH_take (i := 10) (v := ?_) rfl (by kernel_rfl) (by kernel_rfl) (by kernel_rfl) (fun _ _ _ h => h) (Or.inl ⟨by rfl, ?_⟩) hHeld ?_
  rotate_left
  · (intro w hSw; (try dsimp only at hSw); go_simp <;> with_reducible rfl)
  try simp only [Act.put]
  refine wpAnyH_take (i := 11) (v := ?_) rfl (by kernel_rfl) (by kernel_rfl) (by kernel_rfl) (fun _ _ _ h => h) (Or.inl ⟨by rfl, ?_⟩) hHeld ?_
  rotate_left
  · (intro w hSw; (try dsimp only at hSw); go_simp <;> with_reducible rfl)
  try simp only [Act.put]
  refine wpAnyH_take (i := 12) (v := ?_) rfl (by kernel_rfl) (by kernel_rfl) (by kernel_rfl) (fun _ _ _ h => h) (Or.inl ⟨by rfl, ?_⟩) hHeld ?_
  rotate_left
  · (intro w hSw; (try dsimp only at hSw); go_simp <;> with_reducible rfl)
  try simp only [Act.put]
  refine wpAnyH_take (i := 13) (v := ?_) rfl (by kernel_rfl) (by kernel_rfl) (by kernel_rfl) (fun _ _ _ h => h) (Or.inl ⟨by rfl, ?_⟩) hHeld ?_
  rotate_left
  · (intro w hSw; (try dsimp only at hSw); go_simp <;> with_reducible rfl)
  try simp only [Act.put]
  simp only [List.getElem_toArray, List.getElem_cons_succ, List.getElem_cons_zero, List.setIfInBounds_toArray, List.set_cons_zero, List.set_cons_succ]
  refine wpAnyH_done (by kernel_rfl) ?_ _
  go_wp2
  go_ret
  exact ⟨rfl, f4.trans FF⟩
end Go.Proofs.Ytlhkkffljjbdmaa
