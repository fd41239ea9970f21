/- Walks of the trie: a node with a pair: a pair becomes a node of sixteen. Conditions: each theorem's own. -/
import Derived.Test.YtlhkkffljjbdmaaTh
namespace Go.Proofs.Ytlhkkffljjbdmaa
open Go.RowKit Go.Sig

theorem kid_one (f : Nat) (y : Pr) (i : Nat) : kid f [y] i = if nib (pathOf y.1) (63 - f) = i then [y] else [] := by
  unfold kid
  by_cases h : nib (pathOf y.1) (63 - f) = i <;> simp [h]

set_option maxRecDepth 100000 in
set_option maxHeartbeats 4000000 in
theorem with_split (x y : Pr) (hxy : y.1 ≠ x.1) (_hsx : x.1.size ≤ 100000 ∧ x.2.size ≤ 100000) (f : Nat) (hf64 : f < 64) (IH : WithOk x f) (w : World) (X : List Nat) (p : Value) (hN : NodeAt w X (f + 1) [y] p) (hs : Small [y]) (hX : ∀ g ∈ X, g < w.heap.size) :
   Calls Try.prog 35 #[p, xV x, .agg ((pathOf x.1).map bv).toArray, .int .i64 (64 - (f + 1 : Nat) : Int)] w fun e w' => ∃ p', e = .returned p' ∧ NodeAt w' X (f + 1) (put x [y]) p' ∧ Fr [] w w' := by
  have hr : Rising [y] := by simp [Rising]
  have hL := node_one.1 hN
  obtain ⟨gq, A, c, rfl, hgq, hBq, hR, hc, hA⟩ := hL
  obtain ⟨b, o, rfl, hcell⟩ := hR.2 (by simp)
  have hcn := hcell 0 (.string y.1) rfl
  rw [Nat.add_zero] at hcn
  have hbl : b < w.heap.size := block_lt_of_cell hcn
  have c32 := (hBq.cell 32).trans (nodeCells_at (sha_len _)).1
  have c33 := (hBq.cell 33).trans (nodeCells_at (sha_len _)).2.1
  have hql := hBq.lt
  unfold nilP at c33
  rw [show ([y] : List Pr).length = 1 from rfl] at c32
  have hplen : (pathOf x.1).length = 32 := rfl
  have hnlt := nib_lt (pathOf x.1) (63 - f)
  have holen : (pathOf y.1).length = 32 := rfl
  have hnlo := nib_lt (pathOf y.1) (63 - f)
  have hko := fun i => kid_one f y i
  obtain ⟨D, HD⟩ : ∃ z, Hid (pathOf x.1 = z) := ⟨_, Lib.hid rfl⟩
  obtain ⟨E, HE⟩ : ∃ z, Hid (pathOf y.1 = z) := ⟨_, Lib.hid rfl⟩
  have hdep : (64 - ((f + 1 : Nat) : Int)) = ((63 - f : Nat) : Int) := by omega
  rw [hdep]
  rw [HE.out] at holen hnlo hko
  rw [HD.out] at hplen hnlt ⊢
  obtain ⟨dp, HDP⟩ : ∃ z, Hid (63 - f = z) := ⟨_, Lib.hid rfl⟩
  have hdp : dp < 64 := by have := HDP.out; omega
  have hdpi : (dp : Int) < 64 := by omega
  rw [HDP.out] at hnlt hnlo hko ⊢
  have hkoh := Lib.hid hko
  have hd1 : (y.1.toList == x.1.toList) = false := by rw [toList_beq]; simpa using hxy
  have hys := (hs.1 y (by simp)).1
  clear hko hcell
  unfold xV
  go_enter Try.func35, Try.ntmps35
  go_upto_region 1 with (fail)
  refine wp_gen (fun W => Blk W w.heap.size 66 #[.string x.1, .string x.2] ∧ Blk W (w.heap.size + 1) 80 (digCells D) ∧ Fr [] w W) ⟨(Blk.new _ _ _).alloc _, Blk.new' _ _ (by simp), ((Fr.refl _ _).alloc _).alloc _⟩ ?_
  rintro W ⟨hBx, hBp, fW⟩
  obtain ⟨gx, HGX⟩ : ∃ z, Hid (w.heap.size = z) := ⟨_, Lib.hid rfl⟩
  rw [HGX.out] at hBx hBp hbl hql ⊢
  obtain ⟨gp, HGP⟩ : ∃ z, Hid (gx + 1 = z) := ⟨_, Lib.hid rfl⟩
  rw [HGP.out] at hBp ⊢
  have c32W := cell_fr fW c32
  have c33W := cell_fr fW c33
  have hcnW := cell_fr fW hcn
  have hx1 := hBx.cell 0
  have hx2 := hBx.cell 1
  simp only [List.getElem?_toArray, List.getElem?_cons_zero, List.getElem?_cons_succ] at hx1 hx2
  clear c32 c33 hcn
  go_upto_region 8 with (fail)
  go_quiet (fail)
  go_upto_region 9 with (fail)
  refine wp_gen (fun W1 => Fr [] W W1) ((Fr.refl _ _).drewN _) ?_
  rintro W1 FW1
  have f1 := fW.trans FW1
  have hBx1 := hBx.fr FW1 (by simp)
  have hBp1 := hBp.fr FW1 (by simp)
  have c32V := cell_fr FW1 c32W
  have hcnV := cell_fr FW1 hcnW
  obtain ⟨cW, cC, hcv, hcF, hcB, hcS, hcc⟩ := conv_any y.1
  have hcFh := Lib.hid (hcF W1)
  have hcBh := Lib.hid (hcB W1 W1.heap.size rfl)
  have hcch := Lib.hid (hcc W1)
  have hgpl1 := hBp1.lt
  clear hBx hBp c32W c33W hcnW hx1 hx2 FW1 fW hcF hcB hcc
  have hEq : sha y.1.data.toList = E := HE.out
  have hEqh := Lib.hid hEq
  clear hEq
  go_wp2_with fail
  refine (sum1_t (cW W1) _ _ _ _ hcBh.out hcch.out (by omega)).mono ?_
  rintro e W2 ⟨rfl, F2⟩
  rw [hEqh.out]
  have F12 := hcFh.out.trans F2
  have hBx2 := hBx1.fr F12 (by simp)
  have hBp2 := hBp1.fr F12 (by simp)
  have hgpl2 := hBp2.lt
  have hgW2 : w.heap.size ≤ W2.heap.size := (f1.trans F12).size
  clear hBx1 hBp1 hcFh hcBh hcch F2 c32V hcnV hcv hcS
  go_upto_region 10 with (refine wpList_store_row rfl 80 _ _ rfl W2.heap.size (digCells E) rfl rfl 80 _ (Blk.new W2 80 _) (by rw [digCells_size holen]; kernel_rfl) (by rw [digCells_size holen]; rfl) (digCells_one E) ?_)
  refine wp_gen (fun W3 => Blk W3 W2.heap.size 80 (digCells E) ∧ Fr [] W2 W3) ⟨Blk.setRow (Blk.new W2 80 _) _, ((Fr.refl _ _).alloc _).setRow (.inr (Nat.le_refl _)) _⟩ ?_
  rintro W3 ⟨hBe, F3⟩
  have hBx3 := hBx2.fr F3 (by simp)
  have hBp3 := hBp2.fr F3 (by simp)
  have f3 := (f1.trans F12).trans F3
  obtain ⟨ge, HGE⟩ : ∃ z, Hid (W2.heap.size = z) := ⟨_, Lib.hid rfl⟩
  rw [HGE.out] at hBe hgpl2 ⊢
  have hgel := hBe.lt
  clear hBx2 hBp2 F12 F3 f1
  go_upto_region 11 with (fail)
  refine wp_gen (fun W4 => Blk W4 W3.heap.size 109 (List.replicate 16 nilP).toArray ∧ Fr [] W3 W4) ⟨Blk.new _ _ _, (Fr.refl _ _).alloc _⟩ ?_
  rintro W4 ⟨hK4, F4⟩
  have hBx4 := hBx3.fr F4 (by simp)
  have hBp4 := hBp3.fr F4 (by simp)
  have hBe4 := hBe.fr F4 (by simp)
  have f4 := f3.trans F4
  have hgk0 : w.heap.size ≤ W3.heap.size := f3.size
  obtain ⟨gK, HGK⟩ : ∃ z, Hid (W3.heap.size = z) := ⟨_, Lib.hid rfl⟩
  rw [HGK.out] at hK4 hgel hgk0 ⊢
  have hgxp : gx < gp := by have := HGP.out; omega
  have hgpK : gp < gK := by omega
  clear hBx3 hBp3 hBe F4 f3
  -- the own number
  go_wp2_with (refine wpList_load_at rfl 80 _ rfl rfl hBe4 (digCells_sub E) uPath rfl (infoPathL holen) ?_)
  refine (at_t W4 E dp holen hdp).mono ?_
  rintro e W5 ⟨rfl, F5⟩
  have hK5 := hK4.fr F5 (by simp)
  have hBx5 := hBx4.fr F5 (by simp)
  have hBp5 := hBp4.fr F5 (by simp)
  have f5 := f4.trans F5
  obtain ⟨qo, HQO⟩ : ∃ z, Hid (nib E dp = z) := ⟨_, Lib.hid rfl⟩
  rw [HQO.out] at hnlo ⊢
  have hqo16 : (qo : Int) < 16 := by omega
  have hco : W5.cell? ⟨gK, qo, none⟩ = some nilP := by
    rw [hK5.cell, List.getElem?_toArray, List.getElem?_replicate, if_pos hnlo]
  have hzo := hK5.frozen qo
  have hgK5 := hK5.lt
  unfold nilP at hco
  clear hBx4 hBp4 hBe4 hK4 F5 f4
  go_upto_region 12 with (fail)
  refine wp_gen (fun W6 => Blk W6 gK 109 ((List.replicate 16 nilP).set qo (.pointer (some ⟨gq, 0, none⟩))).toArray ∧ Fr [gK] W5 W6) ⟨?_, (Fr.refl _ _).setCell (p := ⟨gK, qo, none⟩) (.inl (by simp)) _⟩ ?_
  · have := hK5.set qo (.pointer (some ⟨gq, 0, none⟩))
    rwa [List.setIfInBounds_toArray] at this
  rintro W6 ⟨hK6, F6⟩
  have hBx6 := hBx5.fr F6 (by simp; omega)
  have hBp6 := hBp5.fr F6 (by simp; omega)
  have f6 : Fr [] w W6 := f5.andThen F6 (fun z hz => .inr (by simp at hz; omega))
  clear hK5 hBx5 hBp5 hco hzo F6 f5
  obtain ⟨ps, HPS⟩ : ∃ z, Hid ((List.replicate 16 nilP).set qo (.pointer (some ⟨gq, 0, none⟩)) = z) := ⟨_, Lib.hid rfl⟩
  have hps : ps.length = 16 := by rw [← HPS.out]; simp
  rw [HPS.out] at hK6
  have hN6 : NodeAt w X f [y] (.pointer (some ⟨gq, 0, none⟩)) := node_one.2 (node_one.1 hN)
  have hgp6 := hBp6.lt
  go_upto_region 13 with (first
    | (refine wpList_load_at rfl 80 _ rfl rfl hBp6 (digCells_sub D) uPath rfl (infoPathL hplen) ?_)
    | (go_at_call 37; refine (at_t _ D dp hplen hdp).mono ?_; rintro e W2 ⟨rfl, F2⟩))
  refine wp_gen (fun W2 => Blk W2 gK 109 ps.toArray ∧ Blk W2 gx 66 #[.string x.1, .string x.2] ∧ Blk W2 gp 80 (digCells D) ∧ Fr [] W6 W2) ⟨hK6.fr F2 (by simp), hBx6.fr F2 (by simp), hBp6.fr F2 (by simp), F2⟩ ?_
  clear F2
  rintro W2 ⟨hK2, hBx2, hBp2, F2⟩
  have f2 := f6.trans F2
  have hx1 := hBx2.cell 0
  have hx2 := hBx2.cell 1
  simp only [List.getElem?_toArray, List.getElem?_cons_zero, List.getElem?_cons_succ] at hx1 hx2
  obtain ⟨q, HQ⟩ : ∃ z, Hid (nib D dp = z) := ⟨_, Lib.hid rfl⟩
  rw [HQ.out] at hnlt ⊢
  have hck : W2.cell? ⟨gK, q, none⟩ = some (ps.getD q undef) := by
    rw [hK2.cell, List.getElem?_toArray]
    exact getD_some (by omega)
  have hkids2 : ∀ i, i < 16 → NodeAt W2 (gK :: X) f (kid f [y] i) (ps.getD i undef) := fun i hi => by
    rw [hkoh.out i, HQO.out, ← HPS.out, setKid (by simpa using hnlo)]
    by_cases e : qo = i
    · rw [if_pos e, if_pos e]
      exact hN6.go ⟨f2, by simp, fun z hz => (List.mem_cons.1 hz).elim (fun e => .inr (by rw [e]; exact hgk0)) .inl⟩
    · rw [if_neg e, if_neg e, node_nil]
      rw [List.getD_eq_getElem?_getD, List.getElem?_replicate, if_pos hi]
      rfl
  have hNq := hkids2 q hnlt
  have hq16 : (q : Int) < 16 := by omega
  have IHD := IH W2.drew (gK :: X) (kid f [y] q) (ps.getD q undef) (hNq.fr0 (Fr.refl [] W2).drew) (kid_rising hr) (small_kid hs) (by have := kid_length_le f [y] q; simp at this; omega) (fun g hg => (List.mem_cons.1 hg).elim (fun e => by rw [e]; exact hK2.lt) (fun hg => Nat.lt_of_lt_of_le (hX g hg) f2.size))
  rw [HD.out, show (64 - (f : Int)) = (dp : Int) + 1 by have := HDP.out; omega] at IHD
  unfold xV at IHD
  obtain ⟨pq, HPQ⟩ : ∃ z, Hid (ps.getD q undef = z) := ⟨_, Lib.hid rfl⟩
  rw [HPQ.out] at hck hNq IHD
  have hxK : gx ≠ gK := by omega
  have hpK : gp ≠ gK := by omega
  have IHDh := Lib.hid IHD
  have hkids2h := Lib.hid hkids2
  have IHh := Lib.hid IH
  have hNqh := Lib.hid hNq
  clear IHD hkids2 IH hNq hN hN6 hK6 hBx6 hBp6
  refine wp_region_held_drew (S := fun w' => w'.cell? ⟨gx, 0, none⟩ = some (.string x.1) ∧ w'.cell? ⟨gx, 1, none⟩ = some (.string x.2) ∧ w'.rangeAt gp 0 (D.map bv)) (by kernel_rfl) ⟨hx1, hx2, range_blk hBp2⟩ ?_
  intro hHeld
  refine wpAnyH_take (i := 0) (v := ?_) rfl (by kernel_rfl) (by kernel_rfl) (by kernel_rfl) (fun _ _ _ h => h) (Or.inl ⟨by rfl, ?_⟩) hHeld ?_
  rotate_left
  · (intro w hSw; (try dsimp only at hSw); go_simp <;> with_reducible rfl)
  try simp only [Act.put, List.setIfInBounds_toArray]
  refine wpAnyH_take (i := 1) (v := ?_) rfl (by kernel_rfl) (by kernel_rfl) (by kernel_rfl) (fun _ _ _ h => h) (Or.inl ⟨by rfl, ?_⟩) hHeld ?_
  rotate_left
  · (intro w hSw; (try dsimp only at hSw); go_simp <;> with_reducible rfl)
  try simp only [Act.put]
  refine wpAnyH_take (i := 2) (v := ?_) rfl (by kernel_rfl) (by kernel_rfl) (by kernel_rfl) (fun _ _ _ h => h) (Or.inl ⟨by rfl, ?_⟩) hHeld ?_
  rotate_left
  · (intro w hSw; (try dsimp only at hSw); go_simp <;> with_reducible rfl)
  try simp only [Act.put]
  refine wpAnyH_take (i := 4) (v := ?_) rfl (by kernel_rfl) (by kernel_rfl) (by kernel_rfl) (fun _ _ _ h => h) (Or.inl ⟨by rfl, ?_⟩) hHeld ?_
  rotate_left
  · (intro w hSw; (try dsimp only at hSw); go_simp <;> with_reducible rfl)
  try simp only [Act.put]
  refine wpAnyH_take (i := 5) rfl (by kernel_rfl) (by kernel_rfl) (by kernel_rfl) (fun _ _ _ h => h) (yieldsIf_load_mid (by rfl) 80 _ rfl gp 0 rfl (D.map bv) _ (fun w h => h.2.2) uPath rfl (infoPathL hplen)) hHeld ?_
  try simp only [Act.put]
  refine wpAnyH_take (i := 6) (v := ?_) rfl (by kernel_rfl) (by kernel_rfl) (by kernel_rfl) (fun _ _ _ h => h) (Or.inl ⟨by rfl, ?_⟩) hHeld ?_
  rotate_left
  · (intro w hSw; (try dsimp only at hSw); go_simp <;> with_reducible rfl)
  try simp only [Act.put]
  refine wpAnyH_take (i := 7) (v := ?_) rfl (by kernel_rfl) (by kernel_rfl) (by kernel_rfl) (fun _ _ _ h => h) (Or.inl ⟨by rfl, ?_⟩) hHeld ?_
  rotate_left
  · (intro w hSw; (try dsimp only at hSw); go_simp <;> with_reducible rfl)
  try simp only [Act.put]
  refine wpAnyH_ready (rs := [3]) (by kernel_rfl) (by simp) ?_
  refine AllReadyH.cons rfl (fun K hK => ?_) AllReadyH.nil
  go_simp
  refine hK.out _ _ hHeld (fun hHeld => ?_)
  clear hK K
  try simp only [Act.put, List.setIfInBounds_toArray, List.set_cons_zero, List.set_cons_succ]
  refine wpAnyH_ready (rs := [8]) (by kernel_rfl) (by simp) ?_
  refine AllReadyH.cons rfl (fun K hK => ?_) AllReadyH.nil
  go_simp
  go_wp2_with fail
  rw [show IntKind.i64.wrap ((dp : Int) + 1) = (dp : Int) + 1 by rw [IntKind.wrap_i64]; omega]
  refine IHDh.out.mono ?_
  rintro e W3 ⟨p3, rfl, hN3, F3⟩
  have F3' : Fr [] W2 W3 := F3.of_drew
  have hK3 := hK2.fr F3' (by simp)
  have hck3 : W3.cell? ⟨gK, q, none⟩ = some pq := cell_fr F3' hck
  have hz3 := hK3.frozen q
  have hgK3 := hK3.lt
  obtain ⟨A3, rfl⟩ := node_ptr hN3
  dsimp only
  refine hK.out _ _ ⟨cell_fr F3' hx1, cell_fr F3' hx2, range_fr0 F3' (range_blk hBp2)⟩ (fun hHeld => ?_)
  clear hK K IHDh
  try simp only [Act.put, List.setIfInBounds_toArray, List.set_cons_zero, List.set_cons_succ]
  refine wpAnyH_take (i := 9) (v := ?_) rfl (by kernel_rfl) (by kernel_rfl) (by kernel_rfl) (fun _ _ _ h => h) (Or.inl ⟨by rfl, ?_⟩) hHeld ?_
  rotate_left
  · (intro w hSw; (try dsimp only at hSw); go_simp <;> with_reducible rfl)
  try simp only [Act.put, List.setIfInBounds_toArray]
  refine wpAnyH_ready (rs := [10]) (by kernel_rfl) (by simp) ?_
  refine AllReadyH.cons rfl (fun K hK => ?_) AllReadyH.nil
  go_simp
  refine hK.out _ _ ⟨cell_st hxK (cell_fr F3' hx1), cell_st hxK (cell_fr F3' hx2), range_st hpK (range_fr0 F3' (range_blk hBp2))⟩ (fun hHeld => ?_)
  clear hK K
  refine wpAnyH_done (by kernel_rfl) ?_ _
  clear hx1 hx2 hBx2 hBp2 hHeld
  go_upto_region 14 with (fail)
  refine wp_gen (fun W4 => Blk W4 gK 109 (ps.set q (.pointer A3)).toArray ∧ Fr [gK] W3 W4) ⟨?_, (Fr.refl _ _).setCell (p := ⟨gK, q, none⟩) (.inl (by simp)) _⟩ ?_
  · have := hK3.set q (.pointer A3)
    rwa [List.setIfInBounds_toArray] at this
  rintro W4 ⟨hK4, F4⟩
  have f4 : Fr [] w W4 := (f2.trans F3').andThen F4 (fun z hz => .inr (by simp at hz; omega))
  have hps4 : (ps.set q (.pointer A3)).length = 16 := by rw [List.length_set, hps]
  have hk4 : ∀ i, i < 16 → NodeAt W4 (gK :: X) f (kid f (put x [y]) i) ((ps.set q (.pointer A3)).getD i undef) := by
    have hq : q = nib (pathOf x.1) (63 - f) := by rw [HD.out, HDP.out, HQ.out]
    have hgo : ∀ {lz : List Pr} {z : Value}, NodeAt W3 (gK :: X) f lz z → NodeAt W4 (gK :: X) f lz z := fun h => h.fr F4 (fun s hs => .inl (by simp at hs; simp [hs]))
    rw [hq] at hN3 ⊢
    exact kids_put hps hr (fun i hi => hgo ((hkids2h.out i hi).fr0 F3')) (hgo hN3)
  have hpl : (put x [y]).length ≤ 10000 := by have := put_length_le x [y]; simp at this; omega
  have hbr := branch_t W4 (gK :: X) f (put x [y]) (ps.set q (.pointer A3)) hps4 hk4 (fun g hg => (List.mem_cons.1 hg).elim (fun e => by rw [e]; exact hK4.lt) (fun hg => Nat.lt_of_lt_of_le (hX g hg) f4.size)) hpl
  have h16 : (Try.prog.info? 109).map (·.size) = some (ps.set q (.pointer A3)).toArray.toList.length := by rw [Array.length_toList, List.size_toArray, hps4]; kernel_rfl
  clear hkids2h hk4 hN3 hNqh
  go_wp2_with (first | (refine wpList_load_at rfl 109 _ rfl rfl hK4 (sub_self _) tKidsU rfl h16 ?_; rw [Array.toArray_toList]) | (go_at_call 56; refine hbr.mono ?_; rintro e W5 ⟨p5, rfl, hN5, F5⟩))
  go_ret
  exact ⟨_, rfl, hN5.go ⟨Fr.refl [] _, by simp, fun y hy => .inl (List.mem_cons_of_mem _ hy)⟩, f4.trans F5⟩

theorem with_t (x : Pr) (hsx : x.1.size ≤ 100000 ∧ x.2.size ≤ 100000) : ∀ f, f ≤ 64 → WithOk x f
  | 0, _ => fun w X l p hN hr hs hl hX => by
    match l, hN with
    | [], hN =>
      rw [node_nil.1 hN]
      exact with_nil x hsx 0 w X _ hX
    | [y], hN => exact with_leaf x hsx 0 (by omega) w X [y] p _ (node_one.1 hN) rfl (by simp) (.inr rfl) hr hs hl hX
    | y :: z :: l, hN => exact with_leaf x hsx 0 (by omega) w X _ p _ ((node_leaf (by simp)).1 hN) rfl (by simp) (.inr rfl) hr hs hl hX
  | f + 1, hf => fun w X l p hN hr hs hl hX => by
    have IH := with_t x hsx f (by omega)
    match l, hN with
    | [], hN =>
      rw [node_nil.1 hN]
      exact with_nil x hsx (f + 1) w X _ hX
    | [y], hN =>
      by_cases e : y.1 = x.1
      · exact with_leaf x hsx (f + 1) hf w X [y] p _ (node_one.1 hN) rfl (by simp) (.inl ⟨y, rfl, e⟩) hr hs hl hX
      · exact with_split x y e hsx f (by omega) IH w X p hN hs hX
    | y :: z :: l, hN => exact with_branch x f (by omega) IH w X _ p hN (by simp) hr hs hl hX
end Go.Proofs.Ytlhkkffljjbdmaa
