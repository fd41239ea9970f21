/- Walks of the trie: a node with a pair. Conditions: each theorem's own. -/
import Derived.Test.YtlhkkffljjbdmaaTd
import Derived.Test.YtlhkkffljjbdmaaTf
namespace Go.Proofs.Ytlhkkffljjbdmaa
open Go.RowKit Go.Sig

theorem still_load_row {P : Program} {ops : Array Oper} {w : World} {Q : Act → Prop} {rest : List Oper} {o : Oper} {a : Act} (hw : Region.wanted o (yielded ops a.tmps) = true) (ty : TypeId) (x : Operand) (ho : o.op = .load ty x) {g off : Nat} (hx : a.eval x = .pointer (some ⟨g, off, none⟩)) {t : TypeId} {cs : Array Value} {ys : List Value} {d : TypeDesc} (hg : Blk w g t cs) (hs : Sub cs off ys)
    (hu : P.underlying ty = some d) (hd : (match d with | .struct _ | .array _ _ => true | _ => false) = true) (hi : (P.info? ty).map (·.size) = some ys.length)
    (h : wpStill P ops w Q rest (a.put o.dst (.agg ys.toArray))) : wpStill P ops w Q (o :: rest) a := by
  refine wpStill_step fun K hK => ?_
  rw [if_pos hw]
  unfold Oper.still
  have e : (execOp a.eval o).run P w = .ok (.value (.agg ys.toArray)) w := by
    unfold execOp
    simp only [ho, hx, Instr.loadAt, Instr.sureAddr, Sem.run_bind, Sem.run_pure, Result.andThen_ok, hg.run_load hs hu hd hi]
  rw [e, Oper.stillUpon_value]
  exact hK _ h
def xV (x : Pr) : Value := .agg #[.string x.1, .string x.2]
/-- What with does, at the depth 64 - f. -/
def WithOk (x : Pr) (f : Nat) : Prop := ∀ (w : World) (X : List Nat) (l : List Pr) (p : Value), NodeAt w X f l p → Rising l → Small l → l.length + 1 ≤ 10000 → (∀ g ∈ X, g < w.heap.size) →
   Calls Try.prog 35 #[p, xV x, .agg ((pathOf x.1).map bv).toArray, .int .i64 (64 - f : Int)] w fun e w' => ∃ p', e = .returned p' ∧ NodeAt w' X f (put x l) p' ∧ Fr [] w w'
theorem uPath : Try.prog.underlying 80 = some (.array 32 5) := by kernel_rfl
theorem infoPathL {l : List UInt8} (h : l.length = 32) : (Try.prog.info? 80).map (·.size) = some (l.map bv).length := by rw [List.length_map, h]; kernel_rfl
theorem infoKidsA {ps : List Value} (h : ps.length = 16) : (Try.prog.info? 109).map (·.size) = some ps.toArray.size := by rw [List.size_toArray, h]; kernel_rfl
theorem node_form {w : World} {X : List Nat} {f : Nat} {l : List Pr} {p : Value} (hN : NodeAt w X f l p) : p.oneCell' = true := by
  rcases node_many hN with ⟨_, rfl⟩ | ⟨_, g, _, _, _, rfl, _⟩ <;> rfl
theorem node_ptr {w : World} {X : List Nat} {f : Nat} {l : List Pr} {p : Value} (hN : NodeAt w X f l p) : ∃ A, p = .pointer A := by
  rcases node_many hN with ⟨_, rfl⟩ | ⟨_, g, _, _, _, rfl, _⟩
  · exact ⟨none, rfl⟩
  · exact ⟨_, rfl⟩
theorem getD_some {ps : List Value} {i : Nat} (h : i < ps.length) : ps[i]? = some (ps.getD i undef) := by
  rw [List.getElem?_eq_getElem h]
  simp [List.getD, List.getElem?_eq_getElem h]
theorem setKid {ps : List Value} {i j : Nat} {v : Value} (hi : i < ps.length) : (ps.set i v).getD j undef = if i = j then v else ps.getD j undef := by
  simp only [List.getD, List.getElem?_set]
  by_cases e : i = j
  · subst e
    simp [hi]
  · simp [e]
/-- Sixteen kids with one of them turned. -/
theorem kids_put {w : World} {X : List Nat} {f : Nat} {x : Pr} {l : List Pr} {ps : List Value} {v : Value} (hps : ps.length = 16) (hr : Rising l) (hk : ∀ i, i < 16 → NodeAt w X f (kid f l i) (ps.getD i undef))
    (hv : NodeAt w X f (put x (kid f l (nib (pathOf x.1) (63 - f)))) v) : ∀ i, i < 16 → NodeAt w X f (kid f (put x l) i) ((ps.set (nib (pathOf x.1) (63 - f)) v).getD i undef) := fun i hi => by
  rw [setKid (by rw [hps]; exact nib_lt _ _), kid_put hr]
  by_cases e : nib (pathOf x.1) (63 - f) = i
  · rw [if_pos e, if_pos e, ← e]
    exact hv
  · rw [if_neg e, if_neg e]
    exact hk i hi
theorem small_kid {f k : Nat} {l : List Pr} (h : Small l) : Small (kid f l k) := ⟨fun y hy => h.1 y (List.mem_filter.1 hy).1, Nat.le_trans (kid_length_le f l k) h.2⟩
theorem range_blk {w : World} {g : Nat} {t : TypeId} {l : List UInt8} (h : Blk w g t (digCells l)) : w.rangeAt g 0 (l.map bv) := fun j v hv => by
  rw [h.cell, Nat.zero_add]
  simpa [digCells] using hv
theorem cell_st {w : World} {b o : Nat} {v : Value} {g p : Nat} {u : Value} (hne : b ≠ g) (h : w.cell? ⟨b, o, none⟩ = some v) : (w.setCell ⟨g, p, none⟩ u).cell? ⟨b, o, none⟩ = some v := (((Fr.refl [g] w).setCell (p := ⟨g, p, none⟩) (by simp) u).cell (block_lt_of_cell h) (by simpa using hne)).trans h
theorem range_st {w : World} {b : Nat} {cs : List Value} {g p : Nat} {u : Value} (hne : b ≠ g) (h : w.rangeAt b 0 cs) : (w.setCell ⟨g, p, none⟩ u).rangeAt b 0 cs := fun j v hv => cell_st hne (h j v hv)
theorem range_fr0 {w w' : World} {g : Nat} {cs : List Value} (hf : Fr [] w w') (h : w.rangeAt g 0 cs) : w'.rangeAt g 0 cs := fun j v hv => cell_fr hf (h j v hv)

set_option maxRecDepth 100000 in
set_option maxHeartbeats 4000000 in
theorem with_branch (x : Pr) (f : Nat) (hf64 : f < 64) (IH : WithOk x f) (w : World) (X : List Nat) (l : List Pr) (p : Value) (hN : NodeAt w X (f + 1) l p) (h2 : 2 ≤ l.length) (hr : Rising l) (hs : Small l) (hl : l.length + 1 ≤ 10000) (hX : ∀ g ∈ X, g < w.heap.size) :
   Calls Try.prog 35 #[p, xV x, .agg ((pathOf x.1).map bv).toArray, .int .i64 (64 - (f + 1 : Nat) : Int)] w fun e w' => ∃ p', e = .returned p' ∧ NodeAt w' X (f + 1) (put x l) p' ∧ Fr [] w w' := by
  obtain ⟨ps, ⟨gq, kq, rfl, hgq, hkq, hBq, hKq, hps⟩, hkids⟩ := (node_branch h2).1 hN
  have hplen : (pathOf x.1).length = 32 := rfl
  have hnlt := nib_lt (pathOf x.1) (63 - f)
  obtain ⟨D, HD⟩ : ∃ z, Hid (pathOf x.1 = z) := ⟨_, Lib.hid rfl⟩
  have hdep : (64 - ((f + 1 : Nat) : Int)) = ((63 - f : Nat) : Int) := by omega
  rw [hdep]
  rw [HD.out] at hplen hnlt ⊢
  obtain ⟨dp, HDP⟩ : ∃ z, Hid (63 - f = z) := ⟨_, Lib.hid rfl⟩
  have hdp : dp < 64 := by have := HDP.out; omega
  rw [HDP.out] at hnlt ⊢
  have c33 := (hBq.cell 33).trans (nodeCells_at (dig_length _ _)).2.1
  have hql := hBq.lt
  have hkl := hKq.lt
  unfold xV
  go_enter Try.func35, Try.ntmps35
  go_upto_region 1 with (fail)
  refine wp_gen (fun W => Blk W w.heap.size 66 #[.string x.1, .string x.2] ∧ Blk W (w.heap.size + 1) 80 (digCells D) ∧ Fr [] w W) ⟨(Blk.new _ _ _).alloc _, Blk.new' _ _ (by simp), ((Fr.refl _ _).alloc _).alloc _⟩ ?_
  rintro W ⟨hBx, hBp, fW⟩
  obtain ⟨gx, HGX⟩ : ∃ z, Hid (w.heap.size = z) := ⟨_, Lib.hid rfl⟩
  rw [HGX.out] at hBx hBp ⊢
  obtain ⟨gp, HGP⟩ : ∃ z, Hid (gx + 1 = z) := ⟨_, Lib.hid rfl⟩
  rw [HGP.out] at hBp ⊢
  have c33W := cell_fr fW c33
  have hKqW := hKq.fr fW (by simp)
  clear c33
  have hone : ∀ v ∈ ps, v.oneCell' = true := by
    intro v hv
    obtain ⟨i, hi, rfl⟩ := List.mem_iff_getElem.1 hv
    have := node_form (hkids i (by omega))
    simpa [List.getD, List.getElem?_eq_getElem hi] using this
  have hone2 : ps.toArray.all (·.oneCell') = true := by
    rw [List.all_toArray, List.all_eq_true]
    exact hone
  go_upto_region 5 with (first
    | (refine wpList_load_at rfl 109 _ rfl rfl hKqW (sub_self _) tKidsU rfl (infoKids hps) ?_)
    | (refine wpList_store_row rfl 109 _ _ rfl W.heap.size ps.toArray rfl rfl 109 _ (Blk.new W 109 _) (infoKidsA hps) (by simp [hps]) hone2 ?_))
  refine wp_gen (fun W1 => Blk W1 W.heap.size 109 ps.toArray ∧ Blk W1 gx 66 #[.string x.1, .string x.2] ∧ Blk W1 gp 80 (digCells D) ∧ Fr [] W W1) ⟨Blk.setRow (Blk.new W 109 _) _, (hBx.alloc _).farRow (by have := hBx.lt; omega) _, (hBp.alloc _).farRow (by have := hBp.lt; omega) _, ((Fr.refl _ _).alloc _).setRow (.inr (Nat.le_refl _)) _⟩ ?_
  rintro W1 ⟨hK1, hBx1, hBp1, F1⟩
  have f1 := fW.trans F1
  have hgk0 : w.heap.size ≤ W.heap.size := fW.size
  obtain ⟨gK, HGK⟩ : ∃ z, Hid (W.heap.size = z) := ⟨_, Lib.hid rfl⟩
  rw [HGK.out] at hK1 hgk0 ⊢
  have hgpK : gp < gK := by have := hBp.lt; have := HGK.out; omega
  have hgxp : gx < gp := by have := HGP.out; omega
  clear hBx hBp fW F1 hKqW c33W
  go_upto_region 6 with (first
    | (refine wpList_load_at rfl 80 _ rfl rfl hBp1 (digCells_sub D) uPath rfl (infoPathL hplen) ?_)
    | (go_at_call 37; refine (at_t _ D dp hplen hdp).mono ?_; rintro e W2 ⟨rfl, F2⟩))
  refine wp_gen (fun W2 => Blk W2 gK 109 ps.toArray ∧ Blk W2 gx 66 #[.string x.1, .string x.2] ∧ Blk W2 gp 80 (digCells D) ∧ Fr [] W1 W2) ⟨hK1.fr F2 (by simp), hBx1.fr F2 (by simp), hBp1.fr F2 (by simp), F2⟩ ?_
  clear F2
  rintro W2 ⟨hK2, hBx2, hBp2, F2⟩
  have f2 := f1.trans F2
  have hx1 := hBx2.cell 0
  have hx2 := hBx2.cell 1
  simp only [List.getElem?_toArray, List.getElem?_cons_zero, List.getElem?_cons_succ] at hx1 hx2
  obtain ⟨q, HQ⟩ : ∃ z, Hid (nib D dp = z) := ⟨_, Lib.hid rfl⟩
  rw [HQ.out] at hnlt ⊢
  have hck : W2.cell? ⟨gK, q, none⟩ = some (ps.getD q undef) := by
    rw [hK2.cell, List.getElem?_toArray]
    exact getD_some (by omega)
  have hkids2 : ∀ i, i < 16 → NodeAt W2 (gK :: X) f (kid f l i) (ps.getD i undef) := fun i hi => (hkids i hi).go ⟨f2, by simp, fun y hy => (List.mem_cons.1 hy).elim (fun e => .inr (by rw [e]; exact hgk0)) .inl⟩
  have hNq := hkids2 q hnlt
  have hq16 : (q : Int) < 16 := by omega
  have hform := node_form hNq
  have IHD := IH W2.drew (gK :: X) (kid f l q) (ps.getD q undef) (hNq.fr0 (Fr.refl [] W2).drew) (kid_rising hr) (small_kid hs) (by have := kid_length_le f l q; omega) (fun g hg => (List.mem_cons.1 hg).elim (fun e => by rw [e]; exact hK2.lt) (fun hg => Nat.lt_of_lt_of_le (hX g hg) f2.size))
  rw [HD.out, show (64 - (f : Int)) = (dp : Int) + 1 by have := HDP.out; omega] at IHD
  unfold xV at IHD
  obtain ⟨pq, HPQ⟩ : ∃ z, Hid (ps.getD q undef = z) := ⟨_, Lib.hid rfl⟩
  rw [HPQ.out] at hck hNq IHD
  have hxK : gx ≠ gK := by omega
  have hpK : gp ≠ gK := by omega
  have IHDh := Lib.hid IHD
  have hkids2h := Lib.hid hkids2
  have hkidsh := Lib.hid hkids
  have IHh := Lib.hid IH
  have hNqh := Lib.hid hNq
  clear IHD hkids2 hkids IH hNq
  refine wp_region_held_drew (S := fun w' => w'.cell? ⟨gx, 0, none⟩ = some (.string x.1) ∧ w'.cell? ⟨gx, 1, none⟩ = some (.string x.2) ∧ w'.rangeAt gp 0 (D.map bv)) (by kernel_rfl) ⟨hx1, hx2, range_blk hBp2⟩ ?_
  intro hHeld
  refine wpAnyH_take (i := 0) (v := ?_) rfl (by kernel_rfl) (by kernel_rfl) (by kernel_rfl) (fun _ _ _ h => h) (Or.inl ⟨by rfl, ?_⟩) hHeld ?_
  rotate_left
  · (intro w hSw; (try dsimp only at hSw); go_simp <;> with_reducible rfl)
  try simp only [Act.put, List.setIfInBounds_toArray]
  refine wpAnyH_take (i := 1) (v := ?_) rfl (by kernel_rfl) (by kernel_rfl) (by kernel_rfl) (fun _ _ _ h => h) (Or.inl ⟨by rfl, ?_⟩) hHeld ?_
  rotate_left
  · (intro w hSw; (try dsimp only at hSw); go_simp <;> with_reducible rfl)
  try simp only [Act.put]
  refine wpAnyH_take (i := 2) (v := ?_) rfl (by kernel_rfl) (by kernel_rfl) (by kernel_rfl) (fun _ _ _ h => h) (Or.inl ⟨by rfl, ?_⟩) hHeld ?_
  rotate_left
  · (intro w hSw; (try dsimp only at hSw); go_simp <;> with_reducible rfl)
  try simp only [Act.put]
  refine wpAnyH_take (i := 4) (v := ?_) rfl (by kernel_rfl) (by kernel_rfl) (by kernel_rfl) (fun _ _ _ h => h) (Or.inl ⟨by rfl, ?_⟩) hHeld ?_
  rotate_left
  · (intro w hSw; (try dsimp only at hSw); go_simp <;> with_reducible rfl)
  try simp only [Act.put]
  refine wpAnyH_take (i := 5) rfl (by kernel_rfl) (by kernel_rfl) (by kernel_rfl) (fun _ _ _ h => h) (yieldsIf_load_mid (by rfl) 80 _ rfl gp 0 rfl (D.map bv) _ (fun w h => h.2.2) uPath rfl (infoPathL hplen)) hHeld ?_
  try simp only [Act.put]
  refine wpAnyH_take (i := 6) (v := ?_) rfl (by kernel_rfl) (by kernel_rfl) (by kernel_rfl) (fun _ _ _ h => h) (Or.inl ⟨by rfl, ?_⟩) hHeld ?_
  rotate_left
  · (intro w hSw; (try dsimp only at hSw); go_simp <;> with_reducible rfl)
  try simp only [Act.put]
  refine wpAnyH_take (i := 7) (v := ?_) rfl (by kernel_rfl) (by kernel_rfl) (by kernel_rfl) (fun _ _ _ h => h) (Or.inl ⟨by rfl, ?_⟩) hHeld ?_
  rotate_left
  · (intro w hSw; (try dsimp only at hSw); go_simp <;> with_reducible rfl)
  try simp only [Act.put]
  refine wpAnyH_ready (rs := [3]) (by kernel_rfl) (by simp) ?_
  refine AllReadyH.cons rfl (fun K hK => ?_) AllReadyH.nil
  go_simp
  refine hK.out _ _ hHeld (fun hHeld => ?_)
  clear hK K
  try simp only [Act.put, List.setIfInBounds_toArray, List.set_cons_zero, List.set_cons_succ]
  refine wpAnyH_ready (rs := [8]) (by kernel_rfl) (by simp) ?_
  refine AllReadyH.cons rfl (fun K hK => ?_) AllReadyH.nil
  go_simp
  go_wp2_with fail
  rw [show IntKind.i64.wrap ((dp : Int) + 1) = (dp : Int) + 1 by rw [IntKind.wrap_i64]; omega]
  refine IHDh.out.mono ?_
  rintro e W3 ⟨p3, rfl, hN3, F3⟩
  have F3' : Fr [] W2 W3 := F3.of_drew
  have hK3 := hK2.fr F3' (by simp)
  have hck3 : W3.cell? ⟨gK, q, none⟩ = some pq := cell_fr F3' hck
  have hz3 := hK3.frozen q
  have hgK3 := hK3.lt
  obtain ⟨A3, rfl⟩ := node_ptr hN3
  dsimp only
  refine hK.out _ _ ⟨cell_fr F3' hx1, cell_fr F3' hx2, range_fr0 F3' (range_blk hBp2)⟩ (fun hHeld => ?_)
  clear hK K IHDh
  try simp only [Act.put, List.setIfInBounds_toArray, List.set_cons_zero, List.set_cons_succ]
  refine wpAnyH_take (i := 9) (v := ?_) rfl (by kernel_rfl) (by kernel_rfl) (by kernel_rfl) (fun _ _ _ h => h) (Or.inl ⟨by rfl, ?_⟩) hHeld ?_
  rotate_left
  · (intro w hSw; (try dsimp only at hSw); go_simp <;> with_reducible rfl)
  try simp only [Act.put, List.setIfInBounds_toArray]
  refine wpAnyH_ready (rs := [10]) (by kernel_rfl) (by simp) ?_
  refine AllReadyH.cons rfl (fun K hK => ?_) AllReadyH.nil
  go_simp
  refine hK.out _ _ ⟨cell_st hxK (cell_fr F3' hx1), cell_st hxK (cell_fr F3' hx2), range_st hpK (range_fr0 F3' (range_blk hBp2))⟩ (fun hHeld => ?_)
  clear hK K
  refine wpAnyH_done (by kernel_rfl) ?_ _
  clear hx1 hx2 hBx2 hBp2 hBx1 hBp1 hHeld
  go_upto_region 7 with (fail)
  refine wp_gen (fun W4 => Blk W4 gK 109 (ps.set q (.pointer A3)).toArray ∧ Fr [gK] W3 W4) ⟨?_, (Fr.refl _ _).setCell (p := ⟨gK, q, none⟩) (.inl (by simp)) _⟩ ?_
  · have := hK3.set q (.pointer A3)
    rwa [List.setIfInBounds_toArray] at this
  rintro W4 ⟨hK4, F4⟩
  have f4 : Fr [] w W4 := (f2.trans F3').andThen F4 (fun z hz => .inr (by simp at hz; omega))
  have hps4 : (ps.set q (.pointer A3)).length = 16 := by rw [List.length_set, hps]
  have hk4 : ∀ i, i < 16 → NodeAt W4 (gK :: X) f (kid f (put x l) i) ((ps.set q (.pointer A3)).getD i undef) := by
    have hq : q = nib (pathOf x.1) (63 - f) := by rw [HD.out, HDP.out, HQ.out]
    have hgo : ∀ {lz : List Pr} {z : Value}, NodeAt W3 (gK :: X) f lz z → NodeAt W4 (gK :: X) f lz z := fun h => h.fr F4 (fun s hs => .inl (by simp at hs; simp [hs]))
    rw [hq] at hN3 ⊢
    exact kids_put hps hr (fun i hi => hgo ((hkids2h.out i hi).fr0 F3')) (hgo hN3)
  have hpl : (put x l).length ≤ 10000 := by have := put_length_le x l; omega
  have hbr := branch_t W4 (gK :: X) f (put x l) (ps.set q (.pointer A3)) hps4 hk4 (fun g hg => (List.mem_cons.1 hg).elim (fun e => by rw [e]; exact hK4.lt) (fun hg => Nat.lt_of_lt_of_le (hX g hg) f4.size)) hpl
  have h16 : (Try.prog.info? 109).map (·.size) = some (ps.set q (.pointer A3)).toArray.toList.length := by rw [Array.length_toList, List.size_toArray, hps4]; kernel_rfl
  clear hkidsh hkids2h hk4 hN3 hNqh
  go_wp2_with (first | (refine wpList_load_at rfl 109 _ rfl rfl hK4 (sub_self _) tKidsU rfl h16 ?_; rw [Array.toArray_toList]) | (go_at_call 56; refine hbr.mono ?_; rintro e W5 ⟨p5, rfl, hN5, F5⟩))
  go_ret
  exact ⟨_, rfl, hN5.go ⟨Fr.refl [] _, by simp, fun y hy => .inl (List.mem_cons_of_mem _ hy)⟩, f4.trans F5⟩
end Go.Proofs.Ytlhkkffljjbdmaa
