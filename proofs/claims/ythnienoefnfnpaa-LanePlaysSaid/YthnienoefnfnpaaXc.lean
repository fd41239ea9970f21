/- Walks of the document's lane: Drop, Take, Spoil. Conditions: each theorem's own. -/
import Derived.Test.YthnienoefnfnpaaXb
import Derived.BigRegion
namespace Go.Proofs.Ythnienoefnfnpaa
open Go.RowKit Go.Sig

theorem erase_step {α : Type} (l : List α) (k i : Nat) (hi : i < l.length) : (l.take (i + 1)).eraseIdx k = if i = k then (l.take i).eraseIdx k else (l.take i).eraseIdx k ++ [l[i]] := by
  have hl : (l.take i).length = i := by simp; omega
  rw [List.take_succ_eq_append_getElem hi]
  by_cases h : i = k
  · subst h
    rw [if_pos rfl, List.eraseIdx_append_of_length_le (Nat.le_of_eq hl), hl, Nat.sub_self, List.eraseIdx_of_length_le (l := l.take i) (Nat.le_of_eq hl)]
    simp
  · rw [if_neg h]
    by_cases h2 : k < i
    · rw [List.eraseIdx_append_of_lt_length (by omega)]
    · rw [List.eraseIdx_append_of_length_le (by omega), hl, List.eraseIdx_of_length_le (l := List.take i l) (by omega), List.eraseIdx_of_length_le (by simp; omega)]

section
variable {w w1 w2 : World} {r : Nat} {cs : Array Value} {v v' : Value} {qs : List (Pc × Pk)} {L : LaneM} {S G : List Nat} {p : Pc} {k : Pk}
def DropRPost (w : World) (r : Nat) (v : Value) (qs : List (Pc × Pk)) (L : LaneM) (k : Int) (e : Ending) (w' : World) : Prop :=
  ∃ cs' v' qs', e = .returned (.int .i64 (hasE L.way.length k)) ∧ RefIn w' r cs' v' qs' (L.drop k) ∧ Fr [r] w w' ∧ (∀ g ∈ refFoot r v' qs', g ∈ refFoot r v qs ∨ w.heap.size ≤ g)
theorem drop_r_no (k : Int) (h : RefIn w r cs v qs L) (hk : I64 k) (h0 : hasE L.way.length k ≠ 0) :
   Calls Try.prog 38 #[.pointer (some ⟨r, 0, none⟩), .int .i64 k] w (DropRPost w r v qs L k) := by
  have hc := h.cells
  have h6 := hasE_six h0
  have hlen := h.len
  have h1 : k < 0 ∨ (qs.length : Int) ≤ k := by
    rw [hlen] at h6
    unfold hasE at h6
    split at h6
    · assumption
    · cases h6
  have hp : DropRPost w r v qs L k (.returned (.int .i64 6)) w := ⟨cs, v, qs, by rw [h6], by unfold LaneM.drop; rw [if_neg h0]; exact h, Fr.refl _ _, fun g hg => .inl hg⟩
  obtain ⟨A, c, rfl, -⟩ := h.own.form
  clear h6 hlen h0
  by_cases h0 : k < 0
  · go_enter Try.func38, Try.ntmps38
    go_wp2
    go_ret
    exact hp
  · have h2 : (qs.length : Int) ≤ k := by omega
    have h0' : decide (k < 0) = false := by simpa using h0
    go_enter Try.func38, Try.ntmps38
    go_wp2
    go_ret
    exact hp
theorem drop_r_yes (j : Nat) (h : RefIn w r cs v qs L) (hj : j < qs.length) :
   Calls Try.prog 38 #[.pointer (some ⟨r, 0, none⟩), .int .i64 j] w (DropRPost w r v qs L j) := by
  have hr2 := h.r2
  have h0 : hasE L.way.length j = 0 := hasE_in (by rw [h.len]; exact hj)
  have hdl : L.drop j = { L with way := L.way.eraseIdx j } := by unfold LaneM.drop; rw [if_pos h0, Int.toNat_natCast]
  have H0 := Lib.hid h0
  have HD := Lib.hid hdl
  clear h0 hdl
  have hc := h.cells
  obtain ⟨A, c, rfl, -⟩ := h.own.form
  have hj' : (j : Int) < qs.length := by omega
  have dj : decide (qs.length ≤ j) = false := by simp; omega
  go_enter Try.func38, Try.ntmps38
  go_wp2_with fail
  go_loopg [5, 6] (qs.length + 1) (fun k s5 s6 wr => ∃ i : Nat, s6 = .int .i64 i ∧ i ≤ qs.length ∧ qs.length - i < k ∧ Fr [] w wr ∧ Own wr 37 3 s5 ((qs.take i).eraseIdx j).length (((qs.take i).eraseIdx j).flatMap fun q => q.1.cells) ∧ ∀ g ∈ rowOf s5, w.heap.size ≤ g)
  case atStart => exact ⟨0, rfl, by omega, by omega, Fr.refl _ _, by simpa using Own.nil w 37 3, by simp [rowOf, Value.ownBlock]⟩
  case round =>
    obtain ⟨i, rfl, hi, hk, hF, hO, hge⟩ := hrel
    have hR := h.nilfr hF
    have hc := hR.cells
    obtain ⟨A5, c5, rfl, hA5⟩ := hO.form
    have hel : ((qs.take i).eraseIdx j).length ≤ 4096 := by have := List.length_eraseIdx_le (l := qs.take i) (i := j); simp at this; omega
    by_cases hlt : i < qs.length
    · have hst := Lib.hid (erase_step qs j i hlt)
      by_cases hij : i = j
      · subst hij
        go_wp2
        go_roundg (qs.length - i)
        case measure => omega
        case rel => exact ⟨i + 1, by go_num, by omega, by omega, hF, by rw [hst.out]; simpa using hO, hge⟩
      · obtain ⟨g, cap, hv, hgl, c0, c1, c2⟩ := hR.at hlt
        injection hv with hv _ hv3
        subst hv hv3
        obtain ⟨hs, hd, -⟩ := hR.pks _ (List.getElem_mem hlt)
        rw [← hs] at c0
        rw [← hd] at c1
        clear hs hd
        have hij' : ¬ (i : Int) = j := by omega
        go_wp2_with (refine wpList_own_append t33 (hO.fr ((Fr.refl [] wr).alloc (.cells (Pc.arr qs[i].1) 37)) (by simp)) (rd_block3 (w := wr) (p := qs[i].1)) (cells_one _) (by simp) (by unfold maxLen; omega) (by omega) rfl rfl rfl rfl (fun v' w4 q1 q2 q3 => ?_))
        go_roundg (qs.length - i)
        case measure => omega
        case rel =>
          refine ⟨i + 1, by go_num, by omega, by omega, (hF.alloc _).andThen q2 (fun x hx => .inr (hge x hx)), ?_, fun x hx => ?_⟩
          · rw [hst.out, if_neg hij, List.length_append, List.flatMap_append]
            simpa using q1
          · rcases q3 x hx with h1 | h1
            · exact hge x h1
            · have := hF.size
              simp at h1
              omega
    · obtain rfl : i = qs.length := by omega
      have hz := fun i => hR.blk.frozen i
      rw [List.take_length] at hO hel
      have hnv : ∀ g ∈ rowOf (Value.slice A5 ((qs.take qs.length).eraseIdx j).length c5), g ≠ r := fun g hg e => by have := hge g hg; have := h.blk.lt; omega
      rw [List.take_length] at hnv hge
      have hp : RefIn (wr.setCell ⟨r, 1, none⟩ (.slice A5 (qs.eraseIdx j).length c5)) r (cs.setIfInBounds 1 (.slice A5 (qs.eraseIdx j).length c5)) (.slice A5 (qs.eraseIdx j).length c5) (qs.eraseIdx j) (L.drop j) := by
        have f3 : Fr [r] wr (wr.setCell ⟨r, 1, none⟩ (.slice A5 (qs.eraseIdx j).length c5)) := (Fr.refl _ _).setCell (by simp) _
        have hsize := h.size
        have hsub : (qs.eraseIdx j).Sublist qs := List.eraseIdx_sublist _ _
        have hLs : ∀ x ∈ Lb (qs.eraseIdx j), x ∈ Lb qs := fun x hx => by
          obtain ⟨q, hq, hx⟩ := List.mem_flatMap.1 hx
          exact mem_Lb (hsub.subset hq) hx
        rw [HD.out]
        refine ⟨hR.blk.set _ _, by simpa using hsize, ?_, ?_, ?_, hO.fr f3 (fun x hx => by simpa using hnv x hx), ?_, by rw [h.way]; exact (map_eraseIdx' _ _ _).symm, fun hh => hnv r hh rfl, fun hh => h.d2 (hLs _ hh), ?_, h.r1, ?_, fun q hq => h.r3 q (hsub.subset hq)⟩
        · rw [Array.getElem?_setIfInBounds, if_neg (by omega)]
          exact h.c0
        · rw [Array.getElem?_setIfInBounds, if_pos rfl, if_pos (by omega)]
        · intro a b ha hb
          rw [Array.getElem?_setIfInBounds, if_neg (by omega)]
          exact h.sh a b ha hb
        · exact fun q hq => (hR.pks q (hsub.subset hq)).fr f3 (fun x hx => by simp; rintro rfl; exact h.d2 (mem_Lb (hsub.subset hq) hx))
        · intro x hx hh
          have h1 := hge x hx
          have h2 := h.lt x (by simp only [refFoot, List.mem_cons, List.mem_append]; exact .inr (.inr (hLs x hh)))
          omega
        · have := hsub.length_le
          omega
      have HP := Lib.hid hp
      clear hp
      go_wp2
      go_ret
      refine ⟨_, _, _, by rw [H0.out]; rfl, HP.out, hF.nil.setCell (by simp) _, fun g hg => ?_⟩
      simp only [refFoot, List.mem_cons, List.mem_append] at hg ⊢
      rcases hg with rfl | hg | hg
      · exact .inl (.inl rfl)
      · exact .inr (hge g hg)
      · obtain ⟨q, hq, hg⟩ := List.mem_flatMap.1 hg
        exact .inl (.inr (.inr (mem_Lb ((List.eraseIdx_sublist _ _).subset hq) hg)))
theorem drop_r (k : Int) (h : RefIn w r cs v qs L) (hk : I64 k) :
   Calls Try.prog 38 #[.pointer (some ⟨r, 0, none⟩), .int .i64 k] w (DropRPost w r v qs L k) := by
  by_cases h0 : hasE L.way.length k = 0
  · obtain ⟨j, rfl, hj⟩ := hasE_zero h0
    exact drop_r_yes j h (by rw [← h.len]; exact hj)
  · exact drop_r_no k h hk h0

def TakeRPost (w : World) (r : Nat) (v : Value) (qs : List (Pc × Pk)) (L : LaneM) (k : Int) (e : Ending) (w' : World) : Prop :=
  ∃ cs' v' qs' pc, e = .returned (.tuple #[.agg #[.int .i64 pc.src, .int .i64 pc.dst, .slice pc.a pc.n pc.c], .int .i64 (takeE L k)]) ∧ RefIn w' r cs' v' qs' (L.take k) ∧ Fr [r] w w' ∧ (∀ g ∈ refFoot r v' qs', g ∈ refFoot r v qs ∨ w.heap.size ≤ g) ∧
    (takeE L k ≠ 0 → pc = Pc.zero) ∧ (takeE L k = 0 → PkAt w' pc (L.way.getD k.toNat default) ∧ ∀ g ∈ rowOf pc.val, g ∈ Lb qs)
theorem take_r_no (k : Int) (h : RefIn w r cs v qs L) (hk : I64 k) (h0 : hasE L.way.length k ≠ 0) :
   Calls Try.prog 37 #[.pointer (some ⟨r, 0, none⟩), .int .i64 k] w (TakeRPost w r v qs L k) := by
  have h6 := hasE_six h0
  have e1 : takeE L k = 6 := by unfold takeE; rw [if_neg h0]
  have e2 : L.take k = L := by unfold LaneM.take; rw [if_neg (by omega)]
  have E1 := Lib.hid e1
  have E2 := Lib.hid e2
  have H6 := Lib.hid h6
  have fa : Fr [] w (w.alloc (.cells #[.int .i64 0, .int .i64 0, .slice none 0 0] 37)) := (Fr.refl _ _).alloc _
  have B0 := Blk.new w 37 #[.int .i64 0, .int .i64 0, .slice none 0 0]
  clear e1 e2 h6
  go_enter Try.func37, Try.ntmps37
  go_wp2_with fail
  refine (at_r k (h.nilfr fa) hk).mono ?_
  rintro e w1 ⟨pc, rfl, f1, hn, -⟩
  obtain rfl := hn h0
  rw [H6.out]
  have B1 := B0.fr f1 (by simp)
  have b1 := B1.c3
  have z1 := fun i => B1.frozen i
  have hl1 := B1.lt
  clear hn
  go_wp2
  refine post_gen (fun W => Blk W w.heap.size 37 #[.int .i64 0, .int .i64 0, .slice none 0 0] ∧ Fr [w.heap.size] w1 W) ⟨?_, ?_⟩ ?_
  · simpa using (((B1.set 0 (.int .i64 0)).set 1 (.int .i64 0)).set 2 (.slice none 0 0)).alloc (.cells #[.int .i64 0, .int .i64 0, .slice none 0 0] 37)
  · repeat (first | with_reducible exact Fr.refl _ _ | with_reducible refine Fr.alloc ?_ _ | (with_reducible refine Fr.setCell ?_ ?_ _; rotate_left; simp))
  rintro W ⟨BW, fW⟩
  have bw := BW.c3
  refine bodyPost_ret (v := .tuple #[.agg #[.int .i64 0, .int .i64 0, .slice none 0 0], .int .i64 6]) (by simp [results, Try.results37, go_sem, bw]) rfl ⟨cs, v, qs, Pc.zero, by rw [E1.out], ?_, ?_, fun g hg => .inl hg, fun _ => rfl, fun h => by rw [E1.out] at h; cases h⟩
  · rw [E2.out]
    exact ((h.nilfr fa).nilfr f1).fr fW (fun g hg => by have := h.lt g hg; simp; omega)
  · exact (fa.nil.trans f1.nil).andThen fW (fun i hi => .inr (by simp at hi; omega))

set_option maxHeartbeats 1000000 in
theorem take_r_yes (j : Nat) (h : RefIn w r cs v qs L) (hj : j < qs.length) :
   Calls Try.prog 37 #[.pointer (some ⟨r, 0, none⟩), .int .i64 j] w (TakeRPost w r v qs L j) := by
  have hr2 := h.r2
  have hr1 := h.r1
  have h0 : hasE L.way.length j = 0 := hasE_in (by rw [h.len]; exact hj)
  have hwj : L.way.getD j default = qs[j].2 := by rw [h.way]; simp [List.getD, hj]
  have hte : takeE L j = if shutB L qs[j].2.src qs[j].2.dst then 9 else 0 := by unfold takeE; rw [if_pos h0, Int.toNat_natCast, hwj]
  obtain ⟨p1, p2, p3, p4⟩ := h.r3 _ (List.getElem_mem hj)
  rw [← hwj] at hte p1 p2 p3 p4
  have H0 := Lib.hid h0
  have HT := Lib.hid hte
  have fa : Fr [] w (w.alloc (.cells #[.int .i64 0, .int .i64 0, .slice none 0 0] 37)) := (Fr.refl _ _).alloc _
  have B0 := Blk.new w 37 #[.int .i64 0, .int .i64 0, .slice none 0 0]
  have hgr : r < w.heap.size := h.blk.lt
  clear h0 hte hwj
  go_enter Try.func37, Try.ntmps37
  go_wp2_with fail
  refine (at_r j (h.nilfr fa) ⟨by omega, by omega⟩).mono ?_
  rintro e w1 ⟨pc, rfl, f1, -, hy⟩
  obtain ⟨hp, hg5⟩ := hy H0.out
  rw [H0.out]
  rw [Int.toNat_natCast] at hp
  obtain ⟨hs, hd, hown, hle⟩ := hp
  rw [hs, hd]
  obtain ⟨sa, hsa⟩ : ∃ sa : Nat, (L.way.getD j default).src = sa := ⟨_, (Int.toNat_of_nonneg p1).symm⟩
  obtain ⟨da, hda⟩ : ∃ da : Nat, (L.way.getD j default).dst = da := ⟨_, (Int.toNat_of_nonneg p3).symm⟩
  rw [hsa, hda]
  have hT := HT.out
  rw [hsa, hda] at hT
  have hs' := Lib.hid (hs.trans hsa)
  have hd' := Lib.hid (hd.trans hda)
  have HP := Lib.hid (show PkAt w1 pc (L.way.getD j default) from ⟨hs, hd, hown, hle⟩)
  have b1 : sa < 32 := by omega
  have b2 : da < 32 := by omega
  have HTE := Lib.hid hT
  clear hs hd hsa hda hy HT hown hT p1 p2 p3 p4
  have B1 := B0.fr f1 (by simp)
  have fb : Fr [] w1 (w1.alloc (.cells #[.int .i64 sa, .int .i64 da, .slice pc.a pc.n pc.c] 37)) := (Fr.refl _ _).alloc _
  go_upto_region 2 with (fail)
  refine wp_gen (fun W => Blk W w1.heap.size 37 #[.int .i64 sa, .int .i64 da, .slice pc.a pc.n pc.c] ∧ Blk W w.heap.size 37 #[.int .i64 0, .int .i64 0, .slice none 0 0] ∧ Fr [] w1 W) ⟨Blk.new _ _ _, B1.alloc _, fb⟩ ?_
  rintro W ⟨B2, B3, fW⟩
  have hR := ((h.nilfr fa).nilfr f1).nilfr fW
  have hsh := hR.shut b1 b2
  have hg1 : w.heap.size < w1.heap.size := B1.lt
  have hg2 : w1.heap.size < W.heap.size := B2.lt
  have hfr : Fr [] w W := (fa.trans f1).trans fW
  have hg0 : w.heap.size ≤ w.heap.size := Nat.le_refl _
  obtain ⟨g0, HG0⟩ : ∃ g0, Hid (w.heap.size = g0) := ⟨_, Lib.hid rfl⟩
  obtain ⟨g1, HG1⟩ : ∃ g1, Hid (w1.heap.size = g1) := ⟨_, Lib.hid rfl⟩
  rw [HG0.out] at B3 hg1 hgr ⊢
  rw [HG1.out] at B2 hg1 hg2 ⊢
  have f1W := Lib.hid fW
  clear B0 B1 fa fb f1 fW hg0
  have c2 := B2.c3
  have hcr := hR.cells
  cases hb : shutB L sa da with
  | true =>
    rw [hb] at hsh
    have e1 : takeE L j = 9 := by rw [HTE.out, hb]; rfl
    have E1 := Lib.hid e1
    have E2 := Lib.hid (show L.take j = L by unfold LaneM.take; rw [if_neg (by omega)])
    clear e1 hb
    go_wp2_with fail
    go_quiet (fail)
    have c3 := B3.c3
    have z3 := fun i => B3.frozen i
    go_wp2
    refine post_gen (fun W2 => Blk W2 g0 37 #[.int .i64 0, .int .i64 0, .slice none 0 0] ∧ Fr [g0] W W2) ⟨?_, ?_⟩ ?_
    · simpa using (((B3.drewN nq).set 0 (.int .i64 0)).set 1 (.int .i64 0)).set 2 (.slice none 0 0)
    · exact ((((Fr.refl _ W).drewN nq).setCell (by simp) _).setCell (by simp) _).setCell (by simp) _
    rintro W2 ⟨BW, fW⟩
    have bw := BW.c3
    have hG := HG0.out
    refine bodyPost_ret (v := .tuple #[.agg #[.int .i64 0, .int .i64 0, .slice none 0 0], .int .i64 9]) (by simp [results, Try.results37, go_sem, bw]) rfl ⟨cs, v, qs, Pc.zero, by rw [E1.out], ?_, ?_, fun g hg => .inl hg, fun _ => rfl, fun h => by rw [E1.out] at h; cases h⟩
    · rw [E2.out]
      exact hR.fr fW (fun g hg => by have := h.lt g hg; simp; omega)
    · exact hfr.nil.andThen fW (fun i hi => .inr (by simp at hi; omega))
  | false =>
    rw [hb] at hsh
    have e1 : takeE L j = 0 := by rw [HTE.out, hb]; rfl
    have E1 := Lib.hid e1
    have E2 := Lib.hid (show L.take j = L.drop j by unfold LaneM.take; rw [if_pos e1])
    clear e1 hb
    go_wp2_with fail
    go_quiet (fail)
    go_wp2_with fail
    refine (drop_r j (hR.nilfr ((Fr.refl _ _).drewN nq)) ⟨by omega, by omega⟩).mono ?_
    rintro e W2 ⟨cs', v', qs', rfl, hR2, f2, hG2⟩
    have B4 := (B2.drewN nq).fr f2 (by simp; omega)
    have B5 := (B3.drewN nq).fr f2 (by simp; omega)
    have c4 := B4.c3
    have c5 := B5.c3
    have z5 := fun i => B5.frozen i
    rw [H0.out]
    clear c2 hsh
    go_wp2
    refine post_gen (fun W3 => Blk W3 g0 37 #[.int .i64 sa, .int .i64 da, .slice pc.a pc.n pc.c] ∧ Fr [g0] W2 W3) ⟨?_, ?_⟩ ?_
    · simpa using ((B5.set 0 (.int .i64 sa)).set 1 (.int .i64 da)).set 2 (.slice pc.a pc.n pc.c)
    · exact (((Fr.refl _ W2).setCell (by simp) _).setCell (by simp) _).setCell (by simp) _
    rintro W3 ⟨BW, fW⟩
    have bw := BW.c3
    have hG := HG0.out
    have hG1 := HG1.out
    have hQ := HP.out
    refine bodyPost_ret (v := .tuple #[.agg #[.int .i64 sa, .int .i64 da, .slice pc.a pc.n pc.c], .int .i64 0]) (by simp [results, Try.results37, go_sem, bw]) rfl ⟨cs', v', qs', pc, by rw [E1.out, hs'.out, hd'.out], ?_, ?_, ?_, fun h => absurd E1.out h, fun _ => ⟨?_, hg5⟩⟩
    · rw [E2.out]
      refine hR2.fr fW (fun g hg => ?_)
      simp
      rintro rfl
      rcases hG2 _ hg with h1 | h1
      · have := h.lt _ h1; omega
      · simp at h1; omega
    · exact ((hfr.drewN nq).nil.andThen f2 (fun i hi => .inl hi)).andThen fW (fun i hi => .inr (by simp at hi; omega))
    · intro g hg
      rcases hG2 _ hg with h1 | h1
      · exact .inl h1
      · simp at h1; right; omega
    · rw [Int.toNat_natCast]
      have hlt := hQ.own.lt
      have hfW : Fr [] w1 W := f1W.out
      have hlL : ∀ g ∈ rowOf pc.val, g < w.heap.size := fun g hg => h.lt g (by simp only [refFoot, List.mem_cons, List.mem_append]; exact .inr (.inr (hg5 g hg)))
      refine (((hQ.fr hfW (by simp)).fr ((Fr.refl [] W).drewN nq) (by simp)).fr f2 (fun g hg => ?_)).fr fW (fun g hg => ?_)
      · simp; rintro rfl; exact h.d2 (hg5 _ hg)
      · have := hlL g hg; simp; omega
theorem take_r (k : Int) (h : RefIn w r cs v qs L) (hk : I64 k) :
   Calls Try.prog 37 #[.pointer (some ⟨r, 0, none⟩), .int .i64 k] w (TakeRPost w r v qs L k) := by
  by_cases h0 : hasE L.way.length k = 0
  · obtain ⟨j, rfl, hj⟩ := hasE_zero h0
    exact take_r_yes j h (by rw [← h.len]; exact hj)
  · exact take_r_no k h hk h0
end

theorem Own.setAt' {w : World} {e : TypeId} {g n cap j size : Nat} {xs : List Value} (h : Own w e size (.slice (some ⟨g, 0, none⟩) n cap) n xs) (hj : j < n * size) (u : Value) : Own (w.setCell ⟨g, j, none⟩ u) e size (.slice (some ⟨g, 0, none⟩) n cap) n (xs.set j u) := by
  rcases h.2 with ⟨hv, _⟩ | ⟨g', cp, cur, hv, hz, hg, hcp, hmx, hcs, hx⟩
  · cases hv
  injection hv with hv _ hc
  injection hv with hv
  injection hv with hv _ _
  subst hv hc
  refine ⟨by simpa using h.1, .inr ⟨g, cap, cur.setIfInBounds j u, rfl, hz, Blk.set hg j u, hcp, hmx, by simpa using hcs, ?_⟩⟩
  rw [Array.toList_setIfInBounds, ← hx, List.take_set]
theorem frozen_of_own {w : World} {e : TypeId} {g n cap size : Nat} {xs : List Value} (h : Own w e size (.slice (some ⟨g, 0, none⟩) n cap) n xs) (j : Nat) : w.frozen? ⟨g, j, none⟩ = false := by
  rcases h.2 with ⟨hv, _⟩ | ⟨g', cp, cur, hv, hz, hg, hcp, hmx, hcs, hx⟩
  · cases hv
  injection hv with hv _ hc
  injection hv with hv
  injection hv with hv _ _
  subst hv
  exact Blk.frozen hg j
theorem flat_set3 : ∀ (l : List (Pc × Pk)) (k : Nat) (q : Pc × Pk), k < l.length → ((l.set k q).flatMap fun q => q.1.cells) = (((((l.flatMap fun q => q.1.cells).set (k * 3) (.int .i64 q.1.src)).set (k * 3 + 1) (.int .i64 q.1.dst)).set (k * 3 + 2) (.slice q.1.a q.1.n q.1.c)))
  | [], k, q, h => by simp at h
  | x :: l, 0, q, _ => by simp [Pc.cells]
  | x :: l, k + 1, q, h => by
    have ih := flat_set3 l k q (by simpa using h)
    simp only [List.set_cons_succ, List.flatMap_cons, ih]
    simp only [Pc.cells, List.cons_append, List.nil_append, show (k + 1) * 3 = k * 3 + 1 + 1 + 1 by omega, show k * 3 + 1 + 1 + 1 + 1 = (k * 3 + 1) + 1 + 1 + 1 by omega, show k * 3 + 1 + 1 + 1 + 2 = (k * 3 + 2) + 1 + 1 + 1 by omega, List.set_cons_succ]

section
variable {w w1 w2 : World} {r : Nat} {cs : Array Value} {v v' : Value} {qs : List (Pc × Pk)} {L : LaneM} {S G : List Nat} {p : Pc} {k : Pk}
def SpoilRPost (w : World) (r : Nat) (G : List Nat) (L : LaneM) (k j : Int) (x : UInt8) (e : Ending) (w' : World) : Prop :=
  ∃ G', e = .returned (.int .i64 (spoilE L k j)) ∧ RefAt w' r G' (L.spoil k j x) ∧ Went w w' G G'
theorem spoil_r_no (k j : Int) (x : UInt8) (h : RefIn w r cs v qs L) (hk : I64 k) (hj : I64 j) (h0 : spoilE L k j ≠ 0) :
   Calls Try.prog 40 #[.pointer (some ⟨r, 0, none⟩), .int .i64 k, .int .i64 j, bv x] w (SpoilRPost w r (refFoot r v qs) L k j x) := by
  have e1 : spoilE L k j = 6 := by unfold spoilE at h0 ⊢; split at h0 <;> simp_all
  have e2 : L.spoil k j x = L := by unfold LaneM.spoil; rw [if_neg h0]
  have hc : ¬ (hasE L.way.length k = 0 ∧ 0 ≤ j ∧ j < (L.way.getD k.toNat default).bs.length) := fun hh => h0 (by unfold spoilE; rw [if_pos hh])
  have E1 := Lib.hid e1
  have E2 := Lib.hid e2
  have HC := Lib.hid hc
  clear e1 e2 hc
  by_cases hz : hasE L.way.length k = 0
  · obtain ⟨i, rfl, hi⟩ := hasE_zero hz
    have HZ := Lib.hid hz
    clear hz
    unfold bv
    go_enter Try.func40, Try.ntmps40
    go_wp2_with fail
    refine (at_r i h hk).mono ?_
    rintro e w1 ⟨pc, rfl, f1, -, hy⟩
    obtain ⟨⟨hs, hd, hown, hle⟩, -⟩ := hy HZ.out
    rw [HZ.out]
    have hl := hown.length
    simp only [List.length_map, Nat.mul_one] at hl
    have hcc : ¬ (0 ≤ j ∧ j < pc.n) := fun hh => HC.out ⟨HZ.out, hh.1, by omega⟩
    have fa : Fr [] w1 (w1.alloc (.cells #[.int .i64 pc.src, .int .i64 pc.dst, .slice pc.a pc.n pc.c] 37)) := (Fr.refl _ _).alloc _
    have h2 := (h.nilfr f1).nilfr fa
    clear hs hd hy hl hown
    by_cases hj0 : j < 0
    · go_wp2
      go_ret
      exact ⟨_, by rw [E1.out]; rfl, by rw [E2.out]; exact ⟨_, _, _, h2, rfl⟩, Went.quiet (f1.trans fa)⟩
    · have hj1 : (pc.n : Int) ≤ j := by omega
      have hj0' : decide (j < 0) = false := by simpa using hj0
      go_wp2
      go_ret
      exact ⟨_, by rw [E1.out]; rfl, by rw [E2.out]; exact ⟨_, _, _, h2, rfl⟩, Went.quiet (f1.trans fa)⟩
  · have h6 := Lib.hid (hasE_six hz)
    unfold bv
    go_enter Try.func40, Try.ntmps40
    go_wp2_with fail
    refine (at_r k h hk).mono ?_
    rintro e w1 ⟨pc, rfl, f1, hn, -⟩
    obtain rfl := hn hz
    rw [h6.out]
    have fa : Fr [] w1 (w1.alloc (.cells #[.int .i64 0, .int .i64 0, .slice none 0 0] 37)) := (Fr.refl _ _).alloc _
    have h2 := (h.nilfr f1).nilfr fa
    clear hn
    go_wp2
    go_ret
    exact ⟨_, by rw [E1.out]; rfl, by rw [E2.out]; exact ⟨_, _, _, h2, rfl⟩, Went.quiet (f1.trans fa)⟩

theorem Lb_set {i : Nat} {q : Pc × Pk} {g : Nat} (hg : g ∈ Lb (qs.set i q)) : g ∈ Lb qs ∨ g ∈ rowOf q.1.val := by
  obtain ⟨q', hq', hg⟩ := List.mem_flatMap.1 hg
  rcases List.mem_or_eq_of_mem_set hq' with h1 | h1
  · exact .inl (mem_Lb h1 hg)
  · exact .inr (h1 ▸ hg)
theorem RefIn.spoiled {gw cap i : Nat} {q : Pc × Pk} (h : RefIn w r cs (.slice (some ⟨gw, 0, none⟩) qs.length cap) qs L) (hi : i < qs.length) (hq : PkAt w q.1 q.2) (hn : ∀ g ∈ rowOf q.1.val, g ≠ r ∧ g ≠ gw)
    (hq3 : 0 ≤ q.2.src ∧ q.2.src < L.n ∧ 0 ≤ q.2.dst ∧ q.2.dst < L.n) :
    RefIn ((((w.setCell ⟨gw, i * 3, none⟩ (.int .i64 q.1.src)).setCell ⟨gw, i * 3 + 1, none⟩ (.int .i64 q.1.dst)).setCell ⟨gw, i * 3 + 2, none⟩ (.slice q.1.a q.1.n q.1.c)).drew) r cs (.slice (some ⟨gw, 0, none⟩) qs.length cap) (qs.set i q) { L with way := L.way.set i q.2 } := by
  have f3 : Fr [gw] w ((((w.setCell ⟨gw, i * 3, none⟩ (.int .i64 q.1.src)).setCell ⟨gw, i * 3 + 1, none⟩ (.int .i64 q.1.dst)).setCell ⟨gw, i * 3 + 2, none⟩ (.slice q.1.a q.1.n q.1.c)).drew) := ((((Fr.refl _ _).setCell (by simp) _).setCell (by simp) _).setCell (by simp) _).drew
  have hrow : rowOf (.slice (some ⟨gw, 0, none⟩) qs.length cap) = [gw] := rfl
  have hd1 := h.d1
  have hd3 := h.d3
  rw [hrow] at hd1 hd3
  refine ⟨h.blk.fr f3 hd1, h.size, h.c0, h.c1, h.sh, ?_, ?_, ?_, h.d1, ?_, ?_, h.r1, by simpa using h.r2, ?_⟩
  · rw [List.length_set, flat_set3 qs i q hi]
    exact Own.fr (Own.setAt' (j := i * 3 + 2) (Own.setAt' (j := i * 3 + 1) (Own.setAt' (j := i * 3) h.own (by omega) _) (by omega) _) (by omega) _) ((Fr.refl [] _).drew) (by simp)
  · intro q' hq'
    rcases List.mem_or_eq_of_mem_set hq' with h1 | h1
    · exact (h.pks q' h1).fr f3 (fun g hg => by simp; rintro rfl; exact hd3 g (by simp) (mem_Lb h1 hg))
    · subst h1
      exact hq.fr f3 (fun g hg => by simpa using (hn g hg).2)
  · rw [List.map_set, h.way]
  · exact fun hh => (Lb_set hh).elim h.d2 (fun h1 => (hn r h1).1 rfl)
  · intro x hx hh
    rw [hrow] at hx
    exact (Lb_set hh).elim (hd3 x hx) (fun h1 => (hn x h1).2 (by simpa using hx))
  · intro q' hq'
    rcases List.mem_or_eq_of_mem_set hq' with h1 | h1
    · exact h.r3 q' h1
    · subst h1
      exact hq3
set_option maxHeartbeats 2000000 in
theorem spoil_r_yes (i j : Nat) (x : UInt8) (h : RefIn w r cs v qs L) (hi : i < qs.length) (hj : j < (L.way.getD i default).bs.length) :
   Calls Try.prog 40 #[.pointer (some ⟨r, 0, none⟩), .int .i64 i, .int .i64 j, bv x] w (SpoilRPost w r (refFoot r v qs) L i j x) := by
  have hr2 := h.r2
  have h0 : hasE L.way.length i = 0 := hasE_in (by rw [h.len]; exact hi)
  have e1 : spoilE L i j = 0 := by unfold spoilE; rw [if_pos ⟨h0, by omega, by rw [Int.toNat_natCast]; omega⟩]
  have e2 : L.spoil i j x = { L with way := L.way.set i ((L.way.getD i default).spoil j x) } := by unfold LaneM.spoil; rw [if_pos e1, Int.toNat_natCast, Int.toNat_natCast]
  have hwq : L.way.getD i default = qs[i].2 := by rw [h.way]; simp [List.getD, hi]
  have hq3 := h.r3 _ (List.getElem_mem hi)
  rw [← hwq] at hq3
  have hq2 := Lib.hid hwq
  have H0 := Lib.hid h0
  obtain ⟨q, hqq⟩ : ∃ q, Hid (L.way.getD i default = q) := ⟨_, Lib.hid rfl⟩
  rw [hqq.out] at hq3 hj e2
  have E1 := Lib.hid e1
  have E2 := Lib.hid e2
  clear e1 e2 h0 hwq
  unfold bv
  go_enter Try.func40, Try.ntmps40
  go_wp2_with fail
  refine (at_r i h ⟨by omega, by omega⟩).mono ?_
  rintro e w1 ⟨pc, rfl, f1, -, hy⟩
  obtain ⟨hp, hpl⟩ := hy H0.out
  rw [Int.toNat_natCast, hqq.out] at hp
  rw [H0.out]
  obtain ⟨hs, hd, hown, hle⟩ := hp
  have hnil := own_nil hown
  have hbyt : Byts w1 pc.a pc.n q.bs := hown.rd
  have hl := hbyt.length
  have hjn : (j : Int) < pc.n := by omega
  have hl2 := Lib.hid hl
  have fa : Fr [] w1 (w1.alloc (.cells #[.int .i64 pc.src, .int .i64 pc.dst, .slice pc.a pc.n pc.c] 37)) := (Fr.refl _ _).alloc _
  have hs' := Lib.hid hs
  have hd' := Lib.hid hd
  clear hy hl hs hd
  go_wp2_with fail
  refine (own_r pc.src pc.dst pc.a pc.n pc.c q.bs _ (Rd.fr hbyt fa (by simp [Off])) hnil (by omega)).mono ?_
  rintro e w2 ⟨A2, c2, rfl, o2, f2, g2⟩
  have hR := ((h.nilfr f1).nilfr fa).nilfr f2
  go_upto_region 5 with (fail)
  have hw2 := f2.size
  have hf12 : Fr [] w w2 := (f1.trans fa).trans f2
  simp only [World.size_alloc] at hw2
  rcases o2.2 with ⟨_, h00⟩ | ⟨g5, cp, cur, hv0, _, hg5, hcp, _, hcs, hx⟩
  · omega
  have hv := hv0
  unfold Pc.val at hv
  injection hv with hv _ hv3
  have hB5 : Blk w2 g5 5 cur := hg5
  have hlt5 := hB5.lt
  have hcj : w2.cell? ⟨g5, j, none⟩ = some (.int .u8 ((q.bs.getD j 0).toNat : Int)) := by
    obtain ⟨b', o, hA, hcc⟩ := o2.rd.2 (by omega)
    rw [hv] at hA
    injection hA with hA
    injection hA with e1 e2 _
    subst e1 e2
    have := hcc j (bv (q.bs.getD j 0)) (by simp [List.getD, List.getElem?_map, List.getElem?_eq_getElem hj])
    simpa [bv] using this
  have hg5w : w1.heap.size + 1 ≤ g5 := by
    have := g2 g5 (by rw [hv0]; simp [rowOf, Value.ownBlock])
    simpa using this
  obtain ⟨v', hvv⟩ : ∃ v', Hid (bv (q.bs.getD j 0 ^^^ x) = v') := ⟨_, Lib.hid rfl⟩
  have hxr := bv_xor (q.bs.getD j 0) x
  have o2' := o2
  clear o2 hx hbyt hown
  have HX : Hid (Value.int .u8 (bits BinOp.xor .u8 ((q.bs.getD j 0).toNat : Int) (x.toNat : Int)) = v') := Lib.hid (hxr.trans hvv.out)
  clear hxr
  generalize ((q.bs.getD j 0).toNat : Int) = xx at *
  generalize (x.toNat : Int) = yy at *
  subst hv hv3
  have hb11 := Lib.hid (rfl : w2.heap.size = w2.heap.size)
  refine wp_gen (fun W => Blk W w2.heap.size 37 #[.int .i64 pc.src, .int .i64 pc.dst, .slice (some ⟨g5, 0, none⟩) pc.n c2] ∧ Fr [] w2 W) ⟨Blk.new _ _ _, (Fr.refl _ _).alloc _⟩ ?_
  rintro W ⟨B11, fW⟩
  have hgw := B11.lt
  have hz5 := fun i => (hB5.fr fW (by simp)).frozen i
  have hc5 : W.cell? ⟨g5, j, none⟩ = some (.int .u8 xx) := (fW.cell (p := ⟨g5, j, none⟩) hlt5 (by simp)).trans hcj
  have c11 := B11.c3
  obtain ⟨g11, HG⟩ : ∃ g, Hid (w2.heap.size = g) := ⟨_, Lib.hid rfl⟩
  have hne : g5 ≠ g11 := by rw [← HG.out]; omega
  rw [HG.out] at B11 c11 hgw ⊢
  clear hb11 hcj
  refine wp_tail 11 (by kernel_rfl) (by kernel_rfl) ?_
  simp only [List.take_succ_cons, List.take_zero, List.drop_succ_cons, List.drop_zero]
  repeat still_step
  refine wpStill_nil ?_
  go_simp
  go_upto_region 6 with (fail)
  have oW : Own W 5 1 (.slice (some ⟨g5, 0, none⟩) pc.n c2) pc.n (q.bs.map bv) := o2'.fr fW (by simp)
  refine wp_gen (fun W2 => Own W2 5 1 (.slice (some ⟨g5, 0, none⟩) pc.n c2) pc.n ((q.spoil j x).bs.map bv) ∧ Blk W2 g11 37 #[.int .i64 pc.src, .int .i64 pc.dst, .slice (some ⟨g5, 0, none⟩) pc.n c2] ∧ Fr [g5] W W2) ⟨?_, B11.drew.far (p := ⟨g5, j, none⟩) (Ne.symm hne) _, ((Fr.refl _ _).drew).setCell (p := ⟨g5, j, none⟩) (by simp) _⟩ ?_
  · have := Own.setAt' (w := W.drew) (j := j) (oW.fr ((Fr.refl [] W).drew) (by simp)) (by omega) (bv (q.bs.getD j 0 ^^^ x))
    simp only [Pk.spoil, List.map_set]
    rw [hvv.out, ← HX.out]
    rw [hvv.out, ← HX.out] at this
    exact this
  rintro W2 ⟨oW2, BW2, fW2⟩
  have hR2 : RefIn W2 r cs v qs L := (hR.nilfr fW).fr fW2 (fun g hg => by have := hR.lt g hg; have := h.lt g hg; have := f1.size; simp; omega)
  have c11' := BW2.c3
  obtain ⟨gw, cap, rfl, hgl, d0, d1, d2⟩ := hR2.at hi
  have hcr := hR2.cells
  have hf := fun k => frozen_of_own hR2.own k
  clear c11 hc5 hz5 oW B11 hB5
  refine wp_tail 7 (by kernel_rfl) (by kernel_rfl) ?_
  simp only [List.take_succ_cons, List.take_zero, List.drop_succ_cons, List.drop_zero]
  repeat still_step
  refine wpStill_nil ?_
  go_simp
  go_wp2
  go_ret
  have hG := HG.out
  have hf12s := hf12.size
  have hgwl := h.lt gw (by simp [refFoot, rowOf, Value.ownBlock])
  have hrl := h.blk.lt
  have hW := hf12.nil.andThen (S := [gw]) (fW.trans (Fr.refl _ _)) (by simp)
  have hWf : Fr [] w W2 := (hf12.trans fW).andThen fW2 (fun y hy => .inr (by have := f1.size; simp at hy; omega))
  have hp := hR2.spoiled (q := (⟨pc.src, pc.dst, some ⟨g5, 0, none⟩, pc.n, c2⟩, q.spoil j x)) hi ⟨hs'.out, hd'.out, oW2, hle⟩ (fun g hg => by
    have e : g = g5 := by simpa [rowOf, Value.ownBlock, Pc.val] using hg
    have := f1.size
    constructor <;> omega) (by simpa [Pk.spoil] using hq3)
  refine ⟨_, by rw [E1.out]; rfl, ⟨_, _, _, by rw [E2.out]; exact hp, rfl⟩, ?_, ?_⟩
  · refine (hWf.nil (S := refFoot r (.slice (some ⟨gw, 0, none⟩) qs.length cap) qs)).trans ?_
    exact ((((Fr.refl _ _).setCell (by simp [refFoot, rowOf, Value.ownBlock]) _).setCell (by simp [refFoot, rowOf, Value.ownBlock]) _).setCell (by simp [refFoot, rowOf, Value.ownBlock]) _).drew
  · intro g hg
    simp only [refFoot, List.mem_cons, List.mem_append] at hg ⊢
    rcases hg with hg | hg | hg
    · exact .inl (.inl hg)
    · exact .inl (.inr (.inl hg))
    · rcases Lb_set hg with h1 | h1
      · exact .inl (.inr (.inr h1))
      · have e : g = g5 := by simpa [rowOf, Value.ownBlock, Pc.val] using h1
        have := f1.size
        right
        omega
theorem spoil_r (k j : Int) (x : UInt8) (h : RefIn w r cs v qs L) (hk : I64 k) (hj : I64 j) :
   Calls Try.prog 40 #[.pointer (some ⟨r, 0, none⟩), .int .i64 k, .int .i64 j, bv x] w (SpoilRPost w r (refFoot r v qs) L k j x) := by
  by_cases h0 : hasE L.way.length k = 0 ∧ 0 ≤ j ∧ j < (L.way.getD k.toNat default).bs.length
  · obtain ⟨h1, h2, h3⟩ := h0
    obtain ⟨i, rfl, hi⟩ := hasE_zero h1
    obtain ⟨j', rfl⟩ : ∃ j' : Nat, j = j' := ⟨j.toNat, by omega⟩
    exact spoil_r_yes i j' x h (by rw [← h.len]; exact hi) (by rw [Int.toNat_natCast] at h3; omega)
  · exact spoil_r_no k j x h hk hj (by unfold spoilE; rw [if_neg h0]; decide)
end
end Go.Proofs.Ythnienoefnfnpaa
