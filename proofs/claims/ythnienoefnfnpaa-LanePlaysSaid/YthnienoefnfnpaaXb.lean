/- Walks of the document's lane: Send, Twice, Heal. Conditions: each theorem's own. -/
import Derived.Test.YthnienoefnfnpaaXa
namespace Go.Proofs.Ythnienoefnfnpaa
open Go.RowKit Go.Sig

section
variable {w w1 w2 : World} {r : Nat} {cs : Array Value} {v v' : Value} {qs : List (Pc × Pk)} {L : LaneM} {S G : List Nat} {p : Pc} {k : Pk}
theorem RefIn.sent (h : RefIn w r cs v qs L) (f1 : Fr [] w w1) (hp : PkAt w1 p k) (hn : ∀ g ∈ rowOf p.val, w.heap.size ≤ g) {o : Obj} (q1 : Own w2 37 3 v' (qs.length + 1) (qs.flatMap (fun q => q.1.cells) ++ p.cells))
    (f2 : Fr (rowOf v) (w1.alloc o) w2) (hv : ∀ g ∈ rowOf v', g ∈ rowOf v ∨ g = (w1.alloc o).heap.size) (hf : ¬ 4096 ≤ qs.length) (hk : 0 ≤ k.src ∧ k.src < L.n ∧ 0 ≤ k.dst ∧ k.dst < L.n) :
    RefIn (w2.setCell ⟨r, 1, none⟩ v') r (cs.setIfInBounds 1 v') v' (qs ++ [(p, k)]) { L with way := L.way ++ [k] } ∧ Went w (w2.setCell ⟨r, 1, none⟩ v') (refFoot r v qs) (refFoot r v' (qs ++ [(p, k)])) := by
  have fa : Fr (rowOf v) w w2 := (f1.nil.alloc o).trans f2
  have f3 : Fr [r] w2 (w2.setCell ⟨r, 1, none⟩ v') := (Fr.refl _ _).setCell (by simp) _
  have hsz := f1.size
  have hsz2 : w1.heap.size + 1 ≤ w2.heap.size := by have := f2.size; simpa using this
  have hrl := h.blk.lt
  have hvl : ∀ g ∈ rowOf v, g < w.heap.size := h.own.lt
  have hpl : ∀ g ∈ rowOf p.val, g < w1.heap.size := hp.own.lt
  have hLb : ∀ g ∈ Lb qs, g < w.heap.size := fun g hg => h.lt g (by simp [refFoot, hg])
  have hpv : ∀ g ∈ rowOf p.val, g ∉ rowOf v := fun g hg hh => by have := hn g hg; have := hvl g hh; omega
  have e1 : Lb [(p, k)] = rowOf p.val := by simp [Lb]
  have hnew : ∀ g ∈ rowOf v', g ∈ rowOf v ∨ w1.heap.size < g := fun g hg => (hv g hg).imp id (fun h => by simp at h; omega)
  have hsize := h.size
  refine ⟨⟨(h.blk.fr fa h.d1).set 1 v', by simpa using hsize, ?_, ?_, ?_, ?_, ?_, by simp [h.way], ?_, ?_, ?_, h.r1, ?_, ?_⟩, ?_, ?_⟩
  · rw [Array.getElem?_setIfInBounds, if_neg (by omega)]
    exact h.c0
  · rw [Array.getElem?_setIfInBounds, if_pos rfl, if_pos (by omega)]
  · intro a b ha hb
    rw [Array.getElem?_setIfInBounds, if_neg (by omega)]
    exact h.sh a b ha hb
  · rw [List.length_append, List.flatMap_append]
    refine Own.fr (by simpa using q1) f3 (fun g hg => ?_)
    rcases hnew g hg with h1 | h1
    · simp; rintro rfl; exact h.d1 h1
    · simp; omega
  · intro q hq
    rcases List.mem_append.1 hq with hq | hq
    · refine ((h.pks q hq).fr fa (fun g hg hh => h.d3 g hh (mem_Lb hq hg))).fr f3 (fun g hg => ?_)
      simp; rintro rfl; exact h.d2 (mem_Lb hq hg)
    · simp only [List.mem_singleton] at hq
      subst hq
      refine ((hp.fr ((Fr.refl [] _).alloc o) (by simp)).fr f2 hpv).fr f3 (fun g hg => ?_)
      have := hn g hg
      simp; omega
  · exact fun hh => (hnew r hh).elim h.d1 (by omega)
  · rw [Lb_append, e1]
    simp only [List.mem_append, not_or]
    exact ⟨h.d2, fun hh => by have := hn _ hh; omega⟩
  · intro x hx
    rw [Lb_append, e1]
    simp only [List.mem_append, not_or]
    rcases hnew x hx with h1 | h1
    · exact ⟨h.d3 x h1, fun hh => hpv x hh h1⟩
    · exact ⟨fun hh => by have := hLb x hh; omega, fun hh => by have := hpl x hh; omega⟩
  · rw [List.length_append]; simp; omega
  · intro q hq
    rcases List.mem_append.1 hq with hq | hq
    · exact h.r3 q hq
    · simp only [List.mem_singleton] at hq
      subst hq
      exact hk
  · exact (fa.mono (fun g hg => by simp [refFoot, hg])).andThen f3 (fun g hg => by simp at hg; subst hg; left; simp [refFoot])
  · intro g hg
    simp only [refFoot, Lb_append, e1, List.mem_cons, List.mem_append] at hg ⊢
    rcases hg with hg | hg | hg | hg
    · exact .inl (.inl hg)
    · rcases hnew g hg with h1 | h1
      · exact .inl (.inr (.inl h1))
      · exact .inr (by omega)
    · exact .inl (.inr (.inr hg))
    · exact .inr (hn g hg)

def SendRPost (w : World) (r : Nat) (G : List Nat) (L : LaneM) (src dst : Int) (l : List UInt8) (e : Ending) (w' : World) : Prop :=
  ∃ G', e = .returned (.int .i64 (sendE L src dst l.length)) ∧ RefAt w' r G' (L.send src dst l) ∧ Went w w' G G'

set_option maxRecDepth 100000 in
set_option maxHeartbeats 4000000 in
theorem send_r (src dst : Int) (A : Option Addr) (k c : Nat) (l : List UInt8) (h : RefIn w r cs v qs L) (h1 : I64 src) (h2 : I64 dst) (hb : Byts w A k l) (hA : A = none → k = 0) :
   Calls Try.prog 35 #[.pointer (some ⟨r, 0, none⟩), .int .i64 src, .int .i64 dst, .slice A k c] w (SendRPost w r (refFoot r v qs) L src dst l) := by
  have hlk := hb.length
  have hn1 := fun w (h : RefIn w r cs v qs L) => node_r src h h1
  have hn2 := fun w (h : RefIn w r cs v qs L) => node_r dst h h2
  have hc := h.cells
  have hlen := h.len
  have same : ∀ E : Int, sendE L src dst l.length = E → E ≠ 0 → SendRPost w r (refFoot r v qs) L src dst l (.returned (.int .i64 E)) w := fun E he hE =>
    ⟨_, by rw [he], ⟨cs, v, qs, by unfold LaneM.send; rw [if_neg (by omega)]; exact h, rfl⟩, Went.refl _ _⟩
  have SAME := Lib.hid same
  clear same
  cases e1 : nodeB L.n src with
  | false =>
    rw [e1] at hn1
    have HE := Lib.hid (show sendE L src dst l.length = 6 by simp [sendE, e1])
    clear hlen hlk
    go_enter Try.func35, Try.ntmps35
    go_wp2_with (go_at_call 46; refine (hn1 _ h).mono ?_; rintro e w' ⟨rfl, rfl⟩)
    go_ret
    exact SAME.out 6 HE.out (by decide)
  | true =>
    rw [e1] at hn1
    cases e2 : nodeB L.n dst with
    | false =>
      rw [e2] at hn2
      have HE := Lib.hid (show sendE L src dst l.length = 6 by simp [sendE, e2])
      clear hlen hlk
      go_enter Try.func35, Try.ntmps35
      go_wp2_with fail
      refine (hn1 _ h).mono ?_
      rintro e w' ⟨rfl, rfl⟩
      go_wp2_with fail
      refine (hn2 _ h).mono ?_
      rintro e w' ⟨rfl, rfl⟩
      go_wp2
      go_ret
      exact SAME.out 6 HE.out (by decide)
    | true =>
      rw [e2] at hn2
      by_cases hk : 65544 < k
      · have hk' : (65544 : Int) < k := by omega
        have HE := Lib.hid (show sendE L src dst l.length = 2 by simp [sendE, e1, e2, hlk, hk])
        clear hlen hlk
        go_enter Try.func35, Try.ntmps35
        go_wp2_with fail
        refine (hn1 _ h).mono ?_
        rintro e w' ⟨rfl, rfl⟩
        go_wp2_with fail
        refine (hn2 _ h).mono ?_
        rintro e w' ⟨rfl, rfl⟩
        go_wp2
        go_ret
        exact SAME.out 2 HE.out (by decide)
      · have hk' : (k : Int) ≤ 65544 := by omega
        obtain ⟨A', c', rfl, -⟩ := h.own.form
        by_cases hf : 4096 ≤ qs.length
        · have hf' : (4096 : Int) ≤ qs.length := by omega
          have HE := Lib.hid (show sendE L src dst l.length = 8 by simp [sendE, e1, e2, hlk, hk, hlen, hf])
          clear hlen hlk
          go_enter Try.func35, Try.ntmps35
          go_wp2_with fail
          refine (hn1 _ h).mono ?_
          rintro e w' ⟨rfl, rfl⟩
          go_wp2_with fail
          refine (hn2 _ h).mono ?_
          rintro e w' ⟨rfl, rfl⟩
          go_wp2
          go_ret
          exact SAME.out 8 HE.out (by decide)
        · have hf' : (qs.length : Int) < 4096 := by omega
          have hz0 : sendE L src dst l.length = 0 := by simp [sendE, e1, e2, hlk, hk, hlen, hf]
          have HE := Lib.hid hz0
          have HL := Lib.hid (show L.send src dst l = { L with way := L.way ++ [⟨src, dst, l⟩] } by unfold LaneM.send; rw [if_pos hz0])
          have hsr : 0 ≤ src ∧ src < L.n := by simpa [nodeB] using e1
          have hdr : 0 ≤ dst ∧ dst < L.n := by simpa [nodeB] using e2
          have hb' := h.d1
          have HK := Lib.hid hlk
          clear hlen hlk hz0 e1 e2
          go_enter Try.func35, Try.ntmps35
          go_wp2_with fail
          refine (hn1 _ h).mono ?_
          rintro e w' ⟨rfl, rfl⟩
          go_wp2_with fail
          refine (hn2 _ h).mono ?_
          rintro e w' ⟨rfl, rfl⟩
          go_upto_region 7 with (fail)
          go_region_law (first
            | (refine step_own_append t33 ho (rd_block3 (w := w1) (p := ⟨src, dst, A2, k, c2⟩)) (cells_one ⟨src, dst, A2, k, c2⟩) ?_ ?_ ?_ rfl rfl rfl rfl (fun v' w2 q1 q2 q3 => ?_); (focus simp); (focus (unfold maxLen; omega)); (focus omega); obtain ⟨A3, c3, rfl, hA3⟩ := q1.form; have B2 := B1.fr q2 hb'; have c2' := (B2.cell 1).trans l1.c1; have z2 := B2.frozen 1)
            | (go_simp; go_at_call 47; refine (own_r src dst A k c l _ (Rd.fr hb (Fr.refl [] _).drew (by simp [Off])) hA (by omega)).mono ?_; rintro e w1 ⟨A2, c2, rfl, o2, f2, g2⟩;
               have l1 := h.nilfr f2.of_drew;
               have ho := (l1.own.fr ((Fr.refl [] w1).alloc (.cells (Pc.arr ⟨src, dst, A2, k, c2⟩) 37)) (by simp));
               have B1 := l1.blk.alloc (.cells (Pc.arr ⟨src, dst, A2, k, c2⟩) 37); have cw := l1.cells))
          all_goals
            obtain ⟨r1, r2⟩ := h.sent (k := ⟨src, dst, l⟩) f2.of_drew ⟨rfl, rfl, o2, Nat.le_of_not_lt hk⟩ g2 q1 q2 q3 hf ⟨hsr.1, hsr.2, hdr.1, hdr.2⟩
            go_wp2
            go_ret
            exact ⟨_, by rw [HE.out]; rfl, ⟨_, _, _, by rw [HL.out]; exact r1, rfl⟩, r2⟩

def TwiceRPost (w : World) (r : Nat) (G : List Nat) (L : LaneM) (k : Int) (e : Ending) (w' : World) : Prop :=
  ∃ G', e = .returned (.int .i64 (twiceE L k)) ∧ RefAt w' r G' (L.twice k) ∧ Went w w' G G'
theorem own_nil {p : Pc} {bs : List UInt8} (hown : Own w 5 1 p.val p.n (bs.map bv)) : p.a = none → p.n = 0 := fun ha => by
  rcases hown.2 with ⟨_, h0⟩ | ⟨_, _, _, hv, _⟩
  · exact h0
  · unfold Pc.val at hv; rw [ha] at hv; cases hv
theorem twice_r (k : Int) (h : RefIn w r cs v qs L) (hk : I64 k) :
   Calls Try.prog 39 #[.pointer (some ⟨r, 0, none⟩), .int .i64 k] w (TwiceRPost w r (refFoot r v qs) L k) := by
  have hlen := h.len
  have hr2 := h.r2
  by_cases h0 : hasE L.way.length k = 0
  · obtain ⟨j, rfl, hj⟩ := hasE_zero h0
    have hj' := hj
    rw [hlen] at hj'
    have hwj : L.way.getD j default = qs[j].2 := by rw [h.way]; simp [List.getD, hj']
    have hr3 := h.r3 _ (List.getElem_mem hj')
    have hr1 := h.r1
    have e1 : twiceE L j = sendE L (L.way.getD j default).src (L.way.getD j default).dst (L.way.getD j default).bs.length := by
      unfold twiceE
      rw [if_pos h0, Int.toNat_natCast]
    have e2 : L.twice j = L.send (L.way.getD j default).src (L.way.getD j default).dst (L.way.getD j default).bs := by
      unfold LaneM.twice
      rw [if_pos h0, Int.toNat_natCast]
    rw [← hwj] at hr3
    have E1 := Lib.hid e1
    have E2 := Lib.hid e2
    have H0 := Lib.hid h0
    clear e1 e2 hlen hwj
    go_enter Try.func39, Try.ntmps39
    go_wp2_with fail
    refine (at_r j h hk).mono ?_
    rintro e w1 ⟨pc, rfl, f1, -, hy⟩
    obtain ⟨⟨hs, hd, hown, hle⟩, -⟩ := hy H0.out
    rw [H0.out, hs, hd]
    have hnil := own_nil hown
    have hbyt : Byts w1 pc.a pc.n (L.way.getD (j : Int).toNat default).bs := hown.rd
    rw [Int.toNat_natCast] at hbyt
    clear hs hd hy hown
    rw [Int.toNat_natCast]
    generalize L.way.getD j default = q at *
    have fa : Fr [] w1 (w1.alloc (.cells #[.int .i64 q.src, .int .i64 q.dst, .slice pc.a pc.n pc.c] 37)) := (Fr.refl _ _).alloc _
    have h2 := (h.nilfr f1).nilfr fa
    go_wp2_with fail
    refine (send_r q.src q.dst pc.a pc.n pc.c q.bs h2 ⟨by omega, by omega⟩ ⟨by omega, by omega⟩ (Rd.fr hbyt fa (by simp [Off])) hnil).mono ?_
    rintro e w2 ⟨G', rfl, g1, g2⟩
    go_wp2
    go_ret
    exact ⟨G', by rw [E1.out]; rfl, by rw [E2.out]; exact g1, (Went.quiet (f1.trans fa)).trans g2⟩
  · have h6 := hasE_six h0
    have e1 : twiceE L k = 6 := by
      unfold twiceE
      rw [if_neg h0]
    have e2 : L.twice k = L := by
      unfold LaneM.twice
      rw [if_neg h0]
    have E1 := Lib.hid e1
    have E2 := Lib.hid e2
    have H6 := Lib.hid h6
    clear e1 e2 hlen h6
    go_enter Try.func39, Try.ntmps39
    go_wp2_with fail
    refine (at_r k h hk).mono ?_
    rintro e w1 ⟨pc, rfl, f1, hn, -⟩
    rw [H6.out, hn h0]
    have fa : Fr [] w1 (w1.alloc (.cells #[.int .i64 0, .int .i64 0, .slice none 0 0] 37)) := (Fr.refl _ _).alloc _
    have h2 := (h.nilfr f1).nilfr fa
    clear hn
    go_wp2
    go_ret
    exact ⟨_, by rw [E1.out]; rfl, by rw [E2.out]; exact ⟨_, _, _, h2, rfl⟩, Went.quiet (f1.trans fa)⟩

def zeros : Array Value := Array.replicate 1024 (.bool false)
theorem built46 : Try.prog.built 46 [] = some zeros := by kernel_rfl
theorem zeros_size : zeros.size = 1024 := by simp [zeros]
theorem zeros_one : ∀ v ∈ zeros.toList, v.oneCell' = true := by
  intro v hv
  simp only [zeros, Array.toList_replicate, List.mem_replicate] at hv
  rw [hv.2]
  rfl
theorem info46 : (Try.prog.info? 46).map (·.size) = some zeros.size := by rw [zeros_size]; kernel_rfl
set_option maxRecDepth 100000 in
theorem heal_r (h : RefIn w r cs v qs L) :
   Calls Try.prog 42 #[.pointer (some ⟨r, 0, none⟩)] w fun e w' => e = .returned (.tuple #[]) ∧ (∃ cs', RefIn w' r cs' v qs { L with shut := [] }) ∧ Fr [r] w w' := by
  have hc := h.cells
  have hsz := h.size
  have hfit : 2 + zeros.size ≤ cs.size := by rw [zeros_size]; omega
  have hfit' : 2 + zeros.toList.length ≤ cs.size := by simpa using hfit
  have hp : RefIn (w.setRow r (laid cs 2 zeros.toList)) r (laid cs 2 zeros.toList) v qs { L with shut := [] } := by
    have f3 : Fr [r] w (w.setRow r (laid cs 2 zeros.toList)) := (Fr.refl _ _).setRow (by simp) _
    refine ⟨h.blk.setRow _, by rw [laid_size hfit', hsz], ?_, ?_, ?_, ?_, ?_, h.way, h.d1, h.d2, h.d3, h.r1, h.r2, h.r3⟩
    · rw [laid_far hfit' (.inl (by omega))]; exact h.c0
    · rw [laid_far hfit' (.inl (by omega))]; exact h.c1
    · intro a b ha hb
      rw [laid_get hfit', if_pos ⟨by omega, by rw [Array.length_toList, zeros_size]; omega⟩]
      simp only [zeros, Array.toList_replicate, List.getElem?_replicate]
      rw [if_pos (by omega)]
      rfl
    · exact h.own.fr f3 (fun x hx => by simp; rintro rfl; exact h.d1 hx)
    · exact fun q hq => (h.pks q hq).fr f3 (fun x hx => by simp; rintro rfl; exact h.d2 (mem_Lb hq hx))
  have HP := Lib.hid hp
  clear hp hsz
  go_enter Try.func42, Try.ntmps42
  go_wp2_with (first | (refine wpList_build_as rfl 46 #[] rfl [] ?_ built46 ?_; (focus simp)) | (refine wpList_store_at rfl 46 _ _ rfl rfl rfl h.blk info46 hfit zeros_one ?_))
  go_end0
  exact ⟨rfl, ⟨_, HP.out⟩, (Fr.refl _ _).setRow (by simp) _⟩

/-- The document's lane at first. -/
def refInit (n : Int) : Array Value := (Value.int .i64 n :: Value.slice none 0 0 :: List.replicate 1024 (.bool false)).toArray
set_option maxRecDepth 100000 in
theorem built48 (n : Int) : Try.prog.built 48 [(0, .int .i64 n)] = some (refInit n) := by kernel_rfl
theorem refInit_in (n : Int) (w : World) (hn : 1 ≤ n ∧ n ≤ 32) (hb : Blk w r 48 (refInit n)) : RefIn w r (refInit n) (.slice none 0 0) [] ⟨n, [], []⟩ := by
  refine ⟨hb, by simp only [refInit, List.size_toArray, List.length_cons, List.length_replicate], by simp only [refInit, List.getElem?_toArray, List.getElem?_cons_zero], by (simp only [refInit, List.getElem?_toArray]; rw [List.getElem?_cons_succ, List.getElem?_cons_zero]), ?_, Own.nil _ _ _, by simp, rfl, by simp [rowOf, Value.ownBlock], by simp [Lb], by simp [Lb], hn, by simp, by simp⟩
  intro a b ha hb
  simp only [refInit, List.getElem?_toArray]
  rw [show 2 + a * 32 + b = (a * 32 + b) + 1 + 1 by omega, List.getElem?_cons_succ, List.getElem?_cons_succ, List.getElem?_replicate, if_pos (by omega)]
  rfl
end
end Go.Proofs.Ythnienoefnfnpaa
