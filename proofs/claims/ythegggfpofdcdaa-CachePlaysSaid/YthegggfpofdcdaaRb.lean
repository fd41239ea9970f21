/- Walks: the document's Void and Ask: what is kept is what the model says. Conditions: each theorem's own. -/
import Derived.Test.YthegggfpofdcdaaRa
import Derived.Deep.DeepCutAuto
import Derived.Deep.RegionLaw
namespace Go.Proofs.Ythegggfpofdcdaa
open Go.RowKit Go.Sig

/-- 'append(xs, ys...)' as a step of a region that draws its order. -/
theorem step_own_append {P : Program} {w : World} {e size n m c : Nat} {v z : Value} {xs news : List Value} {t : TypeId} {bytes : Nat} {A : Option Addr}
    {ops : Array Oper} {o : Oper} {a : Act} {K : Act → World → Prop} {Q : Exit → Act → World → Prop} {E : Prop} (T : SliceTy P t e size bytes z) (h : Own w e size v n xs) (hr : Rd w size A m news)
    (h1 : ∀ u ∈ news, u.oneCell' = true) (hm : A = none → m = 0) (h63 : n + m ≤ maxLen) (hb : (n + m) * bytes ≤ 140737488355328)
    (hg : o.guard = none) {s x : Operand} (hop : o.op = .call { callee := .builtin .append, args := #[s, x], argTypes := #[t, t] }) (hs : a.eval s = v) (hx : a.eval x = .slice A m c)
    (hK : ∀ v' w', Own w' e size v' (n + m) (xs ++ news) → Fr (rowOf v) w w' → (∀ g, g ∈ rowOf v' → g ∈ rowOf v ∨ g = w.heap.size) → K (a.put o.dst v') w') :
    if Region.wanted o (yielded ops a.tmps) = true then Oper.wp P o a w K Q else E := by
  have hw : Region.wanted o (yielded ops a.tmps) = true := by simp [Region.wanted, hg]
  rw [if_pos hw]
  obtain ⟨v', w', hrun, r1, r2, r3⟩ := h.run_append (ty := o.type) (c := c) T hr h1 hm h63 hb
  unfold Oper.wp
  simp [execOp, hop, resolve, invoke, builtin, hs, hx, hrun, Result.andThen]
  exact hK v' w' r1 r2 r3

section
variable {w w2 : World} {r : Nat} {vw va v' : Value} {R : RefM} {x : Rw} {o : Obj}
theorem RefIn.pushWay (h : RefIn w r vw va R) (q1 : Own w2 64 12 v' (R.way.length + 1) (R.way.flatMap Rw.cells ++ x.cells)) (q2 : Fr (rowOf vw) (w.alloc o) w2) (q3 : ∀ g ∈ rowOf v', g ∈ rowOf vw ∨ g = (w.alloc o).heap.size) (hl : R.way.length < 1000) :
    RefPost w r vw va { R with way := R.way ++ [x] } (w2.setCell ⟨r, 0, none⟩ v') := by
  have hr := h.nilfr ((Fr.refl [] w).alloc o)
  have hrl := h.blk.lt
  have hsz : (w.alloc o).heap.size = w.heap.size + 1 := by simp
  have fa : Fr (rowOf vw) w w2 := Fr.trans ((Fr.refl [] w).alloc o).nil q2
  have f1 : Fr [r] w2 (w2.setCell ⟨r, 0, none⟩ v') := (Fr.refl _ _).setCell (by simp) _
  have hn : ∀ g ∈ rowOf v', g ∈ rowOf vw ∨ w.heap.size < g := fun g hg => (q3 g hg).imp id (fun e => by omega)
  have hrv : r ∉ rowOf v' := fun hh => (hn r hh).elim h.dw (by omega)
  have hb2 := h.blk.fr fa h.dw
  refine ⟨v', va, ⟨by simpa using hb2.set 0 v', ?_, (h.oa.fr fa (fun g hg hh => h.dd g hh hg)).fr f1 (fun g hg => by simp; rintro rfl; exact h.da hg), hrv, h.da, fun g hg hh => ?_, ?_, by simp; omega, h.l2⟩, ⟨?_, ?_⟩⟩
  · rw [List.length_append, List.flatMap_append]
    exact Own.fr (by simpa using q1) f1 (fun g hg => by simp; rintro rfl; exact hrv hg)
  · rcases hn g hg with h1 | h1
    · exact h.dd g h1 hh
    · have := h.oa.lt g hh; omega
  · intro p hp
    obtain ⟨s1, s2⟩ := h.str p hp
    have o1 := own_off9 h.ow (by decide) s2
    have s3 := s2.fr fa o1
    have o2 := s3.ne hb2 (by decide)
    exact ⟨⟨(s1.strs.fr fa (fun _ => o1)).fr f1 (fun _ => o2), s1.nil, s1.le⟩, s3.fr f1 o2⟩
  · exact (fa.mono (fun g hg => by simp [footR, hg])).andThen f1 (fun g hg => by simp at hg; subst hg; left; simp [footR])
  · intro g hg
    simp only [footR, List.mem_cons, List.mem_append] at hg ⊢
    rcases hg with hg | hg | hg
    · exact .inl (.inl hg)
    · rcases hn g hg with h1 | h1
      · exact .inl (.inr (.inl h1))
      · exact .inr (by omega)
    · exact .inl (.inr (.inr hg))
theorem RefIn.pushAll (h : RefIn w r vw va R) (q1 : Own w2 64 12 v' (R.all.length + 1) (R.all.flatMap Rw.cells ++ x.cells)) (q2 : Fr (rowOf va) (w.alloc o) w2) (q3 : ∀ g ∈ rowOf v', g ∈ rowOf va ∨ g = (w.alloc o).heap.size) (hl : R.all.length < 1000) (hx : ScOk w x.a x.str ∧ Ty9 w x.a.sa) :
    RefPost w r vw va { R with all := R.all ++ [x] } (w2.setCell ⟨r, 1, none⟩ v') := by
  have hr := h.nilfr ((Fr.refl [] w).alloc o)
  have hrl := h.blk.lt
  have hsz : (w.alloc o).heap.size = w.heap.size + 1 := by simp
  have fa : Fr (rowOf va) w w2 := Fr.trans ((Fr.refl [] w).alloc o).nil q2
  have f1 : Fr [r] w2 (w2.setCell ⟨r, 1, none⟩ v') := (Fr.refl _ _).setCell (by simp) _
  have hn : ∀ g ∈ rowOf v', g ∈ rowOf va ∨ w.heap.size < g := fun g hg => (q3 g hg).imp id (fun e => by omega)
  have hrv : r ∉ rowOf v' := fun hh => (hn r hh).elim h.da (by omega)
  have hb2 := h.blk.fr fa h.da
  refine ⟨vw, v', ⟨by simpa using hb2.set 1 v', (h.ow.fr fa (fun g hg hh => h.dd g hg hh)).fr f1 (fun g hg => by simp; rintro rfl; exact h.dw hg), ?_, h.dw, hrv, fun g hg hh => ?_, ?_, h.l1, by simp; omega⟩, ⟨?_, ?_⟩⟩
  · rw [List.length_append, List.flatMap_append]
    exact Own.fr (by simpa using q1) f1 (fun g hg => by simp; rintro rfl; exact hrv hg)
  · rcases hn g hh with h1 | h1
    · exact h.dd g hg h1
    · have := h.ow.lt g hg; omega
  · intro p hp
    have hps : ScOk w p.a p.str ∧ Ty9 w p.a.sa := by
      rcases List.mem_append.1 hp with hp | hp
      · exact h.str p hp
      · simp only [List.mem_singleton] at hp
        subst hp
        exact hx
    obtain ⟨s1, s2⟩ := hps
    have o1 := own_off9 h.oa (by decide) s2
    have s3 := s2.fr fa o1
    have o2 := s3.ne hb2 (by decide)
    exact ⟨⟨(s1.strs.fr fa (fun _ => o1)).fr f1 (fun _ => o2), s1.nil, s1.le⟩, s3.fr f1 o2⟩
  · exact (fa.mono (fun g hg => by simp [footR, hg])).andThen f1 (fun g hg => by simp at hg; subst hg; left; simp [footR])
  · intro g hg
    simp only [footR, List.mem_cons, List.mem_append] at hg ⊢
    rcases hg with hg | hg | hg
    · exact .inl (.inl hg)
    · exact .inl (.inr (.inl hg))
    · rcases hn g hg with h1 | h1
      · exact .inl (.inr (.inr h1))
      · exact .inr (by omega)
theorem RefIn.setLast (h : RefIn w r vw va R) (n : Int) : RefIn (w.setCell ⟨r, 4, none⟩ (.int .i64 n)) r vw va { R with last := n } := by
  have f1 : Fr [r] w (w.setCell ⟨r, 4, none⟩ (.int .i64 n)) := (Fr.refl _ _).setCell (by simp) _
  refine ⟨by simpa using h.blk.set 4 (.int .i64 n), h.ow.fr f1 (fun g hg => by simp; rintro rfl; exact h.dw hg), h.oa.fr f1 (fun g hg => by simp; rintro rfl; exact h.da hg), h.dw, h.da, h.dd, ?_, h.l1, h.l2⟩
  intro p hp
  obtain ⟨s1, s2⟩ := h.str p hp
  have ho := s2.ne h.blk (by decide)
  exact ⟨⟨s1.strs.fr f1 (fun _ => ho), s1.nil, s1.le⟩, s2.fr f1 ho⟩
end

def RefM.void (R : RefM) (f : ByteArray) : RefM := { R with way := R.way.filter fun x => !decide (x.fam = f), all := R.all.filter fun x => !decide (x.fam = f) }
section
variable {w wr : World} {r : Nat} {vw va v4 v5 : Value} {R : RefM} {out4 out5 : List Rw}
theorem RefIn.setBoth (h : RefIn w r vw va R) (hF : Fr [] w wr) (o4 : Own wr 64 12 v4 out4.length (out4.flatMap Rw.cells)) (o5 : Own wr 64 12 v5 out5.length (out5.flatMap Rw.cells)) (hN4 : ∀ g ∈ rowOf v4, w.heap.size ≤ g) (hN5 : ∀ g ∈ rowOf v5, w.heap.size ≤ g)
    (hd : ∀ g ∈ rowOf v4, g ∉ rowOf v5) (hs : ∀ p ∈ out5, p ∈ R.all) (l4 : out4.length ≤ 1000) (l5 : out5.length ≤ 1000) : RefPost w r vw va { R with way := out4, all := out5 } ((wr.setCell ⟨r, 0, none⟩ v4).setCell ⟨r, 1, none⟩ v5) := by
  have hr := h.nilfr hF
  have hrl := h.blk.lt
  have f1 : Fr [r] wr ((wr.setCell ⟨r, 0, none⟩ v4).setCell ⟨r, 1, none⟩ v5) := ((Fr.refl _ _).setCell (by simp) _).setCell (by simp) _
  have hrv4 : r ∉ rowOf v4 := fun hh => by have := hN4 r hh; omega
  have hrv5 : r ∉ rowOf v5 := fun hh => by have := hN5 r hh; omega
  refine ⟨v4, v5, ⟨by simpa using (hr.blk.set 0 v4).set 1 v5, o4.fr f1 (fun g hg => by simp; rintro rfl; exact hrv4 hg), o5.fr f1 (fun g hg => by simp; rintro rfl; exact hrv5 hg), hrv4, hrv5, hd, ?_, l4, l5⟩, ⟨?_, ?_⟩⟩
  · intro p hp
    obtain ⟨s1, s2⟩ := hr.str p (hs p hp)
    have ho := s2.ne hr.blk (by decide)
    exact ⟨⟨s1.strs.fr f1 (fun _ => ho), s1.nil, s1.le⟩, s2.fr f1 ho⟩
  · exact hF.nil.andThen f1 (fun g hg => by simp at hg; subst hg; left; simp [footR])
  · intro g hg
    simp only [footR, List.mem_cons, List.mem_append] at hg ⊢
    rcases hg with hg | hg | hg
    · exact .inl (.inl hg)
    · exact .inr (hN4 g hg)
    · exact .inr (hN5 g hg)

set_option maxHeartbeats 1000000 in
theorem rvoid_t (f : ByteArray) (h : RefIn w r vw va R) :
   Calls Try.prog 21 #[.pointer (some ⟨r, 0, none⟩), .string f] w fun e w' => e = .returned (.tuple #[]) ∧ RefPost w r vw va (R.void f) w' := by
  have hl1 := h.l1
  have hl2 := h.l2
  obtain ⟨A, cap, rfl, -⟩ := h.ow.form
  obtain ⟨A', cap', rfl, -⟩ := h.oa.form
  go_enter Try.func21, Try.ntmps21
  go_wp2_with fail
  go_loopg [4, 6] (R.way.length + 1) (fun k s4 s6 wr => ∃ i : Nat, s6 = .int .i64 i ∧ i ≤ R.way.length ∧ R.way.length - i < k ∧ Own wr 64 12 s4 ((R.way.take i).filter fun x => !decide (x.fam = f)).length (((R.way.take i).filter fun x => !decide (x.fam = f)).flatMap Rw.cells) ∧ Fr [] w wr ∧ (∀ g ∈ rowOf s4, w.heap.size ≤ g))
  case atStart => exact ⟨0, rfl, by omega, by omega, Own.nil _ _ _, Fr.refl _ _, by simp [rowOf, Value.ownBlock]⟩
  case round =>
    obtain ⟨i, rfl, hi, hk, hO, hF, hN⟩ := hrel
    have hr := h.nilfr hF
    have hc := hr.blk.c5
    obtain ⟨A4, c4, rfl, -⟩ := hO.form
    by_cases hil : i < R.way.length
    · obtain ⟨g, capx, hv, hgl, hat⟩ := own_at12 hr.ow rfl hil
      injection hv with hv _ hv3
      subst hv hv3
      have htf := take_filter (p := fun x => !decide (x.fam = f)) hil
      generalize hx : R.way[i] = x at *
      obtain ⟨d0, d1, d2, d3, d4, d5, d6, d7, d8, d9, d10, d11⟩ := hat
      have hlen : ((R.way.take i).filter fun x => !decide (x.fam = f)).length ≤ 1000 := by
        have := List.length_filter_le (fun x : Rw => !decide (x.fam = f)) (R.way.take i)
        have h2 := List.length_take_le i R.way
        omega
      generalize (R.way.take i).filter (fun x => !decide (x.fam = f)) = out at *
      by_cases hxn : x.fam = f
      · have hxb : (x.fam.toList == f.toList) = true := by rw [toList_beq]; simpa using hxn
        have hgd : decide (x.fam = f) = true := by simpa using hxn
        simp only [hgd, Bool.not_true, if_neg Bool.false_ne_true, List.append_nil] at htf
        go_wp2
        go_roundg (R.way.length - i)
        case measure => omega
        case rel => exact ⟨i + 1, by go_num, by omega, by omega, by rw [htf]; exact hO, hF, hN⟩
      · have hxb : (x.fam.toList == f.toList) = false := by rw [toList_beq]; simpa using hxn
        have hO1 := hO.fr ((Fr.refl [] wr).alloc (.cells x.arr 64)) (by simp)
        go_wp2_with (refine wpList_own_append t41 hO1 (rd_block12 (w := wr) (x := x)) (cells_one12 _) (by simp) (by unfold maxLen; omega) (by omega) rfl rfl rfl rfl (fun v' w4 q1 q2 q3 => ?_))
        have hgd : decide (x.fam = f) = false := by simpa using hxn
        simp only [hgd, Bool.not_false, if_true] at htf
        go_roundg (R.way.length - i)
        case measure => omega
        case rel =>
          refine ⟨i + 1, by go_num, by omega, by omega, by rw [htf, List.length_append, List.flatMap_append]; simpa using q1, (hF.alloc _).andThen q2 (fun g hg => .inr (hN g hg)), fun g hg => ?_⟩
          rcases q3 g hg with h1 | h1
          · exact hN g h1
          · have := hF.size; simp at h1; omega
    · obtain rfl : i = R.way.length := by omega
      have hlen := List.length_filter_le (fun x : Rw => !decide (x.fam = f)) R.way
      rw [List.take_of_length_le (Nat.le_refl _)] at hO hN
      rw [List.take_of_length_le (Nat.le_refl _)]
      generalize hout : R.way.filter (fun x => !decide (x.fam = f)) = out4 at *
      have Hout := Lib.hid hout
      clear hout
      have hF1 := hF
      have hO4 := hO
      have hN4 := hN
      clear hF hO hN
      go_wp2_with fail
      clear hr hc
      go_loopg [5, 7] (R.all.length + 1) (fun k s5 s7 wr => ∃ i : Nat, s7 = .int .i64 i ∧ i ≤ R.all.length ∧ R.all.length - i < k ∧ Own wr 64 12 s5 ((R.all.take i).filter fun x => !decide (x.fam = f)).length (((R.all.take i).filter fun x => !decide (x.fam = f)).flatMap Rw.cells) ∧ Fr [] w wr ∧ (∀ g ∈ rowOf s5, w.heap.size ≤ g) ∧ Own wr 64 12 (.slice A4 out4.length c4) out4.length (out4.flatMap Rw.cells) ∧ (∀ g ∈ rowOf (.slice A4 out4.length c4), g ∉ rowOf s5))
      case atStart => exact ⟨0, rfl, by omega, by omega, Own.nil _ _ _, hF1, by simp [rowOf, Value.ownBlock], hO4, by simp [rowOf, Value.ownBlock]⟩
      case round =>
        clear hO4 hF1
        obtain ⟨i, rfl, hi, hk, hO, hF, hN, hO4, hD⟩ := hrel
        have hr := h.nilfr hF
        have hc := hr.blk.c5
        obtain ⟨A5, c5, rfl, -⟩ := hO.form
        by_cases hil : i < R.all.length
        · obtain ⟨g, capx, hv, hgl, hat⟩ := own_at12 hr.oa rfl hil
          injection hv with hv _ hv3
          subst hv hv3
          have htf := take_filter (p := fun x => !decide (x.fam = f)) hil
          generalize hx : R.all[i] = x at *
          obtain ⟨d0, d1, d2, d3, d4, d5, d6, d7, d8, d9, d10, d11⟩ := hat
          have hlen5 : ((R.all.take i).filter fun x => !decide (x.fam = f)).length ≤ 1000 := by
            have := List.length_filter_le (fun x : Rw => !decide (x.fam = f)) (R.all.take i)
            have h2 := List.length_take_le i R.all
            omega
          generalize (R.all.take i).filter (fun x => !decide (x.fam = f)) = out at *
          by_cases hxn : x.fam = f
          · have hxb : (x.fam.toList == f.toList) = true := by rw [toList_beq]; simpa using hxn
            have hgd : decide (x.fam = f) = true := by simpa using hxn
            simp only [hgd, Bool.not_true, if_neg Bool.false_ne_true, List.append_nil] at htf
            go_wp2
            go_roundg (R.all.length - i)
            case measure => omega
            case rel => exact ⟨i + 1, by go_num, by omega, by omega, by rw [htf]; exact hO, hF, hN, hO4, hD⟩
          · have hxb : (x.fam.toList == f.toList) = false := by rw [toList_beq]; simpa using hxn
            have hO1 := hO.fr ((Fr.refl [] wr).alloc (.cells x.arr 64)) (by simp)
            have hO41 := hO4.fr ((Fr.refl [] wr).alloc (.cells x.arr 64)) (by simp)
            have h4l := hO4.lt
            go_wp2_with (refine wpList_own_append t41 hO1 (rd_block12 (w := wr) (x := x)) (cells_one12 _) (by simp) (by unfold maxLen; omega) (by omega) rfl rfl rfl rfl (fun v' w4 q1 q2 q3 => ?_))
            have hgd : decide (x.fam = f) = false := by simpa using hxn
            simp only [hgd, Bool.not_false, if_true] at htf
            go_roundg (R.all.length - i)
            case measure => omega
            case rel =>
              refine ⟨i + 1, by go_num, by omega, by omega, by rw [htf, List.length_append, List.flatMap_append]; simpa using q1, (hF.alloc _).andThen q2 (fun g hg => .inr (hN g hg)), fun g hg => ?_, hO41.fr q2 hD, fun g hg hh => ?_⟩
              · rcases q3 g hg with h1 | h1
                · exact hN g h1
                · have := hF.size; simp at h1; omega
              · rcases q3 g hh with h1 | h1
                · exact hD g hg h1
                · have := h4l g hg; simp at h1; omega
        · obtain rfl : i = R.all.length := by omega
          have hz0 := hr.blk.frozen 0
          have hz1 := hr.blk.frozen 1
          have hlen5 := List.length_filter_le (fun x : Rw => !decide (x.fam = f)) R.all
          rw [List.take_of_length_le (Nat.le_refl _)] at hO hN hD
          rw [List.take_of_length_le (Nat.le_refl _)]
          have hsub : ∀ p ∈ R.all.filter (fun x => !decide (x.fam = f)), p ∈ R.all := fun p hp => (List.mem_filter.1 hp).1
          have fin := h.setBoth hF hO4 hO hN4 hN hD hsub (by omega) (by omega)
          go_wp2
          go_end0
          refine ⟨rfl, ?_⟩
          unfold RefM.void
          rw [Hout.out]
          exact fin
theorem rask_t (tok fam : ByteArray) (now : Int) (h : RefIn w r vw va R) (hl : R.way.length < 1000) (h0 : 0 ≤ R.last ∧ R.last < 4000000000) :
   Calls Try.prog 13 #[.pointer (some ⟨r, 0, none⟩), .string tok, .string fam, .int .i64 now] w fun e w' => e = .returned (.int .i64 (R.last + 1)) ∧ RefPost w r vw va { R with way := R.way ++ [⟨R.last + 1, tok, fam, now, Ans.zero, []⟩], last := R.last + 1 } w' := by
  have hc := h.blk.c5
  have hz := fun i => h.blk.frozen i
  obtain ⟨A, cap, rfl, -⟩ := h.ow.form
  obtain ⟨h01, h02⟩ := h0
  go_enter Try.func13, Try.ntmps13
  go_upto_region 2 with (fail)
  refine wp_gen (fun W => RefIn W r (.slice A R.way.length cap) va { R with last := R.last + 1 } ∧ Fr [r] w W) ⟨h.setLast _, (Fr.refl _ _).setCell (by simp) _⟩ ?_
  clear hc hz
  rintro W ⟨hW, fW⟩
  have hc := hW.blk.c5
  have hB1 := (hW.blk.alloc (.cells (Rw.arr ⟨R.last + 1, tok, fam, now, Ans.zero, []⟩) 64)).drew
  have hc1 := hB1.c5
  have hO1 := hW.ow.fr ((Fr.refl [] W).alloc (.cells (Rw.arr ⟨R.last + 1, tok, fam, now, Ans.zero, []⟩) 64)).drew (by simp)
  have hd := hW.dw
  go_region_law (first
    | (refine step_own_append t41 hO1 (rd_block12 (w := W) (x := ⟨R.last + 1, tok, fam, now, Ans.zero, []⟩)).drew (cells_one12 ⟨R.last + 1, tok, fam, now, Ans.zero, []⟩) ?_ ?_ ?_ rfl rfl rfl rfl (fun v' w2 q1 q2 q3 => ?_); (focus simp); (focus (unfold maxLen; simp only; omega)); (focus (simp only; omega)); obtain ⟨A3, c3, rfl, hA3⟩ := q1.form; have B2 := hB1.fr q2 hd; have c2' := B2.c5; have z2 := B2.frozen 0))
  all_goals
    obtain ⟨vw', va', g1, g2⟩ := hW.pushWay q1 q2.of_drew q3 (by simpa using hl)
    have hc9 := g1.blk.c5
    go_wp2
    go_ret
    exact ⟨rfl, vw', va', g1, ⟨(fW.mono (fun g hg => by simp at hg; subst hg; simp [footR])).trans g2.fr, fun g hg => (g2.sub g hg).imp id (fun hh => Nat.le_trans fW.size hh)⟩⟩
end
end Go.Proofs.Ythegggfpofdcdaa
