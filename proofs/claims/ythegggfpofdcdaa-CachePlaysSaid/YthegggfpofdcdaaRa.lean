/- Walks: the document's Drop and lose: what is kept is what the model says. Conditions: each theorem's own. -/
import Derived.Test.YthegggfpofdcdaaRm
namespace Go.Proofs.Ythegggfpofdcdaa
open Go.RowKit Go.Sig

def RefM.drop (R : RefM) (n : Int) : RefM := { R with way := R.way.filter fun x => !decide (x.n = n) }
def RefM.lose (R : RefM) (t : ByteArray) : RefM := { R with all := R.all.filter fun x => !decide (x.tok = t) }
theorem take_filter {p : Rw → Bool} {l : List Rw} {i : Nat} (hi : i < l.length) : (l.take (i + 1)).filter p = (l.take i).filter p ++ (if p l[i] then [l[i]] else []) := by
  rw [List.take_succ_eq_append_getElem hi, List.filter_append]
  simp [List.filter_cons]

def RefPost (w : World) (r : Nat) (vw va : Value) (R' : RefM) (w' : World) : Prop := ∃ vw' va', RefIn w' r vw' va' R' ∧ Went w w' (footR r vw va) (footR r vw' va')

section
variable {w wr : World} {r : Nat} {vw va v : Value} {R : RefM} {out : List Rw}
theorem RefIn.setWay (h : RefIn w r vw va R) (hF : Fr [] w wr) (hO : Own wr 64 12 v out.length (out.flatMap Rw.cells)) (hN : ∀ g ∈ rowOf v, w.heap.size ≤ g) (hl : out.length ≤ 1000) : RefPost w r vw va { R with way := out } (wr.setCell ⟨r, 0, none⟩ v) := by
  have hr := h.nilfr hF
  have hrl := h.blk.lt
  have f1 : Fr [r] wr (wr.setCell ⟨r, 0, none⟩ v) := (Fr.refl _ _).setCell (by simp) _
  have hrv : r ∉ rowOf v := fun hh => by have := hN r hh; omega
  refine ⟨v, va, ⟨by simpa using hr.blk.set 0 v, hO.fr f1 (fun g hg => by simp; rintro rfl; exact hrv hg), hr.oa.fr f1 (fun g hg => by simp; rintro rfl; exact h.da hg), hrv, h.da, fun g hg hh => by have := hN g hg; have := h.oa.lt g hh; omega, ?_, hl, h.l2⟩, ⟨?_, ?_⟩⟩
  · intro p hp
    obtain ⟨s1, s2⟩ := hr.str p hp
    have ho := s2.ne hr.blk (by decide)
    exact ⟨⟨s1.strs.fr f1 (fun _ => ho), s1.nil, s1.le⟩, s2.fr f1 ho⟩
  · exact hF.nil.andThen f1 (fun g hg => by simp at hg; subst hg; left; simp [footR])
  · intro g hg
    simp only [footR, List.mem_cons, List.mem_append] at hg ⊢
    rcases hg with hg | hg | hg
    · exact .inl (.inl hg)
    · exact .inr (hN g hg)
    · exact .inl (.inr (.inr hg))
theorem RefIn.setAll (h : RefIn w r vw va R) (hF : Fr [] w wr) (hO : Own wr 64 12 v out.length (out.flatMap Rw.cells)) (hN : ∀ g ∈ rowOf v, w.heap.size ≤ g) (hs : ∀ p ∈ out, p ∈ R.all) (hl : out.length ≤ 1000) : RefPost w r vw va { R with all := out } (wr.setCell ⟨r, 1, none⟩ v) := by
  have hr := h.nilfr hF
  have hrl := h.blk.lt
  have f1 : Fr [r] wr (wr.setCell ⟨r, 1, none⟩ v) := (Fr.refl _ _).setCell (by simp) _
  have hrv : r ∉ rowOf v := fun hh => by have := hN r hh; omega
  refine ⟨vw, v, ⟨by simpa using hr.blk.set 1 v, hr.ow.fr f1 (fun g hg => by simp; rintro rfl; exact h.dw hg), hO.fr f1 (fun g hg => by simp; rintro rfl; exact hrv hg), h.dw, hrv, fun g hg hh => by have := hN g hh; have := h.ow.lt g hg; omega, ?_, h.l1, hl⟩, ⟨?_, ?_⟩⟩
  · intro p hp
    obtain ⟨s1, s2⟩ := hr.str p (hs p hp)
    have ho := s2.ne hr.blk (by decide)
    exact ⟨⟨s1.strs.fr f1 (fun _ => ho), s1.nil, s1.le⟩, s2.fr f1 ho⟩
  · exact hF.nil.andThen f1 (fun g hg => by simp at hg; subst hg; left; simp [footR])
  · intro g hg
    simp only [footR, List.mem_cons, List.mem_append] at hg ⊢
    rcases hg with hg | hg | hg
    · exact .inl (.inl hg)
    · exact .inl (.inr (.inl hg))
    · exact .inr (hN g hg)
end

section
variable {w : World} {r : Nat} {vw va : Value} {R : RefM}
theorem rdrop_t (n : Int) (h : RefIn w r vw va R) :
   Calls Try.prog 17 #[.pointer (some ⟨r, 0, none⟩), .int .i64 n] w fun e w' => e = .returned (.tuple #[]) ∧ RefPost w r vw va (R.drop n) w' := by
  have hl1 := h.l1
  obtain ⟨A, cap, rfl, -⟩ := h.ow.form
  go_enter Try.func17, Try.ntmps17
  go_wp2_with fail
  go_loopg [4, 5] (R.way.length + 1) (fun k s4 s5 wr => ∃ i : Nat, s5 = .int .i64 i ∧ i ≤ R.way.length ∧ R.way.length - i < k ∧ Own wr 64 12 s4 ((R.way.take i).filter fun x => !decide (x.n = n)).length (((R.way.take i).filter fun x => !decide (x.n = n)).flatMap Rw.cells) ∧ Fr [] w wr ∧ (∀ g ∈ rowOf s4, w.heap.size ≤ g))
  case atStart => exact ⟨0, rfl, by omega, by omega, Own.nil _ _ _, Fr.refl _ _, by simp [rowOf, Value.ownBlock]⟩
  case round =>
    obtain ⟨i, rfl, hi, hk, hO, hF, hN⟩ := hrel
    have hr := h.nilfr hF
    have hc := hr.blk.c5
    obtain ⟨A4, c4, rfl, -⟩ := hO.form
    by_cases hil : i < R.way.length
    · obtain ⟨g, cap', hv, hgl, hat⟩ := own_at12 hr.ow rfl hil
      injection hv with hv _ hv3
      subst hv hv3
      have htf := take_filter (p := fun x => !decide (x.n = n)) hil
      generalize hx : R.way[i] = x at *
      obtain ⟨d0, d1, d2, d3, d4, d5, d6, d7, d8, d9, d10, d11⟩ := hat
      have hlen : ((R.way.take i).filter fun x => !decide (x.n = n)).length ≤ 1000 := by
        have := List.length_filter_le (fun x : Rw => !decide (x.n = n)) (R.way.take i)
        have h2 := List.length_take_le i R.way
        omega
      generalize (R.way.take i).filter (fun x => !decide (x.n = n)) = out at *
      by_cases hxn : x.n = n
      · have hxb : (x.n == n) = true := by simpa using hxn
        have hgd : decide (x.n = n) = true := by simpa using hxn
        simp only [hgd, Bool.not_true, if_neg Bool.false_ne_true, List.append_nil] at htf
        go_wp2
        go_roundg (R.way.length - i)
        case measure => omega
        case rel => exact ⟨i + 1, by go_num, by omega, by omega, by rw [htf]; exact hO, hF, hN⟩
      · have hxb : (x.n == n) = false := by simpa using hxn
        have hO1 := hO.fr ((Fr.refl [] wr).alloc (.cells x.arr 64)) (by simp)
        go_wp2_with (refine wpList_own_append t41 hO1 (rd_block12 (w := wr) (x := x)) (cells_one12 _) (by simp) (by unfold maxLen; omega) (by omega) rfl rfl rfl rfl (fun v' w4 q1 q2 q3 => ?_))
        have hgd : decide (x.n = n) = false := by simpa using hxn
        simp only [hgd, Bool.not_false, if_true] at htf
        go_roundg (R.way.length - i)
        case measure => omega
        case rel =>
          refine ⟨i + 1, by go_num, by omega, by omega, by rw [htf, List.length_append, List.flatMap_append]; simpa using q1, (hF.alloc _).andThen q2 (fun g hg => .inr (hN g hg)), fun g hg => ?_⟩
          rcases q3 g hg with h1 | h1
          · exact hN g h1
          · have := hF.size; simp at h1; omega
    · obtain rfl : i = R.way.length := by omega
      have hz := hr.blk.frozen 0
      have hlen := List.length_filter_le (fun x : Rw => !decide (x.n = n)) R.way
      rw [List.take_of_length_le (Nat.le_refl _)] at hO hN
      have fin := h.setWay hF hO hN (by omega)
      rw [List.take_of_length_le (Nat.le_refl _)]
      go_wp2
      go_end0
      exact ⟨rfl, fin⟩
theorem rlose_t (t : ByteArray) (h : RefIn w r vw va R) :
   Calls Try.prog 26 #[.pointer (some ⟨r, 0, none⟩), .string t] w fun e w' => e = .returned (.tuple #[]) ∧ RefPost w r vw va (R.lose t) w' := by
  have hl1 := h.l2
  obtain ⟨A, cap, rfl, -⟩ := h.oa.form
  go_enter Try.func26, Try.ntmps26
  go_wp2_with fail
  go_loopg [4, 5] (R.all.length + 1) (fun k s4 s5 wr => ∃ i : Nat, s5 = .int .i64 i ∧ i ≤ R.all.length ∧ R.all.length - i < k ∧ Own wr 64 12 s4 ((R.all.take i).filter fun x => !decide (x.tok = t)).length (((R.all.take i).filter fun x => !decide (x.tok = t)).flatMap Rw.cells) ∧ Fr [] w wr ∧ (∀ g ∈ rowOf s4, w.heap.size ≤ g))
  case atStart => exact ⟨0, rfl, by omega, by omega, Own.nil _ _ _, Fr.refl _ _, by simp [rowOf, Value.ownBlock]⟩
  case round =>
    obtain ⟨i, rfl, hi, hk, hO, hF, hN⟩ := hrel
    have hr := h.nilfr hF
    have hc := hr.blk.c5
    obtain ⟨A4, c4, rfl, -⟩ := hO.form
    by_cases hil : i < R.all.length
    · obtain ⟨g, cap', hv, hgl, hat⟩ := own_at12 hr.oa rfl hil
      injection hv with hv _ hv3
      subst hv hv3
      have htf := take_filter (p := fun x => !decide (x.tok = t)) hil
      generalize hx : R.all[i] = x at *
      obtain ⟨d0, d1, d2, d3, d4, d5, d6, d7, d8, d9, d10, d11⟩ := hat
      have hlen : ((R.all.take i).filter fun x => !decide (x.tok = t)).length ≤ 1000 := by
        have := List.length_filter_le (fun x : Rw => !decide (x.tok = t)) (R.all.take i)
        have h2 := List.length_take_le i R.all
        omega
      generalize (R.all.take i).filter (fun x => !decide (x.tok = t)) = out at *
      by_cases hxn : x.tok = t
      · have hxb : (x.tok.toList == t.toList) = true := by rw [toList_beq]; simpa using hxn
        have hgd : decide (x.tok = t) = true := by simpa using hxn
        simp only [hgd, Bool.not_true, if_neg Bool.false_ne_true, List.append_nil] at htf
        go_wp2
        go_roundg (R.all.length - i)
        case measure => omega
        case rel => exact ⟨i + 1, by go_num, by omega, by omega, by rw [htf]; exact hO, hF, hN⟩
      · have hxb : (x.tok.toList == t.toList) = false := by rw [toList_beq]; simpa using hxn
        have hO1 := hO.fr ((Fr.refl [] wr).alloc (.cells x.arr 64)) (by simp)
        go_wp2_with (refine wpList_own_append t41 hO1 (rd_block12 (w := wr) (x := x)) (cells_one12 _) (by simp) (by unfold maxLen; omega) (by omega) rfl rfl rfl rfl (fun v' w4 q1 q2 q3 => ?_))
        have hgd : decide (x.tok = t) = false := by simpa using hxn
        simp only [hgd, Bool.not_false, if_true] at htf
        go_roundg (R.all.length - i)
        case measure => omega
        case rel =>
          refine ⟨i + 1, by go_num, by omega, by omega, by rw [htf, List.length_append, List.flatMap_append]; simpa using q1, (hF.alloc _).andThen q2 (fun g hg => .inr (hN g hg)), fun g hg => ?_⟩
          rcases q3 g hg with h1 | h1
          · exact hN g h1
          · have := hF.size; simp at h1; omega
    · obtain rfl : i = R.all.length := by omega
      have hz := hr.blk.frozen 1
      have hlen := List.length_filter_le (fun x : Rw => !decide (x.tok = t)) R.all
      rw [List.take_of_length_le (Nat.le_refl _)] at hO hN
      have fin := h.setAll hF hO hN (fun p hp => (List.mem_filter.1 hp).1) (by omega)
      rw [List.take_of_length_le (Nat.le_refl _)]
      go_wp2
      go_end0
      exact ⟨rfl, fin⟩
end
end Go.Proofs.Ythegggfpofdcdaa
