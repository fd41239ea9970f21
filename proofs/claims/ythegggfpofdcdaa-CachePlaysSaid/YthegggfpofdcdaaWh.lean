/- Walks: great, do. Conditions: each theorem's own. -/
import Derived.Test.YthegggfpofdcdaaCs
namespace Go.Proofs.Ythegggfpofdcdaa
open Go.RowKit Go.Sig

theorem take_any_succ {α : Type} [Inhabited α] (p : α → Bool) (l : List α) (i : Nat) (h : i < l.length) : (l.take (i + 1)).any p = ((l.take i).any p || p (l.getD i default)) := by
  rw [List.take_succ_eq_append_getElem h, List.any_append]
  simp [List.getD, h]
theorem any_take_mono {α : Type} (p : α → Bool) {l : List α} {i j : Nat} (hij : i ≤ j) (h : (l.take i).any p = true) : (l.take j).any p = true := by
  obtain ⟨x, hx, hp⟩ := List.any_eq_true.1 h
  exact List.any_eq_true.2 ⟨x, (List.take_subset_take_left l hij) hx, hp⟩
theorem any_take_none {α : Type} (p : α → Bool) {l : List α} {i j : Nat} (hij : j ≤ i) (h : (l.take i).any p = false) : (l.take j).any p = false := by
  cases hj : (l.take j).any p with
  | false => rfl
  | true => rw [any_take_mono p hij hj] at h; cases h
theorem any_take_of_all {α : Type} (p : α → Bool) {l : List α} {j : Nat} (h : l.any p = false) : (l.take j).any p = false := by
  cases hj : (l.take j).any p with
  | false => rfl
  | true =>
    obtain ⟨x, hx, hp⟩ := List.any_eq_true.1 hj
    rw [List.any_eq_true.2 ⟨x, List.mem_of_mem_take hx, hp⟩] at h
    cases h

theorem any_get (p : StepM → Bool) {ss : List StepM} (h : (ss.take 80).any p = false) (i : Nat) (hi : i < ss.length) (h80 : i < 80) : p (ss.getD i default) = false := by
  cases hp : p (ss.getD i default) with
  | false => rfl
  | true =>
    have : (ss.take 80).any p = true := by
      refine List.any_eq_true.2 ⟨ss.getD i default, ?_, hp⟩
      have e : ss.getD i default = ss[i] := by simp [List.getD, hi]
      rw [e, List.mem_take_iff_getElem]
      exact ⟨i, by omega, rfl⟩
    rw [this] at h
    cases h

theorem great_t (A : Option Addr) (len cap : Nat) (ss : List StepM) (w : World) (h : Script w A len ss) :
   Calls Try.prog 9 #[.slice A len cap] w fun e w' => e = .returned (.bool (greatB ss)) ∧ w = w' := by
  have hle := h.le
  go_enter Try.func9, Try.ntmps9
  go_wp2
  go_loopg [3] (len + 1) (fun k s3 wr => ∃ i : Nat, s3 = .int .i64 i ∧ i ≤ len ∧ len - i < k ∧ w = wr ∧ (ss.take i).any (fun s => decide (50 < s.a.sl)) = false)
  case atStart => exact ⟨0, rfl, by omega, by omega, rfl, rfl⟩
  case round =>
    obtain ⟨i, rfl, hi, hk, rfl, hany⟩ := hrel
    have Hany := Lib.hid hany
    clear hany
    by_cases hlt : i < len
    · obtain ⟨b, o, rfl, hc⟩ := h.at hlt
      have c8 := hc 8 _ rfl
      rw [show o + i * 13 + 8 = o + i * 13 + 5 + 3 by omega] at c8
      clear hc
      have hs := take_any_succ (fun s : StepM => decide (50 < s.a.sl)) ss i (by rw [h.length]; exact hlt)
      generalize hsd : ss.getD i default = s at c8 hs
      clear hsd
      have Hs := Lib.hid hs
      clear hs
      by_cases h80 : i < 80
      · by_cases hg : 50 < s.a.sl
        · go_wp2
          go_ret
          refine ⟨ret_bool ?_, rfl⟩
          have : (ss.take (i + 1)).any (fun s => decide (50 < s.a.sl)) = true := by rw [Hs.out]; simp [hg]
          exact (any_take_mono _ (by omega) this).symm
        · have hg' : s.a.sl ≤ 50 := by omega
          go_wp2
          go_roundg (len - i)
          case measure => omega
          case rel => exact ⟨i + 1, by go_num, by omega, by omega, rfl, by rw [Hs.out, Hany.out]; simp [hg']⟩
      · have h80' : (80 : Int) ≤ (i : Int) := by omega
        go_wp2
        go_ret
        exact ⟨ret_bool (any_take_none _ (by omega) Hany.out).symm, rfl⟩
    · have hlt' : len ≤ i := by omega
      go_wp2
      go_ret
      refine ⟨ret_bool ?_, rfl⟩
      have := Hany.out
      rw [List.take_of_length_le (by rw [h.length]; omega)] at this
      unfold greatB
      rw [any_take_of_all _ this]
end Go.Proofs.Ythegggfpofdcdaa
