/- Walks: the signs of a family, words. Conditions: each theorem's own. -/
import Derived.Test.YtdeoinjjphdbmaaGreatSa
import Derived.Test.YtdeoinjjphdbmaaGreatGr
namespace Go.Proofs.YtdeoinjjphdbmaaGreat
open Go.RowKit Go.Sig

/-! ### The bytes of a string, one by one -/
theorem str_take {s : ByteArray} {i : Nat} (h : i < s.size) : s.data.toList.take (i + 1) = s.data.toList.take i ++ [s[i]] := by
  have h' : i < s.data.toList.length := by rw [Array.length_toList]; exact h
  rw [List.take_succ_eq_append_getElem h', Array.getElem_toList]
  rfl
theorem str_full {s : ByteArray} {i : Nat} (h : s.size ≤ i) : s.data.toList.take i = s.data.toList := List.take_of_length_le (by rw [Array.length_toList]; exact h)
theorem all_no {s : ByteArray} {q : UInt8 → Bool} {i : Nat} (h : i < s.size) (hq : q s[i] = false) : s.data.toList.all q = false := by
  rw [List.all_eq_false]
  refine ⟨s[i], ?_, by simp [hq]⟩
  have h' : i < s.data.toList.length := by rw [Array.length_toList]; exact h
  have := List.getElem_mem h'
  rw [Array.getElem_toList] at this
  exact this
theorem all_next {s : ByteArray} {q : UInt8 → Bool} {i : Nat} (h : i < s.size) (ha : (s.data.toList.take i).all q = true) (hq : q s[i] = true) : (s.data.toList.take (i + 1)).all q = true := by
  rw [str_take h, List.all_append, ha]
  simp [hq]
theorem ret_eq {b c : Bool} (h : b = c) : Ending.returned (.bool b) = Ending.returned (.bool c) := by rw [h]

set_option maxHeartbeats 1000000 in
theorem isWord_t (w : World) (s : ByteArray) (hs : s.size ≤ 150000000000000) : Calls Tryz.prog 107 #[.string s] w fun e w' => e = .returned (.bool (isWord s)) ∧ w = w' := by
  go_enter Tryz.func107, Tryz.ntmps107
  go_wp2_with fail
  go_loopg [3, 4] (s.size + 1) (fun gk s3 s4 wr => ∃ (i : Nat), s3 = .int .i64 i ∧ i ≤ s.size ∧ s.size - i < gk ∧ (s.data.toList.take i).all wordB = true ∧ w = wr)
  case atStart => exact ⟨0, rfl, by omega, by omega, rfl, rfl⟩
  case round =>
    obtain ⟨i, rfl, hi, hk, hall, rfl⟩ := hrel
    have hallh := Lib.hid hall
    clear hall
    by_cases hlt : i < s.size
    · have hlt' : (i : Int) < s.size := by omega
      have hlth := Lib.hid hlt
      by_cases hg : 33 ≤ s[i].toNat ∧ ¬s[i].toNat = 34 ∧ ¬s[i].toNat = 92 ∧ s[i].toNat ≤ 126
      · have hgh := Lib.hid hg
        have hw := Lib.hid (show wordB s[i] = true by unfold wordB; simp; omega)
        clear hg
        go_wp2_with fail
        all_goals first
          | (exfalso; have hx := hgh.out; (try simp only [beq_iff_eq, beq_eq_false_iff_ne, ne_eq] at *); omega)
          | skip
        go_roundg (s.size - i)
        case measure => omega
        case rel => exact ⟨i + 1, by go_num, by have := hlth.out; omega, by have := hlth.out; omega, all_next hlth.out hallh.out hw.out, rfl⟩
      · have hgh := Lib.hid hg
        have hw := Lib.hid (show wordB s[i] = false by unfold wordB; simp; omega)
        clear hg
        go_wp2_with fail
        all_goals first
          | (exfalso; have hx := hgh.out; (try simp only [beq_iff_eq, beq_eq_false_iff_ne, ne_eq] at *); omega)
          | (go_ret; exact ⟨ret_eq (by unfold isWord; rw [all_no hlth.out hw.out]; rfl), rfl⟩)
    · have hge : ¬(i : Int) < s.size := by omega
      have ha := hallh.out
      rw [str_full (by omega)] at ha
      have hah := Lib.hid ha
      clear hlt ha hk
      by_cases h1 : 1 ≤ s.size
      · have h1' : 1 ≤ (s.size : Int) := by omega
        have h1h := Lib.hid h1
        by_cases h2 : s.size ≤ 64
        · have h2' : (s.size : Int) ≤ 64 := by omega
          have h2h := Lib.hid h2
          clear h1 h2
          go_wp2_with fail
          go_ret
          exact ⟨ret_eq (by unfold isWord; rw [hah.out, decide_eq_true h1h.out, decide_eq_true h2h.out]; rfl), rfl⟩
        · have h2' : ¬(s.size : Int) ≤ 64 := by omega
          have h2h := Lib.hid h2
          clear h1 h2
          go_wp2_with fail
          go_ret
          exact ⟨ret_eq (by unfold isWord; rw [decide_eq_false h2h.out, Bool.and_false]), rfl⟩
      · have h1' : ¬1 ≤ (s.size : Int) := by omega
        have h1h := Lib.hid h1
        clear h1
        go_wp2_with fail
        go_ret
        exact ⟨ret_eq (by unfold isWord; rw [decide_eq_false h1h.out, Bool.and_false, Bool.false_and]), rfl⟩

set_option maxHeartbeats 1000000 in
theorem sign_t (w : World) (c : UInt8) : Calls Tryz.prog 100 #[.int .u8 (c.toNat : Int)] w fun e w' => e = .returned (.bool (signB c)) ∧ w = w' := by
  go_enter Tryz.func100, Tryz.ntmps100
  go_wp2_with fail
  all_goals go_ret
  all_goals refine ⟨ret_eq ?_, rfl⟩
  all_goals unfold signB
  all_goals (rw [Bool.eq_iff_iff]; simp only [Bool.or_eq_true, decide_eq_true_eq, beq_iff_eq, true_iff]; omega)
end Go.Proofs.YtdeoinjjphdbmaaGreat
