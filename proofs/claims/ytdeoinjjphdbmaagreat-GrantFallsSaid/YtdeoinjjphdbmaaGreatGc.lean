/- Walks: verifiers. Conditions: each theorem's own. -/
import Derived.Test.YtdeoinjjphdbmaaGreatGb
import Derived.Test.YtdeoinjjphdbmaaGreatGy
namespace Go.Proofs.YtdeoinjjphdbmaaGreat
open Go.RowKit Go.Sig

/-- Is it one of the signs that are no letters and no digits? -/
def verS (n : Nat) : Prop := n = 45 ∨ n = 46 ∨ n = 95 ∨ n = 126
theorem idxB_t (w : World) (c : UInt8) : Calls Tryz.prog 135 #[.string ⟨#[45, 46, 95, 126]⟩, .int .u8 (c.toNat : Int)] w fun e w' => ∃ k : Int, e = .returned (.int .i64 k) ∧ (k < 0 ↔ ¬verS c.toNat) ∧ w = w' := by
  refine (Tryz.strings_IndexByte ⟨#[45, 46, 95, 126]⟩ (c.toNat : Int) w).mono ?_
  rintro e w' ⟨rfl, rfl⟩
  refine ⟨_, rfl, ?_, rfl⟩
  have key : ∀ n : Fin 256, (Lib.indexByte [45, 46, 95, 126] (((n.val : Nat) : Int).toNat.toUInt8) < 0 ↔ ¬(n.val = 45 ∨ n.val = 46 ∨ n.val = 95 ∨ n.val = 126)) := by decide +kernel
  exact key ⟨c.toNat, c.toNat_lt⟩
set_option maxHeartbeats 2000000 in
theorem isVer_t (w : World) (s : ByteArray) (hs : s.size ≤ 150000000000000) : Calls Tryz.prog 109 #[.string s] w fun e w' => e = .returned (.bool (verM s)) ∧ w = w' := by
  go_enter Tryz.func109, Tryz.ntmps109
  go_wp2_with fail
  go_loopg [3, 4] (s.size + 1) (fun gk s3 s4 wr => ∃ (i : Nat), s3 = .int .i64 i ∧ i ≤ s.size ∧ s.size - i < gk ∧ (s.data.toList.take i).all verB = true ∧ w = wr)
  case atStart => exact ⟨0, rfl, by omega, by omega, rfl, rfl⟩
  case round =>
    obtain ⟨i, rfl, hi, hk, hall, rfl⟩ := hrel
    have hallh := Lib.hid hall
    clear hall
    by_cases hlt : i < s.size
    · have hlt' : (i : Int) < s.size := by omega
      have hlth := Lib.hid hlt
      have hib := idxB_t w s[i]
      unfold verS at hib
      by_cases hg : (97 ≤ s[i].toNat ∧ s[i].toNat ≤ 122) ∨ (65 ≤ s[i].toNat ∧ s[i].toNat ≤ 90) ∨ (48 ≤ s[i].toNat ∧ s[i].toNat ≤ 57) ∨ (s[i].toNat = 45 ∨ s[i].toNat = 46 ∨ s[i].toNat = 95 ∨ s[i].toNat = 126)
      · have hgh := Lib.hid hg
        have hw := Lib.hid (show verB s[i] = true by unfold verB; simp [← UInt8.toNat_inj]; omega)
        clear hg
        go_wp2_with (go_at_call 135; refine hib.mono ?_; rintro e w' ⟨k, rfl, hkk, rfl⟩)
        all_goals first
          | (exfalso; have hx := hgh.out; (try simp only [Bool.not_eq_eq_eq_not, Bool.not_true, Bool.not_false, decide_eq_true_eq, decide_eq_false_iff_not] at *); omega)
          | skip
        all_goals (go_roundg (s.size - i))
        all_goals first
          | (case measure => omega)
          | skip
        all_goals exact ⟨i + 1, by go_num, by have := hlth.out; omega, by have := hlth.out; omega, all_next hlth.out hallh.out hw.out, rfl⟩
      · have hgh := Lib.hid hg
        have hw := Lib.hid (show verB s[i] = false by unfold verB; simp [← UInt8.toNat_inj]; omega)
        clear hg
        go_wp2_with (go_at_call 135; refine hib.mono ?_; rintro e w' ⟨k, rfl, hkk, rfl⟩)
        all_goals first
          | (exfalso; have hx := hgh.out; (try simp only [Bool.not_eq_eq_eq_not, Bool.not_true, Bool.not_false, decide_eq_true_eq, decide_eq_false_iff_not] at *); omega)
          | (go_ret; exact ⟨ret_eq (by unfold verM; rw [all_no hlth.out hw.out]; rfl), rfl⟩)
    · have hge : ¬(i : Int) < s.size := by omega
      have ha := hallh.out
      rw [str_full (by omega)] at ha
      have hah := Lib.hid ha
      clear hlt ha hk
      by_cases h1 : 43 ≤ s.size
      · have h1' : 43 ≤ (s.size : Int) := by omega
        have h1h := Lib.hid h1
        by_cases h2 : s.size ≤ 128
        · have h2' : (s.size : Int) ≤ 128 := by omega
          have h2h := Lib.hid h2
          clear h1 h2
          go_wp2_with fail
          go_ret
          exact ⟨ret_eq (by unfold verM; rw [hah.out, decide_eq_true h1h.out, decide_eq_true h2h.out]; rfl), rfl⟩
        · have h2' : ¬(s.size : Int) ≤ 128 := by omega
          have h2h := Lib.hid h2
          clear h1 h2
          go_wp2_with fail
          go_ret
          exact ⟨ret_eq (by unfold verM; rw [decide_eq_false h2h.out, Bool.and_false]), rfl⟩
      · have h1' : ¬43 ≤ (s.size : Int) := by omega
        have h1h := Lib.hid h1
        clear h1
        go_wp2_with fail
        go_ret
        exact ⟨ret_eq (by unfold verM; rw [decide_eq_false h1h.out, Bool.and_false, Bool.false_and]), rfl⟩
end Go.Proofs.YtdeoinjjphdbmaaGreat
