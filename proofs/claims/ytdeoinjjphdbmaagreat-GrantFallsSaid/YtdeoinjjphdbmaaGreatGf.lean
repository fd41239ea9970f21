/- Walks: bytes alike, the text of signs, methods by their names. Conditions: each theorem's own. -/
import Derived.Test.YtdeoinjjphdbmaaGreatGe
import Derived.Laws.IdiomStrings
namespace Go.Proofs.YtdeoinjjphdbmaaGreat
open Go.RowKit Go.Sig

theorem tStr : Tryz.prog.underlying 9 = some .string := by kernel_rfl
theorem web_t (w : World) (A : Option Addr) (n c : Nat) (l : List UInt8) (hb : Byts w A n l) (hmax : n ≤ 1000000) (h0 : 0 < (webM l).length) : Calls Tryz.prog 118 #[.slice A n c] w fun e w' => e = .returned (.string ⟨(webM l).toArray⟩) ∧ Fr [] w w' := by
  have hs := sixes_t w A n c l hb hmax
  rw [show sWeb = ⟨#[65, 66, 67, 68, 69, 70, 71, 72, 73, 74, 75, 76, 77, 78, 79, 80, 81, 82, 83, 84, 85, 86, 87, 88, 89, 90, 97, 98, 99, 100, 101, 102, 103, 104, 105, 106, 107, 108, 109, 110, 111, 112, 113, 114, 115, 116, 117, 118, 119, 120, 121, 122, 48, 49, 50, 51, 52, 53, 54, 55, 56, 57, 45, 95]⟩ from rfl] at hs
  obtain ⟨bs, hbs⟩ : ∃ z, Hid (webM l = z) := ⟨_, Lib.hid rfl⟩
  rw [hbs.out] at hs h0 ⊢
  go_enter Tryz.func118, Tryz.ntmps118
  go_wp2_with fail
  refine hs.mono ?_
  rintro e w' ⟨v, rfl, A2, c2, rfl, O2, R2, F2⟩
  obtain ⟨b, o, rfl, hcell⟩ := O2.rd.2 h0
  have hcv := run_convert_bytes_back (P := Tryz.prog) w' 119 9 5 ⟨b, o, none⟩ c2 bs tBytes (by kernel_rfl) tStr (fun j hj => by
    rw [Addr.add_lit]
    exact hcell j _ (by rw [List.getElem?_map, List.getElem?_eq_getElem hj]; rfl))
  have F2h := Lib.hid F2
  clear hcell O2 R2 F2 hs
  go_wp2_with fail
  go_ret
  exact ⟨rfl, F2h.out⟩

theorem acc_step {acc x y : Nat} : (acc ||| (x ^^^ y) = 0) ↔ (acc = 0 ∧ x = y) := by
  rw [Nat.or_eq_zero_iff]
  have : x ^^^ y = 0 ↔ x = y := by
    constructor
    · intro h
      apply Nat.eq_of_testBit_eq
      intro i
      have hb := congrArg (fun n => Nat.testBit n i) h
      simp only [Nat.testBit_xor, Nat.zero_testBit] at hb
      revert hb
      cases x.testBit i <;> cases y.testBit i <;> decide
    · intro h
      rw [h, Nat.xor_self]
  rw [this]
set_option maxHeartbeats 2000000 in
theorem osame_t (w : World) (A B : Option Addr) (n m c d : Nat) (a b : List UInt8) (hA : Byts w A n a) (hB : Byts w B m b) (hmax : n ≤ 1000000) (hmax2 : m ≤ 1000000) :
   Calls Tryz.prog 93 #[.slice A n c, .slice B m d] w fun e w' => e = .returned (.bool (decide (a = b))) ∧ Fr [] w w' := by
  have hna : a.length = n := Byts.length hA
  have hmb : b.length = m := Byts.length hB
  have hAh := Lib.hid hA
  have hBh := Lib.hid hB
  clear hA hB
  by_cases hnm : n = m
  · subst hnm
    go_enter Tryz.func93, Tryz.ntmps93
    go_wp2_with fail
    go_loopg [5, 6, 14] (n + 1) (fun gk s5 s6 s14 wr => ∃ (i acc : Nat), s14 = .int .i64 i ∧ s5 = .int .u8 acc ∧ acc < 256 ∧ i ≤ n ∧ n - i < gk ∧ (acc = 0 ↔ a.take i = b.take i) ∧ Fr [] w wr)
    case atStart => exact ⟨0, 0, rfl, rfl, by omega, by omega, by omega, by simp, Fr.refl _ _⟩
    case round =>
      obtain ⟨i, acc, rfl, rfl, hacc, hi, hk, hq, hF⟩ := hrel
      have hqh := Lib.hid hq
      have hFh := Lib.hid hF
      clear hq
      by_cases hlt : i < n
      · have hlt' : (i : Int) < n := by omega
        have hlth := Lib.hid hlt
        have ha' : i < a.length := by omega
        have hb' : i < b.length := by omega
        obtain ⟨ba, oa, rfl, hca⟩ := (Rd.fr hAh.out hF (by simp [Off])).2 (by omega)
        obtain ⟨bb, ob, rfl, hcb⟩ := (Rd.fr hBh.out hF (by simp [Off])).2 (by omega)
        have cx := hca i (bv a[i]) (by rw [List.getElem?_map, List.getElem?_eq_getElem ha']; rfl)
        have cy := hcb i (bv b[i]) (by rw [List.getElem?_map, List.getElem?_eq_getElem hb']; rfl)
        have hta := Lib.hid (List.take_succ_eq_append_getElem ha')
        have htb := Lib.hid (List.take_succ_eq_append_getElem hb')
        clear hca hcb hF
        obtain ⟨x, hx⟩ : ∃ z, Hid (a[i] = z) := ⟨_, Lib.hid rfl⟩
        obtain ⟨y, hy⟩ : ∃ z, Hid (b[i] = z) := ⟨_, Lib.hid rfl⟩
        rw [hx.out] at cx hta
        rw [hy.out] at cy htb
        unfold bv at cx cy
        have h1 := u8_xor_nat x.toNat y.toNat x.toNat_lt y.toNat_lt
        have hxo : x.toNat ^^^ y.toNat < 256 := Nat.xor_lt_two_pow (n := 8) x.toNat_lt y.toNat_lt
        have h2 := u8_or_nat acc (x.toNat ^^^ y.toNat) hacc hxo
        have ho : acc ||| (x.toNat ^^^ y.toNat) < 256 := Nat.or_lt_two_pow (n := 8) hacc hxo
        have hst := Lib.hid (acc_step (acc := acc) (x := x.toNat) (y := y.toNat))
        obtain ⟨q, hq⟩ : ∃ z, Hid (x.toNat ^^^ y.toNat = z) := ⟨_, Lib.hid rfl⟩
        rw [hq.out] at h1 h2 hxo ho hst
        obtain ⟨r, hr⟩ : ∃ z, Hid (acc ||| q = z) := ⟨_, Lib.hid rfl⟩
        rw [hr.out] at h2 ho hst
        go_upto_region 7 with (fail)
        go_quiet (fail)
        go_wp2
        go_roundg (n - i)
        case measure => omega
        case rel =>
          refine ⟨i + 1, r, by go_num, rfl, ho, by have := hlth.out; omega, by have := hlth.out; omega, ?_, hFh.out.drewN _⟩
          rw [hst.out, hqh.out, hta.out, htb.out]
          constructor
          · rintro ⟨e1, e2⟩
            rw [e1, UInt8.toNat_inj.1 e2]
          · intro e
            have := List.append_inj' e rfl
            exact ⟨this.1, by rw [List.cons.inj this.2 |>.1]⟩
      · have hin : i = n := by omega
        have hge : ¬ (i : Int) < n := by omega
        have hq := hqh.out
        rw [List.take_of_length_le (by omega), List.take_of_length_le (by omega)] at hq
        have hqh2 := Lib.hid hq
        clear hlt hk hF hq
        by_cases h0 : acc = 0
        · have h0' : ((acc : Int) == 0) = true := by rw [beq_iff_eq]; omega
          have h0h := Lib.hid h0
          clear h0
          go_wp2
          go_ret
          exact ⟨ret_eq (decide_eq_true (hqh2.out.1 h0h.out)).symm, hFh.out⟩
        · have h0' : ((acc : Int) == 0) = false := by rw [beq_eq_false_iff_ne]; omega
          have h0h := Lib.hid h0
          clear h0
          go_wp2
          go_ret
          exact ⟨ret_eq (decide_eq_false (fun h => h0h.out (hqh2.out.2 h))).symm, hFh.out⟩
  · have hne : ¬ (n : Int) = m := by omega
    have hne2 : ((n : Int) != m) = true := by simpa using hne
    have hab := Lib.hid (show ¬ a = b from fun h => hnm (by rw [← hna, ← hmb, h]))
    clear hnm hne
    go_enter Tryz.func93, Tryz.ntmps93
    go_wp2
    go_ret
    exact ⟨ret_eq (decide_eq_false hab.out).symm, Fr.refl _ _⟩
end Go.Proofs.YtdeoinjjphdbmaaGreat
