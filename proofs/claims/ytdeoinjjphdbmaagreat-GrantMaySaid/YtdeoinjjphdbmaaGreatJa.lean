/- Walks: the document's words: is it one?, is it among them?, is each among them? Conditions: each theorem's own. -/
import Derived.Test.YtdeoinjjphdbmaaGreatGm
namespace Go.Proofs.YtdeoinjjphdbmaaGreat
open Go.RowKit Go.Sig

set_option maxHeartbeats 2000000 in
theorem rword_t (w : World) (s : ByteArray) (hs : s.size ≤ 150000000000000) : Calls Tryz.prog 63 #[.string s] w fun e w' => e = .returned (.bool (isWord s)) ∧ w = w' := by
  go_enter Tryz.func63, Tryz.ntmps63
  by_cases h1 : 1 ≤ s.size
  · have d1 : decide ((s.size : Int) < 1) = false := decide_eq_false (by omega)
    have h1' : 1 ≤ (s.size : Int) := by omega
    have h1h := Lib.hid h1
    by_cases h2 : s.size ≤ 64
    · have d2 : decide (64 < (s.size : Int)) = false := decide_eq_false (by omega)
      have h2' : (s.size : Int) ≤ 64 := by omega
      have h2h := Lib.hid h2
      clear h1 h2
      go_wp2_with fail
      go_loopg [3, 4] (s.size + 1) (fun gk s3 s4 wr => ∃ (i : Nat), s3 = .int .i64 i ∧ i ≤ s.size ∧ s.size - i < gk ∧ (s.data.toList.take i).all wordB = true ∧ w = wr)
      case atStart => exact ⟨0, rfl, by omega, by omega, rfl, rfl⟩
      case round =>
        obtain ⟨i, rfl, hi, hk, hall, rfl⟩ := hrel
        have hallh := Lib.hid hall
        clear hall
        by_cases hlt : i < s.size
        · have hlt' : (i : Int) < s.size := by omega
          have hlth := Lib.hid hlt
          have hcases : s[i].toNat < 33 ∨ (s[i].toNat : Int) = 33 ∨ s[i].toNat = 34 ∨ (35 ≤ s[i].toNat ∧ s[i].toNat ≤ 91) ∨ s[i].toNat = 92 ∨ (93 ≤ s[i].toNat ∧ s[i].toNat ≤ 126) ∨ 126 < s[i].toNat := by omega
          rcases hcases with hc | hc | hc | hc | hc | hc | hc
          · have hw := Lib.hid (show wordB s[i] = false by unfold wordB; simp; omega)
            have hch := Lib.hid hc
            clear hc
            go_wp2_with fail
            all_goals first
              | (exfalso; have hx := hch.out; (try simp only [bne_iff_ne, ne_eq, bne_eq_false_iff_eq] at *); omega)
              | skip
            all_goals
              go_ret
              exact ⟨ret_eq (by unfold isWord; rw [all_no hlth.out hw.out]; rfl), rfl⟩
          · have hw := Lib.hid (show wordB s[i] = true by unfold wordB; simp; omega)
            have hch := Lib.hid hc
            clear hc
            go_wp2_with fail
            all_goals first
              | (exfalso; have hx := hch.out; (try simp only [bne_iff_ne, ne_eq, bne_eq_false_iff_eq] at *); omega)
              | skip
            all_goals
              go_roundg (s.size - i)
              case measure => omega
              case rel => exact ⟨i + 1, by go_num, by have := hlth.out; omega, by have := hlth.out; omega, all_next hlth.out hallh.out hw.out, rfl⟩
          · have hw := Lib.hid (show wordB s[i] = false by unfold wordB; simp; omega)
            have hch := Lib.hid hc
            clear hc
            go_wp2_with fail
            all_goals first
              | (exfalso; have hx := hch.out; (try simp only [bne_iff_ne, ne_eq, bne_eq_false_iff_eq] at *); omega)
              | skip
            all_goals
              go_ret
              exact ⟨ret_eq (by unfold isWord; rw [all_no hlth.out hw.out]; rfl), rfl⟩
          · have hw := Lib.hid (show wordB s[i] = true by unfold wordB; simp; omega)
            have hch := Lib.hid hc
            clear hc
            go_wp2_with fail
            all_goals first
              | (exfalso; have hx := hch.out; (try simp only [bne_iff_ne, ne_eq, bne_eq_false_iff_eq] at *); omega)
              | skip
            all_goals
              go_roundg (s.size - i)
              case measure => omega
              case rel => exact ⟨i + 1, by go_num, by have := hlth.out; omega, by have := hlth.out; omega, all_next hlth.out hallh.out hw.out, rfl⟩
          · have hw := Lib.hid (show wordB s[i] = false by unfold wordB; simp; omega)
            have hch := Lib.hid hc
            clear hc
            go_wp2_with fail
            all_goals first
              | (exfalso; have hx := hch.out; (try simp only [bne_iff_ne, ne_eq, bne_eq_false_iff_eq] at *); omega)
              | skip
            all_goals
              go_ret
              exact ⟨ret_eq (by unfold isWord; rw [all_no hlth.out hw.out]; rfl), rfl⟩
          · have hw := Lib.hid (show wordB s[i] = true by unfold wordB; simp; omega)
            have hch := Lib.hid hc
            clear hc
            go_wp2_with fail
            all_goals first
              | (exfalso; have hx := hch.out; (try simp only [bne_iff_ne, ne_eq, bne_eq_false_iff_eq] at *); omega)
              | skip
            all_goals
              go_roundg (s.size - i)
              case measure => omega
              case rel => exact ⟨i + 1, by go_num, by have := hlth.out; omega, by have := hlth.out; omega, all_next hlth.out hallh.out hw.out, rfl⟩
          · have hw := Lib.hid (show wordB s[i] = false by unfold wordB; simp; omega)
            have hch := Lib.hid hc
            clear hc
            go_wp2_with fail
            all_goals first
              | (exfalso; have hx := hch.out; (try simp only [bne_iff_ne, ne_eq, bne_eq_false_iff_eq] at *); omega)
              | skip
            all_goals
              go_ret
              exact ⟨ret_eq (by unfold isWord; rw [all_no hlth.out hw.out]; rfl), rfl⟩
        · have hge : ¬(i : Int) < s.size := by omega
          have ha := hallh.out
          rw [str_full (by omega)] at ha
          have hah := Lib.hid ha
          clear hlt ha hk
          go_wp2_with fail
          go_ret
          exact ⟨ret_eq (by unfold isWord; rw [hah.out, decide_eq_true h1h.out, decide_eq_true h2h.out]; rfl), rfl⟩
    · have d2 : decide (64 < (s.size : Int)) = true := decide_eq_true (by omega)
      have h2h := Lib.hid h2
      clear h1 h2
      go_wp2_with fail
      go_ret
      exact ⟨ret_eq (by unfold isWord; rw [decide_eq_false h2h.out, Bool.and_false]), rfl⟩
  · have d1 : decide ((s.size : Int) < 1) = true := decide_eq_true (by omega)
    have h1h := Lib.hid h1
    clear h1
    go_wp2_with fail
    go_ret
    exact ⟨ret_eq (by unfold isWord; rw [decide_eq_false h1h.out, Bool.and_false, Bool.false_and]), rfl⟩
theorem any_take {p : ByteArray → Bool} {l : List ByteArray} {i : Nat} (hi : i < l.length) (h : (l.take i).any p = false) (hp : p l[i] = false) : (l.take (i + 1)).any p = false := by
  rw [List.take_succ_eq_append_getElem hi, List.any_append, h]
  simpa using hp
set_option maxHeartbeats 2000000 in
theorem rhas_t (w : World) (A : Option Addr) (n c : Nat) (l : List ByteArray) (s : ByteArray) (hA : Rd w 1 A n (strCells l)) (hn : l.length = n) (hmax : n ≤ 150000000000000) :
    Calls Tryz.prog 64 #[.slice A n c, .string s] w fun e w' => e = .returned (.bool (l.any fun x => decide (x = s))) ∧ w = w' := by
  have hAh := Lib.hid hA
  have hnh := Lib.hid hn
  clear hA hn
  go_enter Tryz.func64, Tryz.ntmps64
  go_wp2_with fail
  go_loopg [5] (n + 1) (fun gk s5 wr => ∃ (i : Nat), s5 = .int .i64 i ∧ i ≤ n ∧ n - i < gk ∧ ((l.take i).any fun x => decide (x = s)) = false ∧ w = wr)
  case atStart => exact ⟨0, rfl, by omega, by omega, rfl, rfl⟩
  case round =>
    obtain ⟨i, rfl, hi, hk, hall, rfl⟩ := hrel
    have hallh := Lib.hid hall
    clear hall
    by_cases hlt : i < n
    · have hlt' : (i : Int) < n := by omega
      have hlth := Lib.hid hlt
      have hil : i < l.length := by rw [hnh.out]; exact hlt
      obtain ⟨b0, o0, rfl, hc⟩ := hAh.out.2 (by omega)
      have hilh := Lib.hid hil
      obtain ⟨x, hx⟩ : ∃ z, Hid (l[i]'hil = z) := ⟨_, Lib.hid rfl⟩
      have e0 := hc i (.string x) (by rw [← hx.out]; exact strCells_at hil)
      have htl := toList_beq x s
      clear hc hlt
      by_cases he : x = s
      · rw [decide_eq_true he] at htl
        have hv := Lib.hid (show (l.any fun x => decide (x = s)) = true from List.any_eq_true.2 ⟨l[i]'hilh.out, List.getElem_mem _, by rw [hx.out]; exact decide_eq_true he⟩)
        clear he
        go_wp2_with fail
        go_ret
        exact ⟨ret_eq hv.out.symm, rfl⟩
      · rw [decide_eq_false he] at htl
        have hv := Lib.hid (any_take hilh.out hallh.out (by simp only [hx.out]; exact decide_eq_false he))
        clear he
        go_wp2_with fail
        go_roundg (n - i)
        case measure => omega
        case rel => exact ⟨i + 1, by go_num, by have := hlth.out; omega, by have := hlth.out; omega, hv.out, rfl⟩
    · have hge : ¬(i : Int) < n := by omega
      have hv := Lib.hid (show (l.any fun x => decide (x = s)) = false by
        have := hallh.out
        rwa [List.take_of_length_le (by rw [hnh.out]; omega)] at this)
      clear hlt hk
      go_wp2_with fail
      go_ret
      exact ⟨ret_eq hv.out.symm, rfl⟩
theorem all_take1 {p : ByteArray → Bool} {l : List ByteArray} {i : Nat} (hi : i < l.length) (h : (l.take i).all p = true) (hp : p l[i] = true) : (l.take (i + 1)).all p = true := by
  rw [List.take_succ_eq_append_getElem hi, List.all_append, h]
  simpa using hp
theorem all_not1 {p : ByteArray → Bool} {l : List ByteArray} {i : Nat} (hi : i < l.length) (hp : p l[i] = false) : l.all p = false := by
  rw [← Bool.not_eq_true, List.all_eq_true]
  intro h
  have := h _ (List.getElem_mem hi)
  rw [hp] at this
  cases this
set_option maxRecDepth 100000 in
set_option maxHeartbeats 2000000 in
theorem rwithin_t (w : World) (A B : Option Addr) (n m c d : Nat) (a b : List ByteArray) (hA : Rd w 1 A n (strCells a)) (hn : a.length = n) (hB : Rd w 1 B m (strCells b)) (hm : b.length = m) (hmax : n ≤ 150000000000000) (hmax2 : m ≤ 150000000000000) (hsa : ∀ s ∈ a, s.size ≤ 150000000000000) :
    Calls Tryz.prog 33 #[.slice A n c, .slice B m d] w fun e w' => e = .returned (.bool (within a b)) ∧ w = w' := by
  have hAh := Lib.hid hA
  have hnh := Lib.hid hn
  have hsh := Lib.hid hsa
  have hhas := Lib.hid (fun s => rhas_t w B m d b s hB hm hmax2)
  clear hA hn hsa hB hm
  unfold within
  go_enter Tryz.func33, Tryz.ntmps33
  go_wp2_with fail
  go_loopg [5] (n + 1) (fun gk s5 wr => ∃ (i : Nat), s5 = .int .i64 i ∧ i ≤ n ∧ n - i < gk ∧ ((a.take i).all fun s => !isWord s || b.any fun x => decide (x = s)) = true ∧ w = wr)
  case atStart => exact ⟨0, rfl, by omega, by omega, rfl, rfl⟩
  case round =>
    obtain ⟨i, rfl, hi, hk, hall, rfl⟩ := hrel
    have hallh := Lib.hid hall
    clear hall
    by_cases hlt : i < n
    · have hlt' : (i : Int) < n := by omega
      have hlth := Lib.hid hlt
      have hil : i < a.length := by rw [hnh.out]; exact hlt
      obtain ⟨b0, o0, rfl, hc⟩ := hAh.out.2 (by omega)
      have hilh := Lib.hid hil
      obtain ⟨x, hx⟩ : ∃ z, Hid (a[i]'hil = z) := ⟨_, Lib.hid rfl⟩
      have e0 := hc i (.string x) (by rw [← hx.out]; exact strCells_at hil)
      have hw := rword_t w x (by rw [← hx.out]; exact hsh.out _ (List.getElem_mem hil))
      have hhx := hhas.out x
      clear hc hlt
      cases hwx : isWord x with
      | false =>
        have hv := Lib.hid (all_take1 hilh.out hallh.out (by simp only [hx.out, hwx]; rfl))
        rw [hwx] at hw
        clear hwx hhx
        go_wp2_with (go_at_call 63; refine Calls.mono (show Calls Tryz.prog 63 _ _ _ from hw) ?_; rintro e W1 ⟨rfl, rfl⟩)
        go_roundg (n - i)
        case measure => omega
        case rel => exact ⟨i + 1, by go_num, by have := hlth.out; omega, by have := hlth.out; omega, hv.out, rfl⟩
      | true =>
        have hwxh := Lib.hid hwx
        rw [hwx] at hw
        clear hwx
        cases hbx : b.any fun y => decide (y = x) with
        | false =>
          have hv := Lib.hid (show (a.all fun s => !isWord s || b.any fun x => decide (x = s)) = false from all_not1 hilh.out (by simp only [hx.out, hwxh.out, hbx]; rfl))
          rw [hbx] at hhx
          clear hbx
          go_wp2_with (first
            | (go_at_call 63; refine Calls.mono (show Calls Tryz.prog 63 _ _ _ from hw) ?_; rintro e W1 ⟨rfl, rfl⟩)
            | (go_at_call 64; refine Calls.mono (show Calls Tryz.prog 64 _ _ _ from hhx) ?_; rintro e W2 ⟨rfl, rfl⟩))
          go_ret
          exact ⟨ret_eq hv.out.symm, rfl⟩
        | true =>
          have hv := Lib.hid (all_take1 hilh.out hallh.out (by simp only [hx.out, hwxh.out, hbx]; rfl))
          rw [hbx] at hhx
          clear hbx
          go_wp2_with (first
            | (go_at_call 63; refine Calls.mono (show Calls Tryz.prog 63 _ _ _ from hw) ?_; rintro e W1 ⟨rfl, rfl⟩)
            | (go_at_call 64; refine Calls.mono (show Calls Tryz.prog 64 _ _ _ from hhx) ?_; rintro e W2 ⟨rfl, rfl⟩))
          go_roundg (n - i)
          case measure => omega
          case rel => exact ⟨i + 1, by go_num, by have := hlth.out; omega, by have := hlth.out; omega, hv.out, rfl⟩
    · have hge : ¬(i : Int) < n := by omega
      have hv := Lib.hid (show (a.all fun s => !isWord s || b.any fun x => decide (x = s)) = true by
        have := hallh.out
        rwa [List.take_of_length_le (by rw [hnh.out]; omega)] at this)
      clear hlt hk
      go_wp2_with fail
      go_ret
      exact ⟨ret_eq hv.out.symm, rfl⟩
end Go.Proofs.YtdeoinjjphdbmaaGreat
