/- Walks: what may be a family's name; texts that are short enough. Conditions: each theorem's own. -/
import Derived.Test.YtdeoinjjphdbmaaGreatSb
import Derived.Test.YtdeoinjjphdbmaaGreatGr
import Derived.Lib.Walk
import Derived.Shelf.Abstract
namespace Go.Proofs.YtdeoinjjphdbmaaGreat
open Go.RowKit Go.Sig

/-! ### The bytes of a string, one by one -/
theorem str_take {s : ByteArray} {i : Nat} (h : i < s.size) : s.data.toList.take (i + 1) = s.data.toList.take i ++ [s[i]] := by
  have h' : i < s.data.toList.length := by rw [Array.length_toList]; exact h
  rw [List.take_succ_eq_append_getElem h', Array.getElem_toList]
  rfl
theorem str_full {s : ByteArray} {i : Nat} (h : s.size ≤ i) : s.data.toList.take i = s.data.toList := List.take_of_length_le (by rw [Array.length_toList]; exact h)
theorem all_no {s : ByteArray} {q : UInt8 → Bool} {i : Nat} (h : i < s.size) (hq : q s[i] = false) : s.data.toList.all q = false := by
  rw [List.all_eq_false]
  refine ⟨s[i], ?_, by simp [hq]⟩
  have h' : i < s.data.toList.length := by rw [Array.length_toList]; exact h
  have := List.getElem_mem h'
  rw [Array.getElem_toList] at this
  exact this
theorem all_next {s : ByteArray} {q : UInt8 → Bool} {i : Nat} (h : i < s.size) (ha : (s.data.toList.take i).all q = true) (hq : q s[i] = true) : (s.data.toList.take (i + 1)).all q = true := by
  rw [str_take h, List.all_append, ha]
  simp [hq]
theorem ret_eq {b c : Bool} (h : b = c) : Ending.returned (.bool b) = Ending.returned (.bool c) := by rw [h]

set_option maxHeartbeats 1000000 in
theorem isWord_t (w : World) (s : ByteArray) (hs : s.size ≤ 150000000000000) : Calls Tryz.prog 107 #[.string s] w fun e w' => e = .returned (.bool (isWord s)) ∧ w = w' := by
  go_enter Tryz.func107, Tryz.ntmps107
  go_wp2_with fail
  go_loopg [3, 4] (s.size + 1) (fun gk s3 s4 wr => ∃ (i : Nat), s3 = .int .i64 i ∧ i ≤ s.size ∧ s.size - i < gk ∧ (s.data.toList.take i).all wordB = true ∧ w = wr)
  case atStart => exact ⟨0, rfl, by omega, by omega, rfl, rfl⟩
  case round =>
    obtain ⟨i, rfl, hi, hk, hall, rfl⟩ := hrel
    have hallh := Lib.hid hall
    clear hall
    by_cases hlt : i < s.size
    · have hlt' : (i : Int) < s.size := by omega
      have hlth := Lib.hid hlt
      by_cases hg : 33 ≤ s[i].toNat ∧ ¬s[i].toNat = 34 ∧ ¬s[i].toNat = 92 ∧ s[i].toNat ≤ 126
      · have hgh := Lib.hid hg
        have hw := Lib.hid (show wordB s[i] = true by unfold wordB; simp; omega)
        clear hg
        go_wp2_with fail
        all_goals first
          | (exfalso; have hx := hgh.out; (try simp only [beq_iff_eq, beq_eq_false_iff_ne, ne_eq] at *); omega)
          | skip
        go_roundg (s.size - i)
        case measure => omega
        case rel => exact ⟨i + 1, by go_num, by have := hlth.out; omega, by have := hlth.out; omega, all_next hlth.out hallh.out hw.out, rfl⟩
      · have hgh := Lib.hid hg
        have hw := Lib.hid (show wordB s[i] = false by unfold wordB; simp; omega)
        clear hg
        go_wp2_with fail
        all_goals first
          | (exfalso; have hx := hgh.out; (try simp only [beq_iff_eq, beq_eq_false_iff_ne, ne_eq] at *); omega)
          | (go_ret; exact ⟨ret_eq (by unfold isWord; rw [all_no hlth.out hw.out]; rfl), rfl⟩)
    · have hge : ¬(i : Int) < s.size := by omega
      have ha := hallh.out
      rw [str_full (by omega)] at ha
      have hah := Lib.hid ha
      clear hlt ha hk
      by_cases h1 : 1 ≤ s.size
      · have h1' : 1 ≤ (s.size : Int) := by omega
        have h1h := Lib.hid h1
        by_cases h2 : s.size ≤ 64
        · have h2' : (s.size : Int) ≤ 64 := by omega
          have h2h := Lib.hid h2
          clear h1 h2
          go_wp2_with fail
          go_ret
          exact ⟨ret_eq (by unfold isWord; rw [hah.out, decide_eq_true h1h.out, decide_eq_true h2h.out]; rfl), rfl⟩
        · have h2' : ¬(s.size : Int) ≤ 64 := by omega
          have h2h := Lib.hid h2
          clear h1 h2
          go_wp2_with fail
          go_ret
          exact ⟨ret_eq (by unfold isWord; rw [decide_eq_false h2h.out, Bool.and_false]), rfl⟩
      · have h1' : ¬1 ≤ (s.size : Int) := by omega
        have h1h := Lib.hid h1
        clear h1
        go_wp2_with fail
        go_ret
        exact ⟨ret_eq (by unfold isWord; rw [decide_eq_false h1h.out, Bool.and_false, Bool.false_and]), rfl⟩

set_option maxHeartbeats 1000000 in
theorem sign_t (w : World) (c : UInt8) : Calls Tryz.prog 100 #[.int .u8 (c.toNat : Int)] w fun e w' => e = .returned (.bool (signB c)) ∧ w = w' := by
  go_enter Tryz.func100, Tryz.ntmps100
  go_wp2_with fail
  all_goals go_ret
  all_goals refine ⟨ret_eq ?_, rfl⟩
  all_goals unfold signB
  all_goals (rw [Bool.eq_iff_iff]; simp only [Bool.or_eq_true, decide_eq_true_eq, beq_iff_eq, true_iff]; omega)
end Go.Proofs.YtdeoinjjphdbmaaGreat
namespace Go.Proofs.YtdeoinjjphdbmaaGreat
open Go.RowKit Go.Sig

def strCells (ls : List ByteArray) : List Value := ls.map Value.string
theorem strCells_append (a b : List ByteArray) : strCells (a ++ b) = strCells a ++ strCells b := List.map_append
theorem strCells_one (l : List ByteArray) : ∀ u ∈ strCells l, u.oneCell' = true := strings_one l
theorem strCells_at {l : List ByteArray} {i : Nat} (h : i < l.length) : (strCells l)[i]? = some (.string l[i]) := by
  unfold strCells
  rw [List.getElem?_map, List.getElem?_eq_getElem h]
  rfl
theorem strCells_length (l : List ByteArray) : (strCells l).length = l.length := List.length_map _

set_option maxHeartbeats 1000000 in
theorem right1_t (w : World) (s : ByteArray) (hs : s.size ≤ 150000000000000) : Calls Tryz.prog 76 #[.agg #[.int .i64 1, .string s, .int .i64 0]] w fun e w' => e = .returned (.bool (idM s)) ∧ Fr [] w w' := by
  go_enter Tryz.func76, Tryz.ntmps76
  go_upto_region 1 with (fail)
  refine wp_gen (fun W => Blk W w.heap.size 107 #[.int .i64 1, .string s, .int .i64 0] ∧ Fr [] w W) ⟨Blk.new _ _ _, (Fr.refl _ _).alloc _⟩ ?_
  rintro W ⟨hB, fW⟩
  obtain ⟨g, HG⟩ : ∃ z, Hid (w.heap.size = z) := ⟨_, Lib.hid rfl⟩
  rw [HG.out] at hB ⊢
  obtain ⟨e0, e1, e2⟩ := hB.c3
  have hgl := hB.lt
  clear hB
  go_wp2_with fail
  go_loopg [3] (s.size + 1) (fun gk s3 wr => ∃ (i : Nat), s3 = .int .i64 i ∧ i ≤ s.size ∧ s.size - i < gk ∧ (s.data.toList.take i).all signB = true ∧ W = wr)
  case atStart => exact ⟨0, rfl, by omega, by omega, rfl, rfl⟩
  case round =>
    obtain ⟨i, rfl, hi, hk, hall, rfl⟩ := hrel
    have hallh := Lib.hid hall
    clear hall
    by_cases hlt : i < s.size
    · have hlt' : (i : Int) < s.size := by omega
      have hlth := Lib.hid hlt
      have hsg := sign_t W s[i]
      obtain ⟨r, hr⟩ : ∃ z, Hid (signB s[i] = z) := ⟨_, Lib.hid rfl⟩
      rw [hr.out] at hsg
      cases r with
      | true =>
        go_wp2_with (go_at_call 100; refine hsg.mono ?_; rintro e w' ⟨rfl, rfl⟩)
        go_roundg (s.size - i)
        case measure => omega
        case rel => exact ⟨i + 1, by go_num, by have := hlth.out; omega, by have := hlth.out; omega, all_next hlth.out hallh.out hr.out, rfl⟩
      | false =>
        go_wp2_with (go_at_call 100; refine hsg.mono ?_; rintro e w' ⟨rfl, rfl⟩)
        go_ret
        exact ⟨ret_eq (by unfold idM; rw [all_no hlth.out hr.out]; rfl), fW⟩
    · have hge : ¬(i : Int) < s.size := by omega
      have ha := hallh.out
      rw [str_full (by omega)] at ha
      have hah := Lib.hid ha
      clear hlt ha hk
      by_cases h1 : 1 ≤ s.size
      · have h1' : 1 ≤ (s.size : Int) := by omega
        have h1h := Lib.hid h1
        by_cases h2 : s.size ≤ 32
        · have h2' : (s.size : Int) ≤ 32 := by omega
          have h2h := Lib.hid h2
          clear h1 h2
          go_wp2_with fail
          go_ret
          exact ⟨ret_eq (by unfold idM; rw [hah.out, decide_eq_true h1h.out, decide_eq_true h2h.out]; rfl), fW⟩
        · have h2' : ¬(s.size : Int) ≤ 32 := by omega
          have h2h := Lib.hid h2
          clear h1 h2
          go_wp2_with fail
          go_ret
          exact ⟨ret_eq (by unfold idM; rw [decide_eq_false h2h.out, Bool.and_false]), fW⟩
      · have h1' : ¬1 ≤ (s.size : Int) := by omega
        have h1h := Lib.hid h1
        clear h1
        go_wp2_with fail
        go_ret
        exact ⟨ret_eq (by unfold idM; rw [decide_eq_false h1h.out, Bool.and_false, Bool.false_and]), fW⟩
theorem id_t (w : World) (s : ByteArray) (hs : s.size ≤ 150000000000000) : Calls Tryz.prog 48 #[.string s] w fun e w' => e = .returned (.bool (idM s)) ∧ Fr [] w w' := by
  have hr := right1_t w s hs
  go_enter Tryz.func48, Tryz.ntmps48
  go_wp2_with (go_at_call 76; refine hr.mono ?_; rintro e w' ⟨rfl, F⟩)
  go_ret
  exact ⟨rfl, F⟩
theorem textsA_t (w : World) (s : ByteArray) : Calls Tryz.prog 78 #[.string s] w fun e w' => e = .returned (.bool (decide (128 < s.size))) ∧ w = w' := by
  by_cases h : 128 < s.size
  · have h' : (128 : Int) < s.size := by omega
    rw [decide_eq_true h]
    go_enter Tryz.func78, Tryz.ntmps78
    go_wp2_with fail
    go_ret
    exact ⟨rfl, rfl⟩
  · have h' : ¬(128 : Int) < s.size := by omega
    rw [decide_eq_false h]
    go_enter Tryz.func78, Tryz.ntmps78
    go_wp2_with fail
    go_ret
    exact ⟨rfl, rfl⟩
/-- A place, if there is one that is meant. -/
def IdxPost (w : World) (b : Bool) (e : Ending) (w' : World) : Prop := ∃ k : Int, e = .returned (.int .i64 k) ∧ (0 ≤ k ↔ b = true) ∧ w = w'
set_option maxHeartbeats 1000000 in
theorem idxT_t (w : World) (A : Option Addr) (n c : Nat) (ls : List ByteArray) (hR : Rd w 1 A n (strCells ls)) (hn : ls.length = n) (hmax : n ≤ 150000000000000) :
    Calls Tryz.prog 91 #[.slice A n c, .func (.func 78) #[] #[]] w (IdxPost w (ls.any fun s => decide (128 < s.size))) := by
  have eg : ∀ args w, (callFunc 78 args).run Tryz.prog w = .ok (.enter 78 args) w := enters_of Tryz.func78 (by kernel_rfl) rfl
  go_enter Tryz.func91, Tryz.ntmps91
  go_wp2_with fail
  go_loopg [5, 8] (n + 1) (fun gk s5 s8 wr => ∃ (i : Nat), s8 = .int .i64 i ∧ i ≤ n ∧ n - i < gk ∧ ((ls.take i).any fun s => decide (128 < s.size)) = false ∧ w = wr)
  case atStart => exact ⟨0, rfl, by omega, by omega, rfl, rfl⟩
  case round =>
    obtain ⟨i, rfl, hi, hk, hno, rfl⟩ := hrel
    have hnoh := Lib.hid hno
    clear hno
    by_cases hlt : i < n
    · have hlt' : (i : Int) < n := by omega
      have hlth := Lib.hid hlt
      have hi' : i < ls.length := by omega
      obtain ⟨b, o, rfl, hcell⟩ := hR.2 (by omega)
      have cs := hcell _ _ (strCells_at hi')
      have htk := Lib.hid (List.take_succ_eq_append_getElem hi')
      have hmem := Lib.hid (List.getElem_mem hi')
      have hRh := Lib.hid hR
      clear hcell hR
      obtain ⟨s, hs⟩ : ∃ z, Hid (ls[i] = z) := ⟨_, Lib.hid rfl⟩
      rw [hs.out] at cs htk hmem
      have hc := textsA_t w s
      obtain ⟨r, hr⟩ : ∃ z, Hid (decide (128 < s.size) = z) := ⟨_, Lib.hid rfl⟩
      rw [hr.out] at hc
      cases r with
      | true =>
        go_wp2_with (go_at_call 78; refine hc.mono ?_; rintro e w' ⟨rfl, rfl⟩)
        go_ret
        exact ⟨i, rfl, ⟨fun _ => List.any_eq_true.2 ⟨s, hmem.out, hr.out⟩, fun _ => by omega⟩, rfl⟩
      | false =>
        go_wp2_with (go_at_call 78; refine hc.mono ?_; rintro e w' ⟨rfl, rfl⟩)
        go_roundg (n - i)
        case measure => omega
        case rel =>
          refine ⟨i + 1, by go_num, by have := hlth.out; omega, by have := hlth.out; omega, ?_, rfl⟩
          rw [htk.out, List.any_append, hnoh.out]
          simp [hr.out]
    · have hge : ¬(i : Int) < n := by omega
      have ha := hnoh.out
      rw [List.take_of_length_le (by omega)] at ha
      have hah := Lib.hid ha
      clear hlt ha hk
      go_wp2_with fail
      go_ret
      exact ⟨-1, rfl, ⟨fun h => by omega, fun h => by rw [hah.out] at h; cases h⟩, rfl⟩
theorem texts_t (w : World) (A : Option Addr) (n c : Nat) (ls : List ByteArray) (hR : Rd w 1 A n (strCells ls)) (hn : ls.length = n) (hmax : n ≤ 150000000000000) :
    Calls Tryz.prog 49 #[.slice A n c] w fun e w' => e = .returned (.bool (textsM ls)) ∧ w = w' := by
  have hi := idxT_t w A n c ls hR hn hmax
  have hc : Calls Tryz.prog 77 #[.slice A n c, .func (.func 78) #[] #[]] w fun e w' => e = .returned (.bool (ls.any fun s => decide (128 < s.size))) ∧ w = w' := by
    go_enter Tryz.func77, Tryz.ntmps77
    go_wp2_with (go_at_call 91; refine hi.mono ?_; rintro e w' ⟨k, rfl, hk, rfl⟩)
    go_ret
    refine ⟨ret_eq ?_, rfl⟩
    first
      | rfl
      | (rw [Bool.eq_iff_iff, decide_eq_true_eq]; first | exact hk | exact hk.symm)
      | (rw [Bool.eq_iff_iff, List.any_eq_true]; simp)
  have ht : (!ls.any fun s => decide (128 < s.size)) = textsM ls := by
    unfold textsM
    rw [List.not_any_eq_all_not]
    congr 1
    funext s
    rw [Bool.eq_iff_iff]
    simp
  go_enter Tryz.func49, Tryz.ntmps49
  go_wp2_with (go_at_call 77; refine hc.mono ?_; rintro e w' ⟨rfl, rfl⟩)
  go_ret
  exact ⟨rfl, rfl⟩
end Go.Proofs.YtdeoinjjphdbmaaGreat
