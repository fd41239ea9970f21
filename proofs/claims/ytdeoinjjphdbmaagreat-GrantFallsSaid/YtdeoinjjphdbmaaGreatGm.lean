/- Walks: texts alike; sets that aren't too great; copies of lists. Conditions: each theorem's own. -/
import Derived.Test.YtdeoinjjphdbmaaGreatGl
namespace Go.Proofs.YtdeoinjjphdbmaaGreat
open Go.RowKit Go.Sig

set_option maxRecDepth 100000 in
set_option maxHeartbeats 2000000 in
theorem eqS_t (w : World) (A B : Option Addr) (n m c d : Nat) (a b : List ByteArray) (hA : Rd w 1 A n (strCells a)) (hn : a.length = n) (hB : Rd w 1 B m (strCells b)) (hm : b.length = m) (hmax : n ≤ 150000000000000) (hmax2 : m ≤ 150000000000000) :
   Calls Tryz.prog 59 #[.slice A n c, .slice B m d] w fun e w' => e = .returned (.bool (decide (a = b))) ∧ Fr [] w w' := by
  have hAh := Lib.hid hA
  have hBh := Lib.hid hB
  clear hA hB
  by_cases hnm : n = m
  · subst hnm
    go_enter Tryz.func59, Tryz.ntmps59
    go_wp2_with fail
    go_loopg [5, 13] (n + 1) (fun gk s5 s13 wr => ∃ (i : Nat), s13 = .int .i64 i ∧ i ≤ n ∧ n - i < gk ∧ a.take i = b.take i ∧ Fr [] w wr)
    case atStart => exact ⟨0, rfl, by omega, by omega, rfl, Fr.refl _ _⟩
    case round =>
      obtain ⟨i, rfl, hi, hk, htk, hF⟩ := hrel
      have hFh := Lib.hid hF
      have htkh := Lib.hid htk
      clear htk
      by_cases hlt : i < n
      · have hlt' : (i : Int) < n := by omega
        have hlth := Lib.hid hlt
        have ha' : i < a.length := by omega
        have hb' : i < b.length := by omega
        obtain ⟨ba, oa, rfl, hca⟩ := (Rd.fr hAh.out hF (by simp [Off])).2 (by omega)
        obtain ⟨bb, ob, rfl, hcb⟩ := (Rd.fr hBh.out hF (by simp [Off])).2 (by omega)
        have cn := hca _ _ (strCells_at ha')
        have dn := hcb _ _ (strCells_at hb')
        have hta := Lib.hid (List.take_succ_eq_append_getElem ha')
        have htb := Lib.hid (List.take_succ_eq_append_getElem hb')
        have hge := Lib.hid (fun (h : a = b) => show a[i] = b[i] by subst h; rfl)
        clear hca hcb hF
        obtain ⟨y, hy⟩ : ∃ z, Hid (a[i] = z) := ⟨_, Lib.hid rfl⟩
        obtain ⟨z, hz⟩ : ∃ z, Hid (b[i] = z) := ⟨_, Lib.hid rfl⟩
        rw [hy.out] at cn hta hge
        rw [hz.out] at dn htb hge
        have h1 := toList_beq y z
        by_cases e1 : y = z
        · rw [decide_eq_true e1] at h1
          have hyz := Lib.hid e1
          clear e1
          go_upto_region 6 with (fail)
          go_quiet (fail)
          go_wp2
          go_roundg (n - i)
          case measure => omega
          case rel =>
            refine ⟨i + 1, by go_num, by have := hlth.out; omega, by have := hlth.out; omega, ?_, hFh.out.drewN _⟩
            rw [hta.out, htb.out, htkh.out, hyz.out]
        · rw [decide_eq_false e1] at h1
          have hyz := Lib.hid (show ¬ a = b from fun h => e1 (hge.out h))
          clear e1
          go_upto_region 6 with (fail)
          go_quiet (fail)
          go_wp2
          go_ret
          exact ⟨ret_eq (decide_eq_false hyz.out).symm, hFh.out.drewN _⟩
      · have hge : ¬ (i : Int) < n := by omega
        have e : a = b := by
          have := htkh.out
          rw [List.take_of_length_le (by omega), List.take_of_length_le (by omega)] at this
          exact this
        have eh := Lib.hid e
        clear hlt hk e hF
        go_wp2
        go_ret
        exact ⟨ret_eq (decide_eq_true eh.out).symm, hFh.out⟩
  · have hne : ¬ (n : Int) = m := by omega
    have hne2 : ((n : Int) != m) = true := by simpa using hne
    have hab := Lib.hid (show ¬ a = b from fun h => hnm (by rw [← hn, ← hm, h]))
    clear hnm hne
    go_enter Tryz.func59, Tryz.ntmps59
    go_wp2
    go_ret
    exact ⟨ret_eq (decide_eq_false hab.out).symm, Fr.refl _ _⟩
set_option maxHeartbeats 2000000 in
theorem gset_t (w : World) (B : Option Addr) (m d : Nat) (ls : List ByteArray) (hB : Rd w 1 B m (strCells ls)) (hm : ls.length = m) (hmax : m ≤ 150000000000000) (hs : ∀ s ∈ ls, s.size ≤ 150000000000000) :
    Calls Tryz.prog 47 #[.slice B m d] w fun e w' => e = .returned (.bool (setM ls)) ∧ Fr [] w w' := by
  unfold setM
  by_cases h32 : m ≤ 32
  · have h32' : (m : Int) ≤ 32 := by omega
    rw [decide_eq_true (show ls.length ≤ 32 by omega), Bool.true_and]
    have hset := sset_t w B m d ls hB hm (by omega) hs
    have heq := Lib.hid (fun (W : World) (hF : Fr [] w W) (A : Option Addr) (c : Nat) (n : Nat) (hO : Rd W 1 A n (strCells (setOf ls))) (hn : (setOf ls).length = n) => eqS_t W A B n m c d (setOf ls) ls hO hn (Rd.fr hB hF (by simp [Off])) hm (by
      have := setOf_length ls
      omega) (by omega))
    have hpr := Lib.hid (fun (W : World) (hF : Fr [] w W) => sprint_t W B m d ls (Rd.fr hB hF (by simp [Off])) hm (by omega) hs)
    obtain ⟨r, hr⟩ : ∃ z, Hid (decide (setOf ls = ls) = z) := ⟨_, Lib.hid rfl⟩
    rw [hr.out] at heq ⊢
    clear hB hs h32
    go_enter Tryz.func47, Tryz.ntmps47
    go_wp2_with fail
    refine hset.mono ?_
    rintro e W1 ⟨v, rfl, O1, F1, R1⟩
    obtain ⟨A1, c1, rfl, hA1⟩ := O1.form
    have he := heq.out W1 F1 A1 c1 _ O1.rd rfl
    have f1 := Lib.hid F1
    clear hset O1 F1 R1
    go_wp2_with fail
    refine he.mono ?_
    rintro e W2 ⟨rfl, F2⟩
    have f2 := Lib.hid (f1.out.trans F2)
    have hp := hpr.out W2 f2.out
    clear he F2
    cases r with
    | false =>
      go_wp2_with fail
      go_ret
      exact ⟨rfl, f2.out⟩
    | true =>
      go_wp2_with fail
      refine hp.mono ?_
      rintro e W3 ⟨s, rfl, hsz, F3⟩
      have f3 := Lib.hid (f2.out.trans F3)
      by_cases h128 : s.size ≤ 128
      · have h128' : (s.size : Int) ≤ 128 := by omega
        have hh := Lib.hid (show decide (printLen ls ≤ 128) = true by rw [← hsz]; exact decide_eq_true h128)
        clear h128 hsz
        go_wp2_with fail
        go_ret
        exact ⟨ret_eq (by rw [hh.out]; rfl), f3.out⟩
      · have h128' : ¬(s.size : Int) ≤ 128 := by omega
        have hh := Lib.hid (show decide (printLen ls ≤ 128) = false by rw [← hsz]; exact decide_eq_false h128)
        clear h128 hsz
        go_wp2_with fail
        go_ret
        exact ⟨ret_eq (by rw [hh.out]; first | rfl | (rw [decide_eq_false (by omega)]; rfl)), f3.out⟩
  · have h32' : ¬(m : Int) ≤ 32 := by omega
    rw [decide_eq_false (show ¬ls.length ≤ 32 by omega)]
    clear hB hs h32
    go_enter Tryz.func47, Tryz.ntmps47
    go_wp2_with fail
    go_ret
    exact ⟨rfl, Fr.refl _ _⟩
end Go.Proofs.YtdeoinjjphdbmaaGreat
