/- Walks of the reference's table: Same. Conditions: each theorem's own. -/
import Derived.Test.YtlhkkffljjbdmaaTb
namespace Go.Proofs.Ytlhkkffljjbdmaa
open Go.RowKit Go.Sig

set_option maxRecDepth 100000 in
set_option maxHeartbeats 2000000 in
theorem rsame_t (w : World) (A B : Option Addr) (n m c d : Nat) (a b : List Pr) (hA : Rd w 2 A n (pairCells a)) (hn : a.length = n) (hB : Rd w 2 B m (pairCells b)) (hm : b.length = m) (hmax : n ≤ 1048576) (hmax2 : m ≤ 1048576) :
   Calls Try.prog 17 #[.slice A n c, .slice B m d] w fun e w' => e = .returned (.bool (decide (a = b))) ∧ Fr [] w w' := by
  by_cases hnm : n = m
  · subst hnm
    go_enter Try.func17, Try.ntmps17
    go_wp2_with fail
    go_loopg [5] (n + 1) (fun gk s5 wr => ∃ (i : Nat), s5 = .int .i64 i ∧ i ≤ n ∧ n - i < gk ∧ a.take i = b.take i ∧ Fr [] w wr)
    case atStart => exact ⟨0, rfl, by omega, by omega, rfl, Fr.refl _ _⟩
    case round =>
      obtain ⟨i, rfl, hi, hk, htk, hF⟩ := hrel
      have hFh := Lib.hid hF
      have htkh := Lib.hid htk
      clear htk
      by_cases hlt : i < n
      · have hlt' : (i : Int) < n := by omega
        have hlth := Lib.hid hlt
        have ha' : i < a.length := by omega
        have hb' : i < b.length := by omega
        have hAr := Rd.fr hA hF (by simp [Off])
        have hBr := Rd.fr hB hF (by simp [Off])
        obtain ⟨ba, oa, rfl, hcella⟩ := hAr.2 (by omega)
        obtain ⟨bb, ob, rfl, hcellb⟩ := hBr.2 (by omega)
        have hpa := pairCells_at ha'
        have hpb := pairCells_at hb'
        have cn := hcella _ _ hpa.1
        have cv := hcella _ _ hpa.2
        have dn := hcellb _ _ hpb.1
        have dv := hcellb _ _ hpb.2
        rw [← Nat.add_assoc] at cv dv
        have hta := Lib.hid (List.take_succ_eq_append_getElem ha')
        have htb := Lib.hid (List.take_succ_eq_append_getElem hb')
        have hge := Lib.hid (fun (h : a = b) => show a[i] = b[i] by subst h; rfl)
        clear hpa hpb hcella hcellb hA hB hAr hBr hF
        obtain ⟨⟨y1, y2⟩, hy⟩ : ∃ z, Hid (a[i] = z) := ⟨_, Lib.hid rfl⟩
        obtain ⟨⟨z1, z2⟩, hz⟩ : ∃ z, Hid (b[i] = z) := ⟨_, Lib.hid rfl⟩
        rw [hy.out] at cn cv hta hge
        rw [hz.out] at dn dv htb hge
        simp only at cn cv dn dv
        have h1 := toList_beq y1 z1
        have h2 := toList_beq y2 z2
        by_cases e1 : y1 = z1
        · by_cases e2 : y2 = z2
          · rw [show decide (y1 = z1) = true by simpa using e1] at h1
            rw [show decide (y2 = z2) = true by simpa using e2] at h2
            have hyz := Lib.hid (show (y1, y2) = (z1, z2) by rw [e1, e2])
            clear e1 e2
            go_upto_region 6 with (fail)
            go_quiet (fail)
            go_wp2
            go_roundg (n - i)
            case measure => omega
            case rel =>
              refine ⟨i + 1, by go_num, by have := hlth.out; omega, by have := hlth.out; omega, ?_, hFh.out.drewN _⟩
              rw [hta.out, htb.out, htkh.out, hyz.out]
          · rw [show decide (y1 = z1) = true by simpa using e1] at h1
            rw [show decide (y2 = z2) = false by simpa using e2] at h2
            have hyz := Lib.hid (show ¬ a = b from fun h => e2 (by have := hge.out h; injection this))
            clear e1 e2
            go_upto_region 6 with (fail)
            go_quiet (fail)
            go_wp2
            go_ret
            exact ⟨congrArg (fun b => Ending.returned (Value.bool b)) (decide_eq_false hyz.out).symm, hFh.out.drewN _⟩
        · rw [show decide (y1 = z1) = false by simpa using e1] at h1
          have hyz := Lib.hid (show ¬ a = b from fun h => e1 (by have := hge.out h; injection this))
          clear e1 h2
          go_upto_region 6 with (fail)
          go_quiet (fail)
          go_wp2
          go_ret
          exact ⟨congrArg (fun b => Ending.returned (Value.bool b)) (decide_eq_false hyz.out).symm, hFh.out.drewN _⟩
      · have hin : i = n := by omega
        have hge : ¬ (i : Int) < n := by omega
        have e : a = b := by
          have := htkh.out
          rw [List.take_of_length_le (by omega), List.take_of_length_le (by omega)] at this
          exact this
        have eh := Lib.hid e
        clear hlt hk e hF
        go_wp2
        go_ret
        exact ⟨congrArg (fun b => Ending.returned (Value.bool b)) (decide_eq_true eh.out).symm, hFh.out⟩
  · have hne : ¬ (n : Int) = m := by omega
    have hne2 : ((n : Int) != m) = true := by simpa using hne
    have hab := Lib.hid (show ¬ a = b from fun h => hnm (by rw [← hn, ← hm, h]))
    clear hnm hne
    go_enter Try.func17, Try.ntmps17
    go_wp2
    go_ret
    exact ⟨congrArg (fun b => Ending.returned (Value.bool b)) (decide_eq_false hab.out).symm, Fr.refl _ _⟩
end Go.Proofs.Ytlhkkffljjbdmaa
