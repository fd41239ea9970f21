/- Walks of the law: parts of two tables that have one digest and are unlike. Conditions: each theorem's own. -/
import Derived.Test.YtlhkkffljjbdmaaUj
import Derived.Test.YtlhkkffljjbdmaaZa
namespace Go.Proofs.Ytlhkkffljjbdmaa
open Go.RowKit Go.Sig

theorem alk_any {f : Nat} {a b : List Pr} (h1 : a ≠ b) (h2 : dig (f + 1) a ≠ dig (f + 1) b) (h3 : ¬(a.length ≤ 1 ∧ b.length ≤ 1)) : alk (f + 1) a b = (List.range 16).any fun k => alk f (kid f a k) (kid f b k) := by
  rw [alk, if_neg h1, if_neg h2, if_neg h3]
theorem alk_few {f : Nat} {a b : List Pr} (h2 : dig f a ≠ dig f b) (h3 : f = 0 ∨ a.length ≤ 1 ∧ b.length ≤ 1) : alk f a b = false := by
  have h1 : a ≠ b := fun e => h2 (by rw [e])
  cases f with
  | zero => rw [alk, if_neg h1, decide_eq_false h2]
  | succ f => rw [alk, if_neg h1, if_neg h2, if_pos (by omega)]
theorem alk_one {f : Nat} {a b : List Pr} (h1 : a ≠ b) (h2 : dig f a = dig f b) : alk f a b = true := by
  cases f with
  | zero => rw [alk, if_neg h1, decide_eq_true h2]
  | succ f => rw [alk, if_neg h1, if_pos h2]
/-- What alike tells at one depth. -/
def AlikeT (f : Nat) : Prop := ∀ (w : World) (A B : Option Addr) (n m c d : Nat) (a b : List Pr), Rd w 2 A n (pairCells a) → a.length = n → Small a → Rd w 2 B m (pairCells b) → b.length = m → Small b →
   Calls Try.prog 26 #[.slice A n c, .slice B m d, .int .i64 ((64 - f : Nat) : Int)] w fun e w' => e = .returned (.bool (alk f a b)) ∧ Fr [] w w'

set_option maxRecDepth 100000 in
set_option maxHeartbeats 8000000 in
theorem alike_step (f : Nat) (hf : f ≤ 64) (ih : ∀ g, f = g + 1 → AlikeT g) : AlikeT f := by
  intro w A B n m c d a b hA hn hsa hB hm hsb
  obtain ⟨dp, HDP0⟩ : ∃ z, Hid (64 - f = z) := ⟨_, Lib.hid rfl⟩
  have hdp : dp ≤ 64 := by have := HDP0.out; omega
  have hdg := fun (W : World) (hF : Fr [] w W) => digest_t f hf W A n c a (Rd.fr hA hF (by simp [Off])) hn hsa
  have hdg2 := fun (W : World) (hF : Fr [] w W) => digest_t f hf W B m d b (Rd.fr hB hF (by simp [Off])) hm hsb
  simp only [HDP0.out] at hdg hdg2
  rw [HDP0.out]
  have hna4 := hsa.2
  have hmb4 := hsb.2
  have hsame := rsame_t w A B n m c d a b hA hn hB hm (by omega) (by omega)
  have hAh := Lib.hid hA
  have hBh := Lib.hid hB
  have hsah := Lib.hid hsa
  have hsbh := Lib.hid hsb
  have hnh := Lib.hid hn
  have hmh := Lib.hid hm
  have hdgh := Lib.hid hdg
  have hdg2h := Lib.hid hdg2
  have ihh := Lib.hid ih
  clear hA hB hsa hsb hdg hdg2 ih
  go_enter Try.func26, Try.ntmps26
  go_upto_region 1 with (fail)
  go_cut [24] from 12 to 23 (fun s24 wx => s24 = .bool (decide (a = b)) ∧ Fr [] w wx)
  case first =>
    by_cases h0 : n = 0
    · have h0' : ((n : Int) == 0) = true := by rw [beq_iff_eq]; omega
      have ha : a = [] := List.eq_nil_of_length_eq_zero (by omega)
      by_cases h1 : m = 0
      · have h1' : ((m : Int) == 0) = true := by rw [beq_iff_eq]; omega
        have hb : b = [] := List.eq_nil_of_length_eq_zero (by omega)
        have hab := Lib.hid (show a = b by rw [ha, hb])
        clear h0 h1 ha hb hsame
        go_wp2_with fail
        go_meet
        exact ⟨by rw [decide_eq_true hab.out], Fr.refl _ _⟩
      · have h1' : ((m : Int) == 0) = false := by rw [beq_eq_false_iff_ne]; omega
        clear h0 h1 ha
        go_wp2_with (go_at_call 17; refine hsame.mono ?_; rintro e W1 ⟨rfl, F1⟩)
        go_meet
        exact ⟨rfl, F1⟩
    · have h0' : ((n : Int) == 0) = false := by rw [beq_eq_false_iff_ne]; omega
      clear h0
      go_wp2_with (go_at_call 17; refine hsame.mono ?_; rintro e W1 ⟨rfl, F1⟩)
      go_meet
      exact ⟨rfl, F1⟩
  case rest =>
    obtain ⟨rfl, hF0⟩ := hcut
    clear hsame
    by_cases hab : a = b
    · have habh := Lib.hid hab
      rw [decide_eq_true hab]
      clear hab
      go_wp2_with fail
      go_ret
      refine ⟨?_, hF0⟩
      rw [habh.out, alk_self]
      rfl
    · have habh := Lib.hid hab
      rw [decide_eq_false hab]
      clear hab
      have hdg := hdgh.out _ hF0
      have hlD := dig_length f a
      have hlE := dig_length f b
      obtain ⟨D, HD⟩ : ∃ x, Hid (dig f a = x) := ⟨_, Lib.hid rfl⟩
      obtain ⟨E, HE⟩ : ∃ x, Hid (dig f b = x) := ⟨_, Lib.hid rfl⟩
      rw [HD.out] at hdg hlD
      rw [HE.out] at hlE
      have heq := eql_dig D E hlD hlE
      have hF0h := Lib.hid hF0
      clear hF0
      go_wp2_with fail
      refine hdg.mono ?_
      rintro e W1 ⟨rfl, F1⟩
      have f1 := Lib.hid (hF0h.out.trans F1)
      have hdg2 := hdg2h.out _ f1.out
      rw [HE.out] at hdg2
      clear F1 hdg
      unfold digCells at hdg2 ⊢
      by_cases hDE : D = E
      · have hDEh := Lib.hid hDE
        rw [beq_iff_eq.2 hDE] at heq
        clear hDE
        go_wp2_with (go_at_call 23; refine hdg2.mono ?_; rintro e W2 ⟨rfl, F2⟩)
        go_ret
        refine ⟨?_, f1.out.trans F2⟩
        rw [alk_one habh.out (by rw [HD.out, HE.out, hDEh.out])]
        rfl
      · have hDEh := Lib.hid (show dig f a ≠ dig f b by rw [HD.out, HE.out]; exact hDE)
        rw [beq_eq_false_iff_ne.2 hDE] at heq
        clear hDE
        go_upto_region 5 with (go_at_call 23; refine hdg2.mono ?_; rintro e W2 ⟨rfl, F2⟩)
        have f2 := Lib.hid (f1.out.trans F2)
        clear F2
        go_cut [43] from 32 to 42 (fun s43 wx => s43 = .bool (decide (f = 0 ∨ a.length ≤ 1 ∧ b.length ≤ 1)) ∧ Fr [] W2 wx)
        case first =>
          by_cases h0 : f = 0
          · have h0' : ((dp : Int) == 64) = true := by rw [beq_iff_eq]; have := HDP0.out; omega
            have h0h := Lib.hid h0
            clear h0
            go_wp2_with fail
            go_meet
            exact ⟨by rw [decide_eq_true (.inl h0h.out)], Fr.refl _ _⟩
          · have h0' : ((dp : Int) == 64) = false := by rw [beq_eq_false_iff_ne]; have := HDP0.out; omega
            have h0h := Lib.hid h0
            clear h0
            by_cases h1 : n ≤ 1
            · have h1' : (n : Int) ≤ 1 := by omega
              have h1h := Lib.hid h1
              by_cases h2 : m ≤ 1
              · have h2' : (m : Int) ≤ 1 := by omega
                have h2h := Lib.hid h2
                clear h1 h2
                go_wp2_with fail
                go_meet
                exact ⟨by rw [decide_eq_true (.inr ⟨by rw [hnh.out]; exact h1h.out, by rw [hmh.out]; exact h2h.out⟩)], Fr.refl _ _⟩
              · have h2' : ¬(m : Int) ≤ 1 := by omega
                have h2h := Lib.hid h2
                clear h1 h2
                go_wp2_with fail
                go_meet
                exact ⟨by rw [decide_eq_false (by rintro (h | ⟨_, h⟩); exact h0h.out h; rw [hmh.out] at h; exact h2h.out h)], Fr.refl _ _⟩
            · have h1' : ¬(n : Int) ≤ 1 := by omega
              have h1h := Lib.hid h1
              clear h1
              go_wp2_with fail
              go_meet
              exact ⟨by rw [decide_eq_false (by rintro (h | ⟨h, _⟩); exact h0h.out h; rw [hnh.out] at h; exact h1h.out h)], Fr.refl _ _⟩
        case rest =>
          obtain ⟨rfl, hFc⟩ := hcut
          have fc := Lib.hid (f2.out.trans hFc)
          clear hFc
          by_cases hfew : f = 0 ∨ a.length ≤ 1 ∧ b.length ≤ 1
          · have hfh := Lib.hid hfew
            rw [decide_eq_true hfew]
            clear hfew
            go_wp2_with fail
            go_ret
            refine ⟨?_, fc.out⟩
            rw [alk_few hDEh.out hfh.out]
            rfl
          · have hfh := Lib.hid hfew
            rw [decide_eq_false hfew]
            clear hfew
            obtain ⟨g, rfl⟩ : ∃ g, f = g + 1 := ⟨f - 1, by have := hfh.out; omega⟩
            have hany := Lib.hid (alk_any habh.out hDEh.out (fun h => hfh.out (.inr h)))
            have ihg := Lib.hid (ihh.out g rfl)
            have HDP : Hid (63 - g = dp) := Lib.hid (by have := HDP0.out; omega)
            have hdeph : Hid (dp < 64) := Lib.hid (by have := HDP0.out; omega)
            have hdn : Hid ((64 - g : Nat) = dp + 1) := Lib.hid (by have := HDP0.out; omega)
            obtain ⟨f, rfl⟩ : ∃ z, z = g := ⟨_, rfl⟩
            clear hdg2 heq
            go_wp2_with fail
            go_loopg [7, 8, 9, 10, 11] 17 (fun gk s7 s8 s9 s10 s11 wr => ∃ (k : Nat), s7 = .int .i64 k ∧ k ≤ 16 ∧ 16 - k < gk ∧ ((List.range k).any fun j => alk f (kid f a j) (kid f b j)) = false ∧ Fr [] w wr)
            case atStart => exact ⟨0, rfl, by omega, by omega, rfl, fc.out⟩
            case round =>
              obtain ⟨k, rfl, hk, hkk, hno, hF⟩ := hrel
              have hnoh := Lib.hid hno
              clear hno
              by_cases hlt : k < 16
              · have hlt' : (k : Int) < 16 := by omega
                have hlth := Lib.hid hlt
                have hFh := Lib.hid hF
                obtain ⟨W4, hW4⟩ : ∃ W4 : World, W4 = wr := ⟨_, rfl⟩
                subst hW4
                have hA4 := Lib.hid (Rd.fr hAh.out hF (by simp [Off]))
                clear hF
                go_upto_block 2 with (fail)
                go_cut [8, 10] from 48 to 70 (fun s8 s10 wx => AccIn W4 wx s8 (kid f a k))
                case first =>
                  go_wp2_with fail
                  go_loopg [8, 10] (n + 1) (fun gj s8 s10 wq => ∃ (i : Nat), s10 = .int .i64 i ∧ i ≤ n ∧ n - i < gj ∧ AccIn W4 wq s8 (kid f (a.take i) k))
                  case atStart => exact ⟨0, rfl, by omega, by omega, AccIn.nil (Fr.refl _ _)⟩
                  case round =>
                    obtain ⟨i, rfl, hi, hki, hA⟩ := hrel
                    have hLh := Lib.hid hA
                    have hF : Fr [] W4 wr := by obtain ⟨A, c, rfl, h1, h2, h3⟩ := hA; exact h3
                    by_cases hil : i < n
                    · have hil' : (i : Int) < n := by omega
                      have hilh := Lib.hid hil
                      have hi' : i < a.length := by omega
                      have hRr := Rd.fr hA4.out hF (by simp [Off])
                      obtain ⟨b0, o, rfl, hcell⟩ := hRr.2 (by omega)
                      have hp := pairCells_at hi'
                      have cn := hcell _ _ hp.1
                      have cv := hcell _ _ hp.2
                      rw [← Nat.add_assoc] at cv
                      have hys := (hsah.out.1 a[i] (List.getElem_mem hi')).1
                      have hsn := Lib.hid (kid_snoc (f := f) (k := k) hi')
                      have hle := kid_take_le (f := f) (k := k) (l := a) (i := i)
                      have cnh := Lib.hid cn
                      have cvh := Lib.hid cv
                      clear hp hcell hRr cv hA
                      obtain ⟨⟨y1, y2⟩, hy⟩ : ∃ z, Hid (a[i] = z) := ⟨_, Lib.hid rfl⟩
                      rw [hy.out] at cn cnh cvh hsn hys
                      simp only at cn hys
                      have hpath := Lib.hid (fun (W : World) => rpath_t W y1 (by omega))
                      obtain ⟨D, HD⟩ : ∃ z, Hid (pathOf y1 = z) := ⟨_, Lib.hid rfl⟩
                      rw [show pathOf (y1, y2).1 = D from HD.out, HDP.out] at hsn
                      rw [HD.out] at hpath
                      have hrun := fun (W : World) => run_index_arr (P := Try.prog) W uI64 hdeph.out (by kernel_rfl) (d := .int .i64) (by kernel_rfl) rfl (pathV_at (d := D) hdeph.out)
                      obtain ⟨out, ho⟩ : ∃ z, Hid (kid f (a.take i) k = z) := ⟨_, Lib.hid rfl⟩
                      rw [ho.out] at hsn hle hLh
                      obtain ⟨A2, c2, rfl, O2, R2, F2⟩ := hLh.out
                      clear O2 F2
                      by_cases hnk : nib D dp = k
                      · rw [if_pos hnk] at hsn
                        have hnk1 : (((nib D dp : Nat) : Int) == (k : Int)) = true := by rw [hnk]; simp
                        obtain ⟨nv, HNV⟩ : ∃ z, Hid (((nib D dp : Nat) : Int) = z) := ⟨_, Lib.hid rfl⟩
                        rw [HNV.out] at hnk1
                        rw [HNV.out] at hrun
                        clear hnk
                        go_wp2_with fail
                        refine (hpath.out _).mono ?_
                        rintro e W5 ⟨rfl, F5⟩
                        obtain ⟨A4, c4, hs4, O2, R2, F2⟩ := hLh.out.fr0 F5
                        obtain ⟨rfl, rfl⟩ : A2 = A4 ∧ c2 = c4 := by injection hs4 with h1 _ h3; exact ⟨h1, h3⟩
                        have cn := cell_fr F5 cnh.out
                        have cv := cell_fr F5 cvh.out
                        try simp only at cn
                        try simp only at cv
                        clear hs4
                        go_wp2_with (refine wpList_own_append tPairs (O2.fr ((Fr.refl [] _).alloc _) (by simp)) (rd_pr (y1, y2) (Blk.new _ _ _)) (pairCells_one _) (by simp) (by unfold maxLen; omega) (by omega) rfl rfl rfl rfl (fun v2 w2 p1 p2 p3 => ?_); obtain ⟨A3, c3, rfl, hA3⟩ := p1.form)
                        go_roundg (n - i)
                        case measure => omega
                        case rel =>
                          refine ⟨i + 1, by go_num, by have := hilh.out; omega, by have := hilh.out; omega, ?_⟩
                          rw [hsn.out]
                          exact AccIn.push R2 F2 p1 p2 p3
                      · rw [if_neg hnk, List.append_nil] at hsn
                        have hnk1 : (((nib D dp : Nat) : Int) == (k : Int)) = false := by simpa using fun e => hnk (by omega)
                        obtain ⟨nv, HNV⟩ : ∃ z, Hid (((nib D dp : Nat) : Int) = z) := ⟨_, Lib.hid rfl⟩
                        rw [HNV.out] at hnk1
                        rw [HNV.out] at hrun
                        clear hnk
                        go_wp2_with fail
                        refine (hpath.out _).mono ?_
                        rintro e W5 ⟨rfl, F5⟩
                        have hA5 := Lib.hid (hLh.out.fr0 F5)
                        go_wp2_with fail
                        go_roundg (n - i)
                        case measure => omega
                        case rel =>
                          refine ⟨i + 1, by go_num, by have := hilh.out; omega, by have := hilh.out; omega, ?_⟩
                          rw [hsn.out]
                          exact hA5.out
                    · have hin : i = n := by omega
                      have hge : ¬ (i : Int) < n := by omega
                      have e : a.take i = a := List.take_of_length_le (by omega)
                      rw [e] at hLh
                      clear hil hki e hA
                      go_wp2_with fail
                      go_meet
                      exact hLh.out
                case rest =>
                  have hX := Lib.hid hcut
                  have hXF : Fr [] W4 wc := by obtain ⟨A, c, rfl, h1, h2, h3⟩ := hcut; exact h3
                  obtain ⟨W5, hW5⟩ : ∃ W5 : World, W5 = wc := ⟨_, rfl⟩
                  subst hW5
                  have hF5 := Lib.hid (hFh.out.trans hXF)
                  have hB5 := Lib.hid (Rd.fr hBh.out hF5.out (by simp [Off]))
                  clear hcut hXF
                  go_upto_block 4 with (fail)
                  go_cut [9, 11] from 71 to 93 (fun s9 s11 wx => AccIn W5 wx s9 (kid f b k))
                  case first =>
                    go_wp2_with fail
                    go_loopg [9, 11] (m + 1) (fun gj s9 s11 wq => ∃ (i : Nat), s11 = .int .i64 i ∧ i ≤ m ∧ m - i < gj ∧ AccIn W5 wq s9 (kid f (b.take i) k))
                    case atStart => exact ⟨0, rfl, by omega, by omega, AccIn.nil (Fr.refl _ _)⟩
                    case round =>
                      obtain ⟨i, rfl, hi, hki, hA⟩ := hrel
                      have hLh := Lib.hid hA
                      have hF : Fr [] W5 wr := by obtain ⟨A, c, rfl, h1, h2, h3⟩ := hA; exact h3
                      by_cases hil : i < m
                      · have hil' : (i : Int) < m := by omega
                        have hilh := Lib.hid hil
                        have hi' : i < b.length := by omega
                        have hRr := Rd.fr hB5.out hF (by simp [Off])
                        obtain ⟨b0, o, rfl, hcell⟩ := hRr.2 (by omega)
                        have hp := pairCells_at hi'
                        have cn := hcell _ _ hp.1
                        have cv := hcell _ _ hp.2
                        rw [← Nat.add_assoc] at cv
                        have hys := (hsbh.out.1 b[i] (List.getElem_mem hi')).1
                        have hsn := Lib.hid (kid_snoc (f := f) (k := k) hi')
                        have hle := kid_take_le (f := f) (k := k) (l := b) (i := i)
                        have cnh := Lib.hid cn
                        have cvh := Lib.hid cv
                        clear hp hcell hRr cv hA
                        obtain ⟨⟨y1, y2⟩, hy⟩ : ∃ z, Hid (b[i] = z) := ⟨_, Lib.hid rfl⟩
                        rw [hy.out] at cn cnh cvh hsn hys
                        simp only at cn hys
                        have hpath := Lib.hid (fun (W : World) => rpath_t W y1 (by omega))
                        obtain ⟨D, HD⟩ : ∃ z, Hid (pathOf y1 = z) := ⟨_, Lib.hid rfl⟩
                        rw [show pathOf (y1, y2).1 = D from HD.out, HDP.out] at hsn
                        rw [HD.out] at hpath
                        have hrun := fun (W : World) => run_index_arr (P := Try.prog) W uI64 hdeph.out (by kernel_rfl) (d := .int .i64) (by kernel_rfl) rfl (pathV_at (d := D) hdeph.out)
                        obtain ⟨out, ho⟩ : ∃ z, Hid (kid f (b.take i) k = z) := ⟨_, Lib.hid rfl⟩
                        rw [ho.out] at hsn hle hLh
                        obtain ⟨A2, c2, rfl, O2, R2, F2⟩ := hLh.out
                        clear O2 F2
                        by_cases hnk : nib D dp = k
                        · rw [if_pos hnk] at hsn
                          have hnk1 : (((nib D dp : Nat) : Int) == (k : Int)) = true := by rw [hnk]; simp
                          obtain ⟨nv, HNV⟩ : ∃ z, Hid (((nib D dp : Nat) : Int) = z) := ⟨_, Lib.hid rfl⟩
                          rw [HNV.out] at hnk1
                          rw [HNV.out] at hrun
                          clear hnk
                          go_wp2_with fail
                          refine (hpath.out _).mono ?_
                          rintro e W5 ⟨rfl, F5⟩
                          obtain ⟨A4, c4, hs4, O2, R2, F2⟩ := hLh.out.fr0 F5
                          obtain ⟨rfl, rfl⟩ : A2 = A4 ∧ c2 = c4 := by injection hs4 with h1 _ h3; exact ⟨h1, h3⟩
                          have cn := cell_fr F5 cnh.out
                          have cv := cell_fr F5 cvh.out
                          try simp only at cn
                          try simp only at cv
                          clear hs4
                          go_wp2_with (refine wpList_own_append tPairs (O2.fr ((Fr.refl [] _).alloc _) (by simp)) (rd_pr (y1, y2) (Blk.new _ _ _)) (pairCells_one _) (by simp) (by unfold maxLen; omega) (by omega) rfl rfl rfl rfl (fun v2 w2 p1 p2 p3 => ?_); obtain ⟨A3, c3, rfl, hA3⟩ := p1.form)
                          go_roundg (m - i)
                          case measure => omega
                          case rel =>
                            refine ⟨i + 1, by go_num, by have := hilh.out; omega, by have := hilh.out; omega, ?_⟩
                            rw [hsn.out]
                            exact AccIn.push R2 F2 p1 p2 p3
                        · rw [if_neg hnk, List.append_nil] at hsn
                          have hnk1 : (((nib D dp : Nat) : Int) == (k : Int)) = false := by simpa using fun e => hnk (by omega)
                          obtain ⟨nv, HNV⟩ : ∃ z, Hid (((nib D dp : Nat) : Int) = z) := ⟨_, Lib.hid rfl⟩
                          rw [HNV.out] at hnk1
                          rw [HNV.out] at hrun
                          clear hnk
                          go_wp2_with fail
                          refine (hpath.out _).mono ?_
                          rintro e W5 ⟨rfl, F5⟩
                          have hA5 := Lib.hid (hLh.out.fr0 F5)
                          go_wp2_with fail
                          go_roundg (m - i)
                          case measure => omega
                          case rel =>
                            refine ⟨i + 1, by go_num, by have := hilh.out; omega, by have := hilh.out; omega, ?_⟩
                            rw [hsn.out]
                            exact hA5.out
                      · have hin : i = m := by omega
                        have hge : ¬ (i : Int) < m := by omega
                        have e : b.take i = b := List.take_of_length_le (by omega)
                        rw [e] at hLh
                        clear hil hki e hA
                        go_wp2_with fail
                        go_meet
                        exact hLh.out
                  case rest =>
                    obtain ⟨A9, c9, rfl, O9, R9, F9⟩ := hcut
                    obtain ⟨A8, c8, rfl, O8, R8, F8⟩ := hX.out.fr0 F9
                    have hcall := ihg.out wc A8 A9 (kid f a k).length (kid f b k).length c8 c9 (kid f a k) (kid f b k) O8.rd rfl (kid_small hsah.out) O9.rd rfl (kid_small hsbh.out)
                    rw [hdn.out] at hcall
                    have f9 := Lib.hid (hF5.out.trans F9)
                    obtain ⟨na, hna⟩ : ∃ z, Hid ((kid f a k).length = z) := ⟨_, Lib.hid rfl⟩
                    obtain ⟨nb, hnb⟩ : ∃ z, Hid ((kid f b k).length = z) := ⟨_, Lib.hid rfl⟩
                    obtain ⟨r, hr⟩ : ∃ z, Hid (alk f (kid f a k) (kid f b k) = z) := ⟨_, Lib.hid rfl⟩
                    rw [hna.out, hnb.out, hr.out] at hcall
                    rw [hna.out, hnb.out]
                    clear O9 R9 F9 O8 R8 F8
                    go_wp2_with fail
                    refine hcall.mono ?_
                    rintro e W7 ⟨rfl, F7⟩
                    have f7 := Lib.hid (f9.out.trans F7)
                    clear hcall F7
                    cases r with
                    | true =>
                      go_wp2_with fail
                      go_ret
                      refine ⟨?_, f7.out⟩
                      rw [hany.out, List.any_eq_true.2 ⟨k, by simpa using hlth.out, hr.out⟩]
                      rfl
                    | false =>
                      go_wp2_with fail
                      go_roundg (16 - k)
                      case measure => omega
                      case rel =>
                        refine ⟨k + 1, by go_num, by have := hlth.out; omega, by have := hlth.out; omega, ?_, f7.out⟩
                        rw [List.range_succ, List.any_append, hnoh.out]
                        simp [hr.out]
              · obtain rfl : k = 16 := by omega
                have hFh := Lib.hid hF
                clear hlt hkk hF
                go_wp2_with fail
                go_ret
                refine ⟨?_, hFh.out⟩
                rw [hany.out, hnoh.out]
                rfl
theorem alike_t : ∀ f, f ≤ 64 → AlikeT f
  | 0, h => alike_step 0 h (fun g e => by cases e)
  | f + 1, h => alike_step (f + 1) h (fun g e => by injection e with e; rw [← e]; exact alike_t f (by omega))
end Go.Proofs.Ytlhkkffljjbdmaa
