/- Walk: the document's: may a family be? Conditions: each theorem's own. -/
import Derived.Test.YtdeoinjjphdbmaaGreatJm
import Derived.Test.YtdeoinjjphdbmaaGreatIb
namespace Go.Proofs.YtdeoinjjphdbmaaGreat
open Go.RowKit Go.Sig

theorem right_no {f : GFam} (h : ¬ FamOk f) : rightM f = false := by
  rw [← Bool.not_eq_true]
  exact fun e => h (rightM_ok.1 e)
set_option maxRecDepth 100000 in
set_option maxHeartbeats 8000000 in
theorem rright_t (w : World) (x : FA) (hx : FamIn w [] x) (hz : FamSz x) (hz2 : x.f.scope.length ≤ 1000000 ∧ ∀ t ∈ x.ts, t.tok.scope.length ≤ 1000000) : Calls Tryz.prog 25 #[x.val] w fun e w' => e = .returned (.bool (rightM x.f)) ∧ Fr [] w w' := by
  have hxh := Lib.hid hx
  have hzh := Lib.hid hz
  have hz2h := Lib.hid hz2
  clear hx hz hz2
  unfold FA.val FA.cells
  go_enter Tryz.func25, Tryz.ntmps25
  go_upto_region 1 with (fail)
  refine wp_gen (fun W => Blk W w.heap.size 39 x.cells ∧ Fr [] w W) ⟨Blk.new _ _ _, (Fr.refl _ _).alloc _⟩ ?_
  rintro W0 ⟨hB0, f0⟩
  obtain ⟨gf, HGF⟩ : ∃ z, Hid (w.heap.size = z) := ⟨_, Lib.hid rfl⟩
  rw [HGF.out] at hB0 ⊢
  have hB0 := Lib.hid hB0
  have F0 := Lib.hid (Fr.refl [] W0)
  have f0h := Lib.hid f0
  clear f0
  obtain ⟨c0, c1, c2, c3, c4, c5, c6, c7, c8, c9, c10, hgl⟩ := fam_cells hB0.out
  have hc := rid_t W0 x.f.id hzh.out.id
  cases h1 : idM x.f.id with
  | false =>
    have hv := Lib.hid (show rightM x.f = false from right_no (fun r => by have p := r.id; rw [h1] at p; cases p))
    rw [h1] at hc
    clear h1
    go_wp2_with (go_at_call 54; refine Calls.mono (show Calls Tryz.prog 54 _ _ _ from hc) ?_; rintro e W1 ⟨rfl, G1⟩)
    have F1 := Lib.hid (F0.out.trans G1)
    clear G1
    go_ret
    exact ⟨ret_eq hv.out.symm, f0h.out.trans F1.out⟩
  | true =>
    have e1 := Lib.hid h1
    rw [h1] at hc
    clear h1
    go_wp2_with fail
    refine Calls.mono (show Calls Tryz.prog 54 _ _ _ from hc) ?_
    rintro e W1 ⟨rfl, G1⟩
    have F1 := Lib.hid (F0.out.trans G1)
    clear G1
    clear hc
    clear c0 c1 c2 c3 c4 c5 c6 c7 c8 c9 c10 hgl
    obtain ⟨c0, c1, c2, c3, c4, c5, c6, c7, c8, c9, c10, hgl⟩ := fam_cells (hB0.out.fr F1.out (by simp))
    cases h2 : decide (x.f.client.size = 0) with
    | true =>
      have hv := Lib.hid (show rightM x.f = false from right_no (fun r => absurd (of_decide_eq_true h2) r.client))
      have hem := str_empty x.f.client
      rw [h2] at hem
      clear h2
      go_wp2_with fail
      go_ret
      exact ⟨ret_eq hv.out.symm, f0h.out.trans F1.out⟩
    | false =>
      have e2 := Lib.hid h2
      have hem := str_empty x.f.client
      rw [h2] at hem
      clear h2
      have hAl : Fr [] W1 (W1.alloc (.cells (strCells [x.f.client, x.f.user, x.f.redirect, x.f.challenge, x.f.method]).toArray 9)) := (Fr.refl _ _).alloc _
      have hAlh := Lib.hid hAl
      have hc := rtexts_t (W1.alloc (.cells (strCells [x.f.client, x.f.user, x.f.redirect, x.f.challenge, x.f.method]).toArray 9)) (some ⟨W1.heap.size, 0, none⟩) 5 5 [x.f.client, x.f.user, x.f.redirect, x.f.challenge, x.f.method] (strs_new W1 _ 9) rfl (by decide)
      clear hAl
      cases h3 : textsM [x.f.client, x.f.user, x.f.redirect, x.f.challenge, x.f.method] with
      | false =>
        have hv := Lib.hid (show rightM x.f = false from right_no (fun r => by have p := r.texts; rw [h3] at p; cases p))
        rw [h3] at hc
        clear h3
        go_wp2_with (go_at_call 55; refine Calls.mono (show Calls Tryz.prog 55 _ _ _ from hc) ?_; rintro e W3 ⟨rfl, G3⟩)
        have G3 : Fr [] W1 W3 := by rw [← G3]; exact hAlh.out
        have F3 := Lib.hid (F1.out.trans G3)
        clear G3 hAlh
        go_ret
        exact ⟨ret_eq hv.out.symm, f0h.out.trans F3.out⟩
      | true =>
        have e3 := Lib.hid h3
        rw [h3] at hc
        clear h3
        go_wp2_with fail
        refine Calls.mono (show Calls Tryz.prog 55 _ _ _ from hc) ?_
        rintro e W3 ⟨rfl, G3⟩
        have G3 : Fr [] W1 W3 := by rw [← G3]; exact hAlh.out
        have F3 := Lib.hid (F1.out.trans G3)
        clear G3 hAlh
        clear hc
        clear c0 c1 c2 c3 c4 c5 c6 c7 c8 c9 c10 hgl
        obtain ⟨c0, c1, c2, c3, c4, c5, c6, c7, c8, c9, c10, hgl⟩ := fam_cells (hB0.out.fr F3.out (by simp))
        have hc := rset17_t W3 x.sA x.f.scope.length x.sc x.f.scope (Rd.fr hxh.out.scope.1 (f0h.out.trans F3.out) (by simp [Off])) rfl hzh.out.sl hzh.out.ss
        cases h4 : setM x.f.scope with
        | false =>
          have hv := Lib.hid (show rightM x.f = false from right_no (fun r => by have p := r.set; rw [h4] at p; cases p))
          rw [h4] at hc
          clear h4
          go_wp2_with (go_at_call 56; refine Calls.mono (show Calls Tryz.prog 56 _ _ _ from hc) ?_; rintro e W4 ⟨rfl, G4⟩)
          have F4 := Lib.hid (F3.out.trans G4)
          clear G4
          go_ret
          exact ⟨ret_eq hv.out.symm, f0h.out.trans F4.out⟩
        | true =>
          have e4 := Lib.hid h4
          rw [h4] at hc
          clear h4
          go_wp2_with fail
          refine Calls.mono (show Calls Tryz.prog 56 _ _ _ from hc) ?_
          rintro e W4 ⟨rfl, G4⟩
          have F4 := Lib.hid (F3.out.trans G4)
          clear G4
          clear hc
          clear c0 c1 c2 c3 c4 c5 c6 c7 c8 c9 c10 hgl
          obtain ⟨c0, c1, c2, c3, c4, c5, c6, c7, c8, c9, c10, hgl⟩ := fam_cells (hB0.out.fr F4.out (by simp))
          cases h5 : decide (8 < x.f.tokens.length) with
          | true =>
            have hv := Lib.hid (show rightM x.f = false from right_no (fun r => absurd (of_decide_eq_true h5) (by have := r.tokens; omega)))
            have z8 : decide (8 < (x.ts.length : Int)) = true := by have h1 := of_decide_eq_true h5; have h2 := hxh.out.len; exact decide_eq_true (by omega)
            clear h5
            go_wp2_with fail
            go_ret
            exact ⟨ret_eq hv.out.symm, f0h.out.trans F4.out⟩
          | false =>
            have e5 := Lib.hid h5
            have z8 : decide (8 < (x.ts.length : Int)) = false := by have h1 := of_decide_eq_false h5; have h2 := hxh.out.len; exact decide_eq_false (by omega)
            clear h5
            have F5h := Lib.hid (f0h.out.trans F4.out)
            have hB1 := Lib.hid (hB0.out.fr F4.out (by simp))
            have hset := e4
            have hch : x.f.challenge.size ≤ 100000 := by have := textsM_mem e3.out (s := x.f.challenge) (by simp); omega
            have hlen := Lib.hid hxh.out.len
            go_upto_block 0 with (fail)
            go_cut [] from 44 to 97 (fun wx => midR x.f = true ∧ (0 ≤ x.f.code ∧ x.f.code ≤ 2) ∧ Fr [] W4 wx)
            case first =>
              by_cases k0 : x.f.code = 0
              · have b0 : (x.f.code == 0) = true := by rw [beq_iff_eq]; exact k0
                have k0h := Lib.hid k0
                clear k0
                cases h11 : decide (x.f.user.size = 0) with
                | false =>
                  have hv := Lib.hid (show rightM x.f = false from right_no (fun r => absurd (r.none k0h.out).1 (of_decide_eq_false h11)))
                  have em_user := str_empty x.f.user
                  rw [h11] at em_user
                  clear h11
                  go_wp2_with fail
                  go_ret
                  exact ⟨ret_eq hv.out.symm, f0h.out.trans F4.out⟩
                | true =>
                  have e11 := Lib.hid h11
                  have em_user := str_empty x.f.user
                  rw [h11] at em_user
                  clear h11
                  cases h12 : decide (x.f.redirect.size = 0) with
                  | false =>
                    have hv := Lib.hid (show rightM x.f = false from right_no (fun r => absurd (r.none k0h.out).2.1 (of_decide_eq_false h12)))
                    have em_redirect := str_empty x.f.redirect
                    rw [h12] at em_redirect
                    clear h12
                    go_wp2_with fail
                    go_ret
                    exact ⟨ret_eq hv.out.symm, f0h.out.trans F4.out⟩
                  | true =>
                    have e12 := Lib.hid h12
                    have em_redirect := str_empty x.f.redirect
                    rw [h12] at em_redirect
                    clear h12
                    cases h13 : decide (x.f.challenge.size = 0) with
                    | false =>
                      have hv := Lib.hid (show rightM x.f = false from right_no (fun r => absurd (r.none k0h.out).2.2.1 (of_decide_eq_false h13)))
                      have em_challenge := str_empty x.f.challenge
                      rw [h13] at em_challenge
                      clear h13
                      go_wp2_with fail
                      go_ret
                      exact ⟨ret_eq hv.out.symm, f0h.out.trans F4.out⟩
                    | true =>
                      have e13 := Lib.hid h13
                      have em_challenge := str_empty x.f.challenge
                      rw [h13] at em_challenge
                      clear h13
                      cases h14 : decide (x.f.method.size = 0) with
                      | false =>
                        have hv := Lib.hid (show rightM x.f = false from right_no (fun r => absurd (r.none k0h.out).2.2.2 (of_decide_eq_false h14)))
                        have em_method := str_empty x.f.method
                        rw [h14] at em_method
                        clear h14
                        go_wp2_with fail
                        go_ret
                        exact ⟨ret_eq hv.out.symm, f0h.out.trans F4.out⟩
                      | true =>
                        have e14 := Lib.hid h14
                        have em_method := str_empty x.f.method
                        rw [h14] at em_method
                        clear h14
                        cases h15 : decide (x.ts.length = 0) with
                        | true =>
                          have hv := Lib.hid (show rightM x.f = false from right_no (fun r => absurd (r.many.1 (List.eq_nil_of_length_eq_zero (by rw [← hlen.out]; exact of_decide_eq_true h15))) (by rw [k0h.out]; decide)))
                          have z0 : ((x.ts.length : Int) == 0) = true := by have := of_decide_eq_true h15; rw [beq_iff_eq]; omega
                          clear h15
                          go_wp2_with fail
                          go_ret
                          exact ⟨ret_eq hv.out.symm, f0h.out.trans F4.out⟩
                        | false =>
                          have e15 := Lib.hid h15
                          have z0 : ((x.ts.length : Int) == 0) = false := by have := of_decide_eq_false h15; rw [beq_eq_false_iff_ne]; omega
                          clear h15
                          have hm := Lib.hid (show midR x.f = true by unfold midR bare; rw [e11.out, e12.out, e13.out, e14.out, decide_eq_true k0h.out, decide_eq_false (show ¬ x.f.tokens.length = 0 by rw [← hlen.out]; exact of_decide_eq_false e15.out), decide_eq_false (show ¬ x.f.code = 1 by have := k0h.out; omega)]; unfold shownM; rw [if_pos (of_decide_eq_true e13.out), e14.out]; rfl)
                          have hcd := Lib.hid (show 0 ≤ x.f.code ∧ x.f.code ≤ 2 by have := k0h.out; omega)
                          go_wp2_with fail
                          go_meet
                          exact ⟨hm.out, hcd.out, Fr.refl _ _⟩
              · have b0 : (x.f.code == 0) = false := by rw [beq_eq_false_iff_ne]; exact k0
                by_cases kC : x.f.code = 1
                · have b1 : (x.f.code == 1) = true := by rw [beq_iff_eq]; exact kC
                  clear k0
                  have kCh := Lib.hid kC
                  clear kC
                  have hc := rshown_t W4 x.f.challenge x.f.method hch
                  cases hs : shownM x.f.challenge x.f.method with
                  | false =>
                    have hv := Lib.hid (show rightM x.f = false from right_no (fun r => by have p := r.shown; rw [hs] at p; cases p))
                    rw [hs] at hc
                    clear hs
                    go_wp2_with (go_at_call 57; refine Calls.mono (show Calls Tryz.prog 57 _ _ _ from hc) ?_; rintro e V6 ⟨rfl, G6⟩)
                    go_ret
                    exact ⟨ret_eq hv.out.symm, F5h.out.trans G6⟩
                  | true =>
                    have hsn := Lib.hid hs
                    rw [hs] at hc
                    clear hs
                    go_wp2_with fail
                    refine Calls.mono (show Calls Tryz.prog 57 _ _ _ from hc) ?_
                    rintro e V6 ⟨rfl, G6⟩
                    have G6h := Lib.hid G6
                    clear hc G6
                    clear c0 c1 c2 c3 c4 c5 c6 c7 c8 c9 c10 hgl
                    obtain ⟨c0, c1, c2, c3, c4, c5, c6, c7, c8, c9, c10, hgl⟩ := fam_cells (hB1.out.fr G6h.out (by simp))
                    cases h15 : decide (x.ts.length = 0) with
                    | false =>
                      have hv := Lib.hid (show rightM x.f = false from right_no (fun r => absurd (by rw [hlen.out, r.many.2 kCh.out]; rfl) (of_decide_eq_false h15)))
                      have z1 : 0 < x.ts.length := by have := of_decide_eq_false h15; omega
                      clear h15
                      go_wp2_with fail
                      go_ret
                      exact ⟨ret_eq hv.out.symm, F5h.out.trans G6h.out⟩
                    | true =>
                      have e15 := Lib.hid h15
                      have z1 : ¬ 0 < x.ts.length := by have := of_decide_eq_true h15; omega
                      clear h15
                      have hm := Lib.hid (show midR x.f = true by unfold midR; rw [hsn.out, decide_eq_false (show ¬ x.f.code = 0 by have := kCh.out; omega), decide_eq_true (show x.f.tokens.length = 0 by rw [← hlen.out]; exact of_decide_eq_true e15.out), decide_eq_true (show x.f.code = 1 by have := kCh.out; omega)]; rfl)
                      have hcd := Lib.hid (show 0 ≤ x.f.code ∧ x.f.code ≤ 2 by have := kCh.out; omega)
                      go_wp2_with fail
                      go_meet
                      exact ⟨hm.out, hcd.out, G6h.out⟩
                · have b1 : (x.f.code == 1) = false := by rw [beq_eq_false_iff_ne]; exact kC
                  have k1 := kC
                  clear kC
                  by_cases kC : x.f.code = 2
                  · have b2 : (x.f.code == 2) = true := by rw [beq_iff_eq]; exact kC
                    clear k0 k1
                    have kCh := Lib.hid kC
                    clear kC
                    have hc := rshown_t W4 x.f.challenge x.f.method hch
                    cases hs : shownM x.f.challenge x.f.method with
                    | false =>
                      have hv := Lib.hid (show rightM x.f = false from right_no (fun r => by have p := r.shown; rw [hs] at p; cases p))
                      rw [hs] at hc
                      clear hs
                      go_wp2_with (go_at_call 57; refine Calls.mono (show Calls Tryz.prog 57 _ _ _ from hc) ?_; rintro e V6 ⟨rfl, G6⟩)
                      go_ret
                      exact ⟨ret_eq hv.out.symm, F5h.out.trans G6⟩
                    | true =>
                      have hsn := Lib.hid hs
                      rw [hs] at hc
                      clear hs
                      go_wp2_with fail
                      refine Calls.mono (show Calls Tryz.prog 57 _ _ _ from hc) ?_
                      rintro e V6 ⟨rfl, G6⟩
                      have G6h := Lib.hid G6
                      clear hc G6
                      clear c0 c1 c2 c3 c4 c5 c6 c7 c8 c9 c10 hgl
                      obtain ⟨c0, c1, c2, c3, c4, c5, c6, c7, c8, c9, c10, hgl⟩ := fam_cells (hB1.out.fr G6h.out (by simp))
                      cases h15 : decide (x.ts.length = 0) with
                      | true =>
                        have hv := Lib.hid (show rightM x.f = false from right_no (fun r => absurd (r.many.1 (List.eq_nil_of_length_eq_zero (by rw [← hlen.out]; exact of_decide_eq_true h15))) (by rw [kCh.out]; decide)))
                        have z0 : ((x.ts.length : Int) == 0) = true := by have := of_decide_eq_true h15; rw [beq_iff_eq]; omega
                        clear h15
                        go_wp2_with fail
                        go_ret
                        exact ⟨ret_eq hv.out.symm, F5h.out.trans G6h.out⟩
                      | false =>
                        have e15 := Lib.hid h15
                        have z0 : ((x.ts.length : Int) == 0) = false := by have := of_decide_eq_false h15; rw [beq_eq_false_iff_ne]; omega
                        clear h15
                        have hm := Lib.hid (show midR x.f = true by unfold midR; rw [hsn.out, decide_eq_false (show ¬ x.f.code = 0 by have := kCh.out; omega), decide_eq_false (show ¬ x.f.tokens.length = 0 by rw [← hlen.out]; exact of_decide_eq_false e15.out), decide_eq_false (show ¬ x.f.code = 1 by have := kCh.out; omega)]; rfl)
                        have hcd := Lib.hid (show 0 ≤ x.f.code ∧ x.f.code ≤ 2 by have := kCh.out; omega)
                        go_wp2_with fail
                        go_meet
                        exact ⟨hm.out, hcd.out, G6h.out⟩
                  · have b2 : (x.f.code == 2) = false := by rw [beq_eq_false_iff_ne]; exact kC
                    have hv := Lib.hid (show rightM x.f = false from right_no (fun r => by rcases r.code with h | h | h; exact k0 h; exact k1 h; exact kC h))
                    clear k0 k1 kC
                    go_wp2_with fail
                    go_ret
                    exact ⟨ret_eq hv.out.symm, F5h.out⟩
            case rest =>
              obtain ⟨hmd, hcode, fc⟩ := hcut
              have hmd := Lib.hid hmd
              have fch := Lib.hid (F5h.out.trans fc)
              have hB2 := Lib.hid (hB1.out.fr fc (by simp))
              have hhm := Lib.hid (show (headR x.f && midR x.f) = true by
                rw [hmd.out, Bool.and_true]
                unfold headR
                rw [e1.out, e2.out, e3.out, e4.out, decide_eq_false (show ¬ x.f.code < 0 by omega), decide_eq_false (show ¬ 2 < x.f.code by omega), e5.out]
                rfl)
              obtain ⟨W2, hW2⟩ : ∃ W2 : World, W2 = wc := ⟨_, rfl⟩
              subst hW2
              clear fc hcode c0 c1 c2 c3 c4 c5 c6 c7 c8 c9 c10 hgl
              obtain ⟨c0, c1, c2, c3, c4, c5, c6, c7, c8, c9, c10, hgl⟩ := fam_cells hB2.out
              obtain ⟨n, hn⟩ : ∃ z, Hid (x.ts.length = z) := ⟨_, Lib.hid rfl⟩
              obtain ⟨tA, htA⟩ : ∃ z, Hid (x.tA = z) := ⟨_, Lib.hid rfl⟩
              have hn8 := hzh.out.tl
              rw [hn.out, htA.out] at c8
              rw [hn.out] at hn8
              rw [htA.out]
              go_upto_block 1 with (fail)
              go_cut [3] from 98 to 153 (fun s91 wx => Fr [] W2 wx ∧ x.f.tokens.all (tokR x.f) = true)
              case first =>
                go_wp2_with fail
                go_loopg [3] (n + 1) (fun gk s91 wr => ∃ (i : Nat), s91 = .int .i64 i ∧ i ≤ n ∧ n - i < gk ∧ (x.f.tokens.take i).all (tokR x.f) = true ∧ Fr [] W2 wr)
                case atStart => exact ⟨0, rfl, by omega, by omega, by simp, Fr.refl _ _⟩
                case round =>
                  obtain ⟨i, rfl, hi, hk, hall, hF⟩ := hrel
                  have hFh := Lib.hid hF
                  have hallh := Lib.hid hall
                  obtain ⟨_, _, _, _, _, _, _, _, c8, _, _, hgl⟩ := fam_cells (hB2.out.fr hF (by simp))
                  rw [hn.out, htA.out] at c8
                  clear hF hall
                  by_cases hlt : i < n
                  · have hlt' : (i : Int) < n := by omega
                    have hlth := Lib.hid hlt
                    obtain ⟨t, tb, tof, eA, hti, htr⟩ := TA.row (Rd.fr hxh.out.toks.1 (fch.out.trans hFh.out) (by simp [Off])) rfl (by rw [hn.out]; exact hlt)
                    rw [htA.out] at eA
                    have htm := Lib.hid (List.mem_of_getElem? hti)
                    have hit := Lib.hid (show ∃ h : i < x.f.tokens.length, x.f.tokens[i] = t.tok by
                      have h1 : i < x.ts.length := by rw [hn.out]; exact hlt
                      rw [List.getElem?_eq_getElem h1] at hti
                      obtain rfl := Option.some.inj hti
                      refine ⟨by rw [← hxh.out.ts, List.length_map]; exact h1, ?_⟩
                      simp only [← hxh.out.ts, List.getElem_map])
                    subst eA
                    have htrh := Lib.hid htr
                    clear hti htr hlt
                    go_upto_region 18 with (first
                      | (refine wpList_load_cells rfl 55 _ rfl rfl (ys := t.cells.toArray) (fun j v hv => htrh.out j v (by rw [← List.getElem?_toArray]; exact hv)) uIss rfl (infoTA _) ?_)
                      | (refine wpList_store_row rfl 55 _ _ rfl wr.heap.size _ rfl rfl 55 _ (Blk.new _ _ _) (infoTA t) (by kernel_rfl) (TA.all1 t) ?_))
                    refine wp_gen (fun W => Blk W wr.heap.size 55 t.cells.toArray ∧ Fr [] wr W) ⟨Blk.setRow (Blk.new _ _ _) _, ((Fr.refl [] wr).alloc _).setRow (.inr (Nat.le_refl _)) _⟩ ?_
                    rintro W3 ⟨hT, f3⟩
                    obtain ⟨g4, HG4⟩ : ∃ z, Hid (wr.heap.size = z) := ⟨_, Lib.hid rfl⟩
                    rw [HG4.out] at hT ⊢
                    have hT3 := Lib.hid hT
                    have FF3 := Lib.hid (hFh.out.trans f3)
                    have hB3 := Lib.hid (hB2.out.fr FF3.out (by simp))
                    have F0 := Lib.hid (Fr.refl [] W3)
                    clear hT f3
                    dsimp only [Act.put]
                    go_cut [153] from 110 to 152 (fun s138 wx => s138 = .bool (!tokR x.f t.tok) ∧ Fr [] W3 wx)
                    case first =>
                      obtain ⟨t0, t1, t2, htl⟩ := tok_cells hT3.out
                      obtain ⟨_, _, _, c3, _, _, _, _, _, _, _, hgl⟩ := fam_cells hB3.out
                      have hxe := (hxh.out.each t htm.out).1
                      have hxeh := Lib.hid (Rd.fr hxe ((fch.out.trans FF3.out)) (by simp [Off]))
                      have hxsh := Lib.hid (Rd.fr hxh.out.scope.1 ((fch.out.trans FF3.out)) (by simp [Off]))
                      obtain ⟨kd, hkd⟩ : ∃ z, Hid (t.tok.kind = z) := ⟨_, Lib.hid rfl⟩
                      rw [hkd.out] at t0
                      clear hxe
                      by_cases k2 : kd = 2
                      · have b2 : (kd != 2) = false := by subst k2; rfl
                        have b2' : (kd == 2) = true := by subst k2; rfl
                        have b3' : (kd == 3) = false := by subst k2; rfl
                        have hk2 := Lib.hid (show decide (kd = 2) = true from decide_eq_true k2)
                        have hk3 := Lib.hid (show decide (kd = 3) = false from decide_eq_false (by omega))
                        clear k2
                        cases hu : t.tok.used with
                        | true =>
                          have hv := Lib.hid (show tokR x.f t.tok = false by unfold tokR; rw [hkd.out, hk2.out, hu]; simp)
                          rw [hu] at t2
                          clear hu
                          go_wp2_with fail
                          go_meet
                          exact ⟨by rw [hv.out]; rfl, F0.out⟩
                        | false =>
                          have huh := Lib.hid hu
                          rw [hu] at t2
                          clear hu
                          have hc := rset17_t W3 t.A t.tok.scope.length t.c t.tok.scope hxeh.out rfl (hzh.out.te t htm.out).1 (hzh.out.te t htm.out).2
                          cases hs : setM t.tok.scope with
                          | false =>
                            have hv := Lib.hid (show tokR x.f t.tok = false by unfold tokR; rw [hs]; simp)
                            rw [hs] at hc
                            clear hs
                            go_wp2_with (go_at_call 56; refine Calls.mono (show Calls Tryz.prog 56 _ _ _ from hc) ?_; rintro e V1 ⟨rfl, G1⟩)
                            go_meet
                            exact ⟨by rw [hv.out]; rfl, G1⟩
                          | true =>
                            have hsh := Lib.hid hs
                            rw [hs] at hc
                            clear hs
                            go_wp2_with fail
                            refine Calls.mono (show Calls Tryz.prog 56 _ _ _ from hc) ?_
                            rintro e V1 ⟨rfl, G1⟩
                            have F1 := Lib.hid G1
                            clear hc G1
                            clear t0 t1 t2 htl c3 hgl
                            obtain ⟨t0, t1, t2, htl⟩ := tok_cells (hT3.out.fr F1.out (by simp))
                            obtain ⟨_, _, _, c3, _, _, _, _, _, _, _, hgl⟩ := fam_cells (hB3.out.fr F1.out (by simp))
                            rw [hkd.out] at t0
                            have hc := rwithin_t V1 t.A x.sA t.tok.scope.length x.f.scope.length t.c x.sc t.tok.scope x.f.scope (Rd.fr hxeh.out F1.out (by simp [Off])) rfl (Rd.fr hxsh.out F1.out (by simp [Off])) rfl (hzh.out.te t htm.out).1 hzh.out.sl (hzh.out.te t htm.out).2
                            cases hw : within t.tok.scope x.f.scope with
                            | false =>
                              have hv := Lib.hid (show tokR x.f t.tok = false by unfold tokR; rw [hw]; simp)
                              rw [hw] at hc
                              clear hw
                              go_wp2_with (go_at_call 33; refine Calls.mono (show Calls Tryz.prog 33 _ _ _ from hc) ?_; rintro e V2 ⟨rfl, rfl⟩)
                              go_meet
                              exact ⟨by rw [hv.out]; rfl, F1.out⟩
                            | true =>
                              have hv := Lib.hid (show tokR x.f t.tok = true by unfold tokR; rw [hkd.out, hk2.out, hk3.out, huh.out, hsh.out, hw]; rfl)
                              rw [hw] at hc
                              clear hw
                              go_wp2_with (go_at_call 33; refine Calls.mono (show Calls Tryz.prog 33 _ _ _ from hc) ?_; rintro e V2 ⟨rfl, rfl⟩)
                              go_meet
                              exact ⟨by rw [hv.out]; rfl, F1.out⟩
                      · have b2 : (kd != 2) = true := by rw [bne_iff_ne]; exact k2
                        have b2' : (kd == 2) = false := by rw [beq_eq_false_iff_ne]; exact k2
                        have hk2 := Lib.hid (show decide (kd = 2) = false from decide_eq_false k2)
                        clear k2
                        by_cases k3 : kd = 3
                        · have b3 : (kd != 3) = false := by subst k3; rfl
                          have b3' : (kd == 3) = true := by subst k3; rfl
                          have hk3 := Lib.hid (show decide (kd = 3) = true from decide_eq_true k3)
                          clear k3
                          have hc := rsameg_t W3 t.A x.sA t.tok.scope.length x.f.scope.length t.c x.sc t.tok.scope x.f.scope hxeh.out rfl hxsh.out rfl (by have := hz2h.out.2 t htm.out; omega) hzh.out.sl
                          cases he : decide (t.tok.scope = x.f.scope) with
                          | false =>
                            have hv := Lib.hid (show tokR x.f t.tok = false by unfold tokR; rw [hkd.out, hk3.out, he]; simp)
                            rw [he] at hc
                            clear he
                            go_wp2_with (go_at_call 29; refine Calls.mono (show Calls Tryz.prog 29 _ _ _ from hc) ?_; rintro e V1 ⟨rfl, G1⟩)
                            go_meet
                            exact ⟨by rw [hv.out]; rfl, G1⟩
                          | true =>
                            have hsf := of_decide_eq_true he
                            have hv := Lib.hid (show tokR x.f t.tok = true by unfold tokR; rw [hkd.out, hk2.out, hk3.out, he, hsf, hset.out, within_self]; rfl)
                            rw [he] at hc
                            clear he hsf
                            go_wp2_with fail
                            refine Calls.mono (show Calls Tryz.prog 29 _ _ _ from hc) ?_
                            rintro e V1 ⟨rfl, G1⟩
                            have F1 := Lib.hid G1
                            clear hc G1
                            clear t0 t1 t2 htl c3 hgl
                            obtain ⟨t0, t1, t2, htl⟩ := tok_cells (hT3.out.fr F1.out (by simp))
                            obtain ⟨_, _, _, c3, _, _, _, _, _, _, _, hgl⟩ := fam_cells (hB3.out.fr F1.out (by simp))
                            rw [hkd.out] at t0
                            go_wp2_with fail
                            go_meet
                            exact ⟨by rw [hv.out]; rfl, F1.out⟩
                        · have b3 : (kd != 3) = true := by rw [bne_iff_ne]; exact k3
                          have b3' : (kd == 3) = false := by rw [beq_eq_false_iff_ne]; exact k3
                          have hk3 := Lib.hid (show decide (kd = 3) = false from decide_eq_false k3)
                          have hv := Lib.hid (show tokR x.f t.tok = false by unfold tokR; rw [hkd.out, hk2.out, hk3.out]; rfl)
                          clear k3
                          go_wp2_with fail
                          go_meet
                          exact ⟨by rw [hv.out]; rfl, F0.out⟩
                    case rest =>
                      obtain ⟨rfl, fc⟩ := hcut
                      have FF4 := Lib.hid (FF3.out.trans fc)
                      clear fc
                      obtain ⟨tk, htk⟩ : ∃ z, Hid (tokR x.f t.tok = z) := ⟨_, Lib.hid rfl⟩
                      rw [htk.out]
                      cases tk with
                      | false =>
                        have hres := Lib.hid (show rightM x.f = false by
                          obtain ⟨hi1, hi2⟩ := hit.out
                          unfold rightM
                          rw [all_not (List.getElem_mem hi1) (by rw [hi2]; exact htk.out), Bool.and_false, Bool.false_and])
                        go_wp2_with fail
                        go_ret
                        exact ⟨ret_eq hres.out.symm, fch.out.trans FF4.out⟩
                      | true =>
                        go_wp2_with fail
                        go_roundg (n - i)
                        case measure => have := hlth.out; omega
                        case rel =>
                          obtain ⟨hi1, hi2⟩ := hit.out
                          exact ⟨i + 1, by go_num, by have := hlth.out; omega, by have := hlth.out; omega, all_more hi1 hallh.out (by rw [hi2]; exact htk.out), FF4.out⟩
                  · have hge : ¬ (i : Int) < n := by omega
                    have hin : i = n := by omega
                    go_wp2_with fail
                    go_meet
                    case rel => exact ⟨hFh.out, by have h := hallh.out; rwa [hin, ← hn.out, hxh.out.len, List.take_length] at h⟩
              case rest =>
                obtain ⟨fc, hall⟩ := hcut
                have hallh := Lib.hid hall
                have fch := Lib.hid (fch.out.trans fc)
                have hB3 := Lib.hid (hB2.out.fr fc (by simp))
                have hlR := Lib.hid (Rd.fr hxh.out.leases.1 fch.out (by simp [Off]))
                obtain ⟨W3, hW3⟩ : ∃ W3 : World, W3 = wc := ⟨_, rfl⟩
                subst hW3
                clear fc hall c0 c1 c2 c3 c4 c5 c6 c7 c8 c9 c10 hgl hn8
                obtain ⟨c0, c1, c2, c3, c4, c5, c6, c7, c8, c9, c10, hgl⟩ := fam_cells hB3.out
                obtain ⟨m, hm⟩ : ∃ z, Hid (x.f.leases.length = z) := ⟨_, Lib.hid rfl⟩
                have hm8 := hzh.out.ll
                have hlR2 := hlR.out
                obtain ⟨lA, hlA⟩ : ∃ z, Hid (x.lA = z) := ⟨_, Lib.hid rfl⟩
                rw [hm.out, hlA.out] at c10 hlR2
                rw [hm.out] at hm8
                rw [hlA.out]
                have hlRh := Lib.hid hlR2
                clear hlR2
                go_wp2_with fail
                go_loopg [5] (m + 1) (fun gk s143 wr => ∃ (i : Nat), s143 = .int .i64 i ∧ i ≤ m ∧ m - i < gk ∧ (∀ j, j < i → leR x.f.leases j = true) ∧ Fr [] W3 wr)
                case atStart => exact ⟨0, rfl, by omega, by omega, by omega, Fr.refl _ _⟩
                case round =>
                  obtain ⟨i, rfl, hi, hk, hall, hF3⟩ := hrel
                  have hF3h := Lib.hid hF3
                  clear c10
                  obtain ⟨_, _, _, _, _, _, _, _, _, _, c10, hgl⟩ := fam_cells (hB3.out.fr hF3 (by simp))
                  rw [hm.out, hlA.out] at c10
                  have hall3 := Lib.hid hall
                  clear hall
                  by_cases hlt : i < m
                  · have hlt' : (i : Int) < m := by omega
                    have hlth := Lib.hid hlt
                    obtain ⟨lb, lo, eA, hlc⟩ := (Rd.fr hlRh.out hF3 (by simp [Off])).2 (by omega)
                    have hci : ∀ j, j < m → wr.cell? ⟨lb, lo + j, none⟩ = some (.int .i64 (x.f.leases.getD j 0)) := fun j hj => hlc j _ (by
                      have h1 : j < x.f.leases.length := by rw [hm.out]; exact hj
                      rw [getD_lt _ h1]
                      unfold intCells
                      rw [List.getElem?_map, List.getElem?_eq_getElem h1]
                      rfl)
                    subst eA
                    have e0 := hci i hlt
                    have hprev := Lib.hid (fun (h0 : 0 < i) => hci (i - 1) (by omega))
                    obtain ⟨e, he⟩ : ∃ z, Hid (x.f.leases.getD i 0 = z) := ⟨_, Lib.hid rfl⟩
                    rw [he.out] at e0
                    have hbad := Lib.hid (fun (h : leR x.f.leases i = false) => show rightM x.f = false by
                      unfold rightM leaR
                      rw [all_not (List.mem_range.2 (show i < x.f.leases.length by rw [hm.out]; exact hlth.out)) h, Bool.and_false])
                    clear hci hlc hlt hF3
                    by_cases h1 : e < 0
                    · have hres := Lib.hid (hbad.out (by unfold leR; rw [he.out, decide_eq_false (show ¬ 0 ≤ e by omega)]; rfl))
                      go_upto_region 23 with (fail)
                      go_quiet (fail)
                      go_wp2_with fail
                      go_ret
                      exact ⟨ret_eq hres.out.symm, fch.out.trans (hF3h.out.drewN _)⟩
                    · by_cases h2 : 32 ≤ e
                      · have hres := Lib.hid (hbad.out (by unfold leR; rw [he.out, decide_eq_false (show ¬ e < 32 by omega), Bool.and_false]; rfl))
                        go_upto_region 23 with (fail)
                        go_quiet (fail)
                        go_wp2_with fail
                        go_ret
                        exact ⟨ret_eq hres.out.symm, fch.out.trans (hF3h.out.drewN _)⟩
                      · by_cases h0 : 0 < i
                        · have h0' : 0 < (i : Int) := by omega
                          have ep := hprev.out h0
                          have hi1 : (((i - 1 : Nat)) : Int) = (i : Int) - 1 := by omega
                          obtain ⟨e2, he2⟩ : ∃ z, Hid (x.f.leases.getD (i - 1) 0 = z) := ⟨_, Lib.hid rfl⟩
                          rw [he2.out] at ep
                          obtain ⟨i1, hi1e⟩ : ∃ z, Hid (i - 1 = z) := ⟨_, Lib.hid rfl⟩
                          have hi1' : (i : Int) - 1 = (i1 : Int) := by have := hi1e.out; omega
                          rw [hi1e.out] at ep
                          clear hi1
                          by_cases h3 : e ≤ e2
                          · have hres := Lib.hid (hbad.out (by unfold leR; rw [he.out, he2.out, decide_eq_true h0, decide_eq_true h3]; simp))
                            go_upto_region 23 with (fail)
                            go_quiet (fail)
                            go_wp2_with fail
                            go_ret
                            exact ⟨ret_eq hres.out.symm, fch.out.trans (hF3h.out.drewN _)⟩
                          · have hgood := Lib.hid (show leR x.f.leases i = true by
                              unfold leR
                              rw [he.out, he2.out, decide_eq_true (show 0 ≤ e by omega), decide_eq_true (show e < 32 by omega), decide_eq_false h3]
                              simp)
                            go_upto_region 23 with (fail)
                            go_quiet (fail)
                            go_wp2_with fail
                            go_roundg (m - i)
                            case measure => have := hlth.out; omega
                            case rel => exact ⟨i + 1, by go_num, by have := hlth.out; omega, by have := hlth.out; omega, fun j hj => if hji : j = i then hji ▸ hgood.out else hall3.out j (by omega), hF3h.out.drewN _⟩
                        · have h0' : ¬ 0 < (i : Int) := by omega
                          have hgood := Lib.hid (show leR x.f.leases i = true by
                            unfold leR
                            rw [he.out, decide_eq_true (show 0 ≤ e by omega), decide_eq_true (show e < 32 by omega), decide_eq_false h0]
                            simp)
                          go_upto_region 23 with (fail)
                          go_quiet (fail)
                          go_wp2_with fail
                          go_roundg (m - i)
                          case measure => have := hlth.out; omega
                          case rel => exact ⟨i + 1, by go_num, by have := hlth.out; omega, by have := hlth.out; omega, fun j hj => if hji : j = i then hji ▸ hgood.out else hall3.out j (by omega), hF3h.out.drewN _⟩
                  · have hge : ¬ (i : Int) < m := by omega
                    have hin : i = m := by omega
                    have hres := Lib.hid (show rightM x.f = true by
                      unfold rightM leaR
                      rw [hhm.out, hallh.out, Bool.true_and, Bool.true_and, List.all_eq_true]
                      intro j hj
                      exact hall3.out j (by rw [hin, ← hm.out]; exact List.mem_range.1 hj))
                    go_wp2_with fail
                    go_ret
                    exact ⟨ret_eq hres.out.symm, fch.out.trans hF3h.out⟩
end Go.Proofs.YtdeoinjjphdbmaaGreat
