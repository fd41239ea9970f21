/- Walk: a book without room refuses new families alone. Conditions: each theorem's own. -/
import Derived.Test.YtdeoinjjphdbmaaGreatHu
import Derived.Test.YtdeoinjjphdbmaaGreatHy
namespace Go.Proofs.YtdeoinjjphdbmaaGreat
open Go.RowKit Go.Sig

def room5 (n : Int) : Int := 1 + n % 18446744073709551616 % 5
theorem room5_rem (n : Int) : (IntKind.u64.wrap n).tmod 5 = n % 18446744073709551616 % 5 := by
  have h : IntKind.u64.wrap n = n % 18446744073709551616 := by simp [IntKind.wrap, IntKind.bits, IntKind.signed]
  rw [h, Int.tmod_eq_emod_of_nonneg (by omega)]
set_option maxRecDepth 100000 in
set_option maxHeartbeats 4000000 in
theorem gfull_t (w : World) (n : Int) (A : Option Addr) (m k : Nat) (l : List CA) (h : CmdsIn w A m l) (x : CA) (hc : CmdIn w x.c x.A x.c.scope.length) :
    Calls Tryz.prog 7 #[.int .i64 n, .slice A m k, .agg x.cells] w fun e w' => e = .returned (.bool true) ∧ Fr [] w w' := by
  obtain ⟨c, cA, ck⟩ := x
  have hml := h.hl
  have hh := Lib.hid h
  have hch := Lib.hid hc
  have hr := room5_rem n
  have hr1 : 0 ≤ n % 18446744073709551616 % 5 := by omega
  have hr2 : n % 18446744073709551616 % 5 < 5 := by omega
  obtain ⟨r5, hr5⟩ : ∃ z, Hid (n % 18446744073709551616 % 5 = z) := ⟨_, Lib.hid rfl⟩
  rw [hr5.out] at hr hr1 hr2
  have hnew := fun v => gnew_t v (1 + r5) (by omega) (by omega)
  clear h hc
  simp only [CA.cells] at hch ⊢
  unfold cmdV
  go_enter Tryz.func7, Tryz.ntmps7
  go_upto_region 1 with (fail)
  refine wp_gen (fun W => Blk W w.heap.size 30 (cmdV c cA c.scope.length ck) ∧ Fr [] w W) ⟨Blk.new _ _ _, (Fr.refl _ _).alloc _⟩ ?_
  rintro W0 ⟨hC0, f0⟩
  obtain ⟨gc, HGC⟩ : ∃ z, Hid (w.heap.size = z) := ⟨_, Lib.hid rfl⟩
  rw [HGC.out] at hC0 ⊢
  have hC0h := Lib.hid hC0
  have f0h := Lib.hid f0
  have hnew := hnew W0
  have hcl0 := hC0.lt
  clear hC0 f0
  go_wp2_with fail
  refine hnew.mono ?_
  rintro e W1 ⟨p, mb, rfl, hB1, hpw, hmw, F1⟩
  have hgm : gc ≠ mb := by omega
  have hmw0 : w.heap.size ≤ mb := by have := f0h.out.size; omega
  have hB1h := Lib.hid hB1
  have F1h := Lib.hid (f0h.out.trans F1)
  have hC1h := Lib.hid (hC0h.out.fr F1 (by simp))
  clear hnew F1 hB1
  go_upto_block 0 with (fail)
  go_cut [9] from 28 to 101 (fun s9 wx => ∃ b, BookAt wx p mb (1 + r5) [mb] b ∧ (b.length : Int) ≤ 1 + r5 ∧ Blk wx gc 30 (cmdV c cA c.scope.length ck) ∧ Fr [] w wx)
  case first =>
    go_wp2_with fail
    go_loopg [9] (m + 1) (fun gk s9 wr => ∃ (i : Nat) (b : GBk), s9 = .int .i64 i ∧ i ≤ m ∧ m - i < gk ∧ BookAt wr p mb (1 + r5) [mb] b ∧ (b.length : Int) ≤ 1 + r5 ∧ Blk wr gc 30 (cmdV c cA c.scope.length ck) ∧ Fr [] w wr)
    case atStart => exact ⟨0, [], rfl, by omega, by omega, hB1h.out, by simp; omega, hC1h.out, F1h.out⟩
    case round =>
      obtain ⟨i, b, rfl, him, hik, hB, hbl, hC, hF⟩ := hrel
      have hBh := Lib.hid hB
      have hCh := Lib.hid hC
      have hFh := Lib.hid hF
      clear hB hF hC
      by_cases hlt : i < m
      · have hlt' : (i : Int) < m := by omega
        by_cases h60 : i < 60
        · have h60' : (i : Int) < 60 := by omega
          have hlth := Lib.hid hlt
          have hfa := fams_t wr p mb (1 + r5) [mb] b hBh.out (by omega)
          go_wp2_with fail
          refine hfa.mono ?_
          rintro e V1 ⟨la, Aa, ca, rfl, hla, hFa, f1⟩
          have hFah := Lib.hid (hFa.read (X := [mb]) hBh.out.ok hla (fun z hz => by simp at hz; subst hz; exact hBh.out.hb.lt))
          have hlah := Lib.hid hla
          have f1h := Lib.hid f1
          have FF1 := Lib.hid (hFh.out.trans f1)
          have hB1 := Lib.hid (hBh.out.fr0 f1)
          have hNa := Lib.hid (show la.length = b.length by rw [← List.length_map (f := fun x : FA => x.f), hla, famsM_length b hBh.out.ok])
          rw [hNa.out]
          clear hfa hFa hla f1
          obtain ⟨⟨c1, cA1, ck1⟩, rb, ro, rfl, hxi, hcs, hci⟩ := (hh.out.fr FF1.out).row hlt
          simp only [CA.cells] at hcs hci
          have hxih := Lib.hid hxi
          have hd := bdo_t V1 p mb (1 + r5) [mb] b c1 cA1 c1.scope.length ck1 hB1.out hci
          clear hxi hci hlt
          go_wp2_with (refine wpList_load_cells rfl 30 _ rfl rfl hcs uCmd rfl (infoCmdV _ _ _ _) ?_)
          clear hcs
          have hC1x := Lib.hid (hCh.out.fr f1h.out (by simp))
          have hFa1 := hFah

          refine Calls.mono (show Calls Tryz.prog 14 _ _ _ from hd) ?_
          rintro e V2 ⟨u, rfl, ue, uA, uB, FV2⟩
          have hBV2 := Lib.hid (uB.mono (Y := [mb]) (by simp) (by simp))
          have ueh := Lib.hid ue
          clear hd uA uB ue
          unfold AA.val
          go_upto_region 8 with (refine wpList_store_row rfl 33 _ _ rfl V2.heap.size u.cells rfl rfl 33 _ (Blk.new _ _ _) (infoAnsY u) (by rw [AA.size8]; rfl) (AA.one u) ?_)
          refine wp_gen (fun W => Blk W V2.heap.size 33 u.cells ∧ Fr [] V2 W) ⟨Blk.setRow (Blk.new _ _ _) _, ((Fr.refl [] V2).alloc _).setRow (.inr (Nat.le_refl _)) _⟩ ?_
          rintro V3 ⟨guB, GV3⟩
          obtain ⟨gu, guE⟩ : ∃ z, Hid (V2.heap.size = z) := ⟨_, Lib.hid rfl⟩
          rw [guE.out] at guB ⊢
          have guBh := Lib.hid guB
          have gune : mb ≠ gu := by have := hB1.out.hb.lt; have := FV2.size; have := guE.out; omega
          have fV3 := Lib.hid (FV2.trans GV3.nil)
          have FFV3 := Lib.hid (FF1.out.andThen fV3.out (fun g hg => .inr (by simp at hg; omega)))
          have hBV3 := Lib.hid (hBV2.out.fr0 GV3)
          have hC3 := Lib.hid (hC1x.out.fr fV3.out (by simp; exact hgm))
          clear FV2 GV3 guB

          have hFa3 := Lib.hid (hFah.out.fr fV3.out)
          have hfb := fams_t V3 p mb (1 + r5) [mb] (doM (1 + r5) c1 b).1 hBV3.out (by have := do_room (room := 1 + r5) (c := c1) hBh.out.ok hbl; omega)
          go_wp2_with fail
          refine hfb.mono ?_
          rintro e V4 ⟨lb, Ab, cb, rfl, hlb, hFb, f4⟩
          have hok2 := doM_ok (room := 1 + r5) (c := c1) hBh.out.ok
          have hFb4 := Lib.hid (hFb.read (X := []) hok2 hlb (by simp))
          have hlbh := Lib.hid hlb
          have hNb := Lib.hid (show lb.length = (doM (1 + r5) c1 b).1.length by rw [← List.length_map (f := fun x : FA => x.f), hlb, famsM_length _ hok2])
          have hFa4 := Lib.hid (hFa3.out.fr f4.nil)
          have FF4 := Lib.hid (FFV3.out.trans f4)
          have hB4 := Lib.hid (hBV3.out.fr0 f4)
          have hC4 := Lib.hid (hC3.out.fr f4 (by simp))
          have guB4 := Lib.hid (guBh.out.fr f4 (by simp))
          have k0 := (hh.out.fr FF4.out).cell hlth.out hxih.out (j := 0) (v := .int .i64 c1.kind) rfl
          rw [Nat.add_zero] at k0
          obtain ⟨y0, _, _, _, _, _, _, _, hyl⟩ := AA.blk guB4.out
          rw [ueh.out] at y0
          obtain ⟨kd, hkd⟩ : ∃ z, Hid (c1.kind = z) := ⟨_, Lib.hid rfl⟩
          rw [hkd.out] at k0
          obtain ⟨wy, hwy⟩ : ∃ z, Hid ((doM (1 + r5) c1 b).2.why = z) := ⟨_, Lib.hid rfl⟩
          rw [hwy.out] at y0
          have hlen := do_len (room := 1 + r5) (c := c1) hBh.out.ok
          have hrm2 := do_room (room := 1 + r5) (c := c1) hBh.out.ok hbl
          have hnone := Lib.hid (fun e : wy = 7 => do_none (room := 1 + r5) (c := c1) (b := b) (hwy.out.trans e))
          obtain ⟨Na, hNae⟩ : ∃ z, Hid (b.length = z) := ⟨_, Lib.hid rfl⟩
          obtain ⟨Nb, hNbe⟩ : ∃ z, Hid ((doM (1 + r5) c1 b).1.length = z) := ⟨_, Lib.hid rfl⟩
          have hNa2 := Lib.hid (hNa.out.trans hNae.out)
          have hNb2 := Lib.hid (hNb.out.trans hNbe.out)
          rw [hNb2.out, hNae.out]
          rw [hNae.out, hNbe.out, hkd.out] at hlen
          rw [hNbe.out] at hrm2
          have hblh := Lib.hid hbl
          rw [hNae.out] at hbl
          have hal := Lib.hid (fun e : wy = 7 => rall_t V4 Aa Ab Na ca cb la lb (by have h := hFa4.out.mono (Y := []) (by simp); rwa [hNa2.out] at h) (by
            have h := hFb4.out
            have e2 : Nb = Na := by rw [← hNbe.out, ← hNae.out, (hnone.out e).1]
            rw [hNb2.out, e2] at h
            exact h) (by rw [hlah.out, hlbh.out, (hnone.out e).1]) (by omega))
          have hleb := Lib.hid (fun e : wy = 7 => show Nb = Na by rw [← hNbe.out, ← hNae.out, (hnone.out e).1])
          have hfull := Lib.hid (fun (e : wy = 7) (hk : kd = 1 ∨ kd = 4) => show (Na : Int) = 1 + r5 by
            have h1 := (hnone.out e).2 (by rw [hkd.out]; exact hk)
            rw [hNae.out] at h1
            omega)
          have k0h := Lib.hid k0
          have y0h := Lib.hid y0
          clear hfb hFb hlb f4 hok2 k0 y0 hyl
          have k0 := k0h.out
          have y0 := y0h.out
          have hgr : ¬ (1 + r5 < (Nb : Int)) := by omega
          by_cases e7 : wy = 7
          · have e7t : (wy == 7) = true := by rw [beq_iff_eq]; exact e7
            have hall := hal.out e7
            obtain rfl := hleb.out e7
            have hfu := hfull.out e7
            have hnn : ¬ ((Nb : Int) < (Nb : Int)) := by omega
            by_cases h1 : kd = 1
            · have h1t : (kd == 1) = true := by rw [beq_iff_eq]; exact h1
              have hft := hfu (.inl h1)
              have hftb : ((Nb : Int) != 1 + r5) = false := by rw [hft]; simp
              clear e7 h1 hlen hfu hft
              go_wp2_with fail
              refine Calls.mono (show Calls Tryz.prog 22 _ _ _ from hall) ?_
              rintro e V5 ⟨rfl, F5⟩
              have FF5 := Lib.hid (FF4.out.trans F5)
              have hB4 := Lib.hid (hB4.out.fr0 F5)
              have hC4 := Lib.hid (hC4.out.fr F5 (by simp))
              have k0 := cell_fr F5 k0h.out
              have y0 := cell_fr F5 y0h.out
              clear hall F5
              go_wp2_with fail
              go_roundg (m - i)
              case measure => have := hlth.out; omega
              case rel => exact ⟨i + 1, _, by go_num, by have := hlth.out; omega, by have := hlth.out; omega, hB4.out, by rw [hNbe.out]; exact hrm2, hC4.out, FF5.out⟩
            · have h1f : (kd == 1) = false := by rw [beq_eq_false_iff_ne]; exact h1
              by_cases h4 : kd = 4
              · have h4t : (kd == 4) = true := by rw [beq_iff_eq]; exact h4
                have hft := hfu (.inr h4)
                have hftb : ((Nb : Int) != 1 + r5) = false := by rw [hft]; simp
                clear e7 h1 h4 hlen hfu hft
                go_wp2_with fail
                refine Calls.mono (show Calls Tryz.prog 22 _ _ _ from hall) ?_
                rintro e V5 ⟨rfl, F5⟩
                have FF5 := Lib.hid (FF4.out.trans F5)
                have hB4 := Lib.hid (hB4.out.fr0 F5)
                have hC4 := Lib.hid (hC4.out.fr F5 (by simp))
                have k0 := cell_fr F5 k0h.out
                have y0 := cell_fr F5 y0h.out
                clear hall F5
                go_wp2_with fail
                go_roundg (m - i)
                case measure => have := hlth.out; omega
                case rel => exact ⟨i + 1, _, by go_num, by have := hlth.out; omega, by have := hlth.out; omega, hB4.out, by rw [hNbe.out]; exact hrm2, hC4.out, FF5.out⟩
              · have h4f : (kd == 4) = false := by rw [beq_eq_false_iff_ne]; exact h4
                clear e7 h1 h4 hlen hfu
                go_wp2_with fail
                refine Calls.mono (show Calls Tryz.prog 22 _ _ _ from hall) ?_
                rintro e V5 ⟨rfl, F5⟩
                have FF5 := Lib.hid (FF4.out.trans F5)
                have hB4 := Lib.hid (hB4.out.fr0 F5)
                have hC4 := Lib.hid (hC4.out.fr F5 (by simp))
                have k0 := cell_fr F5 k0h.out
                have y0 := cell_fr F5 y0h.out
                clear hall F5
                go_wp2_with fail
                go_roundg (m - i)
                case measure => have := hlth.out; omega
                case rel => exact ⟨i + 1, _, by go_num, by have := hlth.out; omega, by have := hlth.out; omega, hB4.out, by rw [hNbe.out]; exact hrm2, hC4.out, FF5.out⟩
          · have e7f : (wy == 7) = false := by rw [beq_eq_false_iff_ne]; exact e7
            by_cases h1 : kd = 1
            · have h1t : (kd == 1) = true := by rw [beq_iff_eq]; exact h1
              clear e7 h1 hlen
              go_wp2_with fail
              all_goals
                go_roundg (m - i)
                case measure => have := hlth.out; omega
                case rel => exact ⟨i + 1, _, by go_num, by have := hlth.out; omega, by have := hlth.out; omega, hB4.out, by rw [hNbe.out]; exact hrm2, hC4.out, FF4.out⟩
            · have h1f : (kd == 1) = false := by rw [beq_eq_false_iff_ne]; exact h1
              by_cases h4 : kd = 4
              · have h4t : (kd == 4) = true := by rw [beq_iff_eq]; exact h4
                clear e7 h1 h4 hlen
                go_wp2_with fail
                all_goals
                  go_roundg (m - i)
                  case measure => have := hlth.out; omega
                  case rel => exact ⟨i + 1, _, by go_num, by have := hlth.out; omega, by have := hlth.out; omega, hB4.out, by rw [hNbe.out]; exact hrm2, hC4.out, FF4.out⟩
              · have h4f : (kd == 4) = false := by rw [beq_eq_false_iff_ne]; exact h4
                have hng : ¬ ((Na : Int) < (Nb : Int)) := by omega
                clear e7 h1 h4 hlen
                go_wp2_with fail
                go_roundg (m - i)
                case measure => have := hlth.out; omega
                case rel => exact ⟨i + 1, _, by go_num, by have := hlth.out; omega, by have := hlth.out; omega, hB4.out, by rw [hNbe.out]; exact hrm2, hC4.out, FF4.out⟩
        · have h60' : ¬ (i : Int) < 60 := by omega
          go_wp2_with fail
          go_meet
          case rel => exact ⟨b, hBh.out, hbl, hCh.out, hFh.out⟩
      · have hlt' : ¬ (i : Int) < m := by omega
        go_wp2_with fail
        go_meet
        case rel => exact ⟨b, hBh.out, hbl, hCh.out, hFh.out⟩
  case rest =>
    obtain ⟨b, hB, hbl, hC, hF⟩ := hcut
    have hBh := Lib.hid hB
    have hFh := Lib.hid hF
    have hCh := Lib.hid hC
    have hkn := known_t wc
    clear hB hF hC
    go_wp2_with fail
    refine Calls.mono (show Calls Tryz.prog 17 _ _ _ from hkn) ?_
    rintro e K1 ⟨rfl, G1⟩
    have FK1 := Lib.hid (hFh.out.trans G1)
    have hBK := Lib.hid (hBh.out.fr0 G1)
    have hCK := Lib.hid (hCh.out.fr G1 (by simp))
    have hci := hch.out.fr FK1.out (by simp [Off])
    have hmay := may_t K1 c cA c.scope.length ck hci.hS hci.hn hci.hl hci.hs hci.hf
    have hC3 := hCK.out
    obtain ⟨mv, hmv⟩ : ∃ z, Hid (mayM c = z) := ⟨_, Lib.hid rfl⟩
    rw [hmv.out] at hmay
    clear hkn G1 hci
    go_wp2_with (refine wpList_load_if (by rfl) 30 _ rfl rfl (blk_cells hC3) uCmd rfl (infoCmdV _ _ _ _) ?_)
    refine Calls.mono (show Calls Tryz.prog 15 _ _ _ from hmay) ?_
    rintro e K2 ⟨rfl, F2⟩
    have FK2 := Lib.hid (FK1.out.trans F2)
    have hB2 := Lib.hid (hBK.out.fr0 F2)
    have hC2 := Lib.hid (hCK.out.fr F2 (by simp))
    clear hmay F2 hC3
    cases mv with
    | false =>
      go_wp2_with fail
      refine Calls.mono (show Calls Tryz.prog 17 _ _ _ from known_t _) ?_
      rintro e K3 ⟨rfl, F3⟩
      have FK3 := Lib.hid (FK2.out.trans F3)
      clear F3
      go_wp2_with fail
      go_ret
      exact ⟨rfl, FK3.out⟩
    | true =>
      obtain ⟨c0, c1, _, _, _, _, _, _, _, _, _, _, _, hcl⟩ := cmdV_cells hC2.out
      obtain ⟨kd, hkd⟩ : ∃ z, Hid (c.kind = z) := ⟨_, Lib.hid rfl⟩
      rw [hkd.out] at c0
      by_cases h1 : kd = 1
      · have h1f : (kd != 1) = false := by subst h1; rfl
        have hbeg := do_begin (room := 1 + r5) (b := b) hmv.out (by rw [hkd.out]; exact .inl h1)
        have hbegh := Lib.hid hbeg
        clear h1 hbeg
        have hfam := family_t K2 p mb (1 + r5) [mb] b c.family hB2.out
        obtain ⟨is2, his2⟩ : ∃ z, Hid ((aget c.family b).isSome = z) := ⟨_, Lib.hid rfl⟩
        go_wp2_with fail
        clear c0 c1 hcl
        refine Calls.mono (show Calls Tryz.prog 16 _ _ _ from hfam) ?_
        rintro e K3 ⟨y, rfl, ye, yw, FK3⟩
        rw [his2.out]
        clear hfam
        unfold FA.val
        go_upto_region 15 with (refine wpList_store_row rfl 39 _ _ rfl K3.heap.size y.cells rfl rfl 39 _ (Blk.new _ _ _) (infoFamA y) (by rw [FA.size11]; rfl) (FA.all1 y) ?_)
        refine wp_gen (fun W => Blk W K3.heap.size 39 y.cells ∧ Fr [] K3 W) ⟨Blk.setRow (Blk.new _ _ _) _, ((Fr.refl [] K3).alloc _).setRow (.inr (Nat.le_refl _)) _⟩ ?_
        rintro K4 ⟨gyB, GK4⟩
        obtain ⟨gy, gyE⟩ : ∃ z, Hid (K3.heap.size = z) := ⟨_, Lib.hid rfl⟩
        rw [gyE.out] at gyB ⊢
        have gyBh := Lib.hid gyB
        have gyw := Lib.hid (yw.fr0 GK4)
        have gyne : mb ≠ gy := by have := hB2.out.hb.lt; have := FK3.size; have := gyE.out; omega
        have yeh := Lib.hid ye
        have fK4 := Lib.hid (FK3.trans GK4)
        have FFK4 := Lib.hid (FK2.out.trans fK4.out)
        have hBK4 := Lib.hid (hB2.out.fr0 fK4.out)
        have hC4 := Lib.hid (hC2.out.fr fK4.out (by simp))
        clear yw ye FK3 GK4 gyB

        have hcnt := gcount_t K4 p mb (1 + r5) [mb] b hBK4.out
        have hful := Lib.hid (show ((b.length : Nat) : Int) = 1 + r5 ↔ 1 + r5 ≤ ((b.length : Nat) : Int) by omega)
        obtain ⟨fu, hfu⟩ : ∃ z, Hid ((((b.length : Nat) : Int) == 1 + r5) = z) := ⟨_, Lib.hid rfl⟩
        obtain ⟨bl, hbl2⟩ : ∃ z, Hid (((b.length : Nat) : Int) = z) := ⟨_, Lib.hid rfl⟩
        have hbl3 := Lib.hid hbl
        have hfu2 := hfu.out
        rw [hbl2.out] at hcnt hfu2
        clear hbl
        go_wp2_with fail
        refine Calls.mono (show Calls Tryz.prog 26 _ _ _ from hcnt) ?_
        rintro e K5 ⟨rfl, rfl⟩
        clear hcnt
        have hd := bdo_t K4 p mb (1 + r5) [mb] b c cA c.scope.length ck hBK4.out (hch.out.fr FFK4.out (by simp [Off]))
        have hC5 := hC4.out
        go_wp2_with (refine wpList_load_cells rfl 30 _ rfl rfl (blk_cells hC5) uCmd rfl (infoCmdV _ _ _ _) ?_)
        clear hC5

        refine Calls.mono (show Calls Tryz.prog 14 _ _ _ from hd) ?_
        rintro e K6 ⟨u, rfl, ue, uA, uB, FK6⟩
        have hBK6 := Lib.hid (uB.mono (Y := [mb]) (by simp) (by simp))
        have ueh := Lib.hid ue
        clear hd uA uB ue
        unfold AA.val
        go_upto_region 17 with (refine wpList_store_row rfl 33 _ _ rfl K6.heap.size u.cells rfl rfl 33 _ (Blk.new _ _ _) (infoAnsY u) (by rw [AA.size8]; rfl) (AA.one u) ?_)
        refine wp_gen (fun W => Blk W K6.heap.size 33 u.cells ∧ Fr [] K6 W) ⟨Blk.setRow (Blk.new _ _ _) _, ((Fr.refl [] K6).alloc _).setRow (.inr (Nat.le_refl _)) _⟩ ?_
        rintro K7 ⟨guB, GK7⟩
        obtain ⟨gu, guE⟩ : ∃ z, Hid (K6.heap.size = z) := ⟨_, Lib.hid rfl⟩
        rw [guE.out] at guB ⊢
        have guBh := Lib.hid guB
        have gune : mb ≠ gu := by have := hBK4.out.hb.lt; have := FK6.size; have := guE.out; omega
        have fK7 := Lib.hid (FK6.trans GK7.nil)
        have FFK7 := Lib.hid (FFK4.out.andThen fK7.out (fun g hg => .inr (by simp at hg; omega)))
        have hBK7 := Lib.hid (hBK6.out.fr0 GK7)
        clear FK6 GK7 guB

        obtain ⟨u0, _, _, _, _, _, _, _, hul⟩ := AA.blk guBh.out
        rw [ueh.out, hbegh.out, his2.out] at u0
        cases is2 with
        | true =>
          simp only [if_true] at u0
          go_wp2_with fail
          go_ret
          exact ⟨rfl, FFK7.out⟩
        | false =>
          cases fu with
          | true =>
            have h7 : 1 + r5 ≤ ((b.length : Nat) : Int) := hful.out.1 (by simpa using hfu.out)
            rw [if_neg (by simp), if_pos h7] at u0
            clear h7
            go_wp2_with fail
            go_ret
            exact ⟨rfl, FFK7.out⟩
          | false =>
            have h7 : ¬ 1 + r5 ≤ ((b.length : Nat) : Int) := fun h => by
              have := hful.out.2 h
              have h2 := hfu.out
              rw [this] at h2
              simp at h2
            rw [if_neg (by simp), if_neg h7] at u0
            clear h7
            go_wp2_with fail
            go_ret
            exact ⟨rfl, FFK7.out⟩
      · have h1f : (kd != 1) = true := by rw [bne_iff_ne]; exact h1
        by_cases h4 : kd = 4
        · have h4f : (kd != 4) = false := by subst h4; rfl
          have hbeg := do_begin (room := 1 + r5) (b := b) hmv.out (by rw [hkd.out]; exact .inr h4)
          have hbegh := Lib.hid hbeg
          clear h1 h4 hbeg
          have hfam := family_t K2 p mb (1 + r5) [mb] b c.family hB2.out
          obtain ⟨is2, his2⟩ : ∃ z, Hid ((aget c.family b).isSome = z) := ⟨_, Lib.hid rfl⟩
          go_wp2_with fail
          clear c0 c1 hcl
          refine Calls.mono (show Calls Tryz.prog 16 _ _ _ from hfam) ?_
          rintro e K3 ⟨y, rfl, ye, yw, FK3⟩
          rw [his2.out]
          clear hfam
          unfold FA.val
          go_upto_region 15 with (refine wpList_store_row rfl 39 _ _ rfl K3.heap.size y.cells rfl rfl 39 _ (Blk.new _ _ _) (infoFamA y) (by rw [FA.size11]; rfl) (FA.all1 y) ?_)
          refine wp_gen (fun W => Blk W K3.heap.size 39 y.cells ∧ Fr [] K3 W) ⟨Blk.setRow (Blk.new _ _ _) _, ((Fr.refl [] K3).alloc _).setRow (.inr (Nat.le_refl _)) _⟩ ?_
          rintro K4 ⟨gyB, GK4⟩
          obtain ⟨gy, gyE⟩ : ∃ z, Hid (K3.heap.size = z) := ⟨_, Lib.hid rfl⟩
          rw [gyE.out] at gyB ⊢
          have gyBh := Lib.hid gyB
          have gyw := Lib.hid (yw.fr0 GK4)
          have gyne : mb ≠ gy := by have := hB2.out.hb.lt; have := FK3.size; have := gyE.out; omega
          have yeh := Lib.hid ye
          have fK4 := Lib.hid (FK3.trans GK4)
          have FFK4 := Lib.hid (FK2.out.trans fK4.out)
          have hBK4 := Lib.hid (hB2.out.fr0 fK4.out)
          have hC4 := Lib.hid (hC2.out.fr fK4.out (by simp))
          clear yw ye FK3 GK4 gyB

          have hcnt := gcount_t K4 p mb (1 + r5) [mb] b hBK4.out
          have hful := Lib.hid (show ((b.length : Nat) : Int) = 1 + r5 ↔ 1 + r5 ≤ ((b.length : Nat) : Int) by omega)
          obtain ⟨fu, hfu⟩ : ∃ z, Hid ((((b.length : Nat) : Int) == 1 + r5) = z) := ⟨_, Lib.hid rfl⟩
          obtain ⟨bl, hbl2⟩ : ∃ z, Hid (((b.length : Nat) : Int) = z) := ⟨_, Lib.hid rfl⟩
          have hbl3 := Lib.hid hbl
          have hfu2 := hfu.out
          rw [hbl2.out] at hcnt hfu2
          clear hbl
          go_wp2_with fail
          refine Calls.mono (show Calls Tryz.prog 26 _ _ _ from hcnt) ?_
          rintro e K5 ⟨rfl, rfl⟩
          clear hcnt
          have hd := bdo_t K4 p mb (1 + r5) [mb] b c cA c.scope.length ck hBK4.out (hch.out.fr FFK4.out (by simp [Off]))
          have hC5 := hC4.out
          go_wp2_with (refine wpList_load_cells rfl 30 _ rfl rfl (blk_cells hC5) uCmd rfl (infoCmdV _ _ _ _) ?_)
          clear hC5

          refine Calls.mono (show Calls Tryz.prog 14 _ _ _ from hd) ?_
          rintro e K6 ⟨u, rfl, ue, uA, uB, FK6⟩
          have hBK6 := Lib.hid (uB.mono (Y := [mb]) (by simp) (by simp))
          have ueh := Lib.hid ue
          clear hd uA uB ue
          unfold AA.val
          go_upto_region 17 with (refine wpList_store_row rfl 33 _ _ rfl K6.heap.size u.cells rfl rfl 33 _ (Blk.new _ _ _) (infoAnsY u) (by rw [AA.size8]; rfl) (AA.one u) ?_)
          refine wp_gen (fun W => Blk W K6.heap.size 33 u.cells ∧ Fr [] K6 W) ⟨Blk.setRow (Blk.new _ _ _) _, ((Fr.refl [] K6).alloc _).setRow (.inr (Nat.le_refl _)) _⟩ ?_
          rintro K7 ⟨guB, GK7⟩
          obtain ⟨gu, guE⟩ : ∃ z, Hid (K6.heap.size = z) := ⟨_, Lib.hid rfl⟩
          rw [guE.out] at guB ⊢
          have guBh := Lib.hid guB
          have gune : mb ≠ gu := by have := hBK4.out.hb.lt; have := FK6.size; have := guE.out; omega
          have fK7 := Lib.hid (FK6.trans GK7.nil)
          have FFK7 := Lib.hid (FFK4.out.andThen fK7.out (fun g hg => .inr (by simp at hg; omega)))
          have hBK7 := Lib.hid (hBK6.out.fr0 GK7)
          clear FK6 GK7 guB

          obtain ⟨u0, _, _, _, _, _, _, _, hul⟩ := AA.blk guBh.out
          rw [ueh.out, hbegh.out, his2.out] at u0
          cases is2 with
          | true =>
            simp only [if_true] at u0
            go_wp2_with fail
            go_ret
            exact ⟨rfl, FFK7.out⟩
          | false =>
            cases fu with
            | true =>
              have h7 : 1 + r5 ≤ ((b.length : Nat) : Int) := hful.out.1 (by simpa using hfu.out)
              rw [if_neg (by simp), if_pos h7] at u0
              clear h7
              go_wp2_with fail
              go_ret
              exact ⟨rfl, FFK7.out⟩
            | false =>
              have h7 : ¬ 1 + r5 ≤ ((b.length : Nat) : Int) := fun h => by
                have := hful.out.2 h
                have h2 := hfu.out
                rw [this] at h2
                simp at h2
              rw [if_neg (by simp), if_neg h7] at u0
              clear h7
              go_wp2_with fail
              go_ret
              exact ⟨rfl, FFK7.out⟩
        · have h4f : (kd != 4) = true := by rw [bne_iff_ne]; exact h4
          clear h1 h4
          go_wp2_with fail
          refine Calls.mono (show Calls Tryz.prog 17 _ _ _ from known_t _) ?_
          rintro e K3 ⟨rfl, F3⟩
          have FK3 := Lib.hid (FK2.out.trans F3)
          clear F3
          go_wp2_with fail
          go_ret
          exact ⟨rfl, FK3.out⟩
end Go.Proofs.YtdeoinjjphdbmaaGreat
