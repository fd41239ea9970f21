/- Walk: revoked is revoked. Conditions: each theorem's own. -/
import Derived.Test.YtdeoinjjphdbmaaGreatHn
import Derived.Test.YtdeoinjjphdbmaaGreatHq
import Derived.Test.YtdeoinjjphdbmaaGreatHs
namespace Go.Proofs.YtdeoinjjphdbmaaGreat
open Go.RowKit Go.Sig

/-- A family told by its Id, in memory of its own, and what it is. -/
theorem fam_short2 {b : GBk} {id : ByteArray} {y : FA} {w : World} (hy : y.f = (aget id b).getD zeroF) (ok : BkOk b) (hw : FamIn w [] y) : Short y := by
  refine fam_short hw ?_
  rw [hy]
  cases h : aget id b with
  | none => exact .inr rfl
  | some f => exact .inl (ok.2 _ _ h).2
set_option maxRecDepth 100000 in
set_option maxHeartbeats 4000000 in
theorem gfalls_t (w : World) (n : Int) (A : Option Addr) (m k : Nat) (l : List CA) (h : CmdsIn w A m l) (x : CA) (hc : CmdIn w x.c x.A x.c.scope.length) (B : Option Addr) (q j : Nat) (l2 : List CA) (h2 : CmdsIn w B q l2) :
    Calls Tryz.prog 4 #[.int .i64 n, .slice A m k, .agg x.cells, .slice B q j] w fun e w' => e = .returned (.bool true) ∧ Fr [] w w' := by
  obtain ⟨c, cA, ck⟩ := x
  have hml := h.hl
  have hql := h2.hl
  have hh := Lib.hid h
  have hh2 := Lib.hid h2
  have hch := Lib.hid hc
  have hroom := roomL_t w n
  have hrm := roomM_in n
  obtain ⟨rm, hrme⟩ : ∃ z, Hid (roomM n = z) := ⟨_, Lib.hid rfl⟩
  rw [hrme.out] at hroom hrm
  have hnew := fun v => gnew_t v rm hrm.1 hrm.2
  clear h h2 hc hrm
  simp only [CA.cells] at hch ⊢
  unfold cmdV
  go_enter Tryz.func4, Tryz.ntmps4
  go_upto_region 1 with (fail)
  refine wp_gen (fun W => Blk W w.heap.size 30 (cmdV c cA c.scope.length ck) ∧ Fr [] w W) ⟨Blk.new _ _ _, (Fr.refl _ _).alloc _⟩ ?_
  rintro W0 ⟨hC0, f0⟩
  obtain ⟨gc, HGC⟩ : ∃ z, Hid (w.heap.size = z) := ⟨_, Lib.hid rfl⟩
  rw [HGC.out] at hC0 ⊢
  have hC0h := Lib.hid hC0
  have f0h := Lib.hid f0
  have hroom := roomL_t W0 n
  rw [hrme.out] at hroom
  have hnew := hnew W0
  have hcl0 := hC0.lt
  clear hC0 f0
  go_wp2_with fail
  refine hroom.mono ?_
  rintro e _ ⟨rfl, rfl⟩
  clear hroom
  go_wp2_with fail
  refine hnew.mono ?_
  rintro e W1 ⟨p, mb, rfl, hB1, hpw, hmw, F1⟩
  have hgm : gc ≠ mb := by omega
  have hmw0 : w.heap.size ≤ mb := by have := f0h.out.size; omega
  have hB1h := Lib.hid hB1
  have F1h := Lib.hid (f0h.out.trans F1)
  have hC1h := Lib.hid (hC0h.out.fr F1 (by simp))
  clear hnew F1 hB1
  go_upto_block 0 with (fail)
  go_cut [11] from 29 to 44 (fun s11 wx => ∃ b, BookAt wx p mb rm [mb] b ∧ Blk wx gc 30 (cmdV c cA c.scope.length ck) ∧ Fr [] w wx)
  case first =>
    go_wp2_with fail
    go_loopg [11] (m + 1) (fun gk s11 wr => ∃ (i : Nat) (b : GBk), s11 = .int .i64 i ∧ i ≤ m ∧ m - i < gk ∧ BookAt wr p mb rm [mb] b ∧ Blk wr gc 30 (cmdV c cA c.scope.length ck) ∧ Fr [] w wr)
    case atStart => exact ⟨0, [], rfl, by omega, by omega, hB1h.out, hC1h.out, F1h.out⟩
    case round =>
      obtain ⟨i, b, rfl, him, hik, hB, hC, hF⟩ := hrel
      have hBh := Lib.hid hB
      have hCh := Lib.hid hC
      have hFh := Lib.hid hF
      clear hB hF hC
      by_cases hlt : i < m
      · have hlt' : (i : Int) < m := by omega
        by_cases h60 : i < 60
        · have h60' : (i : Int) < 60 := by omega
          obtain ⟨⟨c1, cA1, ck1⟩, rb, ro, rfl, hxi, hcs, hci⟩ := (hh.out.fr hFh.out).row hlt
          simp only [CA.cells] at hcs hci
          have hlth := Lib.hid hlt
          have hd := bdo_t wr p mb rm [mb] b c1 cA1 c1.scope.length ck1 hBh.out hci
          clear hxi hci
          go_wp2_with (refine wpList_load_cells rfl 30 _ rfl rfl hcs uCmd rfl (infoCmdV _ _ _ _) ?_)
          refine Calls.mono (show Calls Tryz.prog 14 _ _ _ from hd) ?_
          rintro e V2 ⟨y, rfl, hy, hA, hBv, Fv⟩
          have hBvh := Lib.hid (hBv.mono (Y := [mb]) (by simp) (by simp))
          have FFv := Lib.hid (hFh.out.andThen Fv (fun g hg => .inr (by simp at hg; omega)))
          have hCv := Lib.hid (hCh.out.fr Fv (by simp; omega))
          clear hd hA hBv Fv hy hcs
          go_wp2_with fail
          go_roundg (m - i)
          case measure => have := hlth.out; omega
          case rel => exact ⟨i + 1, _, by go_num, by have := hlth.out; omega, by have := hlth.out; omega, hBvh.out, hCv.out, FFv.out⟩
        · have h60' : ¬ (i : Int) < 60 := by omega
          go_wp2_with fail
          go_meet
          case rel => exact ⟨b, hBh.out, hCh.out, hFh.out⟩
      · have hlt' : ¬ (i : Int) < m := by omega
        go_wp2_with fail
        go_meet
        case rel => exact ⟨b, hBh.out, hCh.out, hFh.out⟩
  case rest =>
    obtain ⟨b, hB, hC, hF⟩ := hcut
    have hBc := Lib.hid hB
    have hCc := Lib.hid hC
    have hFc := Lib.hid hF
    obtain ⟨_, c1, _, _, _, _, _, _, _, _, _, _, _, hcl⟩ := cmdV_cells hC
    have hmbw := hB.hb.lt
    clear hB hC hF

    have hfam := family_t wc p mb rm [mb] b c.family hBc.out
    obtain ⟨is, his⟩ : ∃ z, Hid ((aget c.family b).isSome = z) := ⟨_, Lib.hid rfl⟩
    go_wp2_with fail
    refine Calls.mono (show Calls Tryz.prog 16 _ _ _ from hfam) ?_
    rintro e W2 ⟨f, rfl, fe, fw, FW2⟩
    rw [his.out]
    clear hfam
    unfold FA.val
    go_upto_region 7 with (refine wpList_store_row rfl 39 _ _ rfl W2.heap.size f.cells rfl rfl 39 _ (Blk.new _ _ _) (infoFamA f) (by rw [FA.size11]; rfl) (FA.all1 f) ?_)
    refine wp_gen (fun W => Blk W W2.heap.size 39 f.cells ∧ Fr [] W2 W) ⟨Blk.setRow (Blk.new _ _ _) _, ((Fr.refl [] W2).alloc _).setRow (.inr (Nat.le_refl _)) _⟩ ?_
    rintro W3 ⟨gfB, GW3⟩
    obtain ⟨gf, gfE⟩ : ∃ z, Hid (W2.heap.size = z) := ⟨_, Lib.hid rfl⟩
    rw [gfE.out] at gfB ⊢
    have gfBh := Lib.hid gfB
    have gfw := Lib.hid (fw.fr0 GW3)
    have gfne : mb ≠ gf := by have := hBc.out.hb.lt; have := FW2.size; have := gfE.out; omega
    have feh := Lib.hid fe
    have fW3 := Lib.hid (FW2.trans GW3)
    have FFW3 := Lib.hid (hFc.out.trans fW3.out)
    have hBW3 := Lib.hid (hBc.out.fr0 fW3.out)
    have hC3 := Lib.hid (hCc.out.fr fW3.out (by simp))
    clear fw fe FW2 GW3 gfB

    clear c1 hcl hmbw
    have hC3' := hC3.out
    have hd := bdo_t W3 p mb rm [mb] b c cA c.scope.length ck hBW3.out (hch.out.fr FFW3.out (by simp [Off]))
    go_wp2_with (refine wpList_load_cells rfl 30 _ rfl rfl (blk_cells hC3') uCmd rfl (infoCmdV _ _ _ _) ?_)
    clear hC3'

    refine Calls.mono (show Calls Tryz.prog 14 _ _ _ from hd) ?_
    rintro e W4 ⟨a, rfl, ae, aA, aB, FW4⟩
    have hBW4 := Lib.hid (aB.mono (Y := [mb]) (by simp) (by simp))
    have aeh := Lib.hid ae
    clear hd aA aB ae
    unfold AA.val
    go_upto_region 8 with (refine wpList_store_row rfl 33 _ _ rfl W4.heap.size a.cells rfl rfl 33 _ (Blk.new _ _ _) (infoAnsY a) (by rw [AA.size8]; rfl) (AA.one a) ?_)
    refine wp_gen (fun W => Blk W W4.heap.size 33 a.cells ∧ Fr [] W4 W) ⟨Blk.setRow (Blk.new _ _ _) _, ((Fr.refl [] W4).alloc _).setRow (.inr (Nat.le_refl _)) _⟩ ?_
    rintro W5 ⟨gaB, GW5⟩
    obtain ⟨ga, gaE⟩ : ∃ z, Hid (W4.heap.size = z) := ⟨_, Lib.hid rfl⟩
    rw [gaE.out] at gaB ⊢
    have gaBh := Lib.hid gaB
    have gane : mb ≠ ga := by have := hBW3.out.hb.lt; have := FW4.size; have := gaE.out; omega
    have fW5 := Lib.hid (FW4.trans GW5.nil)
    have FFW5 := Lib.hid (FFW3.out.andThen fW5.out (fun g hg => .inr (by simp at hg; omega)))
    have hBW5 := Lib.hid (hBW4.out.fr0 GW5)
    have hC5 := Lib.hid (hC3.out.fr fW5.out (by simp; exact hgm))
    have gfB5 := Lib.hid (gfBh.out.fr fW5.out (by simp; exact Ne.symm gfne))
    clear FW4 GW5 gaB

    obtain ⟨_, c1, _, _, _, _, _, _, _, _, _, _, _, hcl⟩ := cmdV_cells hC5.out

    have hfam := family_t W5 p mb rm [mb] (doM rm c b).1 c.family hBW5.out
    obtain ⟨still, hstill⟩ : ∃ z, Hid ((aget c.family (doM rm c b).1).isSome = z) := ⟨_, Lib.hid rfl⟩
    go_wp2_with fail
    refine Calls.mono (show Calls Tryz.prog 16 _ _ _ from hfam) ?_
    rintro e W6 ⟨g, rfl, ge, gw, FW6⟩
    rw [hstill.out]
    clear hfam
    unfold FA.val
    go_upto_region 9 with (refine wpList_store_row rfl 39 _ _ rfl W6.heap.size g.cells rfl rfl 39 _ (Blk.new _ _ _) (infoFamA g) (by rw [FA.size11]; rfl) (FA.all1 g) ?_)
    refine wp_gen (fun W => Blk W W6.heap.size 39 g.cells ∧ Fr [] W6 W) ⟨Blk.setRow (Blk.new _ _ _) _, ((Fr.refl [] W6).alloc _).setRow (.inr (Nat.le_refl _)) _⟩ ?_
    rintro W7 ⟨ggB, GW7⟩
    obtain ⟨gg, ggE⟩ : ∃ z, Hid (W6.heap.size = z) := ⟨_, Lib.hid rfl⟩
    rw [ggE.out] at ggB ⊢
    have ggBh := Lib.hid ggB
    have ggw := Lib.hid (gw.fr0 GW7)
    have ggne : mb ≠ gg := by have := hBW5.out.hb.lt; have := FW6.size; have := ggE.out; omega
    have geh := Lib.hid ge
    have fW7 := Lib.hid (FW6.trans GW7)
    have FFW7 := Lib.hid (FFW5.out.trans fW7.out)
    have hBW7 := Lib.hid (hBW5.out.fr0 fW7.out)
    have hC7 := Lib.hid (hC5.out.fr fW7.out (by simp))
    have gfB7 := Lib.hid (gfB5.out.fr fW7.out (by simp))
    have gaB7 := Lib.hid (gaBh.out.fr fW7.out (by simp))
    clear gw ge FW6 GW7 ggB

    clear c1 hcl
    have hkn := known_t W7
    go_wp2_with fail
    refine hkn.mono ?_
    rintro e W8 ⟨rfl, F8⟩
    have f8 := Lib.hid F8
    have FF8 := Lib.hid (FFW7.out.trans F8)
    have hB8 := Lib.hid (hBW7.out.fr0 F8)
    have hC8 := Lib.hid (hC7.out.fr F8 (by simp))
    have gfB8 := Lib.hid (gfB7.out.fr F8 (by simp))
    have gaB8 := Lib.hid (gaB7.out.fr F8 (by simp))
    have ggB8 := Lib.hid (ggBh.out.fr F8 (by simp))
    have ggw8 := Lib.hid (ggw.out.fr0 F8)
    clear hkn F8
    obtain ⟨c0, c1, _, _, c4, _, _, _, _, _, _, _, _, hcl⟩ := cmdV_cells hC8.out
    obtain ⟨_, x1, _, _, _, _, _, _, _, x9, _, hxl⟩ := fam_cells gfB8.out
    obtain ⟨_, _, _, _, _, _, _, _, _, y9, _, hyl⟩ := fam_cells ggB8.out
    obtain ⟨_, _, _, _, _, _, _, a7, hal⟩ := AA.blk gaB8.out
    rw [aeh.out] at a7
    obtain ⟨fr, hfr⟩ : ∃ z, Hid (f.f.revoked = z) := ⟨_, Lib.hid rfl⟩
    obtain ⟨gr, hgr⟩ : ∃ z, Hid (g.f.revoked = z) := ⟨_, Lib.hid rfl⟩
    obtain ⟨fc, hfc⟩ : ∃ z, Hid (f.f.client = z) := ⟨_, Lib.hid rfl⟩
    obtain ⟨kd, hkd⟩ : ∃ z, Hid (c.kind = z) := ⟨_, Lib.hid rfl⟩
    obtain ⟨wt, hwt⟩ : ∃ z, Hid ((doM rm c b).2.wait = z) := ⟨_, Lib.hid rfl⟩
    rw [hfr.out] at x9
    rw [hgr.out] at y9
    rw [hfc.out] at x1
    rw [hkd.out] at c0
    rw [hwt.out] at a7
    go_upto_region 11 with (fail)
    go_cut [98] from 64 to 98 (fun s98 wx => s98 = .bool false ∧ W8 = wx)
    case first =>
      cases is with
      | false =>
        go_wp2_with fail
        go_meet
        case rel => exact ⟨rfl, rfl⟩
      | true =>
        cases still with
        | false =>
          go_wp2_with fail
          go_meet
          case rel => exact ⟨rfl, rfl⟩
        | true =>
          cases fr with
          | true =>
            go_wp2_with fail
            go_meet
            case rel => exact ⟨rfl, rfl⟩
          | false =>
            cases gr with
            | false =>
              go_wp2_with fail
              go_meet
              case rel => exact ⟨rfl, rfl⟩
            | true =>
              obtain ⟨f1, hf1⟩ := Option.isSome_iff_exists.1 his.out
              obtain ⟨g1, hg1⟩ := Option.isSome_iff_exists.1 hstill.out
              have e1 : f.f = f1 := by rw [feh.out, hf1]; rfl
              have e2 : g.f = g1 := by rw [geh.out, hg1]; rfl
              obtain ⟨d1, d2⟩ := do_falls (room := rm) hBc.out.ok hf1 (by rw [← e1]; exact hfr.out) hg1 (by rw [← e2]; exact hgr.out)
              rw [← e1, hfc.out] at d1
              have hct : (c.client.toList == fc.toList) = true := by rw [d1]; simp
              rw [hkd.out] at d2
              clear hf1 hg1 e1 e2 d1
              rcases d2 with rfl | rfl | rfl
              · go_wp2_with fail
                go_meet
                case rel => exact ⟨rfl, rfl⟩
              · go_wp2_with fail
                go_meet
                case rel => exact ⟨rfl, rfl⟩
              · go_wp2_with fail
                go_meet
                case rel => exact ⟨rfl, rfl⟩
    case rest =>
      obtain ⟨rfl, rfl⟩ := hcut
      clear c0 c4 x1 x9 hxl
      by_cases hall : still = true ∧ gr = true
      · obtain ⟨rfl, rfl⟩ := hall
        obtain ⟨g1, hg1⟩ := Option.isSome_iff_exists.1 hstill.out
        have hge : g.f = g1 := by rw [geh.out, hg1]; rfl
        rw [← hge] at hg1
        have hgg := Lib.hid hg1
        clear hge hg1 a7 hal
        go_upto_block 2 with (fail)
        clear c1 hcl y9 hyl
        go_cut [17] from 109 to 154 (fun s17 wx => ∃ b2, BookAt wx p mb rm [mb] b2 ∧ aget c.family b2 = some g.f ∧ Blk wx gc 30 (cmdV c cA c.scope.length ck) ∧ Blk wx gg 39 g.cells ∧ FamIn wx [] g ∧ Fr [] w wx)
        case first =>
          go_wp2_with fail
          go_loopg [17] (q + 1) (fun gk s17 wr => ∃ (i : Nat) (b2 : GBk), s17 = .int .i64 i ∧ i ≤ q ∧ q - i < gk ∧ BookAt wr p mb rm [mb] b2 ∧ aget c.family b2 = some g.f ∧ Blk wr gc 30 (cmdV c cA c.scope.length ck) ∧ Blk wr gg 39 g.cells ∧ FamW wr W5.heap.size g ∧ Fr [] w wr)
          case atStart => exact ⟨0, _, rfl, by omega, by omega, hB8.out, hgg.out, hC8.out, ggB8.out, ggw8.out, FF8.out⟩
          case round =>
            obtain ⟨i, b2, rfl, hiq, hik, hB2, hg2, hC2, hG2, hfw2, hF2⟩ := hrel
            have hB2h := Lib.hid hB2
            have hg2h := Lib.hid hg2
            have hC2h := Lib.hid hC2
            have hG2h := Lib.hid hG2
            have hfw2h := Lib.hid hfw2
            have hF2h := Lib.hid hF2
            clear hB2 hg2 hC2 hG2 hfw2 hF2
            by_cases hlt : i < q
            · have hlt' : (i : Int) < q := by omega
              by_cases h60 : i < 60
              · have h60' : (i : Int) < 60 := by omega
                obtain ⟨⟨c3, cA3, ck3⟩, rb, ro, rfl, hxi, hcs, hci⟩ := (hh2.out.fr hF2h.out).row hlt
                simp only [CA.cells] at hcs hci
                have hcih := Lib.hid hci
                have hlth := Lib.hid hlt
                clear hxi hci
                go_upto_region 19 with (first | (refine wpList_load_cells rfl 30 _ rfl rfl hcs uCmd rfl (infoCmdV _ _ _ _) ?_) | (refine wpList_store_row rfl 30 _ _ rfl wr.heap.size _ rfl rfl 30 _ (Blk.new _ _ _) (infoCmdV _ _ _ _) (by rw [cmdV_size]; rfl) (cmdV_one _ _ _ _) ?_))
                refine wp_gen (fun W => Blk W wr.heap.size 30 (cmdV c3 cA3 c3.scope.length ck3) ∧ Fr [] wr W) ⟨Blk.setRow (Blk.new _ _ _) _, ((Fr.refl [] wr).alloc _).setRow (.inr (Nat.le_refl _)) _⟩ ?_
                rintro X2 ⟨hX, FX⟩
                obtain ⟨gx, HGX⟩ : ∃ z, Hid (wr.heap.size = z) := ⟨_, Lib.hid rfl⟩
                rw [HGX.out] at hX ⊢
                have gxne : gx ≠ mb := by have := hB2h.out.hb.lt; have := HGX.out; omega
                have hXh := Lib.hid hX
                have fX := Lib.hid FX
                have FFX := Lib.hid (hF2h.out.trans FX)
                have hBX := Lib.hid (hB2h.out.fr0 FX)
                have hCX := Lib.hid (hC2h.out.fr FX (by simp))
                have hGX := Lib.hid (hG2h.out.fr FX (by simp))
                have hd := bdo_t X2 p mb rm [mb] b2 c3 cA3 c3.scope.length ck3 hBX.out (hcih.out.fr FX (by simp [Off]))
                clear FX hcs
                go_wp2_with (refine wpList_load_cells rfl 30 _ rfl rfl (blk_cells hX) uCmd rfl (infoCmdV _ _ _ _) ?_)
                clear hX
                refine Calls.mono (show Calls Tryz.prog 14 _ _ _ from hd) ?_
                rintro e X3 ⟨u, rfl, ue, uA, uB, FX3⟩
                have hBX3 := Lib.hid (uB.mono (Y := [mb]) (by simp) (by simp))
                have ueh := Lib.hid ue
                clear hd uA uB ue
                unfold AA.val
                go_upto_region 20 with (refine wpList_store_row rfl 33 _ _ rfl X3.heap.size u.cells rfl rfl 33 _ (Blk.new _ _ _) (infoAnsY u) (by rw [AA.size8]; rfl) (AA.one u) ?_)
                refine wp_gen (fun W => Blk W X3.heap.size 33 u.cells ∧ Fr [] X3 W) ⟨Blk.setRow (Blk.new _ _ _) _, ((Fr.refl [] X3).alloc _).setRow (.inr (Nat.le_refl _)) _⟩ ?_
                rintro X4 ⟨guB, GX4⟩
                obtain ⟨gu, guE⟩ : ∃ z, Hid (X3.heap.size = z) := ⟨_, Lib.hid rfl⟩
                rw [guE.out] at guB ⊢
                have guBh := Lib.hid guB
                have gune : mb ≠ gu := by have := hBX.out.hb.lt; have := FX3.size; have := guE.out; omega
                have fX4 := Lib.hid (FX3.trans GX4.nil)
                have FFX4 := Lib.hid (FFX.out.andThen fX4.out (fun g hg => .inr (by simp at hg; omega)))
                have hBX4 := Lib.hid (hBX3.out.fr0 GX4)
                have hCX4 := Lib.hid (hCX.out.fr fX4.out (by simp; exact hgm))
                have hGX4 := Lib.hid (hGX.out.fr fX4.out (by simp; exact Ne.symm ggne))
                have hXX4 := Lib.hid (hXh.out.fr fX4.out (by simp; exact gxne))
                clear FX3 GX4 guB
                obtain ⟨_, c1, _, _, _, _, _, _, _, _, _, _, _, hcl⟩ := cmdV_cells hCX4.out
                have hfw4 := Lib.hid (hfw2h.out.fr (fX.out.nil.trans fX4.out) (fun z hz => by simp at hz; subst hz; have := hBW5.out.hb.lt; omega))
                have hfam := family_t X4 p mb rm [mb] (doM rm c3 b2).1 c.family hBX4.out
                obtain ⟨is3, his3⟩ : ∃ z, Hid ((aget c.family (doM rm c3 b2).1).isSome = z) := ⟨_, Lib.hid rfl⟩
                go_wp2_with fail
                refine Calls.mono (show Calls Tryz.prog 16 _ _ _ from hfam) ?_
                rintro e X5 ⟨v, rfl, ve, vw, FX5⟩
                rw [his3.out]
                clear hfam
                unfold FA.val
                go_upto_region 21 with (refine wpList_store_row rfl 39 _ _ rfl X5.heap.size v.cells rfl rfl 39 _ (Blk.new _ _ _) (infoFamA v) (by rw [FA.size11]; rfl) (FA.all1 v) ?_)
                refine wp_gen (fun W => Blk W X5.heap.size 39 v.cells ∧ Fr [] X5 W) ⟨Blk.setRow (Blk.new _ _ _) _, ((Fr.refl [] X5).alloc _).setRow (.inr (Nat.le_refl _)) _⟩ ?_
                rintro X6 ⟨gvB, GX6⟩
                obtain ⟨gv, gvE⟩ : ∃ z, Hid (X5.heap.size = z) := ⟨_, Lib.hid rfl⟩
                rw [gvE.out] at gvB ⊢
                have gvBh := Lib.hid gvB
                have gvw := Lib.hid (vw.fr0 GX6)
                have gvne : mb ≠ gv := by have := hBX4.out.hb.lt; have := FX5.size; have := gvE.out; omega
                have veh := Lib.hid ve
                have fX6 := Lib.hid (FX5.trans GX6)
                have FFX6 := Lib.hid (FFX4.out.trans fX6.out)
                have hBX6 := Lib.hid (hBX4.out.fr0 fX6.out)
                have hCX6 := Lib.hid (hCX4.out.fr fX6.out (by simp))
                have hGX6 := Lib.hid (hGX4.out.fr fX6.out (by simp))
                have hXX6 := Lib.hid (hXX4.out.fr fX6.out (by simp))
                have guX6 := Lib.hid (guBh.out.fr fX6.out (by simp))
                clear vw ve FX5 GX6 gvB
                have hfw6 := Lib.hid (hfw4.out.fr0 fX6.out)
                clear c1 hcl
                obtain ⟨c0, cf, _, _, _, _, _, _, _, _, _, _, _, hcl⟩ := cmdV_cells hXX6.out
                obtain ⟨_, c1, _, _, _, _, _, _, _, _, _, _, _, hcl2⟩ := cmdV_cells hCX6.out
                obtain ⟨_, u1, u2, _, _, _, u6, _, hul⟩ := AA.blk guX6.out
                rw [ueh.out] at u1 u2 u6
                have hdr := Lib.hid (do_revoked (room := rm) (c := c3) hB2h.out.ok hg2h.out hgr.out)
                cases is3 with
                | false =>
                  have hk : c3.kind = 7 := by
                    rcases hdr.out with h | h
                    · have := his3.out
                      rw [h] at this
                      cases this
                    · exact h.1
                  have hkt : (c3.kind == 7) = true := by rw [beq_iff_eq]; exact hk
                  clear hk u1 u2 u6
                  go_wp2_with fail
                  go_ret
                  exact ⟨rfl, FFX6.out⟩
                | true =>
                  have hst : aget c.family (doM rm c3 b2).1 = some g.f := by
                    rcases hdr.out with h | h
                    · exact h
                    · have := his3.out
                      rw [h.2] at this
                      cases this
                  have hsth := Lib.hid hst
                  clear hst
                  by_cases hcf : c3.family = c.family
                  · have hct : (c3.family.toList == c.family.toList) = true := by rw [hcf]; simp
                    obtain ⟨s1, s2, s3⟩ := do_silent (room := rm) (c := c3) (b := b2) (f := g.f) (by rw [hcf]; exact hg2h.out) hgr.out
                    rw [s1] at u6
                    rw [s2] at u1
                    rw [s3] at u2
                    clear hcf s1 s2 s3
                    go_wp2_with fail
                    go_roundg (q - i)
                    case measure => have := hlth.out; omega
                    case rel => exact ⟨i + 1, _, by go_num, by have := hlth.out; omega, by have := hlth.out; omega, hBX6.out, hsth.out, hCX6.out, hGX6.out, hfw6.out, FFX6.out⟩
                  · have hct : (c3.family.toList == c.family.toList) = false := by rw [toList_beq]; simpa using hcf
                    clear hcf
                    go_wp2_with fail
                    go_roundg (q - i)
                    case measure => have := hlth.out; omega
                    case rel => exact ⟨i + 1, _, by go_num, by have := hlth.out; omega, by have := hlth.out; omega, hBX6.out, hsth.out, hCX6.out, hGX6.out, hfw6.out, FFX6.out⟩
              · have h60' : ¬ (i : Int) < 60 := by omega
                go_wp2_with fail
                go_meet
                case rel => exact ⟨b2, hB2h.out, hg2h.out, hC2h.out, hG2h.out, hfw2h.out.fam (by simp), hF2h.out⟩
            · have hlt' : ¬ (i : Int) < q := by omega
              go_wp2_with fail
              go_meet
              case rel => exact ⟨b2, hB2h.out, hg2h.out, hC2h.out, hG2h.out, hfw2h.out.fam (by simp), hF2h.out⟩
        case rest =>
          obtain ⟨b2, hB2, hg2, hC2, hG2, hfi, hF2⟩ := hcut
          have hB2h := Lib.hid hB2
          have hF2h := Lib.hid hF2
          have hfih := Lib.hid hfi
          have hG2h := Lib.hid hG2
          have hg2h := Lib.hid hg2
          have hC2h := Lib.hid hC2
          obtain ⟨_, c1, _, _, _, _, _, _, _, _, _, _, _, hcl⟩ := cmdV_cells hC2
          clear hB2 hg2 hC2 hG2 hfi hF2

          have hfam := family_t wc p mb rm [mb] b2 c.family hB2h.out
          obtain ⟨is3, his3⟩ : ∃ z, Hid ((aget c.family b2).isSome = z) := ⟨_, Lib.hid rfl⟩
          go_wp2_with fail
          refine Calls.mono (show Calls Tryz.prog 16 _ _ _ from hfam) ?_
          rintro e Y2 ⟨v, rfl, ve, vw, FY2⟩
          rw [his3.out]
          clear hfam
          unfold FA.val
          go_upto_region 26 with (refine wpList_store_row rfl 39 _ _ rfl Y2.heap.size v.cells rfl rfl 39 _ (Blk.new _ _ _) (infoFamA v) (by rw [FA.size11]; rfl) (FA.all1 v) ?_)
          refine wp_gen (fun W => Blk W Y2.heap.size 39 v.cells ∧ Fr [] Y2 W) ⟨Blk.setRow (Blk.new _ _ _) _, ((Fr.refl [] Y2).alloc _).setRow (.inr (Nat.le_refl _)) _⟩ ?_
          rintro Y3 ⟨gvB, GY3⟩
          obtain ⟨gv, gvE⟩ : ∃ z, Hid (Y2.heap.size = z) := ⟨_, Lib.hid rfl⟩
          rw [gvE.out] at gvB ⊢
          have gvBh := Lib.hid gvB
          have gvw := Lib.hid (vw.fr0 GY3)
          have gvne : mb ≠ gv := by have := hB2h.out.hb.lt; have := FY2.size; have := gvE.out; omega
          have veh := Lib.hid ve
          have fY3 := Lib.hid (FY2.trans GY3)
          have FFY3 := Lib.hid (hF2h.out.trans fY3.out)
          have hBY3 := Lib.hid (hB2h.out.fr0 fY3.out)
          have hG3 := Lib.hid (hG2h.out.fr fY3.out (by simp))
          clear vw ve FY2 GY3 gvB

          have hi3 : is3 = true := by rw [← his3.out, hg2h.out]; rfl
          subst hi3
          have hvf : g.f = v.f := by rw [veh.out, hg2h.out]; rfl
          have hgs := fam_short2 geh.out hBW5.out.ok (ggw.out.fam (X := []) (by simp))
          have hsame := rsame_t Y3 g v (hfih.out.fr fY3.out) (gvw.out.fam (by simp)) hvf hgs
          have hG3' := hG3.out
          have gvB' := gvBh.out
          clear hcl c1 hvf hgs
          go_wp2_with (first | (refine wpList_load_if (by rfl) 39 _ rfl rfl (blk_cells hG3') uFam rfl (infoFamA _) ?_) | (refine wpList_load_if (by rfl) 39 _ rfl rfl (blk_cells gvB') uFam rfl (infoFamA _) ?_))
          refine Calls.mono (show Calls Tryz.prog 18 _ _ _ from hsame) ?_
          rintro e Y4 ⟨rfl, F4⟩
          have FF4 := Lib.hid (FFY3.out.trans F4)
          clear hsame F4 hG3' gvB'
          go_wp2_with fail
          go_ret
          exact ⟨rfl, FF4.out⟩
      · have hwf : wt = false := by
          cases wt with
          | false => rfl
          | true =>
            obtain ⟨g1, hg1, hr1⟩ := do_wait (room := rm) hBc.out.ok hwt.out
            exfalso
            apply hall
            refine ⟨?_, ?_⟩
            · rw [← hstill.out, hg1]; rfl
            · rw [← hgr.out, geh.out, hg1]; exact hr1
        subst hwf
        cases still with
        | false =>
          go_wp2_with fail
          go_ret
          exact ⟨rfl, FF8.out⟩
        | true =>
          cases gr with
          | true => exact absurd ⟨rfl, rfl⟩ hall
          | false =>
            go_wp2_with fail
            go_ret
            exact ⟨rfl, FF8.out⟩
end Go.Proofs.YtdeoinjjphdbmaaGreat
