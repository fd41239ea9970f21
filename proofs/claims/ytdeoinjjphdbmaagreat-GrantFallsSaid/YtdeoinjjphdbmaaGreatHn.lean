/- Walk: each code is redeemed once. Conditions: each theorem's own. -/
import Derived.Test.YtdeoinjjphdbmaaGreatHm
namespace Go.Proofs.YtdeoinjjphdbmaaGreat
open Go.RowKit Go.Sig

set_option maxRecDepth 100000 in
set_option maxHeartbeats 4000000 in
theorem gonce_t (w : World) (n : Int) (A : Option Addr) (m k : Nat) (l : List CA) (id : ByteArray) (h : CmdsIn w A m l) : Calls Tryz.prog 3 #[.int .i64 n, .slice A m k, .string id] w fun e w' => e = .returned (.bool true) ∧ Fr [] w w' := by
  have hml := h.hl
  have hh := Lib.hid h
  have hroom := roomL_t w n
  have hrm := roomM_in n
  obtain ⟨rm, hrme⟩ : ∃ z, Hid (roomM n = z) := ⟨_, Lib.hid rfl⟩
  rw [hrme.out] at hroom hrm
  have hnew := gnew_t w rm hrm.1 hrm.2
  clear h hrm
  go_enter Tryz.func3, Tryz.ntmps3
  go_wp2_with fail
  refine hroom.mono ?_
  rintro e _ ⟨rfl, rfl⟩
  clear hroom
  go_wp2_with fail
  refine hnew.mono ?_
  rintro e W1 ⟨p, mb, rfl, hB1, hpw, hmw, F1⟩
  have hB1h := Lib.hid hB1
  have F1h := Lib.hid F1
  clear hnew F1 hB1
  go_wp2_with fail
  go_loopg [9, 10, 11, 12] (m + 1) (fun gk s9 s10 s11 s12 wr => ∃ (i : Nat) (b : GBk) (g fa : Bool) (cl : ByteArray), s9 = .bool g ∧ s10 = .bool fa ∧ s11 = .string cl ∧ s12 = .int .i64 i ∧ i ≤ m ∧ m - i < gk ∧ BookAt wr p mb rm [mb] b ∧ OnceI b id g fa cl ∧ Fr [] w wr)
  case atStart => exact ⟨0, [], false, false, nilB, rfl, rfl, rfl, rfl, by omega, by omega, hB1h.out, OnceI.new _, F1h.out⟩
  case round =>
    obtain ⟨i, b, g, fa, cl, rfl, rfl, rfl, rfl, him, hik, hB, hI, hF⟩ := hrel
    have hBh := Lib.hid hB
    have hIh := Lib.hid hI
    have hFh := Lib.hid hF
    clear hB hI hF
    by_cases hlt : i < m
    · have hlt' : (i : Int) < m := by omega
      by_cases h60 : i < 60
      · have h60' : (i : Int) < 60 := by omega
        obtain ⟨⟨c, cA, ck⟩, rb, ro, rfl, hxi, hcs, hci⟩ := (hh.out.fr hFh.out).row hlt
        simp only [CA.cells] at hcs hci
        have hcih := Lib.hid hci
        have hlth := Lib.hid hlt
        have hmem := Lib.hid (List.mem_of_getElem? hxi)
        clear hxi hci
        go_upto_region 8 with (first | (refine wpList_load_cells rfl 30 _ rfl rfl hcs uCmd rfl (infoCmdV _ _ _ _) ?_) | (refine wpList_store_row rfl 30 _ _ rfl wr.heap.size _ rfl rfl 30 _ (Blk.new _ _ _) (infoCmdV _ _ _ _) (by rw [cmdV_size]; rfl) (cmdV_one _ _ _ _) ?_))
        refine wp_gen (fun W => Blk W wr.heap.size 30 (cmdV c cA c.scope.length ck) ∧ Fr [] wr W) ⟨Blk.setRow (Blk.new _ _ _) _, ((Fr.refl [] wr).alloc _).setRow (.inr (Nat.le_refl _)) _⟩ ?_
        rintro W2 ⟨hC, F2⟩
        obtain ⟨gc, HGC⟩ : ∃ z, Hid (wr.heap.size = z) := ⟨_, Lib.hid rfl⟩
        rw [HGC.out] at hC ⊢
        have hB2 := hBh.out.fr0 F2
        have hgm : gc ≠ mb := by have := hBh.out.hb.lt; have := HGC.out; omega
        have hCh := Lib.hid hC
        have hci2 := Lib.hid (hcih.out.fr F2 (by simp [Off]))
        have FF2 := Lib.hid (hFh.out.trans F2)
        have hB2h := Lib.hid hB2
        have hd := bdo_t W2 p mb rm [mb] b c cA c.scope.length ck hB2 hci2.out
        clear F2 hB2 hcs
        go_wp2_with (refine wpList_load_cells rfl 30 _ rfl rfl (blk_cells hC) uCmd rfl (infoCmdV _ _ _ _) ?_)
        refine Calls.mono (show Calls Tryz.prog 14 _ _ _ from hd) ?_
        rintro e V2 ⟨y, rfl, hy, hA, hBv, Fv⟩
        have hyh := Lib.hid hy
        have hBvh := Lib.hid (hBv.mono (Y := [mb]) (by simp) (by simp))
        have FFv := Lib.hid (FF2.out.andThen Fv (fun g hg => .inr (by simp at hg; omega)))
        have hCv := Lib.hid (hCh.out.fr Fv (by simp; omega))
        clear hd hA hBv Fv hy hC
        unfold AA.val
        go_upto_region 9 with (refine wpList_store_row rfl 33 _ _ rfl V2.heap.size y.cells rfl rfl 33 _ (Blk.new _ _ _) (infoAnsY y) (by rw [AA.size8]; rfl) (AA.one y) ?_)
        refine wp_gen (fun W3 => Blk W3 V2.heap.size 33 y.cells ∧ Fr [] V2 W3) ⟨Blk.setRow (Blk.new _ _ _) _, ((Fr.refl [] V2).alloc _).setRow (.inr (Nat.le_refl _)) _⟩ ?_
        rintro W3 ⟨hG, FG⟩
        obtain ⟨ga, HGA⟩ : ∃ z, Hid (V2.heap.size = z) := ⟨_, Lib.hid rfl⟩
        rw [HGA.out] at hG ⊢
        have hB3h := Lib.hid (hBvh.out.fr0 FG)
        have FF3 := Lib.hid (FFv.out.trans FG)
        have hC3 := hCv.out.fr FG (by simp)
        obtain ⟨c0, c1, _, _, c4, _, _, _, _, _, _, _, _, hcl⟩ := cmdV_cells hC3
        obtain ⟨a0, a1, _, _, _, _, a6, _, hal⟩ := AA.blk hG
        rw [hyh.out] at a0 a1 a6
        have hstepOther := Lib.hid (fun hx : c.family ≠ id ∨ mayM c = false => hIh.out.other (room := rm) hBh.out.ok hx)
        have hCh3 := Lib.hid hC3
        have hci3 := (hh.out.fr FF3.out).each _ hmem.out
        have hmay := may_t W3 c cA c.scope.length ck hci3.hS hci3.hn hci3.hl hci3.hs hci3.hf
        obtain ⟨mv, hmv⟩ : ∃ z, Hid (mayM c = z) := ⟨_, Lib.hid rfl⟩
        rw [hmv.out] at hmay
        have hGh := Lib.hid hG
        clear hBvh FFv FG hG hci3 a0 a1 a6 c0 c4 hcl
        by_cases hid : c.family = id
        · have hidt : (c.family.toList == id.toList) = true := by rw [hid]; simp
          have hidh := Lib.hid hid
          clear hid
          go_wp2_with (refine wpList_load_if (by rfl) 30 _ rfl rfl (blk_cells hC3) uCmd rfl (infoCmdV _ _ _ _) ?_)
          refine Calls.mono (show Calls Tryz.prog 15 _ _ _ from hmay) ?_
          rintro e W4 ⟨rfl, F4⟩
          have hB4h := Lib.hid (hB3h.out.fr0 F4)
          have FF4 := Lib.hid (FF3.out.trans F4)
          have hIc := Lib.hid (show OnceI b c.family g fa cl by rw [hidh.out]; exact hIh.out)
          have hC4 := hCh3.out.fr F4 (by simp)
          have hG4 := hGh.out.fr F4 (by simp)
          obtain ⟨c0, c1, _, _, c4, _, _, _, _, _, _, _, _, hcl⟩ := cmdV_cells hC4
          obtain ⟨a0, a1, _, _, _, _, a6, _, hal⟩ := AA.blk hG4
          rw [hyh.out] at a0 a1 a6
          have hC4h := Lib.hid hC4
          have hG4h := Lib.hid hG4
          have hok := Lib.hid hBh.out.ok
          clear hmay F4 hC3 hC4 hG4
          cases mv with
          | false =>
            have hI4 := hstepOther.out (.inr hmv.out)
            clear c0 c1 c4 hcl a0 a1 a6 hal
            go_wp2_with fail
            go_roundg (m - i)
            case measure => have := hlth.out; omega
            case rel => exact ⟨i + 1, _, g, fa, cl, rfl, rfl, rfl, by go_num, by have := hlth.out; omega, by have := hlth.out; omega, hB4h.out, hI4, FF4.out⟩
          | true =>
            obtain ⟨ac, hac⟩ : ∃ z, Hid ((doM rm c b).2.active = z) := ⟨_, Lib.hid rfl⟩
            obtain ⟨wy, hwy⟩ : ∃ z, Hid ((doM rm c b).2.why = z) := ⟨_, Lib.hid rfl⟩
            obtain ⟨acc, hacc⟩ : ∃ z, Hid ((doM rm c b).2.access = z) := ⟨_, Lib.hid rfl⟩
            obtain ⟨kd, hkd⟩ : ∃ z, Hid (c.kind = z) := ⟨_, Lib.hid rfl⟩
            rw [hwy.out] at a0
            rw [hacc.out] at a1
            rw [hac.out] at a6
            rw [hkd.out] at c0
            by_cases k7 : kd = 7
            · have k7t : (kd == 7) = true := by rw [beq_iff_eq]; exact k7
              have hfam := family_t W4 p mb rm [mb] (doM rm c b).1 id hB4h.out
              obtain ⟨is, his⟩ : ∃ z, Hid ((aget id (doM rm c b).1).isSome = z) := ⟨_, Lib.hid rfl⟩
              have k7h := Lib.hid (hkd.out.trans k7)
              clear k7 c1 c4 hcl a0 a1 a6 hal
              go_wp2_with fail
              refine Calls.mono (show Calls Tryz.prog 16 _ _ _ from hfam) ?_
              rintro e W5 ⟨z, rfl, hz1, hz2, F5⟩
              rw [his.out]
              have hB5h := Lib.hid (hB4h.out.fr0 F5)
              have FF5 := Lib.hid (FF4.out.trans F5)
              clear hfam hz1 hz2 F5
              unfold FA.val
              go_upto_region 12 with (refine wpList_store_row rfl 39 _ _ rfl W5.heap.size z.cells rfl rfl 39 _ (Blk.new _ _ _) (infoFamA z) (by rw [FA.size11]; rfl) (FA.all1 z) ?_)
              refine wp_gen (fun W6 => Fr [] W5 W6) (((Fr.refl [] W5).alloc _).setRow (.inr (Nat.le_refl _)) _) ?_
              rintro W6 F6
              obtain ⟨gf, HGF⟩ : ∃ z, Hid (W5.heap.size = z) := ⟨_, Lib.hid rfl⟩
              rw [HGF.out]
              have hB6h := Lib.hid (hB5h.out.fr0 F6)
              have FF6 := Lib.hid (FF5.out.trans F6)
              clear F6
              cases is with
              | false =>
                go_wp2_with fail
                go_roundg (m - i)
                case measure => have := hlth.out; omega
                case rel => exact ⟨i + 1, _, false, false, nilB, rfl, rfl, rfl, by go_num, by have := hlth.out; omega, by have := hlth.out; omega, hB6h.out, OnceI.none _ _, FF6.out⟩
              | true =>
                have hkp := Lib.hid (show OnceI (doM rm c b).1 id g fa cl by rw [← hidh.out]; exact hIc.out.done hok.out hmv.out k7h.out (by rw [hidh.out]; exact his.out))
                go_wp2_with fail
                go_roundg (m - i)
                case measure => have := hlth.out; omega
                case rel => exact ⟨i + 1, _, g, fa, cl, rfl, rfl, rfl, by go_num, by have := hlth.out; omega, by have := hlth.out; omega, hB6h.out, hkp.out, FF6.out⟩
            · have k7f : (kd == 7) = false := by rw [beq_eq_false_iff_ne]; exact k7
              have hkeep := Lib.hid (hIc.out.keep (room := rm) hok.out (by rw [hkd.out]; exact k7))
              by_cases k2 : kd = 2
              · have k2t : (kd == 2) = true := by rw [beq_iff_eq]; exact k2
                have k3f : (kd == 3) = false := by rw [k2]; rfl
                have k6f : (kd == 6) = false := by rw [k2]; rfl
                by_cases hw : wy = 0
                · have hwt : (wy == 0) = true := by rw [beq_iff_eq]; exact hw
                  obtain ⟨hgf, hacs, hnx⟩ := hIc.out.yes (room := rm) hok.out hmv.out (hkd.out.trans k2) (hwy.out.trans hw)
                  subst hgf
                  rw [hacc.out] at hacs
                  subst hacs
                  have hkp := Lib.hid (show OnceI (doM rm c b).1 id true fa c.client by rw [← hidh.out]; exact hnx)
                  clear k2 k7 hw hnx
                  go_upto_region 17 with (fail)
                  go_quiet (fail)
                  go_wp2_with fail
                  go_roundg (m - i)
                  case measure => have := hlth.out; omega
                  case rel => exact ⟨i + 1, _, true, fa, c.client, rfl, rfl, rfl, by go_num, by have := hlth.out; omega, by have := hlth.out; omega, hB4h.out.fr0 ((Fr.refl _ _).drewN _), hkp.out, FF4.out.drewN _⟩
                · have hwf : (wy == 0) = false := by rw [beq_eq_false_iff_ne]; exact hw
                  have hkp := Lib.hid (show OnceI (doM rm c b).1 id g fa cl by rw [← hidh.out]; exact hkeep.out)
                  cases g with
                  | false =>
                    clear k2 k7 hw
                    go_wp2_with fail
                    go_roundg (m - i)
                    case measure => have := hlth.out; omega
                    case rel => exact ⟨i + 1, _, false, fa, cl, rfl, rfl, rfl, by go_num, by have := hlth.out; omega, by have := hlth.out; omega, hB4h.out, hkp.out, FF4.out⟩
                  | true =>
                    by_cases hcl2 : c.client = cl
                    · have hclt : (c.client.toList == cl.toList) = true := by rw [hcl2]; simp
                      obtain ⟨hw3, hnx⟩ := hIc.out.no (room := rm) hok.out hmv.out (hkd.out.trans k2) rfl hcl2
                      have hw3 := hwy.out.symm.trans hw3
                      subst hw3
                      have hkq := Lib.hid (show OnceI (doM rm c b).1 id true true cl by rw [← hidh.out]; exact hnx)
                      clear k2 k7 hw hcl2 hnx
                      go_wp2_with fail
                      go_roundg (m - i)
                      case measure => have := hlth.out; omega
                      case rel => exact ⟨i + 1, _, true, true, cl, rfl, rfl, rfl, by go_num, by have := hlth.out; omega, by have := hlth.out; omega, hB4h.out, hkq.out, FF4.out⟩
                    · have hclt : (c.client.toList == cl.toList) = false := by rw [toList_beq]; simpa using hcl2
                      clear k2 k7 hw hcl2
                      go_wp2_with fail
                      go_roundg (m - i)
                      case measure => have := hlth.out; omega
                      case rel => exact ⟨i + 1, _, true, fa, cl, rfl, rfl, rfl, by go_num, by have := hlth.out; omega, by have := hlth.out; omega, hB4h.out, hkp.out, FF4.out⟩
              · have k2f : (kd == 2) = false := by rw [beq_eq_false_iff_ne]; exact k2
                by_cases k6 : kd = 6
                · have k6t : (kd == 6) = true := by rw [beq_iff_eq]; exact k6
                  have k3f : (kd == 3) = false := by rw [k6]; rfl
                  cases fa with
                  | true =>
                    have ha := hIc.out.look (room := rm) hmv.out (hkd.out.trans k6) rfl
                    rw [hac.out] at ha
                    subst ha
                    have hkp := Lib.hid (show OnceI (doM rm c b).1 id g true cl by rw [← hidh.out]; exact hkeep.out)
                    clear k6 k2 k7
                    go_wp2_with fail
                    go_roundg (m - i)
                    case measure => have := hlth.out; omega
                    case rel => exact ⟨i + 1, _, g, true, cl, rfl, rfl, rfl, by go_num, by have := hlth.out; omega, by have := hlth.out; omega, hB4h.out, hkp.out, FF4.out⟩
                  | false =>
                    have hkp := Lib.hid (show OnceI (doM rm c b).1 id g false cl by rw [← hidh.out]; exact hkeep.out)
                    clear k6 k2 k7
                    go_wp2_with fail
                    go_roundg (m - i)
                    case measure => have := hlth.out; omega
                    case rel => exact ⟨i + 1, _, g, false, cl, rfl, rfl, rfl, by go_num, by have := hlth.out; omega, by have := hlth.out; omega, hB4h.out, hkp.out, FF4.out⟩
                · have k6f : (kd == 6) = false := by rw [beq_eq_false_iff_ne]; exact k6
                  by_cases k3 : kd = 3
                  · have k3t : (kd == 3) = true := by rw [beq_iff_eq]; exact k3
                    cases fa with
                    | true =>
                      have ha := hIc.out.refresh (room := rm) hmv.out (hkd.out.trans k3) rfl
                      rw [hwy.out] at ha
                      have hwf : (wy == 0) = false := by rw [beq_eq_false_iff_ne]; exact ha
                      have hkp := Lib.hid (show OnceI (doM rm c b).1 id g true cl by rw [← hidh.out]; exact hkeep.out)
                      clear k6 k2 k7 k3 ha
                      go_wp2_with fail
                      go_roundg (m - i)
                      case measure => have := hlth.out; omega
                      case rel => exact ⟨i + 1, _, g, true, cl, rfl, rfl, rfl, by go_num, by have := hlth.out; omega, by have := hlth.out; omega, hB4h.out, hkp.out, FF4.out⟩
                    | false =>
                      have hkp := Lib.hid (show OnceI (doM rm c b).1 id g false cl by rw [← hidh.out]; exact hkeep.out)
                      clear k6 k2 k7 k3
                      go_wp2_with fail
                      go_roundg (m - i)
                      case measure => have := hlth.out; omega
                      case rel => exact ⟨i + 1, _, g, false, cl, rfl, rfl, rfl, by go_num, by have := hlth.out; omega, by have := hlth.out; omega, hB4h.out, hkp.out, FF4.out⟩
                  · have k3f : (kd == 3) = false := by rw [beq_eq_false_iff_ne]; exact k3
                    have hkp := Lib.hid (show OnceI (doM rm c b).1 id g fa cl by rw [← hidh.out]; exact hkeep.out)
                    clear k6 k2 k7 k3
                    go_wp2_with fail
                    go_roundg (m - i)
                    case measure => have := hlth.out; omega
                    case rel => exact ⟨i + 1, _, g, fa, cl, rfl, rfl, rfl, by go_num, by have := hlth.out; omega, by have := hlth.out; omega, hB4h.out, hkp.out, FF4.out⟩
        · have hidt : (c.family.toList == id.toList) = false := by rw [toList_beq]; simpa using hid
          have hI4 := hstepOther.out (.inl hid)
          go_wp2_with fail
          go_roundg (m - i)
          case measure => have := hlth.out; omega
          case rel => exact ⟨i + 1, _, g, fa, cl, rfl, rfl, rfl, by go_num, by have := hlth.out; omega, by have := hlth.out; omega, hB3h.out, hI4, FF3.out⟩
      · have h60' : ¬ (i : Int) < 60 := by omega
        have hkn := known_t wr
        go_wp2_with fail
        refine hkn.mono ?_
        rintro e WK ⟨rfl, FK⟩
        have FFK := Lib.hid (hFh.out.trans FK)
        clear FK hkn
        go_wp2_with fail
        go_ret
        exact ⟨rfl, FFK.out⟩
    · have hlt' : ¬ (i : Int) < m := by omega
      have hkn := known_t wr
      go_wp2_with fail
      refine hkn.mono ?_
      rintro e WK ⟨rfl, FK⟩
      have FFK := Lib.hid (hFh.out.trans FK)
      clear FK hkn
      go_wp2_with fail
      go_ret
      exact ⟨rfl, FFK.out⟩
end Go.Proofs.YtdeoinjjphdbmaaGreat
