/- Walk: a command changes no family but its own. Conditions: each theorem's own. -/
import Derived.Test.YtdeoinjjphdbmaaGreatHy
namespace Go.Sig
open Go
section
variable {P : Program} {ops : Array Oper} {Q : Exit → Act → World → Prop} {md : Region.Mode} {S : World → Prop} {Z : List Nat}
/-- Three may come up, none of Z. -/
theorem wpZ_three {i j l : Nat} {oi oj ol : Oper} {fuel : Nat} {listed : Array Bool} {a : Act} {w : World} (hr : Region.ready md ops listed = [i, j, l]) (hi : ops[i]? = some oi) (hj : ops[j]? = some oj) (hl : ops[l]? = some ol)
    (h1 : ∀ K' : Act → World → Prop, Shut (∀ a w, S w → (S w → wpZ P md ops Q S Z fuel (listed.setIfInBounds i true) a w) → K' a w) → if Region.wanted oi (yielded ops a.tmps) = true then Oper.wp P oi a w K' Q else K' (a.put oi.dst undef) w)
    (h2 : ∀ K' : Act → World → Prop, Shut (∀ a w, S w → (S w → wpZ P md ops Q S Z fuel (listed.setIfInBounds j true) a w) → K' a w) → if Region.wanted oj (yielded ops a.tmps) = true then Oper.wp P oj a w K' Q else K' (a.put oj.dst undef) w)
    (h3 : ∀ K' : Act → World → Prop, Shut (∀ a w, S w → (S w → wpZ P md ops Q S Z fuel (listed.setIfInBounds l true) a w) → K' a w) → if Region.wanted ol (yielded ops a.tmps) = true then Oper.wp P ol a w K' Q else K' (a.put ol.dst undef) w) :
    wpZ P md ops Q S Z (fuel + 1) listed a w := by
  refine ⟨fun h0 => by (rw [hr] at h0; cases h0), fun k hk => ?_⟩
  rw [hr, List.mem_cons, List.mem_cons, List.mem_singleton] at hk
  rcases hk with rfl | rfl | rfl
  · exact wpOp_step hi (fun K' hK => h1 K' (fun a w hS hW => hK a w ⟨.inr hS, hW hS⟩))
  · exact wpOp_step hj (fun K' hK => h2 K' (fun a w hS hW => hK a w ⟨.inr hS, hW hS⟩))
  · exact wpOp_step hl (fun K' hK => h3 K' (fun a w hS hW => hK a w ⟨.inr hS, hW hS⟩))
end
end Go.Sig
namespace Go.Proofs.YtdeoinjjphdbmaaGreat
open Go.RowKit Go.Sig

theorem BookAt.nilX {w : World} {p mb : Nat} {room : Int} {X Y : List Nat} (h : BookAt w p mb room X []) (hY : ∀ g ∈ Y, g < w.heap.size) (hm : mb ∈ Y) : BookAt w p mb room Y [] := by
  obtain ⟨h1, ⟨l, m1, m2, _⟩, h3, _, _, h6⟩ := h
  obtain rfl : l = [] := by simpa using m2
  exact ⟨h1, ⟨[], m1, rfl, by simp⟩, h3, hY, hm, h6⟩
/-- The two lists that are left. -/
def OthMid (W wx : World) (s14 s15 : Value) (fs gs : List GFam) : Prop :=
  ∃ ga gb A1 c1 l1 A2 c2 l2, s14 = .pointer (some ⟨ga, 0, none⟩) ∧ s15 = .pointer (some ⟨gb, 0, none⟩) ∧ Blk wx ga 50 #[.slice A1 (List.length l1) c1, .int .i64 0] ∧ Blk wx gb 50 #[.slice A2 (List.length l2) c2, .int .i64 0] ∧
    FamsIn wx [] A1 (List.length l1) l1 ∧ FamsIn wx [] A2 (List.length l2) l2 ∧ l1.map (·.f) = fs ∧ l2.map (·.f) = gs ∧ Fr [] W wx
theorem oth_leaf {V W : World} {ga gb c1 c2 : Nat} {A1 A2 : Option Addr} {l1 l2 : List FA} {fs gs : List GFam} (F : Fr [] V W) (ba : Blk W ga 50 #[.slice none 0 0, .int .i64 0]) (bb : Blk W gb 50 #[.slice none 0 0, .int .i64 0]) (gab : ga ≠ gb)
    (f1 : FamsIn W [ga, gb] A1 l1.length l1) (f2 : FamsIn W [ga, gb] A2 l2.length l2) (m1 : l1.map (·.f) = fs) (m2 : l2.map (·.f) = gs) (h1 : V.heap.size ≤ ga) (h2 : V.heap.size ≤ gb) :
    OthMid V ((W.setRow ga #[.slice A1 l1.length c1, .int .i64 0]).setRow gb #[.slice A2 l2.length c2, .int .i64 0]) (.pointer (some ⟨ga, 0, none⟩)) (.pointer (some ⟨gb, 0, none⟩)) fs gs := by
  have F1 : Fr [ga, gb] W (W.setRow ga #[.slice A1 l1.length c1, .int .i64 0]) := (Fr.refl _ _).setRow (.inl (by simp)) _
  have F2 : Fr [ga, gb] (W.setRow ga #[.slice A1 l1.length c1, .int .i64 0]) ((W.setRow ga #[.slice A1 l1.length c1, .int .i64 0]).setRow gb #[.slice A2 l2.length c2, .int .i64 0]) := (Fr.refl _ _).setRow (.inl (by simp)) _
  have F12 := F1.trans F2
  refine ⟨ga, gb, A1, c1, l1, A2, c2, l2, rfl, rfl, ?_, ?_, (f1.fr F12).mono (by simp), (f2.fr F12).mono (by simp), m1, m2, F.andThen F12 (fun g hg => .inr ?_)⟩
  · exact (Blk.setRow ba #[.slice A1 l1.length c1, .int .i64 0]).fr ((Fr.refl [gb] _).setRow (.inl (by simp)) _) (by simp; exact gab)
  · exact Blk.setRow (bb.fr ((Fr.refl [ga] _).setRow (.inl (by simp)) _) (by simp; exact fun h => gab h.symm)) _
  · simp at hg
    omega
set_option maxRecDepth 100000 in
set_option maxHeartbeats 8000000 in
theorem gothers_t (w : World) (A : Option Addr) (m k : Nat) (l : List CA) (h : CmdsIn w A m l) (x : CA) (hc : CmdIn w x.c x.A x.c.scope.length) :
    Calls Tryz.prog 5 #[.slice A m k, .agg x.cells] w fun e w' => e = .returned (.bool true) ∧ Fr [] w w' := by
  obtain ⟨c, cA, ck⟩ := x
  have hml := h.hl
  have hh := Lib.hid h
  have hch := Lib.hid hc
  clear h hc
  simp only [CA.cells] at hch ⊢
  unfold cmdV
  go_enter Tryz.func5, Tryz.ntmps5
  go_upto_region 1 with (fail)
  refine wp_gen (fun W => Blk W w.heap.size 30 (cmdV c cA c.scope.length ck) ∧ Fr [] w W) ⟨Blk.new _ _ _, (Fr.refl _ _).alloc _⟩ ?_
  rintro W0 ⟨hC0, f0⟩
  obtain ⟨gc, HGC⟩ : ∃ z, Hid (w.heap.size = z) := ⟨_, Lib.hid rfl⟩
  rw [HGC.out] at hC0 ⊢
  have hC0h := Lib.hid hC0
  have f0h := Lib.hid f0
  have hnew := gnew_t W0 256 (by omega) (by omega)
  have hcl0 := hC0.lt
  have hw0 := f0.size
  clear hC0 f0
  go_wp2_with fail
  refine hnew.mono ?_
  rintro e W1 ⟨p, mb, rfl, hB1, hpw, hmw, F1⟩
  have hgm : gc ≠ mb := by omega
  have hgmp : gc ≠ p := by omega
  have hB1h := Lib.hid hB1
  have F1h := Lib.hid (f0h.out.trans F1)
  have hC1h := Lib.hid (hC0h.out.fr F1 (by simp))
  have hp1 : p < W1.heap.size := hB1.hp.lt
  have hm1 : mb < W1.heap.size := hB1.hb.lt
  clear hnew F1 hB1
  have hnew := gnew_t W1 256 (by omega) (by omega)
  go_wp2_with fail
  refine hnew.mono ?_
  rintro e W2 ⟨p2, mb2, rfl, hB2, hpw2, hmw2, F2⟩
  have hgm2 : gc ≠ mb2 := by omega
  have hmm : mb ≠ mb2 := by omega
  have hpm2 : p ≠ mb2 := by omega
  have hp2m : p2 ≠ mb := by omega
  have hmw0 : w.heap.size ≤ mb := by omega
  have hmw02 : w.heap.size ≤ mb2 := by have := F1h.out.size; omega
  have hA2h := Lib.hid ((hB1h.out.more F2 (Y := [mb2]) (fun g hg => by simp at hg; subst hg; exact ⟨hmw2, hB2.hb.lt⟩)).mono (Y := [mb, mb2]) (by simp) (by simp))
  have hD2h := Lib.hid (hB2.nilX (Y := [mb, mb2]) (fun g hg => by
    have := hB2.hb.lt
    have := F2.size
    simp at hg
    omega) (by simp))
  have F2h := Lib.hid (F1h.out.trans F2)
  have hC2h := Lib.hid (hC1h.out.fr F2 (by simp))
  clear hnew F2 hB2
  go_upto_block 0 with (fail)
  go_cut [9] from 28 to 57 (fun s9 wx => ∃ b d i, i ≤ 60 ∧ OthI b d c.family i ∧ BookAt wx p mb 256 [mb, mb2] b ∧ BookAt wx p2 mb2 256 [mb, mb2] d ∧ Blk wx gc 30 (cmdV c cA c.scope.length ck) ∧ Fr [] w wx)
  case first =>
    go_wp2_with fail
    go_loopg [9] (m + 1) (fun gk s9 wr => ∃ (i : Nat) (b d : GBk), s9 = .int .i64 i ∧ i ≤ m ∧ i ≤ 60 ∧ m - i < gk ∧ OthI b d c.family i ∧ BookAt wr p mb 256 [mb, mb2] b ∧ BookAt wr p2 mb2 256 [mb, mb2] d ∧ Blk wr gc 30 (cmdV c cA c.scope.length ck) ∧ Fr [] w wr)
    case atStart => exact ⟨0, [], [], rfl, by omega, by omega, by omega, OthI.new _, hA2h.out, hD2h.out, hC2h.out, F2h.out⟩
    case round =>
      obtain ⟨i, b, d, rfl, him, hi60, hik, hI, hB, hD, hC, hF⟩ := hrel
      have hBh := Lib.hid hB
      have hDh := Lib.hid hD
      have hIh := Lib.hid hI
      have hCh := Lib.hid hC
      have hFh := Lib.hid hF
      clear hB hF hC hD hI
      by_cases hlt : i < m
      · have hlt' : (i : Int) < m := by omega
        by_cases h60 : i < 60
        · have h60' : (i : Int) < 60 := by omega
          have hlth := Lib.hid hlt
          have h60h := Lib.hid h60
          obtain ⟨⟨c1, cA1, ck1⟩, rb, ro, rfl, hxi, hcs, hci⟩ := (hh.out.fr hFh.out).row hlt
          simp only [CA.cells] at hcs hci
          have hxih := Lib.hid hxi
          have hd := bdo_t wr p mb 256 [mb, mb2] b c1 cA1 c1.scope.length ck1 hBh.out hci
          clear hxi hci hlt h60 hi60
          go_wp2_with (refine wpList_load_cells rfl 30 _ rfl rfl hcs uCmd rfl (infoCmdV _ _ _ _) ?_)
          clear hcs
          refine Calls.mono (show Calls Tryz.prog 14 _ _ _ from hd) ?_
          rintro e V2 ⟨y, rfl, ye, yA, yB, F2⟩
          have hB2 := Lib.hid (yB.mono (Y := [mb, mb2]) (by simp) (by simp))
          have hD2 := Lib.hid (hDh.out.fr F2 (fun g hg => .inl (by simp at hg; simp [hg])) (by simp; omega) (by simp; omega))
          have FF2 := Lib.hid (hFh.out.andThen F2 (fun g hg => .inr (by simp at hg; omega)))
          have hC2 := Lib.hid (hCh.out.fr F2 (by simp; omega))
          clear hd ye yA yB F2
          have k1 := (hh.out.fr FF2.out).cell hlth.out hxih.out (j := 1) (v := .string c1.family) rfl
          obtain ⟨_, e1, _, _, _, _, _, _, _, _, _, _, _, hcl⟩ := cmdV_cells hC2.out
          by_cases hid : c1.family = c.family
          · have hidb : (c1.family.toList == c.family.toList) = true := by rw [hid]; simp
            have hI2 := Lib.hid (hIh.out.own (room := 256) (c := c1) hid hBh.out.ok hDh.out.ok (by have := h60h.out; omega))
            clear hid
            go_upto_region 7 with (fail)
            go_quiet (fail)
            go_upto_region 8 with (fail)
            refine wp_gen (fun W => Fr [] V2 W) ((Fr.refl _ _).drewN _) ?_
            clear k1 e1 hcl
            rintro V2b f2b
            have hB2 := Lib.hid (hB2.out.fr0 f2b)
            have hD2 := Lib.hid (hD2.out.fr0 f2b)
            have hC2 := Lib.hid (hC2.out.fr f2b (by simp))
            have FF2 := Lib.hid (FF2.out.trans f2b)
            clear f2b
            obtain ⟨x2, rb2, ro2, e2, hxi2, hcs, hci⟩ := (hh.out.fr FF2.out).row hlth.out
            rw [hxih.out] at hxi2
            obtain rfl := Option.some.inj hxi2
            injection e2 with e2
            injection e2 with e2 e3
            subst e2 e3
            simp only [CA.cells] at hcs hci
            have hd := bdo_t V2b p2 mb2 256 [mb, mb2] d c1 cA1 c1.scope.length ck1 hD2.out hci
            clear hxi2 hci
            go_wp2_with (refine wpList_load_cells rfl 30 _ rfl rfl hcs uCmd rfl (infoCmdV _ _ _ _) ?_)
            clear hcs
            refine Calls.mono (show Calls Tryz.prog 14 _ _ _ from hd) ?_
            rintro e V3 ⟨y, rfl, ye, yA, yB, F3⟩
            have hD3 := Lib.hid (yB.mono (Y := [mb, mb2]) (by simp) (by simp))
            have hB3 := Lib.hid (hB2.out.fr F3 (fun g hg => .inl (by simp at hg; simp [hg])) (by simp; omega) (by simp; omega))
            have FF3 := Lib.hid (FF2.out.andThen F3 (fun g hg => .inr (by simp at hg; omega)))
            have hC3 := Lib.hid (hC2.out.fr F3 (by simp; omega))
            clear hd ye yA yB F3
            go_wp2_with fail
            go_roundg (m - i)
            case measure => have := hlth.out; omega
            case rel => exact ⟨i + 1, _, _, by go_num, by have := hlth.out; omega, by have := h60h.out; omega, by have := hlth.out; omega, hI2.out, hB3.out, hD3.out, hC3.out, FF3.out⟩
          · have hidb : (c1.family.toList == c.family.toList) = false := by rw [toList_beq]; simpa using hid
            have hI2 := Lib.hid (hIh.out.other (room := 256) (c := c1) hBh.out.ok hid)
            clear hid
            go_upto_region 7 with (fail)
            go_quiet (fail)
            go_wp2_with fail
            go_roundg (m - i)
            case measure => have := hlth.out; omega
            case rel => exact ⟨i + 1, _, _, by go_num, by have := hlth.out; omega, by have := h60h.out; omega, by have := hlth.out; omega, hI2.out, hB2.out.fr0 ((Fr.refl _ _).drewN _), hD2.out.fr0 ((Fr.refl _ _).drewN _), hC2.out.drewN _, FF2.out.drewN _⟩
        · have h60' : ¬ (i : Int) < 60 := by omega
          go_wp2_with fail
          go_meet
          case rel => exact ⟨b, d, i, hi60, hIh.out, hBh.out, hDh.out, hCh.out, hFh.out⟩
      · have hlt' : ¬ (i : Int) < m := by omega
        go_wp2_with fail
        go_meet
        case rel => exact ⟨b, d, i, hi60, hIh.out, hBh.out, hDh.out, hCh.out, hFh.out⟩
  case rest =>
    obtain ⟨b, d, i, hi60, hI, hB, hD, hC, hF⟩ := hcut
    have hIh := Lib.hid hI
    have hB := Lib.hid hB
    have hD := Lib.hid hD
    have hC := Lib.hid hC
    have hF := Lib.hid hF
    have hlb := Lib.hid (show b.length ≤ 60 by have := hI.lb; omega)
    have hi60h := Lib.hid hi60
    clear hi60 hI
    have hfa := fams_t wc p mb 256 [mb, mb2] b hB.out (by have := hlb.out; omega)
    go_wp2_with fail
    refine hfa.mono ?_
    rintro e V1 ⟨la, Aa, ca, rfl, hla, hFa, f1⟩
    have hFa1 := Lib.hid (hFa.read (X := [mb, mb2]) hB.out.ok hla (fun z hz => hB.out.hX z hz))
    have hlah := Lib.hid hla
    have FF1 := Lib.hid (hF.out.trans f1)
    have hB1 := Lib.hid (hB.out.fr0 f1)
    have hD1 := Lib.hid (hD.out.fr0 f1)
    have hC1 := Lib.hid (hC.out.fr f1 (by simp))
    clear hfa hFa hla f1
    have hd := bdo_t V1 p mb 256 [mb, mb2] b c cA c.scope.length ck hB1.out (hch.out.fr FF1.out (by simp [Off]))
    have hCx := hC1.out
    go_wp2_with (refine wpList_load_cells rfl 30 _ rfl rfl (blk_cells hCx) uCmd rfl (infoCmdV _ _ _ _) ?_)
    clear hCx
    refine Calls.mono (show Calls Tryz.prog 14 _ _ _ from hd) ?_
    rintro e V2 ⟨u, rfl, ue, uA, uB, FV2⟩
    have hBV2 := Lib.hid (uB.mono (Y := [mb, mb2]) (by simp) (by simp))
    have ueh := Lib.hid ue
    have uAo := Lib.hid uA.1
    have uFrom := Lib.hid (show ∀ g ∈ rowOf u.slice, V1.heap.size ≤ g from fun g hg => by
      obtain ⟨ad, e, rfl⟩ := rowOf_mem.1 hg
      exact uA.2 ad e)
    clear hd uA uB ue
    unfold AA.val
    go_upto_region 11 with (refine wpList_store_row rfl 33 _ _ rfl V2.heap.size u.cells rfl rfl 33 _ (Blk.new _ _ _) (infoAnsY u) (by rw [AA.size8]; rfl) (AA.one u) ?_)
    refine wp_gen (fun W => Blk W V2.heap.size 33 u.cells ∧ Fr [] V2 W) ⟨Blk.setRow (Blk.new _ _ _) _, ((Fr.refl [] V2).alloc _).setRow (.inr (Nat.le_refl _)) _⟩ ?_
    rintro V3 ⟨guB, GV3⟩
    obtain ⟨gu, guE⟩ : ∃ z, Hid (V2.heap.size = z) := ⟨_, Lib.hid rfl⟩
    rw [guE.out] at guB ⊢
    have guBh := Lib.hid guB
    have gune : mb ≠ gu := by have := hB1.out.hb.lt; have := FV2.size; have := guE.out; omega
    have fV3 := Lib.hid (FV2.trans GV3.nil)
    have FFV3 := Lib.hid (FF1.out.andThen fV3.out (fun g hg => .inr (by simp at hg; omega)))
    have hBV3 := Lib.hid (hBV2.out.fr0 GV3)
    have gune2 : mb2 ≠ gu := by have := hD1.out.hb.lt; have := FV2.size; have := guE.out; omega
    have fuV3 := Lib.hid GV3
    clear FV2 GV3 guB

    have hD3 := Lib.hid (hD1.out.fr fV3.out (fun g hg => .inl (by simp at hg; simp [hg])) (by simp; omega) (by simp; omega))
    have hC3 := Lib.hid (hC1.out.fr fV3.out (by simp; omega))
    have hFa3 := Lib.hid (hFa1.out.fr (fV3.out.mono (S' := [mb, mb2]) (by simp)))
    have uA3 := Lib.hid (uAo.out.fr fuV3.out (by simp))
    have hd := bdo_t V3 p2 mb2 256 [mb, mb2] d c cA c.scope.length ck hD3.out (hch.out.fr FFV3.out (by simp [Off]))
    have hCx := hC3.out
    go_wp2_with (refine wpList_load_cells rfl 30 _ rfl rfl (blk_cells hCx) uCmd rfl (infoCmdV _ _ _ _) ?_)
    clear hCx
    refine Calls.mono (show Calls Tryz.prog 14 _ _ _ from hd) ?_
    rintro e V4 ⟨v, rfl, ve, vA, vB, FV4⟩
    have hBV4 := Lib.hid (vB.mono (Y := [mb, mb2]) (by simp) (by simp))
    have veh := Lib.hid ve
    have vAo := Lib.hid vA.1
    clear hd vA vB ve
    unfold AA.val
    go_upto_region 12 with (refine wpList_store_row rfl 33 _ _ rfl V4.heap.size v.cells rfl rfl 33 _ (Blk.new _ _ _) (infoAnsY v) (by rw [AA.size8]; rfl) (AA.one v) ?_)
    refine wp_gen (fun W => Blk W V4.heap.size 33 v.cells ∧ Fr [] V4 W) ⟨Blk.setRow (Blk.new _ _ _) _, ((Fr.refl [] V4).alloc _).setRow (.inr (Nat.le_refl _)) _⟩ ?_
    rintro V5 ⟨gvB, GV5⟩
    obtain ⟨gv, gvE⟩ : ∃ z, Hid (V4.heap.size = z) := ⟨_, Lib.hid rfl⟩
    rw [gvE.out] at gvB ⊢
    have gvBh := Lib.hid gvB
    have gvne : mb2 ≠ gv := by have := hD3.out.hb.lt; have := FV4.size; have := gvE.out; omega
    have fV5 := Lib.hid (FV4.trans GV5.nil)
    have FFV5 := Lib.hid (FFV3.out.andThen fV5.out (fun g hg => .inr (by simp at hg; omega)))
    have hBV5 := Lib.hid (hBV4.out.fr0 GV5)
    have fvV5 := Lib.hid GV5
    clear FV4 GV5 gvB

    have hB5 := Lib.hid (hBV3.out.fr fV5.out (fun g hg => .inl (by simp at hg; simp [hg])) (by simp; omega) (by simp; omega))
    have hC5 := Lib.hid (hC3.out.fr fV5.out (by simp; omega))
    have hFa5 := Lib.hid (hFa3.out.fr (fV5.out.mono (S' := [mb, mb2]) (by simp)))
    have gu5 := Lib.hid (guBh.out.fr fV5.out (by simp; exact Ne.symm gune2))
    have uA5 := Lib.hid (uA3.out.fr fV5.out (fun g hg => by
      have h1 := uFrom.out g hg
      have h2 := hD1.out.hb.lt
      simp
      omega))
    have vA5 := Lib.hid (vAo.out.fr fvV5.out (by simp))
    have hfa := fams_t V5 p mb 256 [mb, mb2] (doM 256 c b).1 hB5.out (by have := do_more (room := 256) (c := c) hB.out.ok hlb.out; omega)
    go_wp2_with fail
    refine hfa.mono ?_
    rintro e V6 ⟨lb, Ab, cb, rfl, hlbf, hFb, f6⟩
    have hokb := doM_ok (room := 256) (c := c) hB.out.ok
    have hokd := doM_ok (room := 256) (c := c) hD.out.ok
    have hFb6 := Lib.hid (hFb.read (X := []) hokb hlbf (by simp))
    have hlbh := Lib.hid hlbf
    have hFa6 := Lib.hid ((hFa5.out.fr f6.nil).mono (Y := []) (by simp))
    have FF6 := Lib.hid (FFV5.out.trans f6)
    have hB6 := Lib.hid (hB5.out.fr0 f6)
    have hD6 := Lib.hid (hBV5.out.fr0 f6)
    have hC6 := Lib.hid (hC5.out.fr f6 (by simp))
    have gu6 := Lib.hid (gu5.out.fr f6 (by simp))
    have gv6 := Lib.hid (gvBh.out.fr f6 (by simp))
    have uA6 := Lib.hid (uA5.out.fr f6 (by simp))
    have vA6 := Lib.hid (vA5.out.fr f6 (by simp))
    have hNa := Lib.hid (show la.length ≤ 1000 by
      have := congrArg List.length hlah.out
      rw [List.length_map, famsM_length _ hB.out.ok] at this
      have := hlb.out
      omega)
    have hNb := Lib.hid (show lb.length ≤ 1000 by
      have := congrArg List.length hlbh.out
      rw [List.length_map, famsM_length _ hokb] at this
      have := do_more (room := 256) (c := c) hB.out.ok hlb.out
      omega)
    have hokbh := Lib.hid hokb
    have hokdh := Lib.hid hokd
    have hloc := do_local (room := 256) hB.out.ok hD.out.ok hIh.out.same (by have := hlb.out; omega) (by have := hIh.out.ld; have := hi60h.out; omega)
    have hloc1 := Lib.hid hloc.1
    have hloc2 := Lib.hid hloc.2
    have hwout := Lib.hid (wout_same hB.out.ok hokb (s := c.family) (fun k hk => (do_other hB.out.ok (.inl (Ne.symm hk))).symm))
    have hsc := Lib.hid (do_set (room := 256) (c := c) hB.out.ok)
    clear hfa hFb hlbf f6 hokb hokd hloc
    have hkn := known_t V6
    go_wp2_with fail
    refine Calls.mono (show Calls Tryz.prog 17 _ _ _ from hkn) ?_
    rintro e V7 ⟨rfl, f7⟩
    have hans := rans_t V7 u v (uA6.out.fr f7 (by simp)).rd (vA6.out.fr f7 (by simp)).rd (by rw [ueh.out, veh.out, hloc1.out]) (by rw [ueh.out]; have := (setM_sizes hsc.out).1; omega)
    have gu7 := gu6.out.fr f7 (by simp)
    have gv7 := gv6.out.fr f7 (by simp)
    have f7h := Lib.hid f7
    clear hkn f7
    go_wp2_with (first
      | (refine wpList_load_if (by rfl) 33 _ rfl rfl (blk_cells gu7) uAns rfl (infoAnsY u) ?_)
      | (refine wpList_load_if (by rfl) 33 _ rfl rfl (blk_cells gv7) uAns rfl (infoAnsY v) ?_))
    refine Calls.mono (show Calls Tryz.prog 20 _ _ _ from hans) ?_
    rintro e V8 ⟨rfl, f8⟩
    have f8h := Lib.hid (f7h.out.trans f8)
    have FF8 := Lib.hid (FF6.out.trans f8h.out)
    have hB8 := Lib.hid (hB6.out.fr0 f8h.out)
    have hD8 := Lib.hid (hD6.out.fr0 f8h.out)
    have hC8 := Lib.hid (hC6.out.fr f8h.out (by simp))
    have hFa8 := Lib.hid (hFa6.out.fr f8h.out)
    have hFb8 := Lib.hid (hFb6.out.fr f8h.out)
    clear hans gu7 gv7 f8
    go_upto_region 15 with (fail)
    go_cut [14, 15] from 76 to 85 (fun s14 s15 wx => OthMid V8 wx s14 s15 (woutM c.family (la.map (·.f))) (woutM c.family (lb.map (·.f))))
    case first =>
      obtain ⟨_, c1, _, _, _, _, _, _, _, _, _, _, _, hcl⟩ := cmdV_cells hC8.out
      have hc1 := fun (v : World) (hv : Fr [] V8 v) => cell_fr hv c1
      have hc1h := Lib.hid hc1
      have hwa := fun (v : World) (hv : Fr [] V8 v) (X : List Nat) (hX : ∀ g ∈ X, V8.heap.size ≤ g ∧ g < v.heap.size) => rwout_t v X Aa la.length ca 0 la c.family (hFa8.out.to hv (fun g hg => .inr (hX g hg).1)) (fun g hg => (hX g hg).2) (by have := hNa.out; omega)
      have hwb := fun (v : World) (hv : Fr [] V8 v) (X : List Nat) (hX : ∀ g ∈ X, V8.heap.size ≤ g ∧ g < v.heap.size) => rwout_t v X Ab lb.length cb 0 lb c.family (hFb8.out.to hv (fun g hg => .inr (hX g hg).1)) (fun g hg => (hX g hg).2) (by have := hNb.out; omega)
      have hwah := Lib.hid hwa
      have hwbh := Lib.hid hwb
      have fW0 := Lib.hid ((Fr.refl [] V8).drew)
      have hgc8 := hC8.out.lt
      clear hc1 hwa hwb
      refine wp_region_z (fun w' => w'.cell? ⟨gc, 1, none⟩ = some (.string c.family)) [] (by kernel_rfl) (hc1h.out _ fW0.out) ?_
      intro hHeld
      obtain ⟨Q0, hQ0⟩ : ∃ V, V = V8.drew := ⟨_, rfl⟩
      rw [← hQ0] at hHeld fW0 ⊢
      clear hQ0
      refine wpZ_take (i := 0) (v := ?_) rfl (by kernel_rfl) (by kernel_rfl) (by kernel_rfl) (by kernel_rfl) (fun _ _ _ h => h) (Or.inl ⟨by rfl, ?_⟩) hHeld ?_
      rotate_left
      · (intro w hSw; (try dsimp only at hSw); go_simp <;> with_reducible rfl)
      try simp only [List.getElem_toArray, List.getElem_cons_zero, Act.put, List.setIfInBounds_toArray, List.set_cons_zero, List.set_cons_succ]
      refine wpZ_take (i := 1) (v := ?_) rfl (by kernel_rfl) (by kernel_rfl) (by kernel_rfl) (by kernel_rfl) (fun _ _ _ h => h) (Or.inl ⟨by rfl, ?_⟩) hHeld ?_
      rotate_left
      · (intro w hSw; (try dsimp only at hSw); go_simp <;> with_reducible rfl)
      try simp only [List.getElem_toArray, List.getElem_cons_succ, List.getElem_cons_zero, Act.put, List.setIfInBounds_toArray, List.set_cons_zero, List.set_cons_succ]
      refine wpZ_take (i := 2) (v := ?_) rfl (by kernel_rfl) (by kernel_rfl) (by kernel_rfl) (by kernel_rfl) (fun _ _ _ h => h) (Or.inl ⟨by rfl, ?_⟩) hHeld ?_
      rotate_left
      · (intro w hSw; (try dsimp only at hSw); go_simp <;> with_reducible rfl)
      try simp only [List.getElem_toArray, List.getElem_cons_succ, List.getElem_cons_zero, Act.put, List.setIfInBounds_toArray, List.set_cons_zero, List.set_cons_succ]
      refine wpZ_take (i := 3) (v := ?_) rfl (by kernel_rfl) (by kernel_rfl) (by kernel_rfl) (by kernel_rfl) (fun _ _ _ h => h) (Or.inl ⟨by rfl, ?_⟩) hHeld ?_
      rotate_left
      · (intro w hSw; (try dsimp only at hSw); go_simp <;> with_reducible rfl)
      try simp only [List.getElem_toArray, List.getElem_cons_succ, List.getElem_cons_zero, Act.put, List.setIfInBounds_toArray, List.set_cons_zero, List.set_cons_succ]
      refine wpZ_take (i := 5) (v := ?_) rfl (by kernel_rfl) (by kernel_rfl) (by kernel_rfl) (by kernel_rfl) (fun _ _ _ h => h) (Or.inl ⟨by rfl, ?_⟩) hHeld ?_
      rotate_left
      · (intro w hSw; (try dsimp only at hSw); go_simp <;> with_reducible rfl)
      try simp only [List.getElem_toArray, List.getElem_cons_succ, List.getElem_cons_zero, Act.put, List.setIfInBounds_toArray, List.set_cons_zero, List.set_cons_succ]
      refine wpZ_take (i := 6) (v := ?_) rfl (by kernel_rfl) (by kernel_rfl) (by kernel_rfl) (by kernel_rfl) (fun _ _ _ h => h) (Or.inl ⟨by rfl, ?_⟩) hHeld ?_
      rotate_left
      · (intro w hSw; (try dsimp only at hSw); go_simp <;> with_reducible rfl)
      try simp only [List.getElem_toArray, List.getElem_cons_succ, List.getElem_cons_zero, Act.put, List.setIfInBounds_toArray, List.set_cons_zero, List.set_cons_succ]
      refine wpZ_take (i := 7) (v := ?_) rfl (by kernel_rfl) (by kernel_rfl) (by kernel_rfl) (by kernel_rfl) (fun _ _ _ h => h) (Or.inl ⟨by rfl, ?_⟩) hHeld ?_
      rotate_left
      · (intro w hSw; (try dsimp only at hSw); go_simp <;> with_reducible rfl)
      try simp only [List.getElem_toArray, List.getElem_cons_succ, List.getElem_cons_zero, Act.put, List.setIfInBounds_toArray, List.set_cons_zero, List.set_cons_succ]
      refine wpZ_take (i := 8) (v := ?_) rfl (by kernel_rfl) (by kernel_rfl) (by kernel_rfl) (by kernel_rfl) (fun _ _ _ h => h) (Or.inl ⟨by rfl, ?_⟩) hHeld ?_
      rotate_left
      · (intro w hSw; (try dsimp only at hSw); go_simp <;> with_reducible rfl)
      try simp only [List.getElem_toArray, List.getElem_cons_succ, List.getElem_cons_zero, Act.put, List.setIfInBounds_toArray, List.set_cons_zero, List.set_cons_succ]
      refine wpZ_three (i := 4) (j := 10) (l := 11) (by kernel_rfl) rfl rfl rfl (fun K hK => ?_) (fun K hK => ?_) (fun K hK => ?_)
      · go_simp
        refine (hwah.out _ fW0.out [] (by simp)).mono ?_
        rintro e Q1 ⟨A1, c1x, l1, rfl, hl1, hm1, g1⟩
        have fQ1 := Lib.hid (fW0.out.trans g1)
        have fl1 := Lib.hid hl1
        have m1 := Lib.hid hm1
        clear hl1 hm1 g1
        dsimp only
        refine hK.out _ _ (hc1h.out _ fQ1.out) (fun hHeld => ?_)
        clear hK K
        try simp only [List.getElem_toArray, List.getElem_cons_succ, List.getElem_cons_zero, Act.put, List.setIfInBounds_toArray, List.set_cons_zero, List.set_cons_succ]
        refine wpZ_three (i := 9) (j := 10) (l := 11) (by kernel_rfl) rfl rfl rfl (fun K hK => ?_) (fun K hK => ?_) (fun K hK => ?_)
        · go_simp
          refine (hwbh.out _ fQ1.out [] (by simp)).mono ?_
          rintro e Q2 ⟨A2, c2x, l2, rfl, hl2, hm2, g2⟩
          have fQ2 := Lib.hid (fQ1.out.trans g2)
          have fl1 := Lib.hid (fl1.out.fr g2.nil)
          have fl2 := Lib.hid hl2
          have m2 := Lib.hid hm2
          clear hl2 hm2 g2
          dsimp only
          refine hK.out _ _ (hc1h.out _ fQ2.out) (fun hHeld => ?_)
          clear hK K
          try simp only [List.getElem_toArray, List.getElem_cons_succ, List.getElem_cons_zero, Act.put, List.setIfInBounds_toArray, List.set_cons_zero, List.set_cons_succ]
          refine wpZ_two (i := 10) (j := 11) (by kernel_rfl) rfl rfl (fun K hK => ?_) (fun K hK => ?_)
          · go_simp
            refine hK.out _ _ (hc1h.out _ (fQ2.out.alloc _)) (fun hHeld => ?_)
            clear hK K
            try simp only [List.getElem_toArray, List.getElem_cons_succ, List.getElem_cons_zero, Act.put, List.setIfInBounds_toArray, List.set_cons_zero, List.set_cons_succ]
            obtain ⟨Q3, e3⟩ : ∃ V, V = World.alloc Q2 (.cells #[.slice none 0 0, .int .i64 0] 50) := ⟨_, rfl⟩
            have g3 : Fr [] Q2 Q3 := by rw [e3]; exact (Fr.refl [] _).alloc _
            have baB : Hid (Blk Q3 Q2.heap.size 50 #[.slice none 0 0, .int .i64 0]) := by rw [e3]; exact Lib.hid (Blk.new _ _ _)
            rw [← e3] at hHeld ⊢
            obtain ⟨ga, gaE⟩ : ∃ z, Hid (Q2.heap.size = z) := ⟨_, Lib.hid rfl⟩
            rw [gaE.out] at baB ⊢
            have ga0 := Lib.hid (show V8.heap.size ≤ ga by have := fQ2.out.size; have := gaE.out; omega)
            have fQ3 := Lib.hid (fQ2.out.trans g3)
            have fl1 := Lib.hid (fl1.out.to (Y := [ga]) g3.nil (by simp; have := gaE.out; omega))
            have fl2 := Lib.hid (fl2.out.to (Y := [ga]) g3.nil (by simp; have := gaE.out; omega))
            clear e3 g3
            refine wpZ_one (i := 11) (by kernel_rfl) rfl (fun K hK => ?_)
            go_simp
            refine hK.out _ _ (hc1h.out _ (fQ3.out.alloc _)) (fun hHeld => ?_)
            clear hK K
            try simp only [List.getElem_toArray, List.getElem_cons_succ, List.getElem_cons_zero, Act.put, List.setIfInBounds_toArray, List.set_cons_zero, List.set_cons_succ]
            obtain ⟨Q4, e4⟩ : ∃ V, V = World.alloc Q3 (.cells #[.slice none 0 0, .int .i64 0] 50) := ⟨_, rfl⟩
            have g4 : Fr [] Q3 Q4 := by rw [e4]; exact (Fr.refl [] _).alloc _
            have bbB : Hid (Blk Q4 Q3.heap.size 50 #[.slice none 0 0, .int .i64 0]) := by rw [e4]; exact Lib.hid (Blk.new _ _ _)
            rw [← e4] at hHeld ⊢
            obtain ⟨gb, gbE⟩ : ∃ z, Hid (Q3.heap.size = z) := ⟨_, Lib.hid rfl⟩
            rw [gbE.out] at bbB ⊢
            have gb0 := Lib.hid (show V8.heap.size ≤ gb by have := fQ3.out.size; have := gbE.out; omega)
            have fQ4 := Lib.hid (fQ3.out.trans g4)
            have gab : ga ≠ gb := by have := baB.out.lt; have := gbE.out; omega
            have baB := Lib.hid (baB.out.fr g4 (by simp))
            have fl1 := Lib.hid (fl1.out.to (Y := [gb, ga]) g4.nil (by simp; have := gbE.out; omega))
            have fl2 := Lib.hid (fl2.out.to (Y := [gb, ga]) g4.nil (by simp; have := gbE.out; omega))
            clear e4 g4
            have g2 : Fr [ga] Q4 (Q4.setRow ga #[.slice A1 l1.length c1x, .int .i64 0]) := (Fr.refl [ga] Q4).setRow (.inl (by simp)) _
            have bb2 := bbB.out.fr g2 (by simp; exact fun h => gab h.symm)
            have cw1 := (g2.cell (p := ⟨gc, 1, none⟩) (block_lt_of_cell (hc1h.out _ fQ4.out)) (by simp; have := ga0.out; omega)).trans (hc1h.out _ fQ4.out)
            have g3 : Fr [gb] (Q4.setRow ga #[.slice A1 l1.length c1x, .int .i64 0]) ((Q4.setRow ga #[.slice A1 l1.length c1x, .int .i64 0]).setRow gb #[.slice A2 l2.length c2x, .int .i64 0]) := (Fr.refl [gb] _).setRow (.inl (by simp)) _
            have cw2 := (g3.cell (p := ⟨gc, 1, none⟩) (block_lt_of_cell cw1) (by simp; have := gb0.out; omega)).trans cw1
            refine wpZ_one (i := 12) (by kernel_rfl) rfl (fun K hK => ?_)
            rw [if_pos (wanted_none rfl)]
            refine wp_store_row 50 _ _ rfl ga _ rfl rfl 50 _ baB.out infoRb (by kernel_rfl) (by kernel_rfl) ?_
            show K (Act.put _ none undef) _
            refine hK.out _ _ cw1 (fun hHeld => ?_)
            clear hK K
            try simp only [Act.put]
            refine wpZ_one (i := 13) (by kernel_rfl) rfl (fun K hK => ?_)
            rw [if_pos (wanted_none rfl)]
            refine wp_store_row 50 _ _ rfl gb _ rfl rfl 50 _ bb2 infoRb (by kernel_rfl) (by kernel_rfl) ?_
            show K (Act.put _ none undef) _
            refine hK.out _ _ cw2 (fun hHeld => ?_)
            clear hK K
            try simp only [Act.put]
            refine wpZ_done (by kernel_rfl) ?_ _
            go_wp2_with fail
            go_meet
            case rel => exact oth_leaf fQ4.out baB.out bbB.out gab (fl1.out.mono (Y := [ga, gb]) (by simp)) (fl2.out.mono (Y := [ga, gb]) (by simp)) m1.out m2.out ga0.out gb0.out
          · go_simp
            refine hK.out _ _ (hc1h.out _ (fQ2.out.alloc _)) (fun hHeld => ?_)
            clear hK K
            try simp only [List.getElem_toArray, List.getElem_cons_succ, List.getElem_cons_zero, Act.put, List.setIfInBounds_toArray, List.set_cons_zero, List.set_cons_succ]
            obtain ⟨Q5, e5⟩ : ∃ V, V = World.alloc Q2 (.cells #[.slice none 0 0, .int .i64 0] 50) := ⟨_, rfl⟩
            have g5 : Fr [] Q2 Q5 := by rw [e5]; exact (Fr.refl [] _).alloc _
            have bbB : Hid (Blk Q5 Q2.heap.size 50 #[.slice none 0 0, .int .i64 0]) := by rw [e5]; exact Lib.hid (Blk.new _ _ _)
            rw [← e5] at hHeld ⊢
            obtain ⟨gb, gbE⟩ : ∃ z, Hid (Q2.heap.size = z) := ⟨_, Lib.hid rfl⟩
            rw [gbE.out] at bbB ⊢
            have gb0 := Lib.hid (show V8.heap.size ≤ gb by have := fQ2.out.size; have := gbE.out; omega)
            have fQ5 := Lib.hid (fQ2.out.trans g5)
            have fl1 := Lib.hid (fl1.out.to (Y := [gb]) g5.nil (by simp; have := gbE.out; omega))
            have fl2 := Lib.hid (fl2.out.to (Y := [gb]) g5.nil (by simp; have := gbE.out; omega))
            clear e5 g5
            refine wpZ_one (i := 10) (by kernel_rfl) rfl (fun K hK => ?_)
            go_simp
            refine hK.out _ _ (hc1h.out _ (fQ5.out.alloc _)) (fun hHeld => ?_)
            clear hK K
            try simp only [List.getElem_toArray, List.getElem_cons_succ, List.getElem_cons_zero, Act.put, List.setIfInBounds_toArray, List.set_cons_zero, List.set_cons_succ]
            obtain ⟨Q6, e6⟩ : ∃ V, V = World.alloc Q5 (.cells #[.slice none 0 0, .int .i64 0] 50) := ⟨_, rfl⟩
            have g6 : Fr [] Q5 Q6 := by rw [e6]; exact (Fr.refl [] _).alloc _
            have baB : Hid (Blk Q6 Q5.heap.size 50 #[.slice none 0 0, .int .i64 0]) := by rw [e6]; exact Lib.hid (Blk.new _ _ _)
            rw [← e6] at hHeld ⊢
            obtain ⟨ga, gaE⟩ : ∃ z, Hid (Q5.heap.size = z) := ⟨_, Lib.hid rfl⟩
            rw [gaE.out] at baB ⊢
            have ga0 := Lib.hid (show V8.heap.size ≤ ga by have := fQ5.out.size; have := gaE.out; omega)
            have fQ6 := Lib.hid (fQ5.out.trans g6)
            have gab : ga ≠ gb := by have := bbB.out.lt; have := gaE.out; omega
            have bbB := Lib.hid (bbB.out.fr g6 (by simp))
            have fl1 := Lib.hid (fl1.out.to (Y := [ga, gb]) g6.nil (by simp; have := gaE.out; omega))
            have fl2 := Lib.hid (fl2.out.to (Y := [ga, gb]) g6.nil (by simp; have := gaE.out; omega))
            clear e6 g6
            have g2 : Fr [ga] Q6 (Q6.setRow ga #[.slice A1 l1.length c1x, .int .i64 0]) := (Fr.refl [ga] Q6).setRow (.inl (by simp)) _
            have bb2 := bbB.out.fr g2 (by simp; exact fun h => gab h.symm)
            have cw1 := (g2.cell (p := ⟨gc, 1, none⟩) (block_lt_of_cell (hc1h.out _ fQ6.out)) (by simp; have := ga0.out; omega)).trans (hc1h.out _ fQ6.out)
            have g3 : Fr [gb] (Q6.setRow ga #[.slice A1 l1.length c1x, .int .i64 0]) ((Q6.setRow ga #[.slice A1 l1.length c1x, .int .i64 0]).setRow gb #[.slice A2 l2.length c2x, .int .i64 0]) := (Fr.refl [gb] _).setRow (.inl (by simp)) _
            have cw2 := (g3.cell (p := ⟨gc, 1, none⟩) (block_lt_of_cell cw1) (by simp; have := gb0.out; omega)).trans cw1
            refine wpZ_one (i := 12) (by kernel_rfl) rfl (fun K hK => ?_)
            rw [if_pos (wanted_none rfl)]
            refine wp_store_row 50 _ _ rfl ga _ rfl rfl 50 _ baB.out infoRb (by kernel_rfl) (by kernel_rfl) ?_
            show K (Act.put _ none undef) _
            refine hK.out _ _ cw1 (fun hHeld => ?_)
            clear hK K
            try simp only [Act.put]
            refine wpZ_one (i := 13) (by kernel_rfl) rfl (fun K hK => ?_)
            rw [if_pos (wanted_none rfl)]
            refine wp_store_row 50 _ _ rfl gb _ rfl rfl 50 _ bb2 infoRb (by kernel_rfl) (by kernel_rfl) ?_
            show K (Act.put _ none undef) _
            refine hK.out _ _ cw2 (fun hHeld => ?_)
            clear hK K
            try simp only [Act.put]
            refine wpZ_done (by kernel_rfl) ?_ _
            go_wp2_with fail
            go_meet
            case rel => exact oth_leaf fQ6.out baB.out bbB.out gab (fl1.out.mono (Y := [ga, gb]) (by simp)) (fl2.out.mono (Y := [ga, gb]) (by simp)) m1.out m2.out ga0.out gb0.out
        · go_simp
          refine hK.out _ _ (hc1h.out _ (fQ1.out.alloc _)) (fun hHeld => ?_)
          clear hK K
          try simp only [List.getElem_toArray, List.getElem_cons_succ, List.getElem_cons_zero, Act.put, List.setIfInBounds_toArray, List.set_cons_zero, List.set_cons_succ]
          obtain ⟨Q7, e7⟩ : ∃ V, V = World.alloc Q1 (.cells #[.slice none 0 0, .int .i64 0] 50) := ⟨_, rfl⟩
          have g7 : Fr [] Q1 Q7 := by rw [e7]; exact (Fr.refl [] _).alloc _
          have baB : Hid (Blk Q7 Q1.heap.size 50 #[.slice none 0 0, .int .i64 0]) := by rw [e7]; exact Lib.hid (Blk.new _ _ _)
          rw [← e7] at hHeld ⊢
          obtain ⟨ga, gaE⟩ : ∃ z, Hid (Q1.heap.size = z) := ⟨_, Lib.hid rfl⟩
          rw [gaE.out] at baB ⊢
          have ga0 := Lib.hid (show V8.heap.size ≤ ga by have := fQ1.out.size; have := gaE.out; omega)
          have fQ7 := Lib.hid (fQ1.out.trans g7)
          have fl1 := Lib.hid (fl1.out.to (Y := [ga]) g7.nil (by simp; have := gaE.out; omega))
          clear e7 g7
          refine wpZ_two (i := 9) (j := 11) (by kernel_rfl) rfl rfl (fun K hK => ?_) (fun K hK => ?_)
          · go_simp
            refine (hwbh.out _ fQ7.out [ga] (by simpa using ⟨ga0.out, baB.out.lt⟩)).mono ?_
            rintro e Q8 ⟨A2, c2x, l2, rfl, hl8, hm8, g8⟩
            have fQ8 := Lib.hid (fQ7.out.trans g8)
            have fl1 := Lib.hid (fl1.out.fr g8.nil)
            have fl2 := Lib.hid hl8
            have m2 := Lib.hid hm8
            have baB := Lib.hid (baB.out.fr g8 (by simp))
            clear hl8 hm8 g8
            dsimp only
            refine hK.out _ _ (hc1h.out _ fQ8.out) (fun hHeld => ?_)
            clear hK K
            try simp only [List.getElem_toArray, List.getElem_cons_succ, List.getElem_cons_zero, Act.put, List.setIfInBounds_toArray, List.set_cons_zero, List.set_cons_succ]
            refine wpZ_one (i := 11) (by kernel_rfl) rfl (fun K hK => ?_)
            go_simp
            refine hK.out _ _ (hc1h.out _ (fQ8.out.alloc _)) (fun hHeld => ?_)
            clear hK K
            try simp only [List.getElem_toArray, List.getElem_cons_succ, List.getElem_cons_zero, Act.put, List.setIfInBounds_toArray, List.set_cons_zero, List.set_cons_succ]
            obtain ⟨Q9, e9⟩ : ∃ V, V = World.alloc Q8 (.cells #[.slice none 0 0, .int .i64 0] 50) := ⟨_, rfl⟩
            have g9 : Fr [] Q8 Q9 := by rw [e9]; exact (Fr.refl [] _).alloc _
            have bbB : Hid (Blk Q9 Q8.heap.size 50 #[.slice none 0 0, .int .i64 0]) := by rw [e9]; exact Lib.hid (Blk.new _ _ _)
            rw [← e9] at hHeld ⊢
            obtain ⟨gb, gbE⟩ : ∃ z, Hid (Q8.heap.size = z) := ⟨_, Lib.hid rfl⟩
            rw [gbE.out] at bbB ⊢
            have gb0 := Lib.hid (show V8.heap.size ≤ gb by have := fQ8.out.size; have := gbE.out; omega)
            have fQ9 := Lib.hid (fQ8.out.trans g9)
            have gab : ga ≠ gb := by have := baB.out.lt; have := gbE.out; omega
            have baB := Lib.hid (baB.out.fr g9 (by simp))
            have fl1 := Lib.hid (fl1.out.to (Y := [gb, ga]) g9.nil (by simp; have := gbE.out; omega))
            have fl2 := Lib.hid (fl2.out.to (Y := [gb, ga]) g9.nil (by simp; have := gbE.out; omega))
            clear e9 g9
            have g2 : Fr [ga] Q9 (Q9.setRow ga #[.slice A1 l1.length c1x, .int .i64 0]) := (Fr.refl [ga] Q9).setRow (.inl (by simp)) _
            have bb2 := bbB.out.fr g2 (by simp; exact fun h => gab h.symm)
            have cw1 := (g2.cell (p := ⟨gc, 1, none⟩) (block_lt_of_cell (hc1h.out _ fQ9.out)) (by simp; have := ga0.out; omega)).trans (hc1h.out _ fQ9.out)
            have g3 : Fr [gb] (Q9.setRow ga #[.slice A1 l1.length c1x, .int .i64 0]) ((Q9.setRow ga #[.slice A1 l1.length c1x, .int .i64 0]).setRow gb #[.slice A2 l2.length c2x, .int .i64 0]) := (Fr.refl [gb] _).setRow (.inl (by simp)) _
            have cw2 := (g3.cell (p := ⟨gc, 1, none⟩) (block_lt_of_cell cw1) (by simp; have := gb0.out; omega)).trans cw1
            refine wpZ_one (i := 12) (by kernel_rfl) rfl (fun K hK => ?_)
            rw [if_pos (wanted_none rfl)]
            refine wp_store_row 50 _ _ rfl ga _ rfl rfl 50 _ baB.out infoRb (by kernel_rfl) (by kernel_rfl) ?_
            show K (Act.put _ none undef) _
            refine hK.out _ _ cw1 (fun hHeld => ?_)
            clear hK K
            try simp only [Act.put]
            refine wpZ_one (i := 13) (by kernel_rfl) rfl (fun K hK => ?_)
            rw [if_pos (wanted_none rfl)]
            refine wp_store_row 50 _ _ rfl gb _ rfl rfl 50 _ bb2 infoRb (by kernel_rfl) (by kernel_rfl) ?_
            show K (Act.put _ none undef) _
            refine hK.out _ _ cw2 (fun hHeld => ?_)
            clear hK K
            try simp only [Act.put]
            refine wpZ_done (by kernel_rfl) ?_ _
            go_wp2_with fail
            go_meet
            case rel => exact oth_leaf fQ9.out baB.out bbB.out gab (fl1.out.mono (Y := [ga, gb]) (by simp)) (fl2.out.mono (Y := [ga, gb]) (by simp)) m1.out m2.out ga0.out gb0.out
          · go_simp
            refine hK.out _ _ (hc1h.out _ (fQ7.out.alloc _)) (fun hHeld => ?_)
            clear hK K
            try simp only [List.getElem_toArray, List.getElem_cons_succ, List.getElem_cons_zero, Act.put, List.setIfInBounds_toArray, List.set_cons_zero, List.set_cons_succ]
            obtain ⟨Q10, e10⟩ : ∃ V, V = World.alloc Q7 (.cells #[.slice none 0 0, .int .i64 0] 50) := ⟨_, rfl⟩
            have g10 : Fr [] Q7 Q10 := by rw [e10]; exact (Fr.refl [] _).alloc _
            have bbB : Hid (Blk Q10 Q7.heap.size 50 #[.slice none 0 0, .int .i64 0]) := by rw [e10]; exact Lib.hid (Blk.new _ _ _)
            rw [← e10] at hHeld ⊢
            obtain ⟨gb, gbE⟩ : ∃ z, Hid (Q7.heap.size = z) := ⟨_, Lib.hid rfl⟩
            rw [gbE.out] at bbB ⊢
            have gb0 := Lib.hid (show V8.heap.size ≤ gb by have := fQ7.out.size; have := gbE.out; omega)
            have fQ10 := Lib.hid (fQ7.out.trans g10)
            have gab : ga ≠ gb := by have := baB.out.lt; have := gbE.out; omega
            have baB := Lib.hid (baB.out.fr g10 (by simp))
            have fl1 := Lib.hid (fl1.out.to (Y := [gb, ga]) g10.nil (by simp; have := gbE.out; omega))
            clear e10 g10
            refine wpZ_one (i := 9) (by kernel_rfl) rfl (fun K hK => ?_)
            go_simp
            refine (hwbh.out _ fQ10.out [gb, ga] (by simpa using ⟨⟨gb0.out, bbB.out.lt⟩, ⟨ga0.out, baB.out.lt⟩⟩)).mono ?_
            rintro e Q11 ⟨A2, c2x, l2, rfl, hl11, hm11, g11⟩
            have fQ11 := Lib.hid (fQ10.out.trans g11)
            have fl1 := Lib.hid (fl1.out.fr g11.nil)
            have fl2 := Lib.hid hl11
            have m2 := Lib.hid hm11
            have baB := Lib.hid (baB.out.fr g11 (by simp))
            have bbB := Lib.hid (bbB.out.fr g11 (by simp))
            clear hl11 hm11 g11
            dsimp only
            refine hK.out _ _ (hc1h.out _ fQ11.out) (fun hHeld => ?_)
            clear hK K
            try simp only [List.getElem_toArray, List.getElem_cons_succ, List.getElem_cons_zero, Act.put, List.setIfInBounds_toArray, List.set_cons_zero, List.set_cons_succ]
            have g2 : Fr [ga] Q11 (Q11.setRow ga #[.slice A1 l1.length c1x, .int .i64 0]) := (Fr.refl [ga] Q11).setRow (.inl (by simp)) _
            have bb2 := bbB.out.fr g2 (by simp; exact fun h => gab h.symm)
            have cw1 := (g2.cell (p := ⟨gc, 1, none⟩) (block_lt_of_cell (hc1h.out _ fQ11.out)) (by simp; have := ga0.out; omega)).trans (hc1h.out _ fQ11.out)
            have g3 : Fr [gb] (Q11.setRow ga #[.slice A1 l1.length c1x, .int .i64 0]) ((Q11.setRow ga #[.slice A1 l1.length c1x, .int .i64 0]).setRow gb #[.slice A2 l2.length c2x, .int .i64 0]) := (Fr.refl [gb] _).setRow (.inl (by simp)) _
            have cw2 := (g3.cell (p := ⟨gc, 1, none⟩) (block_lt_of_cell cw1) (by simp; have := gb0.out; omega)).trans cw1
            refine wpZ_one (i := 12) (by kernel_rfl) rfl (fun K hK => ?_)
            rw [if_pos (wanted_none rfl)]
            refine wp_store_row 50 _ _ rfl ga _ rfl rfl 50 _ baB.out infoRb (by kernel_rfl) (by kernel_rfl) ?_
            show K (Act.put _ none undef) _
            refine hK.out _ _ cw1 (fun hHeld => ?_)
            clear hK K
            try simp only [Act.put]
            refine wpZ_one (i := 13) (by kernel_rfl) rfl (fun K hK => ?_)
            rw [if_pos (wanted_none rfl)]
            refine wp_store_row 50 _ _ rfl gb _ rfl rfl 50 _ bb2 infoRb (by kernel_rfl) (by kernel_rfl) ?_
            show K (Act.put _ none undef) _
            refine hK.out _ _ cw2 (fun hHeld => ?_)
            clear hK K
            try simp only [Act.put]
            refine wpZ_done (by kernel_rfl) ?_ _
            go_wp2_with fail
            go_meet
            case rel => exact oth_leaf fQ11.out baB.out bbB.out gab (fl1.out.mono (Y := [ga, gb]) (by simp)) (fl2.out.mono (Y := [ga, gb]) (by simp)) m1.out m2.out ga0.out gb0.out
        · go_simp
          refine hK.out _ _ (hc1h.out _ (fQ1.out.alloc _)) (fun hHeld => ?_)
          clear hK K
          try simp only [List.getElem_toArray, List.getElem_cons_succ, List.getElem_cons_zero, Act.put, List.setIfInBounds_toArray, List.set_cons_zero, List.set_cons_succ]
          obtain ⟨Q12, e12⟩ : ∃ V, V = World.alloc Q1 (.cells #[.slice none 0 0, .int .i64 0] 50) := ⟨_, rfl⟩
          have g12 : Fr [] Q1 Q12 := by rw [e12]; exact (Fr.refl [] _).alloc _
          have bbB : Hid (Blk Q12 Q1.heap.size 50 #[.slice none 0 0, .int .i64 0]) := by rw [e12]; exact Lib.hid (Blk.new _ _ _)
          rw [← e12] at hHeld ⊢
          obtain ⟨gb, gbE⟩ : ∃ z, Hid (Q1.heap.size = z) := ⟨_, Lib.hid rfl⟩
          rw [gbE.out] at bbB ⊢
          have gb0 := Lib.hid (show V8.heap.size ≤ gb by have := fQ1.out.size; have := gbE.out; omega)
          have fQ12 := Lib.hid (fQ1.out.trans g12)
          have fl1 := Lib.hid (fl1.out.to (Y := [gb]) g12.nil (by simp; have := gbE.out; omega))
          clear e12 g12
          refine wpZ_two (i := 9) (j := 10) (by kernel_rfl) rfl rfl (fun K hK => ?_) (fun K hK => ?_)
          · go_simp
            refine (hwbh.out _ fQ12.out [gb] (by simpa using ⟨gb0.out, bbB.out.lt⟩)).mono ?_
            rintro e Q13 ⟨A2, c2x, l2, rfl, hl13, hm13, g13⟩
            have fQ13 := Lib.hid (fQ12.out.trans g13)
            have fl1 := Lib.hid (fl1.out.fr g13.nil)
            have fl2 := Lib.hid hl13
            have m2 := Lib.hid hm13
            have bbB := Lib.hid (bbB.out.fr g13 (by simp))
            clear hl13 hm13 g13
            dsimp only
            refine hK.out _ _ (hc1h.out _ fQ13.out) (fun hHeld => ?_)
            clear hK K
            try simp only [List.getElem_toArray, List.getElem_cons_succ, List.getElem_cons_zero, Act.put, List.setIfInBounds_toArray, List.set_cons_zero, List.set_cons_succ]
            refine wpZ_one (i := 10) (by kernel_rfl) rfl (fun K hK => ?_)
            go_simp
            refine hK.out _ _ (hc1h.out _ (fQ13.out.alloc _)) (fun hHeld => ?_)
            clear hK K
            try simp only [List.getElem_toArray, List.getElem_cons_succ, List.getElem_cons_zero, Act.put, List.setIfInBounds_toArray, List.set_cons_zero, List.set_cons_succ]
            obtain ⟨Q14, e14⟩ : ∃ V, V = World.alloc Q13 (.cells #[.slice none 0 0, .int .i64 0] 50) := ⟨_, rfl⟩
            have g14 : Fr [] Q13 Q14 := by rw [e14]; exact (Fr.refl [] _).alloc _
            have baB : Hid (Blk Q14 Q13.heap.size 50 #[.slice none 0 0, .int .i64 0]) := by rw [e14]; exact Lib.hid (Blk.new _ _ _)
            rw [← e14] at hHeld ⊢
            obtain ⟨ga, gaE⟩ : ∃ z, Hid (Q13.heap.size = z) := ⟨_, Lib.hid rfl⟩
            rw [gaE.out] at baB ⊢
            have ga0 := Lib.hid (show V8.heap.size ≤ ga by have := fQ13.out.size; have := gaE.out; omega)
            have fQ14 := Lib.hid (fQ13.out.trans g14)
            have gab : ga ≠ gb := by have := bbB.out.lt; have := gaE.out; omega
            have bbB := Lib.hid (bbB.out.fr g14 (by simp))
            have fl1 := Lib.hid (fl1.out.to (Y := [ga, gb]) g14.nil (by simp; have := gaE.out; omega))
            have fl2 := Lib.hid (fl2.out.to (Y := [ga, gb]) g14.nil (by simp; have := gaE.out; omega))
            clear e14 g14
            have g2 : Fr [ga] Q14 (Q14.setRow ga #[.slice A1 l1.length c1x, .int .i64 0]) := (Fr.refl [ga] Q14).setRow (.inl (by simp)) _
            have bb2 := bbB.out.fr g2 (by simp; exact fun h => gab h.symm)
            have cw1 := (g2.cell (p := ⟨gc, 1, none⟩) (block_lt_of_cell (hc1h.out _ fQ14.out)) (by simp; have := ga0.out; omega)).trans (hc1h.out _ fQ14.out)
            have g3 : Fr [gb] (Q14.setRow ga #[.slice A1 l1.length c1x, .int .i64 0]) ((Q14.setRow ga #[.slice A1 l1.length c1x, .int .i64 0]).setRow gb #[.slice A2 l2.length c2x, .int .i64 0]) := (Fr.refl [gb] _).setRow (.inl (by simp)) _
            have cw2 := (g3.cell (p := ⟨gc, 1, none⟩) (block_lt_of_cell cw1) (by simp; have := gb0.out; omega)).trans cw1
            refine wpZ_one (i := 12) (by kernel_rfl) rfl (fun K hK => ?_)
            rw [if_pos (wanted_none rfl)]
            refine wp_store_row 50 _ _ rfl ga _ rfl rfl 50 _ baB.out infoRb (by kernel_rfl) (by kernel_rfl) ?_
            show K (Act.put _ none undef) _
            refine hK.out _ _ cw1 (fun hHeld => ?_)
            clear hK K
            try simp only [Act.put]
            refine wpZ_one (i := 13) (by kernel_rfl) rfl (fun K hK => ?_)
            rw [if_pos (wanted_none rfl)]
            refine wp_store_row 50 _ _ rfl gb _ rfl rfl 50 _ bb2 infoRb (by kernel_rfl) (by kernel_rfl) ?_
            show K (Act.put _ none undef) _
            refine hK.out _ _ cw2 (fun hHeld => ?_)
            clear hK K
            try simp only [Act.put]
            refine wpZ_done (by kernel_rfl) ?_ _
            go_wp2_with fail
            go_meet
            case rel => exact oth_leaf fQ14.out baB.out bbB.out gab (fl1.out.mono (Y := [ga, gb]) (by simp)) (fl2.out.mono (Y := [ga, gb]) (by simp)) m1.out m2.out ga0.out gb0.out
          · go_simp
            refine hK.out _ _ (hc1h.out _ (fQ12.out.alloc _)) (fun hHeld => ?_)
            clear hK K
            try simp only [List.getElem_toArray, List.getElem_cons_succ, List.getElem_cons_zero, Act.put, List.setIfInBounds_toArray, List.set_cons_zero, List.set_cons_succ]
            obtain ⟨Q15, e15⟩ : ∃ V, V = World.alloc Q12 (.cells #[.slice none 0 0, .int .i64 0] 50) := ⟨_, rfl⟩
            have g15 : Fr [] Q12 Q15 := by rw [e15]; exact (Fr.refl [] _).alloc _
            have baB : Hid (Blk Q15 Q12.heap.size 50 #[.slice none 0 0, .int .i64 0]) := by rw [e15]; exact Lib.hid (Blk.new _ _ _)
            rw [← e15] at hHeld ⊢
            obtain ⟨ga, gaE⟩ : ∃ z, Hid (Q12.heap.size = z) := ⟨_, Lib.hid rfl⟩
            rw [gaE.out] at baB ⊢
            have ga0 := Lib.hid (show V8.heap.size ≤ ga by have := fQ12.out.size; have := gaE.out; omega)
            have fQ15 := Lib.hid (fQ12.out.trans g15)
            have gab : ga ≠ gb := by have := bbB.out.lt; have := gaE.out; omega
            have bbB := Lib.hid (bbB.out.fr g15 (by simp))
            have fl1 := Lib.hid (fl1.out.to (Y := [ga, gb]) g15.nil (by simp; have := gaE.out; omega))
            clear e15 g15
            refine wpZ_one (i := 9) (by kernel_rfl) rfl (fun K hK => ?_)
            go_simp
            refine (hwbh.out _ fQ15.out [ga, gb] (by simpa using ⟨⟨ga0.out, baB.out.lt⟩, ⟨gb0.out, bbB.out.lt⟩⟩)).mono ?_
            rintro e Q16 ⟨A2, c2x, l2, rfl, hl16, hm16, g16⟩
            have fQ16 := Lib.hid (fQ15.out.trans g16)
            have fl1 := Lib.hid (fl1.out.fr g16.nil)
            have fl2 := Lib.hid hl16
            have m2 := Lib.hid hm16
            have baB := Lib.hid (baB.out.fr g16 (by simp))
            have bbB := Lib.hid (bbB.out.fr g16 (by simp))
            clear hl16 hm16 g16
            dsimp only
            refine hK.out _ _ (hc1h.out _ fQ16.out) (fun hHeld => ?_)
            clear hK K
            try simp only [List.getElem_toArray, List.getElem_cons_succ, List.getElem_cons_zero, Act.put, List.setIfInBounds_toArray, List.set_cons_zero, List.set_cons_succ]
            have g2 : Fr [ga] Q16 (Q16.setRow ga #[.slice A1 l1.length c1x, .int .i64 0]) := (Fr.refl [ga] Q16).setRow (.inl (by simp)) _
            have bb2 := bbB.out.fr g2 (by simp; exact fun h => gab h.symm)
            have cw1 := (g2.cell (p := ⟨gc, 1, none⟩) (block_lt_of_cell (hc1h.out _ fQ16.out)) (by simp; have := ga0.out; omega)).trans (hc1h.out _ fQ16.out)
            have g3 : Fr [gb] (Q16.setRow ga #[.slice A1 l1.length c1x, .int .i64 0]) ((Q16.setRow ga #[.slice A1 l1.length c1x, .int .i64 0]).setRow gb #[.slice A2 l2.length c2x, .int .i64 0]) := (Fr.refl [gb] _).setRow (.inl (by simp)) _
            have cw2 := (g3.cell (p := ⟨gc, 1, none⟩) (block_lt_of_cell cw1) (by simp; have := gb0.out; omega)).trans cw1
            refine wpZ_one (i := 12) (by kernel_rfl) rfl (fun K hK => ?_)
            rw [if_pos (wanted_none rfl)]
            refine wp_store_row 50 _ _ rfl ga _ rfl rfl 50 _ baB.out infoRb (by kernel_rfl) (by kernel_rfl) ?_
            show K (Act.put _ none undef) _
            refine hK.out _ _ cw1 (fun hHeld => ?_)
            clear hK K
            try simp only [Act.put]
            refine wpZ_one (i := 13) (by kernel_rfl) rfl (fun K hK => ?_)
            rw [if_pos (wanted_none rfl)]
            refine wp_store_row 50 _ _ rfl gb _ rfl rfl 50 _ bb2 infoRb (by kernel_rfl) (by kernel_rfl) ?_
            show K (Act.put _ none undef) _
            refine hK.out _ _ cw2 (fun hHeld => ?_)
            clear hK K
            try simp only [Act.put]
            refine wpZ_done (by kernel_rfl) ?_ _
            go_wp2_with fail
            go_meet
            case rel => exact oth_leaf fQ16.out baB.out bbB.out gab (fl1.out.mono (Y := [ga, gb]) (by simp)) (fl2.out.mono (Y := [ga, gb]) (by simp)) m1.out m2.out ga0.out gb0.out
      · go_simp
        refine hK.out _ _ (hc1h.out _ (fW0.out.alloc _)) (fun hHeld => ?_)
        clear hK K
        try simp only [List.getElem_toArray, List.getElem_cons_succ, List.getElem_cons_zero, Act.put, List.setIfInBounds_toArray, List.set_cons_zero, List.set_cons_succ]
        obtain ⟨Q17, e17⟩ : ∃ V, V = World.alloc Q0 (.cells #[.slice none 0 0, .int .i64 0] 50) := ⟨_, rfl⟩
        have g17 : Fr [] Q0 Q17 := by rw [e17]; exact (Fr.refl [] _).alloc _
        have baB : Hid (Blk Q17 Q0.heap.size 50 #[.slice none 0 0, .int .i64 0]) := by rw [e17]; exact Lib.hid (Blk.new _ _ _)
        rw [← e17] at hHeld ⊢
        obtain ⟨ga, gaE⟩ : ∃ z, Hid (Q0.heap.size = z) := ⟨_, Lib.hid rfl⟩
        rw [gaE.out] at baB ⊢
        have ga0 := Lib.hid (show V8.heap.size ≤ ga by have := fW0.out.size; have := gaE.out; omega)
        have fQ17 := Lib.hid (fW0.out.trans g17)
        clear e17 g17
        refine wpZ_two (i := 4) (j := 11) (by kernel_rfl) rfl rfl (fun K hK => ?_) (fun K hK => ?_)
        · go_simp
          refine (hwah.out _ fQ17.out [ga] (by simpa using ⟨ga0.out, baB.out.lt⟩)).mono ?_
          rintro e Q18 ⟨A1, c1x, l1, rfl, hl18, hm18, g18⟩
          have fQ18 := Lib.hid (fQ17.out.trans g18)
          have fl1 := Lib.hid hl18
          have m1 := Lib.hid hm18
          have baB := Lib.hid (baB.out.fr g18 (by simp))
          clear hl18 hm18 g18
          dsimp only
          refine hK.out _ _ (hc1h.out _ fQ18.out) (fun hHeld => ?_)
          clear hK K
          try simp only [List.getElem_toArray, List.getElem_cons_succ, List.getElem_cons_zero, Act.put, List.setIfInBounds_toArray, List.set_cons_zero, List.set_cons_succ]
          refine wpZ_two (i := 9) (j := 11) (by kernel_rfl) rfl rfl (fun K hK => ?_) (fun K hK => ?_)
          · go_simp
            refine (hwbh.out _ fQ18.out [ga] (by simpa using ⟨ga0.out, baB.out.lt⟩)).mono ?_
            rintro e Q19 ⟨A2, c2x, l2, rfl, hl19, hm19, g19⟩
            have fQ19 := Lib.hid (fQ18.out.trans g19)
            have fl1 := Lib.hid (fl1.out.fr g19.nil)
            have fl2 := Lib.hid hl19
            have m2 := Lib.hid hm19
            have baB := Lib.hid (baB.out.fr g19 (by simp))
            clear hl19 hm19 g19
            dsimp only
            refine hK.out _ _ (hc1h.out _ fQ19.out) (fun hHeld => ?_)
            clear hK K
            try simp only [List.getElem_toArray, List.getElem_cons_succ, List.getElem_cons_zero, Act.put, List.setIfInBounds_toArray, List.set_cons_zero, List.set_cons_succ]
            refine wpZ_one (i := 11) (by kernel_rfl) rfl (fun K hK => ?_)
            go_simp
            refine hK.out _ _ (hc1h.out _ (fQ19.out.alloc _)) (fun hHeld => ?_)
            clear hK K
            try simp only [List.getElem_toArray, List.getElem_cons_succ, List.getElem_cons_zero, Act.put, List.setIfInBounds_toArray, List.set_cons_zero, List.set_cons_succ]
            obtain ⟨Q20, e20⟩ : ∃ V, V = World.alloc Q19 (.cells #[.slice none 0 0, .int .i64 0] 50) := ⟨_, rfl⟩
            have g20 : Fr [] Q19 Q20 := by rw [e20]; exact (Fr.refl [] _).alloc _
            have bbB : Hid (Blk Q20 Q19.heap.size 50 #[.slice none 0 0, .int .i64 0]) := by rw [e20]; exact Lib.hid (Blk.new _ _ _)
            rw [← e20] at hHeld ⊢
            obtain ⟨gb, gbE⟩ : ∃ z, Hid (Q19.heap.size = z) := ⟨_, Lib.hid rfl⟩
            rw [gbE.out] at bbB ⊢
            have gb0 := Lib.hid (show V8.heap.size ≤ gb by have := fQ19.out.size; have := gbE.out; omega)
            have fQ20 := Lib.hid (fQ19.out.trans g20)
            have gab : ga ≠ gb := by have := baB.out.lt; have := gbE.out; omega
            have baB := Lib.hid (baB.out.fr g20 (by simp))
            have fl1 := Lib.hid (fl1.out.to (Y := [gb, ga]) g20.nil (by simp; have := gbE.out; omega))
            have fl2 := Lib.hid (fl2.out.to (Y := [gb, ga]) g20.nil (by simp; have := gbE.out; omega))
            clear e20 g20
            have g2 : Fr [ga] Q20 (Q20.setRow ga #[.slice A1 l1.length c1x, .int .i64 0]) := (Fr.refl [ga] Q20).setRow (.inl (by simp)) _
            have bb2 := bbB.out.fr g2 (by simp; exact fun h => gab h.symm)
            have cw1 := (g2.cell (p := ⟨gc, 1, none⟩) (block_lt_of_cell (hc1h.out _ fQ20.out)) (by simp; have := ga0.out; omega)).trans (hc1h.out _ fQ20.out)
            have g3 : Fr [gb] (Q20.setRow ga #[.slice A1 l1.length c1x, .int .i64 0]) ((Q20.setRow ga #[.slice A1 l1.length c1x, .int .i64 0]).setRow gb #[.slice A2 l2.length c2x, .int .i64 0]) := (Fr.refl [gb] _).setRow (.inl (by simp)) _
            have cw2 := (g3.cell (p := ⟨gc, 1, none⟩) (block_lt_of_cell cw1) (by simp; have := gb0.out; omega)).trans cw1
            refine wpZ_one (i := 12) (by kernel_rfl) rfl (fun K hK => ?_)
            rw [if_pos (wanted_none rfl)]
            refine wp_store_row 50 _ _ rfl ga _ rfl rfl 50 _ baB.out infoRb (by kernel_rfl) (by kernel_rfl) ?_
            show K (Act.put _ none undef) _
            refine hK.out _ _ cw1 (fun hHeld => ?_)
            clear hK K
            try simp only [Act.put]
            refine wpZ_one (i := 13) (by kernel_rfl) rfl (fun K hK => ?_)
            rw [if_pos (wanted_none rfl)]
            refine wp_store_row 50 _ _ rfl gb _ rfl rfl 50 _ bb2 infoRb (by kernel_rfl) (by kernel_rfl) ?_
            show K (Act.put _ none undef) _
            refine hK.out _ _ cw2 (fun hHeld => ?_)
            clear hK K
            try simp only [Act.put]
            refine wpZ_done (by kernel_rfl) ?_ _
            go_wp2_with fail
            go_meet
            case rel => exact oth_leaf fQ20.out baB.out bbB.out gab (fl1.out.mono (Y := [ga, gb]) (by simp)) (fl2.out.mono (Y := [ga, gb]) (by simp)) m1.out m2.out ga0.out gb0.out
          · go_simp
            refine hK.out _ _ (hc1h.out _ (fQ18.out.alloc _)) (fun hHeld => ?_)
            clear hK K
            try simp only [List.getElem_toArray, List.getElem_cons_succ, List.getElem_cons_zero, Act.put, List.setIfInBounds_toArray, List.set_cons_zero, List.set_cons_succ]
            obtain ⟨Q21, e21⟩ : ∃ V, V = World.alloc Q18 (.cells #[.slice none 0 0, .int .i64 0] 50) := ⟨_, rfl⟩
            have g21 : Fr [] Q18 Q21 := by rw [e21]; exact (Fr.refl [] _).alloc _
            have bbB : Hid (Blk Q21 Q18.heap.size 50 #[.slice none 0 0, .int .i64 0]) := by rw [e21]; exact Lib.hid (Blk.new _ _ _)
            rw [← e21] at hHeld ⊢
            obtain ⟨gb, gbE⟩ : ∃ z, Hid (Q18.heap.size = z) := ⟨_, Lib.hid rfl⟩
            rw [gbE.out] at bbB ⊢
            have gb0 := Lib.hid (show V8.heap.size ≤ gb by have := fQ18.out.size; have := gbE.out; omega)
            have fQ21 := Lib.hid (fQ18.out.trans g21)
            have gab : ga ≠ gb := by have := baB.out.lt; have := gbE.out; omega
            have baB := Lib.hid (baB.out.fr g21 (by simp))
            have fl1 := Lib.hid (fl1.out.to (Y := [gb, ga]) g21.nil (by simp; have := gbE.out; omega))
            clear e21 g21
            refine wpZ_one (i := 9) (by kernel_rfl) rfl (fun K hK => ?_)
            go_simp
            refine (hwbh.out _ fQ21.out [gb, ga] (by simpa using ⟨⟨gb0.out, bbB.out.lt⟩, ⟨ga0.out, baB.out.lt⟩⟩)).mono ?_
            rintro e Q22 ⟨A2, c2x, l2, rfl, hl22, hm22, g22⟩
            have fQ22 := Lib.hid (fQ21.out.trans g22)
            have fl1 := Lib.hid (fl1.out.fr g22.nil)
            have fl2 := Lib.hid hl22
            have m2 := Lib.hid hm22
            have baB := Lib.hid (baB.out.fr g22 (by simp))
            have bbB := Lib.hid (bbB.out.fr g22 (by simp))
            clear hl22 hm22 g22
            dsimp only
            refine hK.out _ _ (hc1h.out _ fQ22.out) (fun hHeld => ?_)
            clear hK K
            try simp only [List.getElem_toArray, List.getElem_cons_succ, List.getElem_cons_zero, Act.put, List.setIfInBounds_toArray, List.set_cons_zero, List.set_cons_succ]
            have g2 : Fr [ga] Q22 (Q22.setRow ga #[.slice A1 l1.length c1x, .int .i64 0]) := (Fr.refl [ga] Q22).setRow (.inl (by simp)) _
            have bb2 := bbB.out.fr g2 (by simp; exact fun h => gab h.symm)
            have cw1 := (g2.cell (p := ⟨gc, 1, none⟩) (block_lt_of_cell (hc1h.out _ fQ22.out)) (by simp; have := ga0.out; omega)).trans (hc1h.out _ fQ22.out)
            have g3 : Fr [gb] (Q22.setRow ga #[.slice A1 l1.length c1x, .int .i64 0]) ((Q22.setRow ga #[.slice A1 l1.length c1x, .int .i64 0]).setRow gb #[.slice A2 l2.length c2x, .int .i64 0]) := (Fr.refl [gb] _).setRow (.inl (by simp)) _
            have cw2 := (g3.cell (p := ⟨gc, 1, none⟩) (block_lt_of_cell cw1) (by simp; have := gb0.out; omega)).trans cw1
            refine wpZ_one (i := 12) (by kernel_rfl) rfl (fun K hK => ?_)
            rw [if_pos (wanted_none rfl)]
            refine wp_store_row 50 _ _ rfl ga _ rfl rfl 50 _ baB.out infoRb (by kernel_rfl) (by kernel_rfl) ?_
            show K (Act.put _ none undef) _
            refine hK.out _ _ cw1 (fun hHeld => ?_)
            clear hK K
            try simp only [Act.put]
            refine wpZ_one (i := 13) (by kernel_rfl) rfl (fun K hK => ?_)
            rw [if_pos (wanted_none rfl)]
            refine wp_store_row 50 _ _ rfl gb _ rfl rfl 50 _ bb2 infoRb (by kernel_rfl) (by kernel_rfl) ?_
            show K (Act.put _ none undef) _
            refine hK.out _ _ cw2 (fun hHeld => ?_)
            clear hK K
            try simp only [Act.put]
            refine wpZ_done (by kernel_rfl) ?_ _
            go_wp2_with fail
            go_meet
            case rel => exact oth_leaf fQ22.out baB.out bbB.out gab (fl1.out.mono (Y := [ga, gb]) (by simp)) (fl2.out.mono (Y := [ga, gb]) (by simp)) m1.out m2.out ga0.out gb0.out
        · go_simp
          refine hK.out _ _ (hc1h.out _ (fQ17.out.alloc _)) (fun hHeld => ?_)
          clear hK K
          try simp only [List.getElem_toArray, List.getElem_cons_succ, List.getElem_cons_zero, Act.put, List.setIfInBounds_toArray, List.set_cons_zero, List.set_cons_succ]
          obtain ⟨Q23, e23⟩ : ∃ V, V = World.alloc Q17 (.cells #[.slice none 0 0, .int .i64 0] 50) := ⟨_, rfl⟩
          have g23 : Fr [] Q17 Q23 := by rw [e23]; exact (Fr.refl [] _).alloc _
          have bbB : Hid (Blk Q23 Q17.heap.size 50 #[.slice none 0 0, .int .i64 0]) := by rw [e23]; exact Lib.hid (Blk.new _ _ _)
          rw [← e23] at hHeld ⊢
          obtain ⟨gb, gbE⟩ : ∃ z, Hid (Q17.heap.size = z) := ⟨_, Lib.hid rfl⟩
          rw [gbE.out] at bbB ⊢
          have gb0 := Lib.hid (show V8.heap.size ≤ gb by have := fQ17.out.size; have := gbE.out; omega)
          have fQ23 := Lib.hid (fQ17.out.trans g23)
          have gab : ga ≠ gb := by have := baB.out.lt; have := gbE.out; omega
          have baB := Lib.hid (baB.out.fr g23 (by simp))
          clear e23 g23
          refine wpZ_one (i := 4) (by kernel_rfl) rfl (fun K hK => ?_)
          go_simp
          refine (hwah.out _ fQ23.out [gb, ga] (by simpa using ⟨⟨gb0.out, bbB.out.lt⟩, ⟨ga0.out, baB.out.lt⟩⟩)).mono ?_
          rintro e Q24 ⟨A1, c1x, l1, rfl, hl24, hm24, g24⟩
          have fQ24 := Lib.hid (fQ23.out.trans g24)
          have fl1 := Lib.hid hl24
          have m1 := Lib.hid hm24
          have baB := Lib.hid (baB.out.fr g24 (by simp))
          have bbB := Lib.hid (bbB.out.fr g24 (by simp))
          clear hl24 hm24 g24
          dsimp only
          refine hK.out _ _ (hc1h.out _ fQ24.out) (fun hHeld => ?_)
          clear hK K
          try simp only [List.getElem_toArray, List.getElem_cons_succ, List.getElem_cons_zero, Act.put, List.setIfInBounds_toArray, List.set_cons_zero, List.set_cons_succ]
          refine wpZ_one (i := 9) (by kernel_rfl) rfl (fun K hK => ?_)
          go_simp
          refine (hwbh.out _ fQ24.out [gb, ga] (by simpa using ⟨⟨gb0.out, bbB.out.lt⟩, ⟨ga0.out, baB.out.lt⟩⟩)).mono ?_
          rintro e Q25 ⟨A2, c2x, l2, rfl, hl25, hm25, g25⟩
          have fQ25 := Lib.hid (fQ24.out.trans g25)
          have fl1 := Lib.hid (fl1.out.fr g25.nil)
          have fl2 := Lib.hid hl25
          have m2 := Lib.hid hm25
          have baB := Lib.hid (baB.out.fr g25 (by simp))
          have bbB := Lib.hid (bbB.out.fr g25 (by simp))
          clear hl25 hm25 g25
          dsimp only
          refine hK.out _ _ (hc1h.out _ fQ25.out) (fun hHeld => ?_)
          clear hK K
          try simp only [List.getElem_toArray, List.getElem_cons_succ, List.getElem_cons_zero, Act.put, List.setIfInBounds_toArray, List.set_cons_zero, List.set_cons_succ]
          have g2 : Fr [ga] Q25 (Q25.setRow ga #[.slice A1 l1.length c1x, .int .i64 0]) := (Fr.refl [ga] Q25).setRow (.inl (by simp)) _
          have bb2 := bbB.out.fr g2 (by simp; exact fun h => gab h.symm)
          have cw1 := (g2.cell (p := ⟨gc, 1, none⟩) (block_lt_of_cell (hc1h.out _ fQ25.out)) (by simp; have := ga0.out; omega)).trans (hc1h.out _ fQ25.out)
          have g3 : Fr [gb] (Q25.setRow ga #[.slice A1 l1.length c1x, .int .i64 0]) ((Q25.setRow ga #[.slice A1 l1.length c1x, .int .i64 0]).setRow gb #[.slice A2 l2.length c2x, .int .i64 0]) := (Fr.refl [gb] _).setRow (.inl (by simp)) _
          have cw2 := (g3.cell (p := ⟨gc, 1, none⟩) (block_lt_of_cell cw1) (by simp; have := gb0.out; omega)).trans cw1
          refine wpZ_one (i := 12) (by kernel_rfl) rfl (fun K hK => ?_)
          rw [if_pos (wanted_none rfl)]
          refine wp_store_row 50 _ _ rfl ga _ rfl rfl 50 _ baB.out infoRb (by kernel_rfl) (by kernel_rfl) ?_
          show K (Act.put _ none undef) _
          refine hK.out _ _ cw1 (fun hHeld => ?_)
          clear hK K
          try simp only [Act.put]
          refine wpZ_one (i := 13) (by kernel_rfl) rfl (fun K hK => ?_)
          rw [if_pos (wanted_none rfl)]
          refine wp_store_row 50 _ _ rfl gb _ rfl rfl 50 _ bb2 infoRb (by kernel_rfl) (by kernel_rfl) ?_
          show K (Act.put _ none undef) _
          refine hK.out _ _ cw2 (fun hHeld => ?_)
          clear hK K
          try simp only [Act.put]
          refine wpZ_done (by kernel_rfl) ?_ _
          go_wp2_with fail
          go_meet
          case rel => exact oth_leaf fQ25.out baB.out bbB.out gab (fl1.out.mono (Y := [ga, gb]) (by simp)) (fl2.out.mono (Y := [ga, gb]) (by simp)) m1.out m2.out ga0.out gb0.out
      · go_simp
        refine hK.out _ _ (hc1h.out _ (fW0.out.alloc _)) (fun hHeld => ?_)
        clear hK K
        try simp only [List.getElem_toArray, List.getElem_cons_succ, List.getElem_cons_zero, Act.put, List.setIfInBounds_toArray, List.set_cons_zero, List.set_cons_succ]
        obtain ⟨Q26, e26⟩ : ∃ V, V = World.alloc Q0 (.cells #[.slice none 0 0, .int .i64 0] 50) := ⟨_, rfl⟩
        have g26 : Fr [] Q0 Q26 := by rw [e26]; exact (Fr.refl [] _).alloc _
        have bbB : Hid (Blk Q26 Q0.heap.size 50 #[.slice none 0 0, .int .i64 0]) := by rw [e26]; exact Lib.hid (Blk.new _ _ _)
        rw [← e26] at hHeld ⊢
        obtain ⟨gb, gbE⟩ : ∃ z, Hid (Q0.heap.size = z) := ⟨_, Lib.hid rfl⟩
        rw [gbE.out] at bbB ⊢
        have gb0 := Lib.hid (show V8.heap.size ≤ gb by have := fW0.out.size; have := gbE.out; omega)
        have fQ26 := Lib.hid (fW0.out.trans g26)
        clear e26 g26
        refine wpZ_two (i := 4) (j := 10) (by kernel_rfl) rfl rfl (fun K hK => ?_) (fun K hK => ?_)
        · go_simp
          refine (hwah.out _ fQ26.out [gb] (by simpa using ⟨gb0.out, bbB.out.lt⟩)).mono ?_
          rintro e Q27 ⟨A1, c1x, l1, rfl, hl27, hm27, g27⟩
          have fQ27 := Lib.hid (fQ26.out.trans g27)
          have fl1 := Lib.hid hl27
          have m1 := Lib.hid hm27
          have bbB := Lib.hid (bbB.out.fr g27 (by simp))
          clear hl27 hm27 g27
          dsimp only
          refine hK.out _ _ (hc1h.out _ fQ27.out) (fun hHeld => ?_)
          clear hK K
          try simp only [List.getElem_toArray, List.getElem_cons_succ, List.getElem_cons_zero, Act.put, List.setIfInBounds_toArray, List.set_cons_zero, List.set_cons_succ]
          refine wpZ_two (i := 9) (j := 10) (by kernel_rfl) rfl rfl (fun K hK => ?_) (fun K hK => ?_)
          · go_simp
            refine (hwbh.out _ fQ27.out [gb] (by simpa using ⟨gb0.out, bbB.out.lt⟩)).mono ?_
            rintro e Q28 ⟨A2, c2x, l2, rfl, hl28, hm28, g28⟩
            have fQ28 := Lib.hid (fQ27.out.trans g28)
            have fl1 := Lib.hid (fl1.out.fr g28.nil)
            have fl2 := Lib.hid hl28
            have m2 := Lib.hid hm28
            have bbB := Lib.hid (bbB.out.fr g28 (by simp))
            clear hl28 hm28 g28
            dsimp only
            refine hK.out _ _ (hc1h.out _ fQ28.out) (fun hHeld => ?_)
            clear hK K
            try simp only [List.getElem_toArray, List.getElem_cons_succ, List.getElem_cons_zero, Act.put, List.setIfInBounds_toArray, List.set_cons_zero, List.set_cons_succ]
            refine wpZ_one (i := 10) (by kernel_rfl) rfl (fun K hK => ?_)
            go_simp
            refine hK.out _ _ (hc1h.out _ (fQ28.out.alloc _)) (fun hHeld => ?_)
            clear hK K
            try simp only [List.getElem_toArray, List.getElem_cons_succ, List.getElem_cons_zero, Act.put, List.setIfInBounds_toArray, List.set_cons_zero, List.set_cons_succ]
            obtain ⟨Q29, e29⟩ : ∃ V, V = World.alloc Q28 (.cells #[.slice none 0 0, .int .i64 0] 50) := ⟨_, rfl⟩
            have g29 : Fr [] Q28 Q29 := by rw [e29]; exact (Fr.refl [] _).alloc _
            have baB : Hid (Blk Q29 Q28.heap.size 50 #[.slice none 0 0, .int .i64 0]) := by rw [e29]; exact Lib.hid (Blk.new _ _ _)
            rw [← e29] at hHeld ⊢
            obtain ⟨ga, gaE⟩ : ∃ z, Hid (Q28.heap.size = z) := ⟨_, Lib.hid rfl⟩
            rw [gaE.out] at baB ⊢
            have ga0 := Lib.hid (show V8.heap.size ≤ ga by have := fQ28.out.size; have := gaE.out; omega)
            have fQ29 := Lib.hid (fQ28.out.trans g29)
            have gab : ga ≠ gb := by have := bbB.out.lt; have := gaE.out; omega
            have bbB := Lib.hid (bbB.out.fr g29 (by simp))
            have fl1 := Lib.hid (fl1.out.to (Y := [ga, gb]) g29.nil (by simp; have := gaE.out; omega))
            have fl2 := Lib.hid (fl2.out.to (Y := [ga, gb]) g29.nil (by simp; have := gaE.out; omega))
            clear e29 g29
            have g2 : Fr [ga] Q29 (Q29.setRow ga #[.slice A1 l1.length c1x, .int .i64 0]) := (Fr.refl [ga] Q29).setRow (.inl (by simp)) _
            have bb2 := bbB.out.fr g2 (by simp; exact fun h => gab h.symm)
            have cw1 := (g2.cell (p := ⟨gc, 1, none⟩) (block_lt_of_cell (hc1h.out _ fQ29.out)) (by simp; have := ga0.out; omega)).trans (hc1h.out _ fQ29.out)
            have g3 : Fr [gb] (Q29.setRow ga #[.slice A1 l1.length c1x, .int .i64 0]) ((Q29.setRow ga #[.slice A1 l1.length c1x, .int .i64 0]).setRow gb #[.slice A2 l2.length c2x, .int .i64 0]) := (Fr.refl [gb] _).setRow (.inl (by simp)) _
            have cw2 := (g3.cell (p := ⟨gc, 1, none⟩) (block_lt_of_cell cw1) (by simp; have := gb0.out; omega)).trans cw1
            refine wpZ_one (i := 12) (by kernel_rfl) rfl (fun K hK => ?_)
            rw [if_pos (wanted_none rfl)]
            refine wp_store_row 50 _ _ rfl ga _ rfl rfl 50 _ baB.out infoRb (by kernel_rfl) (by kernel_rfl) ?_
            show K (Act.put _ none undef) _
            refine hK.out _ _ cw1 (fun hHeld => ?_)
            clear hK K
            try simp only [Act.put]
            refine wpZ_one (i := 13) (by kernel_rfl) rfl (fun K hK => ?_)
            rw [if_pos (wanted_none rfl)]
            refine wp_store_row 50 _ _ rfl gb _ rfl rfl 50 _ bb2 infoRb (by kernel_rfl) (by kernel_rfl) ?_
            show K (Act.put _ none undef) _
            refine hK.out _ _ cw2 (fun hHeld => ?_)
            clear hK K
            try simp only [Act.put]
            refine wpZ_done (by kernel_rfl) ?_ _
            go_wp2_with fail
            go_meet
            case rel => exact oth_leaf fQ29.out baB.out bbB.out gab (fl1.out.mono (Y := [ga, gb]) (by simp)) (fl2.out.mono (Y := [ga, gb]) (by simp)) m1.out m2.out ga0.out gb0.out
          · go_simp
            refine hK.out _ _ (hc1h.out _ (fQ27.out.alloc _)) (fun hHeld => ?_)
            clear hK K
            try simp only [List.getElem_toArray, List.getElem_cons_succ, List.getElem_cons_zero, Act.put, List.setIfInBounds_toArray, List.set_cons_zero, List.set_cons_succ]
            obtain ⟨Q30, e30⟩ : ∃ V, V = World.alloc Q27 (.cells #[.slice none 0 0, .int .i64 0] 50) := ⟨_, rfl⟩
            have g30 : Fr [] Q27 Q30 := by rw [e30]; exact (Fr.refl [] _).alloc _
            have baB : Hid (Blk Q30 Q27.heap.size 50 #[.slice none 0 0, .int .i64 0]) := by rw [e30]; exact Lib.hid (Blk.new _ _ _)
            rw [← e30] at hHeld ⊢
            obtain ⟨ga, gaE⟩ : ∃ z, Hid (Q27.heap.size = z) := ⟨_, Lib.hid rfl⟩
            rw [gaE.out] at baB ⊢
            have ga0 := Lib.hid (show V8.heap.size ≤ ga by have := fQ27.out.size; have := gaE.out; omega)
            have fQ30 := Lib.hid (fQ27.out.trans g30)
            have gab : ga ≠ gb := by have := bbB.out.lt; have := gaE.out; omega
            have bbB := Lib.hid (bbB.out.fr g30 (by simp))
            have fl1 := Lib.hid (fl1.out.to (Y := [ga, gb]) g30.nil (by simp; have := gaE.out; omega))
            clear e30 g30
            refine wpZ_one (i := 9) (by kernel_rfl) rfl (fun K hK => ?_)
            go_simp
            refine (hwbh.out _ fQ30.out [ga, gb] (by simpa using ⟨⟨ga0.out, baB.out.lt⟩, ⟨gb0.out, bbB.out.lt⟩⟩)).mono ?_
            rintro e Q31 ⟨A2, c2x, l2, rfl, hl31, hm31, g31⟩
            have fQ31 := Lib.hid (fQ30.out.trans g31)
            have fl1 := Lib.hid (fl1.out.fr g31.nil)
            have fl2 := Lib.hid hl31
            have m2 := Lib.hid hm31
            have baB := Lib.hid (baB.out.fr g31 (by simp))
            have bbB := Lib.hid (bbB.out.fr g31 (by simp))
            clear hl31 hm31 g31
            dsimp only
            refine hK.out _ _ (hc1h.out _ fQ31.out) (fun hHeld => ?_)
            clear hK K
            try simp only [List.getElem_toArray, List.getElem_cons_succ, List.getElem_cons_zero, Act.put, List.setIfInBounds_toArray, List.set_cons_zero, List.set_cons_succ]
            have g2 : Fr [ga] Q31 (Q31.setRow ga #[.slice A1 l1.length c1x, .int .i64 0]) := (Fr.refl [ga] Q31).setRow (.inl (by simp)) _
            have bb2 := bbB.out.fr g2 (by simp; exact fun h => gab h.symm)
            have cw1 := (g2.cell (p := ⟨gc, 1, none⟩) (block_lt_of_cell (hc1h.out _ fQ31.out)) (by simp; have := ga0.out; omega)).trans (hc1h.out _ fQ31.out)
            have g3 : Fr [gb] (Q31.setRow ga #[.slice A1 l1.length c1x, .int .i64 0]) ((Q31.setRow ga #[.slice A1 l1.length c1x, .int .i64 0]).setRow gb #[.slice A2 l2.length c2x, .int .i64 0]) := (Fr.refl [gb] _).setRow (.inl (by simp)) _
            have cw2 := (g3.cell (p := ⟨gc, 1, none⟩) (block_lt_of_cell cw1) (by simp; have := gb0.out; omega)).trans cw1
            refine wpZ_one (i := 12) (by kernel_rfl) rfl (fun K hK => ?_)
            rw [if_pos (wanted_none rfl)]
            refine wp_store_row 50 _ _ rfl ga _ rfl rfl 50 _ baB.out infoRb (by kernel_rfl) (by kernel_rfl) ?_
            show K (Act.put _ none undef) _
            refine hK.out _ _ cw1 (fun hHeld => ?_)
            clear hK K
            try simp only [Act.put]
            refine wpZ_one (i := 13) (by kernel_rfl) rfl (fun K hK => ?_)
            rw [if_pos (wanted_none rfl)]
            refine wp_store_row 50 _ _ rfl gb _ rfl rfl 50 _ bb2 infoRb (by kernel_rfl) (by kernel_rfl) ?_
            show K (Act.put _ none undef) _
            refine hK.out _ _ cw2 (fun hHeld => ?_)
            clear hK K
            try simp only [Act.put]
            refine wpZ_done (by kernel_rfl) ?_ _
            go_wp2_with fail
            go_meet
            case rel => exact oth_leaf fQ31.out baB.out bbB.out gab (fl1.out.mono (Y := [ga, gb]) (by simp)) (fl2.out.mono (Y := [ga, gb]) (by simp)) m1.out m2.out ga0.out gb0.out
        · go_simp
          refine hK.out _ _ (hc1h.out _ (fQ26.out.alloc _)) (fun hHeld => ?_)
          clear hK K
          try simp only [List.getElem_toArray, List.getElem_cons_succ, List.getElem_cons_zero, Act.put, List.setIfInBounds_toArray, List.set_cons_zero, List.set_cons_succ]
          obtain ⟨Q32, e32⟩ : ∃ V, V = World.alloc Q26 (.cells #[.slice none 0 0, .int .i64 0] 50) := ⟨_, rfl⟩
          have g32 : Fr [] Q26 Q32 := by rw [e32]; exact (Fr.refl [] _).alloc _
          have baB : Hid (Blk Q32 Q26.heap.size 50 #[.slice none 0 0, .int .i64 0]) := by rw [e32]; exact Lib.hid (Blk.new _ _ _)
          rw [← e32] at hHeld ⊢
          obtain ⟨ga, gaE⟩ : ∃ z, Hid (Q26.heap.size = z) := ⟨_, Lib.hid rfl⟩
          rw [gaE.out] at baB ⊢
          have ga0 := Lib.hid (show V8.heap.size ≤ ga by have := fQ26.out.size; have := gaE.out; omega)
          have fQ32 := Lib.hid (fQ26.out.trans g32)
          have gab : ga ≠ gb := by have := bbB.out.lt; have := gaE.out; omega
          have bbB := Lib.hid (bbB.out.fr g32 (by simp))
          clear e32 g32
          refine wpZ_one (i := 4) (by kernel_rfl) rfl (fun K hK => ?_)
          go_simp
          refine (hwah.out _ fQ32.out [ga, gb] (by simpa using ⟨⟨ga0.out, baB.out.lt⟩, ⟨gb0.out, bbB.out.lt⟩⟩)).mono ?_
          rintro e Q33 ⟨A1, c1x, l1, rfl, hl33, hm33, g33⟩
          have fQ33 := Lib.hid (fQ32.out.trans g33)
          have fl1 := Lib.hid hl33
          have m1 := Lib.hid hm33
          have baB := Lib.hid (baB.out.fr g33 (by simp))
          have bbB := Lib.hid (bbB.out.fr g33 (by simp))
          clear hl33 hm33 g33
          dsimp only
          refine hK.out _ _ (hc1h.out _ fQ33.out) (fun hHeld => ?_)
          clear hK K
          try simp only [List.getElem_toArray, List.getElem_cons_succ, List.getElem_cons_zero, Act.put, List.setIfInBounds_toArray, List.set_cons_zero, List.set_cons_succ]
          refine wpZ_one (i := 9) (by kernel_rfl) rfl (fun K hK => ?_)
          go_simp
          refine (hwbh.out _ fQ33.out [ga, gb] (by simpa using ⟨⟨ga0.out, baB.out.lt⟩, ⟨gb0.out, bbB.out.lt⟩⟩)).mono ?_
          rintro e Q34 ⟨A2, c2x, l2, rfl, hl34, hm34, g34⟩
          have fQ34 := Lib.hid (fQ33.out.trans g34)
          have fl1 := Lib.hid (fl1.out.fr g34.nil)
          have fl2 := Lib.hid hl34
          have m2 := Lib.hid hm34
          have baB := Lib.hid (baB.out.fr g34 (by simp))
          have bbB := Lib.hid (bbB.out.fr g34 (by simp))
          clear hl34 hm34 g34
          dsimp only
          refine hK.out _ _ (hc1h.out _ fQ34.out) (fun hHeld => ?_)
          clear hK K
          try simp only [List.getElem_toArray, List.getElem_cons_succ, List.getElem_cons_zero, Act.put, List.setIfInBounds_toArray, List.set_cons_zero, List.set_cons_succ]
          have g2 : Fr [ga] Q34 (Q34.setRow ga #[.slice A1 l1.length c1x, .int .i64 0]) := (Fr.refl [ga] Q34).setRow (.inl (by simp)) _
          have bb2 := bbB.out.fr g2 (by simp; exact fun h => gab h.symm)
          have cw1 := (g2.cell (p := ⟨gc, 1, none⟩) (block_lt_of_cell (hc1h.out _ fQ34.out)) (by simp; have := ga0.out; omega)).trans (hc1h.out _ fQ34.out)
          have g3 : Fr [gb] (Q34.setRow ga #[.slice A1 l1.length c1x, .int .i64 0]) ((Q34.setRow ga #[.slice A1 l1.length c1x, .int .i64 0]).setRow gb #[.slice A2 l2.length c2x, .int .i64 0]) := (Fr.refl [gb] _).setRow (.inl (by simp)) _
          have cw2 := (g3.cell (p := ⟨gc, 1, none⟩) (block_lt_of_cell cw1) (by simp; have := gb0.out; omega)).trans cw1
          refine wpZ_one (i := 12) (by kernel_rfl) rfl (fun K hK => ?_)
          rw [if_pos (wanted_none rfl)]
          refine wp_store_row 50 _ _ rfl ga _ rfl rfl 50 _ baB.out infoRb (by kernel_rfl) (by kernel_rfl) ?_
          show K (Act.put _ none undef) _
          refine hK.out _ _ cw1 (fun hHeld => ?_)
          clear hK K
          try simp only [Act.put]
          refine wpZ_one (i := 13) (by kernel_rfl) rfl (fun K hK => ?_)
          rw [if_pos (wanted_none rfl)]
          refine wp_store_row 50 _ _ rfl gb _ rfl rfl 50 _ bb2 infoRb (by kernel_rfl) (by kernel_rfl) ?_
          show K (Act.put _ none undef) _
          refine hK.out _ _ cw2 (fun hHeld => ?_)
          clear hK K
          try simp only [Act.put]
          refine wpZ_done (by kernel_rfl) ?_ _
          go_wp2_with fail
          go_meet
          case rel => exact oth_leaf fQ34.out baB.out bbB.out gab (fl1.out.mono (Y := [ga, gb]) (by simp)) (fl2.out.mono (Y := [ga, gb]) (by simp)) m1.out m2.out ga0.out gb0.out
    case rest =>
      obtain ⟨ga, gb, A1, c1, l1, A2, c2, l2, rfl, rfl, hga, hgb, hl1, hl2, hm1e, hm2e, fc⟩ := hcut
      have gaB := Lib.hid hga
      have gbB := Lib.hid hgb
      have FFc := Lib.hid (FF8.out.trans fc)
      have hBc := Lib.hid (hB8.out.fr0 fc)
      have hDc := Lib.hid (hD8.out.fr0 fc)
      have hCc := Lib.hid (hC8.out.fr fc (by simp))
      have hl1h := Lib.hid hl1
      have hl2h := Lib.hid hl2
      have hm12 := Lib.hid (show l1.map (·.f) = l2.map (·.f) by rw [hm1e, hm2e, hlah.out, hlbh.out, hwout.out])
      have hl1n := Lib.hid (show l1.length ≤ 1000 by
        have := congrArg List.length hm1e
        rw [List.length_map] at this
        have h2 := List.length_filter_le (fun f : GFam => !decide (f.id = c.family)) (la.map (·.f))
        unfold woutM at this
        rw [List.length_map] at h2
        have := hNa.out
        omega)
      clear hga hgb hl1 hl2 hm1e hm2e fc
      have hfam := family_t wc p mb 256 [mb, mb2] (doM 256 c b).1 c.family hBc.out
      obtain ⟨is1, his1⟩ : ∃ z, Hid ((aget c.family (doM 256 c b).1).isSome = z) := ⟨_, Lib.hid rfl⟩
      obtain ⟨_, c1x, _, _, _, _, _, _, _, _, _, _, _, hclx⟩ := cmdV_cells hCc.out
      go_wp2_with fail
      clear c1x hclx
      refine Calls.mono (show Calls Tryz.prog 16 _ _ _ from hfam) ?_
      rintro e X1 ⟨y1, rfl, y1e, y1w, FX1⟩
      rw [his1.out]
      clear hfam
      unfold FA.val
      go_upto_region 17 with (refine wpList_store_row rfl 39 _ _ rfl X1.heap.size y1.cells rfl rfl 39 _ (Blk.new _ _ _) (infoFamA y1) (by rw [FA.size11]; rfl) (FA.all1 y1) ?_)
      refine wp_gen (fun W => Blk W X1.heap.size 39 y1.cells ∧ Fr [] X1 W) ⟨Blk.setRow (Blk.new _ _ _) _, ((Fr.refl [] X1).alloc _).setRow (.inr (Nat.le_refl _)) _⟩ ?_
      rintro X2 ⟨gy1B, GX2⟩
      obtain ⟨gy1, gy1E⟩ : ∃ z, Hid (X1.heap.size = z) := ⟨_, Lib.hid rfl⟩
      rw [gy1E.out] at gy1B ⊢
      have gy1Bh := Lib.hid gy1B
      have gy1w := Lib.hid (y1w.fr0 GX2)
      have gy1ne : mb ≠ gy1 := by have := hBc.out.hb.lt; have := FX1.size; have := gy1E.out; omega
      have y1eh := Lib.hid y1e
      have fX2 := Lib.hid (FX1.trans GX2)
      have FFX2 := Lib.hid (FFc.out.trans fX2.out)
      have hBX2 := Lib.hid (hBc.out.fr0 fX2.out)
      have hC2 := Lib.hid (hCc.out.fr fX2.out (by simp))
      clear y1w y1e FX1 GX2 gy1B

      have hD2 := Lib.hid (hDc.out.fr0 fX2.out)
      have hfam := family_t X2 p2 mb2 256 [mb, mb2] (doM 256 c d).1 c.family hD2.out
      obtain ⟨is2, his2⟩ : ∃ z, Hid ((aget c.family (doM 256 c d).1).isSome = z) := ⟨_, Lib.hid rfl⟩
      obtain ⟨_, c1x, _, _, _, _, _, _, _, _, _, _, _, hclx⟩ := cmdV_cells hC2.out
      go_wp2_with fail
      clear c1x hclx
      refine Calls.mono (show Calls Tryz.prog 16 _ _ _ from hfam) ?_
      rintro e X3 ⟨y2, rfl, y2e, y2w, FX3⟩
      rw [his2.out]
      clear hfam
      unfold FA.val
      go_upto_region 18 with (refine wpList_store_row rfl 39 _ _ rfl X3.heap.size y2.cells rfl rfl 39 _ (Blk.new _ _ _) (infoFamA y2) (by rw [FA.size11]; rfl) (FA.all1 y2) ?_)
      refine wp_gen (fun W => Blk W X3.heap.size 39 y2.cells ∧ Fr [] X3 W) ⟨Blk.setRow (Blk.new _ _ _) _, ((Fr.refl [] X3).alloc _).setRow (.inr (Nat.le_refl _)) _⟩ ?_
      rintro X4 ⟨gy2B, GX4⟩
      obtain ⟨gy2, gy2E⟩ : ∃ z, Hid (X3.heap.size = z) := ⟨_, Lib.hid rfl⟩
      rw [gy2E.out] at gy2B ⊢
      have gy2Bh := Lib.hid gy2B
      have gy2w := Lib.hid (y2w.fr0 GX4)
      have gy2ne : mb2 ≠ gy2 := by have := hD2.out.hb.lt; have := FX3.size; have := gy2E.out; omega
      have y2eh := Lib.hid y2e
      have fX4 := Lib.hid (FX3.trans GX4)
      have FFX4 := Lib.hid (FFX2.out.trans fX4.out)
      have hBX4 := Lib.hid (hD2.out.fr0 fX4.out)
      clear y2w y2e FX3 GX4 gy2B

      have gy14 := Lib.hid (gy1Bh.out.fr fX4.out (by simp))
      have gy1w4 := Lib.hid (gy1w.out.fr0 fX4.out)
      have fX24 := Lib.hid (fX2.out.trans fX4.out)
      have hall := rall_t X4 A1 A2 l1.length c1 c2 l1 l2 (hl1h.out.fr fX24.out) (by have h := hl2h.out.fr fX24.out; have e := congrArg List.length hm12.out; simp only [List.length_map] at e; rwa [e]) hm12.out (by have := hl1n.out; omega)
      have hle := Lib.hid (show l2.length = l1.length by have e := congrArg List.length hm12.out; simpa using e.symm)
      have ga4 := gaB.out.fr fX24.out (by simp)
      have gb4 := gbB.out.fr fX24.out (by simp)
      rw [hle.out] at gb4
      have a0 := ga4.cell 0
      have b0 := gb4.cell 0
      simp only [List.getElem?_toArray, List.getElem?_cons_zero] at a0 b0
      have al := ga4.lt
      have bl := gb4.lt
      clear ga4 gb4
      go_wp2_with fail
      refine Calls.mono (show Calls Tryz.prog 22 _ _ _ from hall) ?_
      rintro e X5 ⟨rfl, f5⟩
      have hee : is2 = is1 := by rw [← his2.out, ← his1.out, ← hloc2.out]
      have hff : y1.f = y2.f := by rw [y1eh.out, y2eh.out, hloc2.out]
      have hgs := fam_short3 y1eh.out hokbh.out (gy1w.out.fam (X := []) (by simp))
      have hsame := rsame_t X5 y1 y2 ((gy1w4.out.fr0 f5).fam (by simp)) ((gy2w.out.fr0 f5).fam (by simp)) hff hgs
      have FF5 := Lib.hid (FFX4.out.trans f5)
      have gB1 := gy14.out.fr f5 (by simp)
      have gB2 := gy2Bh.out.fr f5 (by simp)
      subst hee
      have ebb : (is2 == is2) = true := beq_self_eq_true _
      clear hall f5 hff hgs a0 b0 al bl
      go_wp2_with (first | (refine wpList_load_if (by rfl) 39 _ rfl rfl (blk_cells gB1) uFam rfl (infoFamA _) ?_) | (refine wpList_load_if (by rfl) 39 _ rfl rfl (blk_cells gB2) uFam rfl (infoFamA _) ?_))
      refine Calls.mono (show Calls Tryz.prog 18 _ _ _ from hsame) ?_
      rintro e X6 ⟨rfl, f6⟩
      have FF6 := Lib.hid (FF5.out.trans f6)
      clear hsame f6 gB1 gB2
      go_wp2_with fail
      go_ret
      exact ⟨rfl, FF6.out⟩
end Go.Proofs.YtdeoinjjphdbmaaGreat
