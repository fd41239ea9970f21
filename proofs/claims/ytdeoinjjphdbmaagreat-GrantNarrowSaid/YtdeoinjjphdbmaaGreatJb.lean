/- Walk: no token is for more than its family. Conditions: each theorem's own. -/
import Derived.Test.YtdeoinjjphdbmaaGreatHy
import Derived.Test.YtdeoinjjphdbmaaGreatIb
import Derived.Test.YtdeoinjjphdbmaaGreatJa
namespace Go.Sig
open Go.RowKit

/-- What is told as active. -/
structure NarrowA (a : GAns) (f : GFam) (e : Int) : Prop where
  lease : e ∈ f.leases
  live : f.revoked = false
  client : a.client = f.client
  within : within a.scope f.scope = true
/-- A token that is told. -/
structure NarrowT (a : GAns) (f : GFam) : Prop where
  le : a.access ≤ (f.tokens.length : Int)
  tok : ∃ t, f.tokens[(a.access - 1).toNat]? = some t ∧ t.scope = a.scope
  within : within a.scope f.scope = true
theorem do_active {room : Int} {c : GCmd} {b : GBk} (hb : BkOk b) (h : (doM room c b).2.active = true) : ∃ f, aget c.family (doM room c b).1 = some f ∧ NarrowA (doM room c b).2 f c.edge := by
  unfold doM at h ⊢
  split at h
  · simp [noA] at h
  · rename_i hm
    rw [if_neg hm]
    split at h
    · unfold beginM at h
      split at h
      · simp [noA] at h
      · split at h
        · simp [noA] at h
        · split at h <;> simp at h
    · rename_i h1
      rw [if_neg h1]
      split at h
      · unfold redeemM at h
        cases hf : aget c.family b with
        | none => rw [hf] at h; simp [noA] at h
        | some f =>
          rw [hf] at h
          simp only at h
          split at h
          · simp [noA] at h
          · split at h
            · simp [noA] at h
            · split at h
              · simp [noA] at h
              · unfold issueM at h
                split at h <;> simp at h
      · rename_i h2
        rw [if_neg h2]
        split at h
        · unfold refreshM at h
          cases hf : aget c.family b with
          | none => rw [hf] at h; simp [noA] at h
          | some f =>
            rw [hf] at h
            simp only at h
            cases ht : tokM f 3 c.serial with
            | none => rw [ht] at h; simp [noA] at h
            | some t =>
              rw [ht] at h
              simp only at h
              split at h
              · simp [noA] at h
              · split at h
                · simp [noA] at h
                · split at h
                  · simp [noA] at h
                  · split at h
                    · simp [noA] at h
                    · unfold issueM at h
                      simp at h
        · rename_i h3
          rw [if_neg h3]
          split at h
          · unfold revokeM at h
            cases hf : aget c.family b with
            | none => rw [hf] at h; simp [noA] at h
            | some f =>
              rw [hf] at h
              simp only at h
              split at h
              · simp [noA] at h
              · split at h <;> simp at h
          · rename_i h5
            rw [if_neg h5]
            split at h
            · rename_i h6
              rw [if_pos h6]
              unfold lookM at h ⊢
              cases hf : aget c.family b with
              | none => rw [hf] at h; simp [noA] at h
              | some f =>
                rw [hf] at h
                obtain ⟨hid, hok⟩ := hb.2 _ _ hf
                simp only at h ⊢
                cases ht : tokM f c.token c.serial with
                | none => rw [ht] at h; simp [noA] at h
                | some t =>
                  rw [ht] at h
                  simp only at h ⊢
                  split at h
                  · simp [noA] at h
                  · rename_i h7
                    rw [if_neg h7]
                    refine ⟨{ f with leases := insI c.edge f.leases }, ?_, ⟨mem_insI.2 (.inl rfl), ?_, rfl, (hok.each t (List.mem_of_getElem? (tokM_some ht).2.2.1)).within⟩⟩
                    · simp only
                      rw [hid, aget_aset_same]
                    · cases hr : f.revoked with
                      | false => rfl
                      | true => exact absurd (.inl hr) h7
            · unfold doneM at h
              cases hf : aget c.family b with
              | none => rw [hf] at h; simp [noA] at h
              | some f =>
                rw [hf] at h
                simp only at h
                split at h <;> simp [noA] at h
theorem issue_narrow (g : GFam) (sc : List ByteArray) (r : Bool) (hw : within sc g.scope = true) : NarrowT (issueM g sc r).2 (issueM g sc r).1 := by
  unfold issueM
  cases r with
  | true =>
    refine ⟨by simp <;> omega, ⟨⟨2, sc, false⟩, ?_, rfl⟩, hw⟩
    simp only [if_true]
    rw [show ((g.tokens.length : Int) + 1 - 1).toNat = g.tokens.length by omega]
    simp
  | false =>
    refine ⟨by simp, ⟨⟨2, sc, false⟩, ?_, rfl⟩, hw⟩
    simp only [Bool.false_eq_true, if_false]
    rw [show ((g.tokens.length : Int) + 1 - 1).toNat = g.tokens.length by omega]
    simp
theorem issue_id (g : GFam) (sc : List ByteArray) (r : Bool) : (issueM g sc r).1.id = g.id := by
  unfold issueM
  cases r <;> rfl
theorem do_access {room : Int} {c : GCmd} {b : GBk} (hb : BkOk b) (h : 0 < (doM room c b).2.access) : ∃ f, aget c.family (doM room c b).1 = some f ∧ NarrowT (doM room c b).2 f := by
  unfold doM at h ⊢
  split at h
  · simp [noA] at h
  · rename_i hm
    rw [if_neg hm]
    split at h
    · rename_i h1
      rw [if_pos h1]
      unfold beginM at h ⊢
      split at h
      · simp [noA] at h
      · rename_i h2
        rw [if_neg h2]
        split at h
        · simp [noA] at h
        · rename_i h3
          rw [if_neg h3]
          split at h
          · rename_i h4
            rw [if_pos h4]
            exact ⟨_, aget_aset_same, ⟨by simp, ⟨⟨2, c.scope, false⟩, rfl, rfl⟩, within_self _⟩⟩
          · simp at h
    · rename_i h1
      rw [if_neg h1]
      split at h
      · rename_i h2
        rw [if_pos h2]
        unfold redeemM at h ⊢
        cases hf : aget c.family b with
        | none => rw [hf] at h; simp [noA] at h
        | some f =>
          rw [hf] at h
          have hid := (hb.2 _ _ hf).1
          simp only at h ⊢
          split at h
          · simp [noA] at h
          · rename_i h3
            rw [if_neg h3]
            split at h
            · simp [noA] at h
            · rename_i h4
              rw [if_neg h4]
              split at h
              · simp [noA] at h
              · rename_i h5
                rw [if_neg h5]
                exact ⟨_, by rw [hid]; exact aget_aset_same, issue_narrow { f with code := 2 } f.scope c.refresh (within_self _)⟩
      · rename_i h2
        rw [if_neg h2]
        split at h
        · rename_i h3
          rw [if_pos h3]
          unfold refreshM at h ⊢
          cases hf : aget c.family b with
          | none => rw [hf] at h; simp [noA] at h
          | some f =>
            rw [hf] at h
            have hid := (hb.2 _ _ hf).1
            simp only at h ⊢
            cases ht : tokM f 3 c.serial with
            | none => rw [ht] at h; simp [noA] at h
            | some t =>
              rw [ht] at h
              simp only at h ⊢
              split at h
              · simp [noA] at h
              · rename_i h4
                rw [if_neg h4]
                split at h
                · simp [noA] at h
                · rename_i h5
                  rw [if_neg h5]
                  split at h
                  · simp [noA] at h
                  · rename_i h6
                    rw [if_neg h6]
                    split at h
                    · simp [noA] at h
                    · rename_i h7
                      rw [if_neg h7]
                      refine ⟨_, by rw [hid]; exact aget_aset_same, issue_narrow { f with tokens := useM f.tokens (c.serial - 1).toNat } _ true ?_⟩
                      split
                      · exact within_self _
                      · simpa using h6
        · rename_i h3
          rw [if_neg h3]
          split at h
          · unfold revokeM at h
            cases hf : aget c.family b with
            | none => rw [hf] at h; simp [noA] at h
            | some f =>
              rw [hf] at h
              simp only at h
              split at h
              · simp [noA] at h
              · split at h <;> simp at h
          · split at h
            · unfold lookM at h
              cases hf : aget c.family b with
              | none => rw [hf] at h; simp [noA] at h
              | some f =>
                rw [hf] at h
                simp only at h
                cases ht : tokM f c.token c.serial with
                | none => rw [ht] at h; simp [noA] at h
                | some t =>
                  rw [ht] at h
                  simp only at h
                  split at h
                  · simp [noA] at h
                  · simp at h
            · unfold doneM at h
              cases hf : aget c.family b with
              | none => rw [hf] at h; simp [noA] at h
              | some f =>
                rw [hf] at h
                simp only at h
                split at h <;> simp [noA] at h
end Go.Sig
namespace Go.Proofs.YtdeoinjjphdbmaaGreat
open Go.RowKit Go.Sig

theorem famOk_sz {w : World} {X : List Nat} {x : FA} (h : FamIn w X x) (ok : FamOk x.f) : FamSz x := by
  have hset := setM_sizes ok.set
  have hid : x.f.id.size ≤ 32 := by
    have := ok.id
    unfold idM at this
    simp only [Bool.and_eq_true, decide_eq_true_eq] at this
    exact this.2
  have hl := h.len
  have h8 := ok.tokens
  have hle := leases_len ok.leases ok.edges
  refine ⟨by omega, by omega, fun s hs => by have := hset.2 s hs; omega, by omega, fun t ht => ?_, by omega⟩
  have hm : t.tok ∈ x.f.tokens := by rw [← h.ts]; exact List.mem_map_of_mem ht
  have ht2 := setM_sizes (ok.each _ hm).set
  exact ⟨by omega, fun s hs => by have := ht2.2 s hs; omega⟩
theorem famsM_ok {b : GBk} (hb : BkOk b) {f : GFam} (h : f ∈ famsM b) : FamOk f := by
  unfold famsM at h
  obtain ⟨k, hk, rfl⟩ := List.mem_map.1 h
  obtain ⟨f, hf⟩ := Option.isSome_iff_exists.1 (mem_idsM.1 hk)
  rw [hf]
  exact (hb.2 _ _ hf).2
theorem leases_any {l : List Int} {e : Int} (h : e ∈ l) : (l.any fun x => decide (x = e)) = true := List.any_eq_true.2 ⟨e, h, decide_eq_true rfl⟩
theorem any_snoc {l : List Int} {e : Int} {i : Nat} (hi : i < l.length) : ((l.take (i + 1)).any fun x => decide (x = e)) = (((l.take i).any fun x => decide (x = e)) || decide (l[i] = e)) := by
  rw [List.take_succ_eq_append_getElem hi, List.any_append]
  simp
set_option maxRecDepth 100000 in
set_option maxHeartbeats 8000000 in
theorem gnarrow_t (w : World) (n : Int) (A : Option Addr) (m k : Nat) (l : List CA) (h : CmdsIn w A m l) :
    Calls Tryz.prog 9 #[.int .i64 n, .slice A m k] w fun e w' => e = .returned (.bool true) ∧ Fr [] w w' := by
  have hml := h.hl
  have hh := Lib.hid h
  have hrm := roomM_in n
  have hroomv := Lib.hid (fun v => roomL_t v n)
  obtain ⟨rm, hrme⟩ : ∃ z, Hid (roomM n = z) := ⟨_, Lib.hid rfl⟩
  rw [hrme.out] at hrm hroomv
  have hnew := gnew_t w rm hrm.1 hrm.2
  have hroom := hroomv.out w
  have hrm0 := Lib.hid hrm
  clear h hrm
  go_enter Tryz.func9, Tryz.ntmps9
  go_wp2_with fail
  refine hroom.mono ?_
  rintro e _ ⟨rfl, rfl⟩
  clear hroom
  go_wp2_with fail
  refine hnew.mono ?_
  rintro e W1 ⟨p, mb, rfl, hB1, hpw, hmw, F1⟩
  have hB1h := Lib.hid hB1
  have F1h := Lib.hid F1
  clear hnew F1 hB1
  go_upto_block 0 with (fail)
  go_cut [7] from 22 to 127 (fun s7 wx => ∃ b, BookAt wx p mb rm [mb] b ∧ (b.length : Int) ≤ rm ∧ Fr [] w wx)
  case first =>
    go_wp2_with fail
    go_loopg [7] (m + 1) (fun gk s7 wr => ∃ (i : Nat) (b : GBk), s7 = .int .i64 i ∧ i ≤ m ∧ m - i < gk ∧ BookAt wr p mb rm [mb] b ∧ (b.length : Int) ≤ rm ∧ Fr [] w wr)
    case atStart => exact ⟨0, [], rfl, by omega, by omega, hB1h.out, by have := hrm0.out; simp; omega, F1h.out⟩
    case round =>
      obtain ⟨i, b, rfl, him, hik, hB, hbl, hF⟩ := hrel
      have hBh := Lib.hid hB
      have hblh := Lib.hid hbl
      have hFh := Lib.hid hF
      clear hB hF hbl
      by_cases hlt : i < m
      · have hlt' : (i : Int) < m := by omega
        by_cases h60 : i < 60
        · have h60' : (i : Int) < 60 := by omega
          obtain ⟨⟨c, cA, ck⟩, rb, ro, rfl, hxi, hcs, hci⟩ := (hh.out.fr hFh.out).row hlt
          simp only [CA.cells] at hcs hci
          have hcih := Lib.hid hci
          have hlth := Lib.hid hlt
          clear hxi hci
          go_upto_region 6 with (first | (refine wpList_load_cells rfl 30 _ rfl rfl hcs uCmd rfl (infoCmdV _ _ _ _) ?_) | (refine wpList_store_row rfl 30 _ _ rfl wr.heap.size _ rfl rfl 30 _ (Blk.new _ _ _) (infoCmdV _ _ _ _) (by rw [cmdV_size]; rfl) (cmdV_one _ _ _ _) ?_))
          refine wp_gen (fun W => Blk W wr.heap.size 30 (cmdV c cA c.scope.length ck) ∧ Fr [] wr W) ⟨Blk.setRow (Blk.new _ _ _) _, ((Fr.refl [] wr).alloc _).setRow (.inr (Nat.le_refl _)) _⟩ ?_
          rintro W2 ⟨hC, F2⟩
          obtain ⟨gc, HGC⟩ : ∃ z, Hid (wr.heap.size = z) := ⟨_, Lib.hid rfl⟩
          rw [HGC.out] at hC ⊢
          have hgm : gc ≠ mb := by have := hBh.out.hb.lt; have := HGC.out; omega
          have hCh := Lib.hid hC
          have hci2 := Lib.hid (hcih.out.fr F2 (by simp [Off]))
          have FF2 := Lib.hid (hFh.out.trans F2)
          have hB2h := Lib.hid (hBh.out.fr0 F2)
          have hd := bdo_t W2 p mb rm [mb] b c cA c.scope.length ck hB2h.out hci2.out
          clear F2 hcs
          go_wp2_with (refine wpList_load_cells rfl 30 _ rfl rfl (blk_cells hC) uCmd rfl (infoCmdV _ _ _ _) ?_)
          clear hC
          refine Calls.mono (show Calls Tryz.prog 14 _ _ _ from hd) ?_
          rintro e V2 ⟨u, rfl, ue, uA, uB, FV2⟩
          have hBV2 := Lib.hid (uB.mono (Y := [mb]) (by simp) (by simp))
          have ueh := Lib.hid ue
          have uAo := Lib.hid uA.1
          clear hd uA uB ue
          unfold AA.val
          go_upto_region 7 with (refine wpList_store_row rfl 33 _ _ rfl V2.heap.size u.cells rfl rfl 33 _ (Blk.new _ _ _) (infoAnsY u) (by rw [AA.size8]; rfl) (AA.one u) ?_)
          refine wp_gen (fun W => Blk W V2.heap.size 33 u.cells ∧ Fr [] V2 W) ⟨Blk.setRow (Blk.new _ _ _) _, ((Fr.refl [] V2).alloc _).setRow (.inr (Nat.le_refl _)) _⟩ ?_
          rintro V3 ⟨guB, GV3⟩
          obtain ⟨gu, guE⟩ : ∃ z, Hid (V2.heap.size = z) := ⟨_, Lib.hid rfl⟩
          rw [guE.out] at guB ⊢
          have guBh := Lib.hid guB
          have gune : mb ≠ gu := by have := hB2h.out.hb.lt; have := FV2.size; have := guE.out; omega
          have fV3 := Lib.hid (FV2.trans GV3.nil)
          have FFV3 := Lib.hid (FF2.out.andThen fV3.out (fun g hg => .inr (by simp at hg; omega)))
          have hBV3 := Lib.hid (hBV2.out.fr0 GV3)
          have hC3 := Lib.hid (hCh.out.fr fV3.out (by simp; exact hgm))
          have uA3 := Lib.hid (uAo.out.fr GV3 (by simp))
          clear FV2 GV3 guB uAo

          obtain ⟨_, c1, _, _, _, _, _, _, _, _, _, _, _, hcl⟩ := cmdV_cells hC3.out

          have hfam := family_t V3 p mb rm [mb] (doM rm c b).1 c.family hBV3.out
          obtain ⟨is, his⟩ : ∃ z, Hid ((aget c.family (doM rm c b).1).isSome = z) := ⟨_, Lib.hid rfl⟩
          go_wp2_with fail
          clear c1 hcl
          refine Calls.mono (show Calls Tryz.prog 16 _ _ _ from hfam) ?_
          rintro e V4 ⟨y, rfl, ye, yw, FV4⟩
          rw [his.out]
          clear hfam
          unfold FA.val
          go_upto_region 8 with (refine wpList_store_row rfl 39 _ _ rfl V4.heap.size y.cells rfl rfl 39 _ (Blk.new _ _ _) (infoFamA y) (by rw [FA.size11]; rfl) (FA.all1 y) ?_)
          refine wp_gen (fun W => Blk W V4.heap.size 39 y.cells ∧ Fr [] V4 W) ⟨Blk.setRow (Blk.new _ _ _) _, ((Fr.refl [] V4).alloc _).setRow (.inr (Nat.le_refl _)) _⟩ ?_
          rintro V5 ⟨gfB, GV5⟩
          obtain ⟨gf, gfE⟩ : ∃ z, Hid (V4.heap.size = z) := ⟨_, Lib.hid rfl⟩
          rw [gfE.out] at gfB ⊢
          have gfBh := Lib.hid gfB
          have gfw := Lib.hid (yw.fr0 GV5)
          have gfne : mb ≠ gf := by have := hBV3.out.hb.lt; have := FV4.size; have := gfE.out; omega
          have yeh := Lib.hid ye
          have fV5 := Lib.hid (FV4.trans GV5)
          have FFV5 := Lib.hid (FFV3.out.trans fV5.out)
          have hBV5 := Lib.hid (hBV3.out.fr0 fV5.out)
          have hC5 := Lib.hid (hC3.out.fr fV5.out (by simp))
          have gu5 := Lib.hid (guBh.out.fr fV5.out (by simp))
          have uA5x := Lib.hid (uA3.out.fr fV5.out (by simp))
          clear yw ye FV4 GV5 gfB

          have hok2 := Lib.hid (doM_ok (room := rm) (c := c) hBh.out.ok)
          have hrm2 := Lib.hid (do_room (room := rm) (c := c) hBh.out.ok hblh.out)
          have ysh := Lib.hid (fam_short3 yeh.out hok2.out (gfw.out.fam (X := []) (by simp)))
          have yfi := Lib.hid (gfw.out.fam (X := []) (by simp))
          have uscl := Lib.hid (show u.a.scope.length ≤ 32 ∧ ∀ s ∈ u.a.scope, s.size ≤ 64 by rw [ueh.out]; exact setM_sizes (do_set hBh.out.ok))
          obtain ⟨lth2⟩ : Nonempty (Hid (i < m)) := ⟨hlth⟩
          obtain ⟨_, _, _, _, _, _, u6, _, hul⟩ := AA.blk gu5.out
          obtain ⟨ac, hac⟩ : ∃ z, Hid (u.a.active = z) := ⟨_, Lib.hid rfl⟩
          rw [hac.out] at u6
          go_upto_if 47 with (fail)
          clear u6 hul
          go_cut [] from 48 to 90 (fun wx => Fr [] V5 wx)
          case first =>
            obtain ⟨_, _, _, u3, u4, _, _, _, hul⟩ := AA.blk gu5.out
            obtain ⟨_, y1, _, y3, _, _, _, _, _, y9, y10, hyl⟩ := fam_cells gfBh.out
            obtain ⟨_, _, _, _, _, _, _, _, _, _, _, _, c12, hcl⟩ := cmdV_cells hC5.out
            cases ac with
            | false =>
              go_wp2_with fail
              go_meet
              exact Fr.refl _ _
            | true =>
              have hna := do_active (room := rm) (c := c) (b := b) hBh.out.ok (by rw [← ueh.out]; exact hac.out)
              obtain ⟨f, hf, hna⟩ := hna
              have hyf : y.f = f := by rw [yeh.out, hf]; rfl
              have hist : is = true := by rw [← his.out, hf]; rfl
              rw [← hyf, ← ueh.out] at hna
              have hnah := Lib.hid hna
              rw [hna.live] at y9
              have hcq : (u.a.client.toList == y.f.client.toList) = true := by rw [hna.client]; simp
              subst hist
              obtain ⟨L, hL⟩ : ∃ z, Hid (y.f.leases.length = z) := ⟨_, Lib.hid rfl⟩
              have hLs := ysh.out.leases
              have hlr := yfi.out.leases.1
              rw [hL.out] at y10 hLs hlr
              have hlrh := Lib.hid hlr
              obtain ⟨lA, hlA⟩ : ∃ z, Hid (y.lA = z) := ⟨_, Lib.hid rfl⟩
              rw [hlA.out] at y10
              clear hf hyf hna hlr
              have y10h := Lib.hid y10
              have c12h := Lib.hid c12
              have u3h := Lib.hid u3
              have u4h := Lib.hid u4
              have y1h := Lib.hid y1
              have y3h := Lib.hid y3
              have y9h := Lib.hid y9
              clear u3 u4 y1 y3 y9 c12 y10
              go_upto_block 2 with (fail)
              go_cut [12, 13] from 48 to 65 (fun s12 s13 wx => s12 = .bool true ∧ Fr [] V5 wx)
              case first =>
                go_wp2_with fail
                go_loopg [12, 13] (L + 1) (fun gk s12 s13 wr => ∃ (j : Nat), s13 = .int .i64 j ∧ s12 = .bool ((y.f.leases.take j).any fun x => decide (x = c.edge)) ∧ j ≤ L ∧ L - j < gk ∧ Fr [] V5 wr)
                case atStart => exact ⟨0, rfl, rfl, by omega, by omega, Fr.refl _ _⟩
                case round =>
                  obtain ⟨j, rfl, rfl, hj, hk, hF⟩ := hrel
                  have hF2h := Lib.hid hF
                  have y10 := cell_fr hF y10h.out
                  have c12 := cell_fr hF c12h.out
                  obtain ⟨hs, hhs⟩ : ∃ z, Hid (((y.f.leases.take j).any fun x => decide (x = c.edge)) = z) := ⟨_, Lib.hid rfl⟩
                  rw [hhs.out]
                  by_cases hlt : j < L
                  · have hlt' : (j : Int) < L := by omega
                    have hlth2 := Lib.hid hlt
                    have hjl : j < y.f.leases.length := by rw [hL.out]; exact hlt
                    have hsn := Lib.hid (any_snoc (e := c.edge) hjl)
                    cases hs with
                    | true =>
                      have hv := Lib.hid (show ((y.f.leases.take (j + 1)).any fun x => decide (x = c.edge)) = true by rw [hsn.out, hhs.out]; rfl)
                      clear hF hlt
                      go_upto_region 13 with (fail)
                      go_quiet (fail)
                      go_wp2_with fail
                      go_roundg (L - j)
                      case measure => have := hlth2.out; omega
                      case rel => exact ⟨j + 1, by go_num, by rw [hv.out], by have := hlth2.out; omega, by have := hlth2.out; omega, hF2h.out.drewN _⟩
                    | false =>
                      obtain ⟨lb, lo, eA, hlc⟩ := (Rd.fr hlrh.out hF (by simp [Off])).2 (by omega)
                      have e0 := hlc j (.int .i64 y.f.leases[j]) (by unfold intCells; rw [List.getElem?_map, List.getElem?_eq_getElem hjl]; rfl)
                      rw [hlA.out] at eA
                      subst eA
                      obtain ⟨e, hee⟩ : ∃ z, Hid (y.f.leases[j] = z) := ⟨_, Lib.hid rfl⟩
                      rw [hee.out] at e0 hsn
                      obtain ⟨ed, hed⟩ : ∃ z, Hid (c.edge = z) := ⟨_, Lib.hid rfl⟩
                      rw [hed.out] at c12
                      obtain ⟨bq, hbq⟩ : ∃ z, Hid (decide (e = c.edge) = z) := ⟨_, Lib.hid rfl⟩
                      have hbq2 : (e == ed) = bq := by rw [← hbq.out, ← hed.out]; rw [Bool.eq_iff_iff]; simp
                      have hv := Lib.hid (show ((y.f.leases.take (j + 1)).any fun x => decide (x = c.edge)) = bq by rw [hsn.out, hhs.out, hbq.out]; rfl)
                      clear hF hlt hlc
                      cases bq with
                      | true =>
                        go_upto_region 13 with (fail)
                        go_quiet (fail)
                        go_wp2_with fail
                        go_roundg (L - j)
                        case measure => have := hlth2.out; omega
                        case rel => exact ⟨j + 1, by go_num, by rw [hv.out], by have := hlth2.out; omega, by have := hlth2.out; omega, hF2h.out.drewN _⟩
                      | false =>
                        go_upto_region 13 with (fail)
                        go_quiet (fail)
                        go_wp2_with fail
                        go_roundg (L - j)
                        case measure => have := hlth2.out; omega
                        case rel => exact ⟨j + 1, by go_num, by rw [hv.out], by have := hlth2.out; omega, by have := hlth2.out; omega, hF2h.out.drewN _⟩
                  · have hge : ¬ (j : Int) < L := by omega
                    have hv := Lib.hid (show hs = true by rw [← hhs.out, List.take_of_length_le (by rw [hL.out]; omega)]; exact leases_any hnah.out.lease)
                    clear hF
                    go_wp2_with fail
                    go_meet
                    case rel => exact ⟨by rw [hv.out], hF2h.out⟩
              case rest =>
                obtain ⟨rfl, hF⟩ := hcut
                have hF2h := Lib.hid hF
                have u3 := cell_fr hF u3h.out
                have u4 := cell_fr hF u4h.out
                have y1 := cell_fr hF y1h.out
                have y3 := cell_fr hF y3h.out
                have y9 := cell_fr hF y9h.out
                have hwi := rwithin_t wc u.A y.sA u.a.scope.length y.f.scope.length u.c y.sc u.a.scope y.f.scope (uA5x.out.fr hF (by simp)).rd rfl (Rd.fr yfi.out.scope.1 hF (by simp [Off])) rfl (by have := uscl.out.1; omega) (by have := ysh.out.scope; omega) (fun s hs => by have := uscl.out.2 s hs; omega)
                rw [hnah.out.within] at hwi
                clear hF
                go_upto_region 14 with (fail)
                go_wp2_with fail
                refine Calls.mono (show Calls Tryz.prog 33 _ _ _ from hwi) ?_
                rintro e W9 ⟨rfl, rfl⟩
                clear hwi
                go_wp2_with fail
                go_meet
                exact hF2h.out
          case rest =>
            have f6h := Lib.hid hcut
            have FF6 := Lib.hid (FFV5.out.trans hcut)
            have hB6 := Lib.hid (hBV5.out.fr0 hcut)
            have gu6 := Lib.hid (gu5.out.fr hcut (by simp))
            have gf6 := Lib.hid (gfBh.out.fr hcut (by simp))
            have uA6 := Lib.hid (uA5x.out.fr hcut (by simp))
            have yf6 := Lib.hid (yfi.out.fr hcut)
            obtain ⟨V6, hV6⟩ : ∃ V6 : World, V6 = wc := ⟨_, rfl⟩
            subst hV6
            clear hcut
            obtain ⟨_, u1, _, u3, _, _, _, _, hul⟩ := AA.blk gu6.out
            obtain ⟨_, _, _, y3, _, _, _, _, y8, _, _, hyl⟩ := fam_cells gf6.out
            obtain ⟨ax, hax⟩ : ∃ z, Hid (u.a.access = z) := ⟨_, Lib.hid rfl⟩
            rw [hax.out] at u1
            by_cases hx0 : 0 < ax
            · have hnt := do_access (room := rm) (c := c) (b := b) hBh.out.ok (by rw [← ueh.out, hax.out]; exact hx0)
              obtain ⟨f, hf, hnt⟩ := hnt
              have hyf : y.f = f := by rw [yeh.out, hf]; rfl
              have hist : is = true := by rw [← his.out, hf]; rfl
              rw [← hyf, ← ueh.out] at hnt
              subst hist
              obtain ⟨tk, htk1, htk2⟩ := hnt.tok
              have hle := hnt.le
              rw [hax.out] at htk1 hle
              obtain ⟨kx, hkx⟩ : ∃ kx : Nat, ax - 1 = (kx : Int) := ⟨(ax - 1).toNat, by omega⟩
              rw [hkx, Int.toNat_natCast] at htk1
              have hd0 : decide (0 < ax) = true := decide_eq_true hx0
              have hlen := yf6.out.len
              have hkt : kx < y.ts.length := by omega
              have hd1 : decide ((y.ts.length : Int) < ax) = false := decide_eq_false (by omega)
              obtain ⟨tt, tb, tof, eA, hti, htr⟩ := TA.row yf6.out.toks.1 rfl hkt
              have htt : tt.tok = tk := by
                have h1 := congrArg (fun l => l[kx]?) yf6.out.ts
                simp only [List.getElem?_map, hti, htk1, Option.map_some] at h1
                exact Option.some.inj h1
              have hts := htr 1 (.slice tt.A tt.tok.scope.length tt.c) rfl
              have hscE : tt.tok.scope = u.a.scope := by rw [htt]; exact htk2
              have hrs := Lib.hid (show ∀ (v : World), Fr [] V6 v → Calls Tryz.prog 29 #[.slice u.A u.a.scope.length u.c, .slice tt.A tt.tok.scope.length tt.c] v fun e w' => e = .returned (.bool true) ∧ Fr [] v w' from fun v hv => by
                have hB := (yf6.out.each tt (List.mem_of_getElem? hti)).1.fr hv (by simp [Off])
                rw [hscE] at hB ⊢
                exact rsames_t v u.A tt.A u.a.scope.length u.c tt.c u.a.scope (uA6.out.fr hv (by simp)).rd rfl hB (by have := uscl.out.1; omega))
              have hwi := Lib.hid (show ∀ (v : World), Fr [] V6 v → Calls Tryz.prog 33 #[.slice u.A u.a.scope.length u.c, .slice y.sA y.f.scope.length y.sc] v fun e w' => e = .returned (.bool true) ∧ v = w' from fun v hv => by
                have h := rwithin_t v u.A y.sA u.a.scope.length y.f.scope.length u.c y.sc u.a.scope y.f.scope (uA6.out.fr hv (by simp)).rd rfl (Rd.fr yf6.out.scope.1 hv (by simp [Off])) rfl (by have := uscl.out.1; omega) (by have := ysh.out.scope; omega) (fun s hs => by have := uscl.out.2 s hs; omega)
                rwa [hnt.within] at h)
              rw [eA] at y8
              obtain ⟨tn, htn⟩ : ∃ z, Hid (y.ts.length = z) := ⟨_, Lib.hid rfl⟩
              rw [htn.out] at y8 hd1 hkt
              have hkt' : (kx : Int) < tn := by omega
              have hwr : IntKind.i64.wrap (kx : Int) = (kx : Int) := by have := ysh.out.toks; have := htn.out; rw [IntKind.wrap_i64]; omega
              have htn8 : tn ≤ 1000 := by have := ysh.out.toks; have := htn.out; omega
              clear hf hyf hnt htk1 htk2 hle htt hti htr hlen hscE hx0
              go_upto_region 16 with (fail)
              refine wp_region_z (fun w' => w'.cell? ⟨gu, 1, none⟩ = some (.int .i64 ax) ∧ w'.cell? ⟨gu, 3, none⟩ = some (.slice u.A u.a.scope.length u.c) ∧ w'.cell? ⟨gf, 3, none⟩ = some (.slice y.sA y.f.scope.length y.sc) ∧ w'.cell? ⟨gf, 8, none⟩ = some (.slice (some ⟨tb, tof, none⟩) tn y.tc) ∧ w'.cell? ⟨tb, tof + kx * 3 + 1, none⟩ = some (.slice tt.A tt.tok.scope.length tt.c)) [] (by kernel_rfl) ⟨u1, u3, y3, y8, hts⟩ ?_
              intro hHeld
              refine wpZ_take (i := 0) (v := ?_) rfl (by kernel_rfl) (by kernel_rfl) (by kernel_rfl) (by kernel_rfl) (fun _ _ _ h => h) (Or.inl ⟨by rfl, ?_⟩) hHeld ?_
              rotate_left
              · (intro w hSw; (try dsimp only at hSw); go_simp <;> with_reducible rfl)
              try simp only [List.getElem_toArray, List.getElem_cons_zero, Act.put, List.setIfInBounds_toArray, List.set_cons_zero, List.set_cons_succ]
              refine wpZ_take (i := 1) (v := ?_) rfl (by kernel_rfl) (by kernel_rfl) (by kernel_rfl) (by kernel_rfl) (fun _ _ _ h => h) (Or.inl ⟨by rfl, ?_⟩) hHeld ?_
              rotate_left
              · (intro w hSw; (try dsimp only at hSw); go_simp <;> with_reducible rfl)
              try simp only [List.getElem_toArray, List.getElem_cons_succ, List.getElem_cons_zero, Act.put, List.setIfInBounds_toArray, List.set_cons_zero, List.set_cons_succ]
              refine wpZ_take (i := 2) (v := ?_) rfl (by kernel_rfl) (by kernel_rfl) (by kernel_rfl) (by kernel_rfl) (fun _ _ _ h => h) (Or.inl ⟨by rfl, ?_⟩) hHeld ?_
              rotate_left
              · (intro w hSw; (try dsimp only at hSw); go_simp <;> with_reducible rfl)
              try simp only [List.getElem_toArray, List.getElem_cons_succ, List.getElem_cons_zero, Act.put, List.setIfInBounds_toArray, List.set_cons_zero, List.set_cons_succ]
              refine wpZ_take (i := 3) (v := ?_) rfl (by kernel_rfl) (by kernel_rfl) (by kernel_rfl) (by kernel_rfl) (fun _ _ _ h => h) (Or.inl ⟨by rfl, ?_⟩) hHeld ?_
              rotate_left
              · (intro w hSw; (try dsimp only at hSw); go_simp <;> with_reducible rfl)
              try simp only [List.getElem_toArray, List.getElem_cons_succ, List.getElem_cons_zero, Act.put, List.setIfInBounds_toArray, List.set_cons_zero, List.set_cons_succ]
              refine wpZ_take (i := 4) (v := ?_) rfl (by kernel_rfl) (by kernel_rfl) (by kernel_rfl) (by kernel_rfl) (fun _ _ _ h => h) (Or.inl ⟨by rfl, ?_⟩) hHeld ?_
              rotate_left
              · (intro w hSw; (try dsimp only at hSw); go_simp <;> with_reducible rfl)
              try simp only [List.getElem_toArray, List.getElem_cons_succ, List.getElem_cons_zero, Act.put, List.setIfInBounds_toArray, List.set_cons_zero, List.set_cons_succ]
              refine wpZ_take (i := 5) (v := ?_) rfl (by kernel_rfl) (by kernel_rfl) (by kernel_rfl) (by kernel_rfl) (fun _ _ _ h => h) (Or.inl ⟨by rfl, ?_⟩) hHeld ?_
              rotate_left
              · (intro w hSw; (try dsimp only at hSw); go_simp <;> with_reducible rfl)
              try simp only [List.getElem_toArray, List.getElem_cons_succ, List.getElem_cons_zero, Act.put, List.setIfInBounds_toArray, List.set_cons_zero, List.set_cons_succ]
              refine wpZ_take (i := 6) (v := ?_) rfl (by kernel_rfl) (by kernel_rfl) (by kernel_rfl) (by kernel_rfl) (fun _ _ _ h => h) (Or.inl ⟨by rfl, ?_⟩) hHeld ?_
              rotate_left
              · (intro w hSw; (try dsimp only at hSw); go_simp <;> with_reducible rfl)
              try simp only [List.getElem_toArray, List.getElem_cons_succ, List.getElem_cons_zero, Act.put, List.setIfInBounds_toArray, List.set_cons_zero, List.set_cons_succ]
              refine wpZ_take (i := 7) (v := ?_) rfl (by kernel_rfl) (by kernel_rfl) (by kernel_rfl) (by kernel_rfl) (fun _ _ _ h => h) (Or.inl ⟨by rfl, ?_⟩) hHeld ?_
              rotate_left
              · (intro w hSw; (try dsimp only at hSw); go_simp <;> with_reducible rfl)
              try simp only [List.getElem_toArray, List.getElem_cons_succ, List.getElem_cons_zero, Act.put, List.setIfInBounds_toArray, List.set_cons_zero, List.set_cons_succ]
              refine wpZ_take (i := 8) (v := ?_) rfl (by kernel_rfl) (by kernel_rfl) (by kernel_rfl) (by kernel_rfl) (fun _ _ _ h => h) (Or.inl ⟨by rfl, ?_⟩) hHeld ?_
              rotate_left
              · (intro w hSw; (try dsimp only at hSw); go_simp <;> with_reducible rfl)
              try simp only [List.getElem_toArray, List.getElem_cons_succ, List.getElem_cons_zero, Act.put, List.setIfInBounds_toArray, List.set_cons_zero, List.set_cons_succ]
              refine wpZ_take (i := 9) (v := ?_) rfl (by kernel_rfl) (by kernel_rfl) (by kernel_rfl) (by kernel_rfl) (fun _ _ _ h => h) (Or.inl ⟨by rfl, ?_⟩) hHeld ?_
              rotate_left
              · (intro w hSw; (try dsimp only at hSw); go_simp <;> with_reducible rfl)
              try simp only [List.getElem_toArray, List.getElem_cons_succ, List.getElem_cons_zero, Act.put, List.setIfInBounds_toArray, List.set_cons_zero, List.set_cons_succ]
              refine wpZ_take (i := 10) (v := ?_) rfl (by kernel_rfl) (by kernel_rfl) (by kernel_rfl) (by kernel_rfl) (fun _ _ _ h => h) (Or.inl ⟨by rfl, ?_⟩) hHeld ?_
              rotate_left
              · (intro w hSw; (try dsimp only at hSw); go_simp <;> with_reducible rfl)
              try simp only [List.getElem_toArray, List.getElem_cons_succ, List.getElem_cons_zero, Act.put, List.setIfInBounds_toArray, List.set_cons_zero, List.set_cons_succ]
              refine wpZ_take (i := 11) (v := ?_) rfl (by kernel_rfl) (by kernel_rfl) (by kernel_rfl) (by kernel_rfl) (fun _ _ _ h => h) (Or.inl ⟨by rfl, ?_⟩) hHeld ?_
              rotate_left
              · (intro w hSw; (try dsimp only at hSw); go_simp <;> with_reducible rfl)
              try simp only [List.getElem_toArray, List.getElem_cons_succ, List.getElem_cons_zero, Act.put, List.setIfInBounds_toArray, List.set_cons_zero, List.set_cons_succ]
              refine wpZ_take (i := 12) (v := ?_) rfl (by kernel_rfl) (by kernel_rfl) (by kernel_rfl) (by kernel_rfl) (fun _ _ _ h => h) (Or.inl ⟨by rfl, ?_⟩) hHeld ?_
              rotate_left
              · (intro w hSw; (try dsimp only at hSw); go_simp <;> with_reducible rfl)
              try simp only [List.getElem_toArray, List.getElem_cons_succ, List.getElem_cons_zero, Act.put, List.setIfInBounds_toArray, List.set_cons_zero, List.set_cons_succ]
              refine wpZ_take (i := 13) (v := ?_) rfl (by kernel_rfl) (by kernel_rfl) (by kernel_rfl) (by kernel_rfl) (fun _ _ _ h => h) (Or.inl ⟨by rfl, ?_⟩) hHeld ?_
              rotate_left
              · (intro w hSw; (try dsimp only at hSw); go_simp <;> with_reducible rfl)
              try simp only [List.getElem_toArray, List.getElem_cons_succ, List.getElem_cons_zero, Act.put, List.setIfInBounds_toArray, List.set_cons_zero, List.set_cons_succ]
              refine wpZ_take (i := 14) (v := ?_) rfl (by kernel_rfl) (by kernel_rfl) (by kernel_rfl) (by kernel_rfl) (fun _ _ _ h => h) (Or.inl ⟨by rfl, ?_⟩) hHeld ?_
              rotate_left
              · (intro w hSw; (try dsimp only at hSw); go_simp <;> with_reducible rfl)
              try simp only [List.getElem_toArray, List.getElem_cons_succ, List.getElem_cons_zero, Act.put, List.setIfInBounds_toArray, List.set_cons_zero, List.set_cons_succ]
              refine wpZ_take (i := 15) (v := ?_) rfl (by kernel_rfl) (by kernel_rfl) (by kernel_rfl) (by kernel_rfl) (fun _ _ _ h => h) (Or.inl ⟨by rfl, ?_⟩) hHeld ?_
              rotate_left
              · (intro w hSw; (try dsimp only at hSw); go_simp <;> with_reducible rfl)
              try simp only [List.getElem_toArray, List.getElem_cons_succ, List.getElem_cons_zero, Act.put, List.setIfInBounds_toArray, List.set_cons_zero, List.set_cons_succ]
              refine wpZ_take (i := 16) (v := ?_) rfl (by kernel_rfl) (by kernel_rfl) (by kernel_rfl) (by kernel_rfl) (fun _ _ _ h => h) (Or.inl ⟨by rfl, ?_⟩) hHeld ?_
              rotate_left
              · (intro w hSw; (try dsimp only at hSw); go_simp <;> with_reducible rfl)
              try simp only [List.getElem_toArray, List.getElem_cons_succ, List.getElem_cons_zero, Act.put, List.setIfInBounds_toArray, List.set_cons_zero, List.set_cons_succ]
              refine wpZ_take (i := 17) (v := ?_) rfl (by kernel_rfl) (by kernel_rfl) (by kernel_rfl) (by kernel_rfl) (fun _ _ _ h => h) (Or.inl ⟨by rfl, ?_⟩) hHeld ?_
              rotate_left
              · (intro w hSw; (try dsimp only at hSw); go_simp <;> with_reducible rfl)
              try simp only [List.getElem_toArray, List.getElem_cons_succ, List.getElem_cons_zero, Act.put, List.setIfInBounds_toArray, List.set_cons_zero, List.set_cons_succ]
              refine wpZ_take (i := 18) (v := ?_) rfl (by kernel_rfl) (by kernel_rfl) (by kernel_rfl) (by kernel_rfl) (fun _ _ _ h => h) (Or.inl ⟨by rfl, ?_⟩) hHeld ?_
              rotate_left
              · (intro w hSw; (try dsimp only at hSw); go_simp <;> with_reducible rfl)
              try simp only [List.getElem_toArray, List.getElem_cons_succ, List.getElem_cons_zero, Act.put, List.setIfInBounds_toArray, List.set_cons_zero, List.set_cons_succ]
              refine wpZ_take (i := 19) (v := ?_) rfl (by kernel_rfl) (by kernel_rfl) (by kernel_rfl) (by kernel_rfl) (fun _ _ _ h => h) (Or.inl ⟨by rfl, ?_⟩) hHeld ?_
              rotate_left
              · (intro w hSw; (try dsimp only at hSw); go_simp <;> with_reducible rfl)
              try simp only [List.getElem_toArray, List.getElem_cons_succ, List.getElem_cons_zero, Act.put, List.setIfInBounds_toArray, List.set_cons_zero, List.set_cons_succ]
              refine wpZ_take (i := 20) (v := ?_) rfl (by kernel_rfl) (by kernel_rfl) (by kernel_rfl) (by kernel_rfl) (fun _ _ _ h => h) (Or.inl ⟨by rfl, ?_⟩) hHeld ?_
              rotate_left
              · (intro w hSw; (try dsimp only at hSw); go_simp <;> with_reducible rfl)
              try simp only [List.getElem_toArray, List.getElem_cons_succ, List.getElem_cons_zero, Act.put, List.setIfInBounds_toArray, List.set_cons_zero, List.set_cons_succ]
              refine wpZ_take (i := 21) (v := ?_) rfl (by kernel_rfl) (by kernel_rfl) (by kernel_rfl) (by kernel_rfl) (fun _ _ _ h => h) (Or.inl ⟨by rfl, ?_⟩) hHeld ?_
              rotate_left
              · (intro w hSw; (try dsimp only at hSw); go_simp <;> with_reducible rfl)
              try simp only [List.getElem_toArray, List.getElem_cons_succ, List.getElem_cons_zero, Act.put, List.setIfInBounds_toArray, List.set_cons_zero, List.set_cons_succ]
              refine wpZ_take (i := 22) (v := ?_) rfl (by kernel_rfl) (by kernel_rfl) (by kernel_rfl) (by kernel_rfl) (fun _ _ _ h => h) (Or.inl ⟨by rfl, ?_⟩) hHeld ?_
              rotate_left
              · (intro w hSw; (try dsimp only at hSw); go_simp <;> with_reducible rfl)
              try simp only [List.getElem_toArray, List.getElem_cons_succ, List.getElem_cons_zero, Act.put, List.setIfInBounds_toArray, List.set_cons_zero, List.set_cons_succ]
              refine wpZ_take (i := 23) (v := ?_) rfl (by kernel_rfl) (by kernel_rfl) (by kernel_rfl) (by kernel_rfl) (fun _ _ _ h => h) (Or.inl ⟨by rfl, ?_⟩) hHeld ?_
              rotate_left
              · (intro w hSw; (try dsimp only at hSw); go_simp <;> with_reducible rfl)
              try simp only [List.getElem_toArray, List.getElem_cons_succ, List.getElem_cons_zero, Act.put, List.setIfInBounds_toArray, List.set_cons_zero, List.set_cons_succ]
              refine wpZ_take (i := 24) (v := ?_) rfl (by kernel_rfl) (by kernel_rfl) (by kernel_rfl) (by kernel_rfl) (fun _ _ _ h => h) (Or.inl ⟨by rfl, ?_⟩) hHeld ?_
              rotate_left
              · (intro w hSw; (try dsimp only at hSw); go_simp <;> with_reducible rfl)
              try simp only [List.getElem_toArray, List.getElem_cons_succ, List.getElem_cons_zero, Act.put, List.setIfInBounds_toArray, List.set_cons_zero, List.set_cons_succ]
              refine wpZ_one (i := 25) (by kernel_rfl) rfl (fun K hK => ?_)
              go_simp
              refine Calls.mono (show Calls Tryz.prog 29 _ _ _ from hrs.out V6.drew (Fr.refl _ _).drew) ?_
              rintro e W7 ⟨rfl, f7⟩
              have f7 : Fr [] V6 W7 := f7.of_drew
              dsimp only
              refine hK.out _ _ ⟨cell_fr f7 u1, cell_fr f7 u3, cell_fr f7 y3, cell_fr f7 y8, cell_fr f7 hts⟩ (fun hHeld => ?_)
              clear hK K
              try simp only [List.getElem_toArray, List.getElem_cons_succ, List.getElem_cons_zero, Act.put, List.setIfInBounds_toArray, List.set_cons_zero, List.set_cons_succ]
              refine wpZ_take (i := 26) (v := ?_) rfl (by kernel_rfl) (by kernel_rfl) (by kernel_rfl) (by kernel_rfl) (fun _ _ _ h => h) (Or.inl ⟨by rfl, ?_⟩) hHeld ?_
              rotate_left
              · (intro w hSw; (try dsimp only at hSw); go_simp <;> with_reducible rfl)
              try simp only [List.getElem_toArray, List.getElem_cons_succ, List.getElem_cons_zero, Act.put, List.setIfInBounds_toArray, List.set_cons_zero, List.set_cons_succ]
              refine wpZ_take (i := 27) (v := ?_) rfl (by kernel_rfl) (by kernel_rfl) (by kernel_rfl) (by kernel_rfl) (fun _ _ _ h => h) (Or.inl ⟨by rfl, ?_⟩) hHeld ?_
              rotate_left
              · (intro w hSw; (try dsimp only at hSw); go_simp <;> with_reducible rfl)
              try simp only [List.getElem_toArray, List.getElem_cons_succ, List.getElem_cons_zero, Act.put, List.setIfInBounds_toArray, List.set_cons_zero, List.set_cons_succ]
              refine wpZ_take (i := 28) (v := ?_) rfl (by kernel_rfl) (by kernel_rfl) (by kernel_rfl) (by kernel_rfl) (fun _ _ _ h => h) (Or.inl ⟨by rfl, ?_⟩) hHeld ?_
              rotate_left
              · (intro w hSw; (try dsimp only at hSw); go_simp <;> with_reducible rfl)
              try simp only [List.getElem_toArray, List.getElem_cons_succ, List.getElem_cons_zero, Act.put, List.setIfInBounds_toArray, List.set_cons_zero, List.set_cons_succ]
              refine wpZ_take (i := 29) (v := ?_) rfl (by kernel_rfl) (by kernel_rfl) (by kernel_rfl) (by kernel_rfl) (fun _ _ _ h => h) (Or.inl ⟨by rfl, ?_⟩) hHeld ?_
              rotate_left
              · (intro w hSw; (try dsimp only at hSw); go_simp <;> with_reducible rfl)
              try simp only [List.getElem_toArray, List.getElem_cons_succ, List.getElem_cons_zero, Act.put, List.setIfInBounds_toArray, List.set_cons_zero, List.set_cons_succ]
              refine wpZ_take (i := 30) (v := ?_) rfl (by kernel_rfl) (by kernel_rfl) (by kernel_rfl) (by kernel_rfl) (fun _ _ _ h => h) (Or.inl ⟨by rfl, ?_⟩) hHeld ?_
              rotate_left
              · (intro w hSw; (try dsimp only at hSw); go_simp <;> with_reducible rfl)
              try simp only [List.getElem_toArray, List.getElem_cons_succ, List.getElem_cons_zero, Act.put, List.setIfInBounds_toArray, List.set_cons_zero, List.set_cons_succ]
              refine wpZ_take (i := 31) (v := ?_) rfl (by kernel_rfl) (by kernel_rfl) (by kernel_rfl) (by kernel_rfl) (fun _ _ _ h => h) (Or.inl ⟨by rfl, ?_⟩) hHeld ?_
              rotate_left
              · (intro w hSw; (try dsimp only at hSw); go_simp <;> with_reducible rfl)
              try simp only [List.getElem_toArray, List.getElem_cons_succ, List.getElem_cons_zero, Act.put, List.setIfInBounds_toArray, List.set_cons_zero, List.set_cons_succ]
              refine wpZ_take (i := 32) (v := ?_) rfl (by kernel_rfl) (by kernel_rfl) (by kernel_rfl) (by kernel_rfl) (fun _ _ _ h => h) (Or.inl ⟨by rfl, ?_⟩) hHeld ?_
              rotate_left
              · (intro w hSw; (try dsimp only at hSw); go_simp <;> with_reducible rfl)
              try simp only [List.getElem_toArray, List.getElem_cons_succ, List.getElem_cons_zero, Act.put, List.setIfInBounds_toArray, List.set_cons_zero, List.set_cons_succ]
              refine wpZ_one (i := 33) (by kernel_rfl) rfl (fun K hK => ?_)
              go_simp
              refine Calls.mono (show Calls Tryz.prog 33 _ _ _ from hwi.out W7 f7) ?_
              rintro e W8 ⟨rfl, rfl⟩
              dsimp only
              refine hK.out _ _ hHeld (fun hHeld => ?_)
              clear hK K
              try simp only [List.getElem_toArray, List.getElem_cons_succ, List.getElem_cons_zero, Act.put, List.setIfInBounds_toArray, List.set_cons_zero, List.set_cons_succ]
              refine wpZ_take (i := 34) (v := ?_) rfl (by kernel_rfl) (by kernel_rfl) (by kernel_rfl) (by kernel_rfl) (fun _ _ _ h => h) (Or.inl ⟨by rfl, ?_⟩) hHeld ?_
              rotate_left
              · (intro w hSw; (try dsimp only at hSw); go_simp <;> with_reducible rfl)
              try simp only [List.getElem_toArray, List.getElem_cons_succ, List.getElem_cons_zero, Act.put, List.setIfInBounds_toArray, List.set_cons_zero, List.set_cons_succ]
              refine wpZ_take (i := 35) (v := ?_) rfl (by kernel_rfl) (by kernel_rfl) (by kernel_rfl) (by kernel_rfl) (fun _ _ _ h => h) (Or.inl ⟨by rfl, ?_⟩) hHeld ?_
              rotate_left
              · (intro w hSw; (try dsimp only at hSw); go_simp <;> with_reducible rfl)
              try simp only [List.getElem_toArray, List.getElem_cons_succ, List.getElem_cons_zero, Act.put, List.setIfInBounds_toArray, List.set_cons_zero, List.set_cons_succ]
              refine wpZ_take (i := 36) (v := ?_) rfl (by kernel_rfl) (by kernel_rfl) (by kernel_rfl) (by kernel_rfl) (fun _ _ _ h => h) (Or.inl ⟨by rfl, ?_⟩) hHeld ?_
              rotate_left
              · (intro w hSw; (try dsimp only at hSw); go_simp <;> with_reducible rfl)
              try simp only [List.getElem_toArray, List.getElem_cons_succ, List.getElem_cons_zero, Act.put, List.setIfInBounds_toArray, List.set_cons_zero, List.set_cons_succ]
              refine wpZ_done (by kernel_rfl) ?_ _
              have f26 : Fr [] V6 W7 := f7
              go_wp2_with fail
              go_roundg (m - i)
              case measure => have := hlth.out; omega
              case rel => exact ⟨i + 1, _, by go_num, by have := hlth.out; omega, by have := hlth.out; omega, hB6.out.fr0 f26, hrm2.out, FF6.out.trans f26⟩
            · have hd0 : decide (0 < ax) = false := decide_eq_false hx0
              clear hx0
              go_upto_region 16 with (fail)
              go_quiet (fail)
              go_wp2_with fail
              go_roundg (m - i)
              case measure => have := hlth.out; omega
              case rel => exact ⟨i + 1, _, by go_num, by have := hlth.out; omega, by have := hlth.out; omega, hB6.out.fr0 ((Fr.refl _ _).drewN _), hrm2.out, FF6.out.drewN _⟩
        · have h60' : ¬ (i : Int) < 60 := by omega
          go_wp2_with fail
          go_meet
          case rel => exact ⟨b, hBh.out, hblh.out, hFh.out⟩
      · have hlt' : ¬ (i : Int) < m := by omega
        go_wp2_with fail
        go_meet
        case rel => exact ⟨b, hBh.out, hblh.out, hFh.out⟩
  case rest =>
    obtain ⟨b, hB, hbl, hF⟩ := hcut
    have hBh := Lib.hid hB
    have hblh := Lib.hid hbl
    have hFh := Lib.hid hF
    have hfa := fams_t wc p mb rm [mb] b hB (by have := hrm0.out; omega)
    clear hB hbl hF
    go_wp2_with fail
    refine hfa.mono ?_
    rintro e V1 ⟨la, Aa, ca, rfl, hla, hFa, f1⟩
    have hFa1 := Lib.hid (hFa.read (X := []) hBh.out.ok hla (by simp))
    have hlah := Lib.hid hla
    have FF1 := Lib.hid (hFh.out.trans f1)
    have hN := Lib.hid (show la.length = b.length by rw [← List.length_map (f := fun x : FA => x.f), hla, famsM_length _ hBh.out.ok])
    obtain ⟨q, hq⟩ : ∃ z, Hid (la.length = z) := ⟨_, Lib.hid rfl⟩
    have hql := Lib.hid (show (q : Int) ≤ rm by have := hN.out; have := hq.out; have := hblh.out; omega)
    have hFa1 := Lib.hid (show FamsIn V1 [] Aa q la by have h := hFa1.out; rwa [hq.out] at h)
    have hqs : q ≤ 1000000 := by have := hql.out; have := hrm0.out; omega
    rw [hq.out]
    clear hfa hFa hla f1
    go_upto_block 4 with (fail)
    go_cut [15] from 130 to 141 (fun s15 wx => Fr [] w wx)
    case first =>
      go_wp2_with fail
      go_loopg [15] (q + 1) (fun gk s15 wr => ∃ (i : Nat), s15 = .int .i64 i ∧ i ≤ q ∧ q - i < gk ∧ Fr [] V1 wr)
      case atStart => exact ⟨0, rfl, by omega, by omega, Fr.refl _ _⟩
      case round =>
        obtain ⟨i, rfl, hi, hk, hF⟩ := hrel
        have hF2h := Lib.hid hF
        clear hF
        by_cases hlt : i < q
        · have hlt' : (i : Int) < q := by omega
          have hlth := Lib.hid hlt
          obtain ⟨x, ba, oa, rfl, hxi, hxr, hxf, hxs⟩ := (hFa1.out.fr hF2h.out).row hlt
          have hok := famsM_ok hBh.out.ok (show x.f ∈ famsM b by rw [← hlah.out]; exact List.mem_map_of_mem (List.mem_of_getElem? hxi))
          have hrt := right_t wr x hxf (famOk_sz hxf hok)
          rw [rightM_ok.2 hok] at hrt
          have hxc : ∀ j v, x.cells[j]? = some v → wr.cell? ⟨ba, oa + i * 11 + j, none⟩ = some v := fun j v hv => hxr j v (by rw [Array.getElem?_toList]; exact hv)
          clear hxi hxr hxf hxs hok hlt
          go_wp2_with (refine wpList_load_cells rfl 39 _ rfl rfl hxc uFam rfl (infoFamA _) ?_)
          clear hxc
          refine Calls.mono (show Calls Tryz.prog 24 _ _ _ from hrt) ?_
          rintro e W2 ⟨rfl, f2⟩
          have FF2 := Lib.hid (hF2h.out.trans f2)
          clear hrt f2
          go_wp2_with fail
          go_roundg (q - i)
          case measure => have := hlth.out; omega
          case rel => exact ⟨i + 1, by go_num, by have := hlth.out; omega, by have := hlth.out; omega, FF2.out⟩
        · have hge : ¬ (i : Int) < q := by omega
          go_wp2_with fail
          go_meet
          case rel => exact FF1.out.trans hF2h.out
    case rest =>
      have hFc := Lib.hid hcut
      have hkn := known_t wc
      have hqr := hql.out
      clear hcut
      go_wp2_with fail
      refine Calls.mono (show Calls Tryz.prog 17 _ _ _ from hkn) ?_
      rintro e V2 ⟨rfl, f2⟩
      have FF2 := Lib.hid (hFc.out.trans f2)
      have hroom := hroomv.out V2
      clear hkn f2
      go_wp2_with fail
      refine Calls.mono (show Calls Tryz.prog 13 _ _ _ from hroom) ?_
      rintro e V3 ⟨rfl, rfl⟩
      clear hroom
      go_wp2_with fail
      go_ret
      exact ⟨rfl, FF2.out⟩
end Go.Proofs.YtdeoinjjphdbmaaGreat
