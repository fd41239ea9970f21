/- Walks of the reference's hash: a block with eight words. Conditions: each theorem's own. -/
import Derived.Test.YtlhkkffljjbdmaaRc
namespace Go.Proofs.Ytlhkkffljjbdmaa
open Go.RowKit Go.Sig

theorem infoWC (l : List UInt8) : (Try.prog.info? 150).map (·.size) = some (wCells l).size := by rw [wCells_size]; exact infoW64'
theorem infoA8 (H : W8) : (Try.prog.info? 117).map (·.size) = some H.arr.size := infoW8
theorem u32_compl (x : UInt32) : IntKind.u32.wrap (4294967295 - (x.toNat : Int)) = ((4294967295 ^^^ x : UInt32).toNat : Int) := by
  rw [compl_nat, IntKind.wrap_u32']
  have := x.toNat_lt
  omega
theorem t1_ref (R : W8) (kk ww : UInt32) : IntKind.u32.wrap (IntKind.u32.wrap (IntKind.u32.wrap (IntKind.u32.wrap ((R.h.toNat : Int) + bits .xor .u32 (bits .xor .u32 ((rotr R.e 6).toNat : Int) ((rotr R.e 11).toNat : Int)) ((rotr R.e 25).toNat : Int)) + bits .xor .u32 (bits .and .u32 (R.e.toNat : Int) (R.f.toNat : Int)) (bits .and .u32 (IntKind.u32.wrap (4294967295 - (R.e.toNat : Int))) (R.g.toNat : Int))) + (kk.toNat : Int)) + (ww.toNat : Int)) = ((t1 R kk ww).toNat : Int) := by
  simp only [w_xor, w_and, u32_compl, w_add]
  rfl
theorem set8down {w : World} {g : Nat} {t : TypeId} {u0 u1 u2 u3 u4 u5 u6 u7 : Value} (h : Blk w g t #[u0, u1, u2, u3, u4, u5, u6, u7]) (v0 v1 v2 v3 v4 v5 v6 v7 : Value) :
    Blk ((((((((w.setCell ⟨g, 7, none⟩ v7).setCell ⟨g, 6, none⟩ v6).setCell ⟨g, 5, none⟩ v5).setCell ⟨g, 4, none⟩ v4).setCell ⟨g, 3, none⟩ v3).setCell ⟨g, 2, none⟩ v2).setCell ⟨g, 1, none⟩ v1).setCell ⟨g, 0, none⟩ v0) g t #[v0, v1, v2, v3, v4, v5, v6, v7] := by
  simpa using (((((((h.set 7 v7).set 6 v6).set 5 v5).set 4 v4).set 3 v3).set 2 v2).set 1 v1).set 0 v0
theorem fr8down {w W : World} {g : Nat} (h : Fr [g] w W) (v0 v1 v2 v3 v4 v5 v6 v7 : Value) :
    Fr [g] w ((((((((W.setCell ⟨g, 7, none⟩ v7).setCell ⟨g, 6, none⟩ v6).setCell ⟨g, 5, none⟩ v5).setCell ⟨g, 4, none⟩ v4).setCell ⟨g, 3, none⟩ v3).setCell ⟨g, 2, none⟩ v2).setCell ⟨g, 1, none⟩ v1).setCell ⟨g, 0, none⟩ v0) :=
  (((((((h.setCell (p := ⟨g, 7, none⟩) (by simp) _).setCell (p := ⟨g, 6, none⟩) (by simp) _).setCell (p := ⟨g, 5, none⟩) (by simp) _).setCell (p := ⟨g, 4, none⟩) (by simp) _).setCell (p := ⟨g, 3, none⟩) (by simp) _).setCell (p := ⟨g, 2, none⟩) (by simp) _).setCell (p := ⟨g, 1, none⟩) (by simp) _).setCell (p := ⟨g, 0, none⟩) (by simp) _
theorem fr8up {w W : World} {g : Nat} (h : Fr [] w W) (hg : w.heap.size ≤ g) (v0 v1 v2 v3 v4 v5 v6 v7 : Value) :
    Fr [] w ((((((((W.setCell ⟨g, 0, none⟩ v0).setCell ⟨g, 1, none⟩ v1).setCell ⟨g, 2, none⟩ v2).setCell ⟨g, 3, none⟩ v3).setCell ⟨g, 4, none⟩ v4).setCell ⟨g, 5, none⟩ v5).setCell ⟨g, 6, none⟩ v6).setCell ⟨g, 7, none⟩ v7) :=
  (((((((h.setCell (p := ⟨g, 0, none⟩) (.inr hg) _).setCell (p := ⟨g, 1, none⟩) (.inr hg) _).setCell (p := ⟨g, 2, none⟩) (.inr hg) _).setCell (p := ⟨g, 3, none⟩) (.inr hg) _).setCell (p := ⟨g, 4, none⟩) (.inr hg) _).setCell (p := ⟨g, 5, none⟩) (.inr hg) _).setCell (p := ⟨g, 6, none⟩) (.inr hg) _).setCell (p := ⟨g, 7, none⟩) (.inr hg) _
theorem uW8' : Try.prog.underlying 117 = some (.array 8 116) := uW8

set_option maxRecDepth 100000 in
set_option maxHeartbeats 4000000 in
theorem rtake_t (w : World) (A : Option Addr) (c : Nat) (H : W8) (l : List UInt8) (hb : Byts w A 64 l) :
   Calls Try.prog 72 #[.agg H.arr, .slice A 64 c] w fun e w' => e = .returned (.agg (press H l).arr) ∧ Fr [] w w' := by
  obtain ⟨b, o, rfl, hbl, -⟩ := hb.at (i := 0) (by decide)
  go_enter Try.func72, Try.ntmps72
  go_upto_region 1 with (fail)
  refine wp_gen (fun W => Blk W w.heap.size 117 H.arr ∧ Blk W (w.heap.size + 1) 117 #[.int .u32 0, .int .u32 0, .int .u32 0, .int .u32 0, .int .u32 0, .int .u32 0, .int .u32 0, .int .u32 0] ∧ Fr [] w W) ⟨(Blk.new _ _ _).alloc _, Blk.new' _ _ (by simp), ((Fr.refl _ _).alloc _).alloc _⟩ ?_
  rintro W ⟨BH, BR, fW⟩
  have hbW : Byts W (some ⟨b, o, none⟩) 64 l := Rd.fr hb fW (by simp [Off])
  obtain ⟨gh, HGH⟩ : ∃ x, Hid (w.heap.size = x) := ⟨_, Lib.hid rfl⟩
  rw [HGH.out] at BH BR ⊢
  obtain ⟨gr, HGR⟩ : ∃ x, Hid (gh + 1 = x) := ⟨_, Lib.hid rfl⟩
  rw [HGR.out] at BR ⊢
  have hhr : gh ≠ gr := by have := HGR.out; omega
  have hrsz : w.heap.size ≤ gr := by have := HGR.out; have := HGH.out; omega
  have hhsz : w.heap.size ≤ gh := by have := HGH.out; omega
  go_wp2_with fail
  refine (rwords_t W _ c l hbW).mono ?_
  rintro _ W1 ⟨rfl, f1⟩
  have BH1 := BH.fr f1 (by simp)
  have BR1 := BR.fr f1 (by simp)
  have fw1 := fW.trans f1
  clear BH BR f1 fW hbW hb
  go_upto_region 2 with (first
    | (refine wpList_store_row rfl 150 _ _ rfl W1.heap.size (wCells l) rfl rfl 150 _ (Blk.new W1 150 _) (infoWC l) (by rw [wCells_size]; kernel_rfl) (wCells_one l) ?_))
  refine wp_gen (fun W => Blk W gh 117 H.arr ∧ Blk W gr 117 #[.int .u32 0, .int .u32 0, .int .u32 0, .int .u32 0, .int .u32 0, .int .u32 0, .int .u32 0, .int .u32 0] ∧ Blk W W1.heap.size 150 (wCells l) ∧ Fr [] w W) ⟨(BH1.alloc _).farRow (by have := BH1.lt; omega) _, (BR1.alloc _).farRow (by have := BR1.lt; omega) _, Blk.setRow (Blk.new _ _ _) _, (fw1.alloc _).setRow (.inr fw1.size) _⟩ ?_
  rintro W2 ⟨BH2, BR2, BW2, fw2⟩
  have hwsz : w.heap.size ≤ W1.heap.size := fw1.size
  have hhw := BH1.lt
  have hrw := BR1.lt
  obtain ⟨gw, HGW⟩ : ∃ x, Hid (W1.heap.size = x) := ⟨_, Lib.hid rfl⟩
  rw [HGW.out] at BW2 hwsz hhw hrw ⊢
  clear BH1 BR1 fw1
  have h8 := BH2.c8
  go_upto_region 3 with (fail)
  refine wp_gen (fun W => Blk W gh 117 H.arr ∧ Blk W gr 117 #[.int .u32 0, .int .u32 0, .int .u32 0, .int .u32 0, .int .u32 0, .int .u32 0, .int .u32 0, .int .u32 0] ∧ Blk W gw 150 (wCells l) ∧ Blk W W2.heap.size 117 H.arr ∧ Fr [] w W) ⟨BH2.alloc _, BR2.alloc _, BW2.alloc _, Blk.new _ _ _, fw2.alloc _⟩ ?_
  rintro W3 ⟨BH3, BR3, BW3, BV3, fw3⟩
  have hvsz : w.heap.size ≤ W2.heap.size := fw2.size
  have hhv := BH2.lt
  have hrv := BR2.lt
  have hwv := BW2.lt
  obtain ⟨gv, HGV⟩ : ∃ x, Hid (W2.heap.size = x) := ⟨_, Lib.hid rfl⟩
  rw [HGV.out] at BV3 hvsz hhv hrv hwv ⊢
  clear BH2 BR2 BW2 fw2 h8
  go_upto_block 0 with (fail)
  go_cut [7, 8, 9, 10, 11] from 16 to 103 (fun s7 s8 s9 s10 s11 wx => Blk wx gv 117 (rAt H l 64).arr ∧ Fr [gv] W3 wx)
  case first =>
    go_wp2_with fail
    go_loopg [7, 8, 9, 10, 11] 65 (fun gk s7 s8 s9 s10 s11 wr => ∃ (i : Nat), s7 = .int .i64 i ∧ i ≤ 64 ∧ 64 - i < gk ∧ Blk wr gv 117 (rAt H l i).arr ∧ Fr [gv] W3 wr)
    case atStart => exact ⟨0, rfl, by omega, by omega, BV3, Fr.refl _ _⟩
    case round =>
      clear BV3
      obtain ⟨i, rfl, hi, hk, hBv, hFv⟩ := hrel
      by_cases hlt : i < 64
      · have hlt' : (i : Int) < 64 := by omega
        have hW4 := BW3.fr hFv (by simp; omega)
        have cw := (hW4.cell i).trans (wCells_get l hlt)
        unfold wv at cw
        have hr := Lib.hid (rAt_succ H l hlt)
        have hkt := fun W => rk_t i hlt W
        generalize rAt H l i = R at *
        generalize kAt i = kk at *
        generalize wAt l i = ww at *
        have c8 := hBv.c8
        obtain ⟨c0, c1, c2, c3, c4, c5, c6, c7⟩ := c8
        go_upto_region 8 with (fail)
        have k0 : wr.cell? ⟨gv, 5, none⟩ = some (.int .u32 R.f.toNat) ∧ wr.cell? ⟨gv, 6, none⟩ = some (.int .u32 R.g.toNat) ∧ wr.cell? ⟨gv, 7, none⟩ = some (.int .u32 R.h.toNat) ∧ wr.cell? ⟨gw, i, none⟩ = some (.int .u32 ww.toNat) := ⟨c5, c6, c7.1, cw⟩
        go_region_held3 (fun w' => w'.cell? ⟨gv, 5, none⟩ = some (.int .u32 R.f.toNat) ∧ w'.cell? ⟨gv, 6, none⟩ = some (.int .u32 R.g.toNat) ∧ w'.cell? ⟨gv, 7, none⟩ = some (.int .u32 R.h.toNat) ∧ w'.cell? ⟨gw, i, none⟩ = some (.int .u32 ww.toNat))
          (first | exact k0 | exact k1)
          (first
            | (go_at_call 95; refine (rturn_any R.e _ _ (by decide)).mono ?_; rintro _ _ ⟨rfl, rfl⟩; dsimp only)
            | (go_at_call 96; refine (hkt _).mono ?_; rintro _ w1 ⟨rfl, F1⟩; have B1 := hBv.fr F1.of_drew (by simp); have d1 := B1.c8; have k1 : w1.cell? ⟨gv, 5, none⟩ = some (.int .u32 R.f.toNat) ∧ w1.cell? ⟨gv, 6, none⟩ = some (.int .u32 R.g.toNat) ∧ w1.cell? ⟨gv, 7, none⟩ = some (.int .u32 R.h.toNat) ∧ w1.cell? ⟨gw, i, none⟩ = some (.int .u32 ww.toNat) := ⟨d1.2.2.2.2.2.1, d1.2.2.2.2.2.2.1, d1.2.2.2.2.2.2.2.1, (F1.of_drew.cell (BW3.fr hFv (by simp; omega)).lt (by simp)).trans cw⟩; dsimp only))
        all_goals
          rw [t1_ref R kk ww]
          obtain ⟨T1, HT1⟩ : ∃ x, Hid (t1 R kk ww = x) := ⟨_, Lib.hid rfl⟩
          rw [HT1.out]
          have fv1 := hFv.trans F1.of_drew.nil
          clear c0 c1 c2 c3 c4 c5 c6 c7 k0 k1 hBv F1 hFv hkt cw hW4
          obtain ⟨c0, c1, c2, c3, c4, c5, c6, c7⟩ := d1
          go_upto_region 9 with (fail)
          go_quiet ((go_at_call 95; first | exact quiet_left (rturn_any _ _ _ (by decide)) | exact quiet_add_left (rturn_any _ _ _ (by decide))))
          go_upto_region 10 with (fail)
          rw [t2_eq R]
          obtain ⟨T2, HT2⟩ : ∃ x, Hid (t2 R = x) := ⟨_, Lib.hid rfl⟩
          rw [HT2.out]
          refine wp_gen (fun W4 => Blk W4 gv 117 R.arr ∧ Fr [gv] W3 W4) ⟨B1.drewN _, fv1.drewN _⟩ ?_
          rintro W4 ⟨hB4, hF4⟩
          clear B1 fv1 c0 c1 c2 c3 c4 c5 c6 c7
          have d8 := hB4.c8
          have a1 := w_add T1 T2
          have a2 := w_add' T1 T2
          have a3 := w_add R.d T1
          have a4 := w_add' R.d T1
          obtain ⟨S1, HS1⟩ : ∃ x, Hid (T1 + T2 = x) := ⟨_, Lib.hid rfl⟩
          obtain ⟨S2, HS2⟩ : ∃ x, Hid (R.d + T1 = x) := ⟨_, Lib.hid rfl⟩
          rw [HS1.out] at a1 a2
          rw [HS2.out] at a3 a4
          have hz8 := fun j => hB4.frozen j
          have hgv4 := hB4.lt
          go_upto_region 5 with (fail)
          have e5 : (rAt H l (i + 1)).arr = #[.int .u32 S1.toNat, .int .u32 R.a.toNat, .int .u32 R.b.toNat, .int .u32 R.c.toNat, .int .u32 S2.toNat, .int .u32 R.e.toNat, .int .u32 R.f.toNat, .int .u32 R.g.toNat] := by
            rw [hr.out]
            unfold round1
            rw [HT1.out, HT2.out, HS1.out, HS2.out]
          refine wp_gen (fun W5 => Blk W5 gv 117 (rAt H l (i + 1)).arr ∧ Fr [gv] W3 W5) ⟨?_, ?_⟩ ?_
          · rw [e5]
            exact set8down hB4 _ _ _ _ _ _ _ _
          · exact fr8down hF4 _ _ _ _ _ _ _ _
          rintro W5 ⟨hB5, hF5⟩
          clear d8 hB4 hF4 a1 a2 a3 a4 hz8 hgv4 e5 hr HT1 HT2 HS1 HS2
          go_wp2_with fail
          go_roundg (64 - i)
          case measure => omega
          case rel => exact ⟨i + 1, by go_num, by omega, by omega, hB5, hF5⟩
      · have hi64 : i = 64 := by omega
        subst hi64
        have hge : ¬ ((64 : Nat) : Int) < 64 := by omega
        clear hlt hk hi
        go_wp2
        go_meet
        exact ⟨hBv, hFv⟩
  case rest =>
    obtain ⟨hBv, hFv⟩ := hcut
    have BHc := BH3.fr hFv (by simp; omega)
    have BRc := BR3.fr hFv (by simp; omega)
    have fc : Fr [] w wc := fw3.andThen hFv (fun x hx => .inr (by simp at hx; omega))
    clear BV3 BH3 BR3 BW3 hFv fw3
    obtain ⟨R, HR⟩ : ∃ x, Hid (rAt H l 64 = x) := ⟨_, Lib.hid rfl⟩
    rw [HR.out] at hBv
    go_upto_block 2 with (fail)
    go_cut [12] from 104 to 116 (fun s12 wx => Blk wx gh 117 (press H l).arr ∧ Fr [gh] wc wx)
    case first =>
      go_wp2_with fail
      go_loopg [12] 9 (fun gk s12 wr => ∃ (i : Nat) (ds : Array Value), s12 = .int .i64 i ∧ i ≤ 8 ∧ 8 - i < gk ∧ Blk wr gh 117 ds ∧ ds.size = 8 ∧ (∀ j, j < i → ds[j]? = some (wv (H.list.getD j 0 + R.list.getD j 0))) ∧ (∀ j, i ≤ j → ds[j]? = H.arr[j]?) ∧ Fr [gh] wc wr)
      case atStart => exact ⟨0, _, rfl, by omega, by omega, BHc, rfl, fun j hj => by omega, fun j _ => rfl, Fr.refl _ _⟩
      case round =>
        clear BHc
        obtain ⟨i, ds, rfl, hi, hk, hBd, hds, hlo, hhi, hFd⟩ := hrel
        by_cases hlt : i < 8
        · have hlt' : (i : Int) < 8 := by omega
          have hBvi := hBv.fr hFd (by simp; omega)
          have c1 := (hBd.cell i).trans ((hhi i (Nat.le_refl _)).trans (H.arr_get hlt))
          have c2 := (hBvi.cell i).trans (R.arr_get hlt)
          have hz := hBd.frozen i
          have hadd := Lib.hid (w_add' (H.list.getD i 0) (R.list.getD i 0))
          obtain ⟨x1, HX1⟩ : ∃ x, Hid (H.list.getD i 0 = x) := ⟨_, Lib.hid rfl⟩
          obtain ⟨x2, HX2⟩ : ∃ x, Hid (R.list.getD i 0 = x) := ⟨_, Lib.hid rfl⟩
          rw [HX1.out] at c1 hadd
          rw [HX2.out] at c2 hadd
          go_wp2_with fail
          refine wp_tail 9 (by kernel_rfl) (by kernel_rfl) ?_
          simp only [List.take_succ_cons, List.take_zero, List.drop_succ_cons, List.drop_zero]
          repeat still_step
          refine wpStill_nil ?_
          go_wp2
          go_roundg (8 - i)
          case measure => omega
          case rel =>
            refine ⟨i + 1, _, by go_num, by omega, by omega, (hBd.set i _).drew, by simpa using hds, pre_step (f := fun j => H.list.getD j 0 + R.list.getD j 0) hlo (by omega) ?_, fun j hj => ?_, (hFd.setCell (by simp) _).drew⟩
            · rw [hadd.out, HX1.out, HX2.out]
              rfl
            · rw [Array.getElem?_setIfInBounds, if_neg (by omega)]
              exact hhi j (by omega)
        · have hi8 : i = 8 := by omega
          subst hi8
          have hge : ¬ ((8 : Nat) : Int) < 8 := by omega
          have hR := HR.out
          rw [rAt_end] at hR
          have e8 : ds = (press H l).arr := by
            apply Array.ext_getElem?
            intro j
            by_cases hj : j < 8
            · rw [hlo j hj, W8.arr_get _ hj]
              have e : (press H l).list.getD j 0 = H.list.getD j 0 + R.list.getD j 0 := by
                unfold press
                rw [hR]
                have : j = 0 ∨ j = 1 ∨ j = 2 ∨ j = 3 ∨ j = 4 ∨ j = 5 ∨ j = 6 ∨ j = 7 := by omega
                rcases this with e | e | e | e | e | e | e | e <;> subst e <;> rfl
              rw [e]
              rfl
            · rw [Array.getElem?_eq_none (by omega), Array.getElem?_eq_none (by show 8 ≤ j; omega)]
          subst e8
          clear hR HR hlo hhi hds hlt hk
          go_wp2
          go_meet
          exact ⟨hBd, hFd⟩
    case rest =>
      obtain ⟨hBh, hFh⟩ := hcut
      have BRd := BRc.fr hFh (by simp; omega)
      have fd : Fr [] w wc := fc.andThen hFh (fun x hx => .inr (by simp at hx; omega))
      clear BHc BRc hFh fc hBv HR
      obtain ⟨P, HP⟩ : ∃ x, Hid (press H l = x) := ⟨_, Lib.hid rfl⟩
      rw [HP.out] at hBh
      have h8 := hBh.c8
      have hg8 := BRd.c8
      have hgl := BRd.lt
      go_wp2_with fail
      have B := BRd.set8 (.int .u32 P.a.toNat) (.int .u32 P.b.toNat) (.int .u32 P.c.toNat) (.int .u32 P.d.toNat) (.int .u32 P.e.toNat) (.int .u32 P.f.toNat) (.int .u32 P.g.toNat) (.int .u32 P.h.toNat)
      exact bodyPost_ret (v := .agg P.arr) (results_cell_row rfl _ _ gr 117 P.arr (0, 0) _ rfl B uW8 rfl (infoA8 P)) rfl ⟨by rw [HP.out], fr8up fd hrsz _ _ _ _ _ _ _ _⟩
end Go.Proofs.Ytlhkkffljjbdmaa
