/- Walks of the reference's table: Mend. Conditions: each theorem's own. -/
import Derived.Test.YtlhkkffljjbdmaaVa
namespace Go.Proofs.Ytlhkkffljjbdmaa
open Go.RowKit Go.Sig

theorem index0 (d : List UInt8) (w : World) : (Instr.index 63 (.agg (pathV d)) (.int .i64 0)).run Try.prog w = .ok (.int .i64 (nib d 0)) w := run_index_arr (i := 0) w uI64 (by decide) (by kernel_rfl) (d := .int .i64) (by kernel_rfl) rfl (pathV_at (by decide))
theorem baseP_snoc {pl : List Bool} {l : List Pr} {i : Nat} (h : i < l.length) : baseP pl (l.take (i + 1)) = baseP pl (l.take i) ++ (if plAt pl l[i] then [] else [l[i]]) := by
  unfold baseP
  rw [List.take_succ_eq_append_getElem h, List.filter_append]
  cases e : plAt pl l[i] <;> simp [e]
theorem baseP_take_le {pl : List Bool} {l : List Pr} {i : Nat} : (baseP pl (l.take i)).length ≤ i := by
  unfold baseP
  exact Nat.le_trans (List.length_filter_le _ _) (by rw [List.length_take]; omega)
theorem AccIn.base {w wr : World} {s : Value} {out : List Pr} (h : AccIn w wr s out) : Fr [] w wr := by
  obtain ⟨A, c, rfl, h1, h2, h3⟩ := h
  exact h3
theorem AccIn.up {w W wr : World} {s : Value} {out : List Pr} (h : AccIn W wr s out) (hF : Fr [] w W) : AccIn w wr s out := by
  obtain ⟨A, c, rfl, h1, h2, h3⟩ := h
  exact ⟨A, c, rfl, h1, fun g hg => Nat.le_trans hF.size (h2 g hg), hF.trans h3⟩
theorem bools_size {pl : List Bool} (h : pl.length = 16) : (pl.map Value.bool).toArray.size = 16 := by simp [h]
theorem bools_at {pl : List Bool} {k : Nat} (h : k < pl.length) : (pl.map Value.bool).toArray[k]? = some (.bool (pl.getD k false)) := by
  rw [List.getElem?_toArray, List.getElem?_map, List.getElem?_eq_getElem h]
  simp [List.getD, List.getElem?_eq_getElem h]

set_option maxRecDepth 100000 in
set_option maxHeartbeats 16000000 in
theorem rmend_t (w : World) (v : Value) (l : List Pr) (hO : Own w 66 2 v l.length (pairCells l)) (hG : Good l) (pl : List Bool) (hpl : pl.length = 16) (B : Option Addr) (m d : Nat) (ps : List Pr) (hR : Rd w 2 B m (pairCells ps)) (hm : ps.length = m) (hmax : m ≤ 1000000)
   (hs : ∀ y ∈ ps, y.1.size ≤ 150000000000000 ∧ y.2.size ≤ 150000000000000) :
   Calls Try.prog 25 #[v, .agg (pl.map Value.bool).toArray, .slice B m d] w (ListPost w v (mendR pl ps l).2 (.int .i64 (mendR pl ps l).1)) := by
  obtain ⟨A, c, rfl, hA⟩ := hO.form
  obtain ⟨n, hn⟩ : ∃ n, l.length = n := ⟨_, rfl⟩
  rw [hn] at hO ⊢
  have hOh := Lib.hid hO
  have hAR := Lib.hid hO.rd
  have hGh := Lib.hid hG
  have hsh := Lib.hid hs
  have hRh := Lib.hid hR
  have hn4 : n ≤ 4096 := by rw [← hn]; exact hG.few
  have hbs := bools_size hpl
  clear hO hA hG hs hR
  go_enter Try.func25, Try.ntmps25
  go_upto_region 1 with (fail)
  refine wp_gen (fun W => Blk W w.heap.size 51 (pl.map Value.bool).toArray ∧ Fr [] w W) ⟨Blk.new _ _ _, (Fr.refl _ _).alloc _⟩ ?_
  rintro W ⟨hP, fW⟩
  obtain ⟨gp, HGP⟩ : ∃ z, Hid (w.heap.size = z) := ⟨_, Lib.hid rfl⟩
  rw [HGP.out] at hP ⊢
  have fWh := Lib.hid fW
  have hPh := Lib.hid hP
  clear hP fW
  go_upto_block 0 with (fail)
  go_cut [8] from 14 to 44 (fun s8 wx => okP pl ps = true ∧ Fr [] W wx)
  case first =>
    go_wp2_with fail
    go_loopg [8] (m + 1) (fun gk s8 wr => ∃ (i : Nat), s8 = .int .i64 i ∧ i ≤ m ∧ m - i < gk ∧ (ps.take i).all (okOne pl) = true ∧ Fr [] W wr)
    case atStart => exact ⟨0, rfl, by omega, by omega, rfl, Fr.refl _ _⟩
    case round =>
      obtain ⟨i, rfl, hi, hk, hall, hF⟩ := hrel
      have hallh := Lib.hid hall
      have hFh := Lib.hid hF
      clear hall hF
      by_cases hlt : i < m
      · have hlt' : (i : Int) < m := by omega
        have hlth := Lib.hid hlt
        have hi' : i < ps.length := by omega
        have hRr := Rd.fr hRh.out (fWh.out.trans hFh.out) (by simp [Off])
        obtain ⟨b, o, rfl, hcell⟩ := hRr.2 (by omega)
        have hp := pairCells_at hi'
        have cn := hcell _ _ hp.1
        have cv := hcell _ _ hp.2
        rw [← Nat.add_assoc] at cv
        have hsz := hsh.out ps[i] (List.getElem_mem hi')
        have htk := Lib.hid (show (ps.take (i + 1)).all (okOne pl) = (((ps.take i).all (okOne pl)) && okOne pl ps[i]) by rw [List.take_succ_eq_append_getElem hi', List.all_append]; simp)
        have hmem := Lib.hid (fun (h : okOne pl ps[i] = false) => show mendR pl ps l = (3, l) by
          unfold mendR okP
          rw [if_neg (by
            intro hh
            rw [List.all_eq_true.1 hh ps[i] (List.getElem_mem hi')] at h
            cases h)])
        clear hcell hp hRr
        obtain ⟨⟨y1, y2⟩, hy⟩ : ∃ z, Hid (ps[i] = z) := ⟨_, Lib.hid rfl⟩
        rw [hy.out] at cn cv hsz htk hmem
        simp only at cn cv hsz
        have hok1 : Hid (okOne pl (y1, y2) = (decide (fitsE y1 y2 = 0) && pl.getD (nib (pathOf y1) 0) false)) := Lib.hid rfl
        have hfit := fun W' => rfits_t y1 y2 W' (by omega) (by omega)
        obtain ⟨D, HD⟩ : ∃ z, Hid (pathOf y1 = z) := ⟨_, Lib.hid rfl⟩
        rw [HD.out] at hok1
        have hnl := nib_lt D 0
        have hrun := fun W' => index0 D W'
        obtain ⟨q, HQ⟩ : ∃ z, Hid (nib D 0 = z) := ⟨_, Lib.hid rfl⟩
        rw [HQ.out] at hnl hok1
        simp only [HQ.out] at hrun
        have hq16 : (q : Int) < 16 := by omega
        have hPr := hPh.out.fr hFh.out (by simp)
        have cq := (hPr.cell q).trans (bools_at (show q < pl.length by omega))
        have hgpl := hPr.lt
        have hbl := block_lt_of_cell cn
        obtain ⟨bq, HB⟩ : ∃ z, Hid (pl.getD q false = z) := ⟨_, Lib.hid rfl⟩
        rw [HB.out] at cq hok1
        clear hPr
        by_cases hfz : fitsE y1 y2 = 0
        · have hlim := fitsE_zero hfz
          rw [hfz] at hfit
          rw [decide_eq_true hfz, Bool.true_and] at hok1
          have hpath := fun (W' : World) => rpath_t W' y1 (by omega)
          rw [HD.out] at hpath
          have hfit := Lib.hid hfit
          have hpath := Lib.hid hpath
          clear hfz hlim
          go_upto_region 4 with (fail)
          refine wp_region_held_drew (S := fun w' => w'.cell? ⟨b, o + i * 2, none⟩ = some (.string y1) ∧ w'.cell? ⟨b, o + i * 2 + 1, none⟩ = some (.string y2) ∧ w'.cell? ⟨gp, q, none⟩ = some (.bool bq)) (by kernel_rfl) ⟨cn, cv, cq⟩ ?_
          intro hHeld
          refine wpAnyH_take (i := 0) (v := ?_) rfl (by kernel_rfl) (by kernel_rfl) (by kernel_rfl) (fun _ _ _ h => h) (Or.inl ⟨by kernel_rfl, ?_⟩) hHeld ?_
          rotate_left
          · (intro w hSw; (try dsimp only at hSw); go_simp <;> with_reducible rfl)
          try simp only [Act.put, List.setIfInBounds_toArray]
          refine wpAnyH_take (i := 1) (v := ?_) rfl (by kernel_rfl) (by kernel_rfl) (by kernel_rfl) (fun _ _ _ h => h) (Or.inl ⟨by kernel_rfl, ?_⟩) hHeld ?_
          rotate_left
          · (intro w hSw; (try dsimp only at hSw); go_simp <;> with_reducible rfl)
          try simp only [Act.put]
          refine wpAnyH_take (i := 2) (v := ?_) rfl (by kernel_rfl) (by kernel_rfl) (by kernel_rfl) (fun _ _ _ h => h) (Or.inl ⟨by kernel_rfl, ?_⟩) hHeld ?_
          rotate_left
          · (intro w hSw; (try dsimp only at hSw); go_simp <;> with_reducible rfl)
          try simp only [Act.put]
          refine wpAnyH_take (i := 3) (v := ?_) rfl (by kernel_rfl) (by kernel_rfl) (by kernel_rfl) (fun _ _ _ h => h) (Or.inl ⟨by kernel_rfl, ?_⟩) hHeld ?_
          rotate_left
          · (intro w hSw; (try dsimp only at hSw); go_simp <;> with_reducible rfl)
          try simp only [Act.put]
          refine wpAnyH_take (i := 4) (v := ?_) rfl (by kernel_rfl) (by kernel_rfl) (by kernel_rfl) (fun _ _ _ h => h) (Or.inl ⟨by kernel_rfl, ?_⟩) hHeld ?_
          rotate_left
          · (intro w hSw; (try dsimp only at hSw); go_simp <;> with_reducible rfl)
          try simp only [Act.put]
          refine wpAnyH_take (i := 5) (v := ?_) rfl (by kernel_rfl) (by kernel_rfl) (by kernel_rfl) (fun _ _ _ h => h) (Or.inl ⟨by kernel_rfl, ?_⟩) hHeld ?_
          rotate_left
          · (intro w hSw; (try dsimp only at hSw); go_simp <;> with_reducible rfl)
          try simp only [Act.put]
          refine wpAnyH_take (i := 6) (v := ?_) rfl (by kernel_rfl) (by kernel_rfl) (by kernel_rfl) (fun _ _ _ h => h) (Or.inl ⟨by kernel_rfl, ?_⟩) hHeld ?_
          rotate_left
          · (intro w hSw; (try dsimp only at hSw); go_simp <;> with_reducible rfl)
          try simp only [Act.put]
          refine wpAnyH_take (i := 7) (v := ?_) rfl (by kernel_rfl) (by kernel_rfl) (by kernel_rfl) (fun _ _ _ h => h) (Or.inl ⟨by kernel_rfl, ?_⟩) hHeld ?_
          rotate_left
          · (intro w hSw; (try dsimp only at hSw); go_simp <;> with_reducible rfl)
          try simp only [Act.put]
          refine wpAnyH_take (i := 8) (v := ?_) rfl (by kernel_rfl) (by kernel_rfl) (by kernel_rfl) (fun _ _ _ h => h) (Or.inl ⟨by kernel_rfl, ?_⟩) hHeld ?_
          rotate_left
          · (intro w hSw; (try dsimp only at hSw); go_simp <;> with_reducible rfl)
          try simp only [Act.put]
          refine wpAnyH_take (i := 9) (v := ?_) rfl (by kernel_rfl) (by kernel_rfl) (by kernel_rfl) (fun _ _ _ h => h) (Or.inl ⟨by kernel_rfl, ?_⟩) hHeld ?_
          rotate_left
          · (intro w hSw; (try dsimp only at hSw); go_simp <;> with_reducible rfl)
          try simp only [Act.put]
          refine wpAnyH_ready (rs := [10]) (by kernel_rfl) (by simp) ?_
          refine AllReadyH.cons rfl (fun K hK => ?_) AllReadyH.nil
          go_simp
          go_wp2_with fail
          refine (hfit.out _).mono ?_
          rintro e w1 ⟨rfl, rfl⟩
          dsimp only
          refine hK.out _ _ ⟨cn, cv, cq⟩ (fun hHeld => ?_)
          clear hK K
          try simp only [Act.put, List.setIfInBounds_toArray, List.set_cons_zero, List.set_cons_succ]
          refine wpAnyH_take (i := 11) (v := ?_) rfl (by kernel_rfl) (by kernel_rfl) (by kernel_rfl) (fun _ _ _ h => h) (Or.inl ⟨by kernel_rfl, ?_⟩) hHeld ?_
          rotate_left
          · (intro w hSw; (try dsimp only at hSw); go_simp <;> with_reducible rfl)
          try simp only [Act.put, List.setIfInBounds_toArray]
          refine wpAnyH_take (i := 12) (v := ?_) rfl (by kernel_rfl) (by kernel_rfl) (by kernel_rfl) (fun _ _ _ h => h) (Or.inl ⟨by kernel_rfl, ?_⟩) hHeld ?_
          rotate_left
          · (intro w hSw; (try dsimp only at hSw); go_simp <;> with_reducible rfl)
          try simp only [Act.put]
          refine wpAnyH_take (i := 13) (v := ?_) rfl (by kernel_rfl) (by kernel_rfl) (by kernel_rfl) (fun _ _ _ h => h) (Or.inl ⟨by kernel_rfl, ?_⟩) hHeld ?_
          rotate_left
          · (intro w hSw; (try dsimp only at hSw); go_simp <;> with_reducible rfl)
          try simp only [Act.put]
          refine wpAnyH_take (i := 14) (v := ?_) rfl (by kernel_rfl) (by kernel_rfl) (by kernel_rfl) (fun _ _ _ h => h) (Or.inl ⟨by kernel_rfl, ?_⟩) hHeld ?_
          rotate_left
          · (intro w hSw; (try dsimp only at hSw); go_simp <;> with_reducible rfl)
          try simp only [Act.put]
          refine wpAnyH_take (i := 15) (v := ?_) rfl (by kernel_rfl) (by kernel_rfl) (by kernel_rfl) (fun _ _ _ h => h) (Or.inl ⟨by kernel_rfl, ?_⟩) hHeld ?_
          rotate_left
          · (intro w hSw; (try dsimp only at hSw); go_simp <;> with_reducible rfl)
          try simp only [Act.put]
          refine wpAnyH_take (i := 16) (v := ?_) rfl (by kernel_rfl) (by kernel_rfl) (by kernel_rfl) (fun _ _ _ h => h) (Or.inl ⟨by kernel_rfl, ?_⟩) hHeld ?_
          rotate_left
          · (intro w hSw; (try dsimp only at hSw); go_simp <;> with_reducible rfl)
          try simp only [Act.put]
          refine wpAnyH_take (i := 17) (v := ?_) rfl (by kernel_rfl) (by kernel_rfl) (by kernel_rfl) (fun _ _ _ h => h) (Or.inl ⟨by kernel_rfl, ?_⟩) hHeld ?_
          rotate_left
          · (intro w hSw; (try dsimp only at hSw); go_simp <;> with_reducible rfl)
          try simp only [Act.put]
          refine wpAnyH_ready (rs := [18]) (by kernel_rfl) (by simp) ?_
          refine AllReadyH.cons rfl (fun K hK => ?_) AllReadyH.nil
          go_simp
          go_wp2_with fail
          refine (hpath.out _).mono ?_
          rintro e Y1 ⟨rfl, G1⟩
          have K1 : Fr [] wr Y1 := G1.of_drew
          dsimp only
          refine hK.out _ _ ⟨cell_fr K1 cn, cell_fr K1 cv, cell_fr K1 cq⟩ (fun hHeld => ?_)
          clear hK K
          try simp only [Act.put, List.setIfInBounds_toArray, List.set_cons_zero, List.set_cons_succ]
          refine wpAnyH_take (i := 19) (v := ?_) rfl (by kernel_rfl) (by kernel_rfl) (by kernel_rfl) (fun _ _ _ h => h) (Or.inl ⟨by kernel_rfl, ?_⟩) hHeld ?_
          rotate_left
          · (intro w hSw; (try dsimp only at hSw); go_simp <;> with_reducible rfl)
          try simp only [Act.put, List.setIfInBounds_toArray]
          refine wpAnyH_take (i := 20) (v := ?_) rfl (by kernel_rfl) (by kernel_rfl) (by kernel_rfl) (fun _ _ _ h => h) (Or.inl ⟨by kernel_rfl, ?_⟩) hHeld ?_
          rotate_left
          · (intro w hSw; (try dsimp only at hSw); go_simp <;> with_reducible rfl)
          try simp only [Act.put]
          refine wpAnyH_take (i := 21) (v := ?_) rfl (by kernel_rfl) (by kernel_rfl) (by kernel_rfl) (fun _ _ _ h => h) (Or.inl ⟨by kernel_rfl, ?_⟩) hHeld ?_
          rotate_left
          · (intro w hSw; (try dsimp only at hSw); go_simp <;> with_reducible rfl)
          try simp only [Act.put]
          refine wpAnyH_take (i := 22) (v := ?_) rfl (by kernel_rfl) (by kernel_rfl) (by kernel_rfl) (fun _ _ _ h => h) (Or.inl ⟨by kernel_rfl, ?_⟩) hHeld ?_
          rotate_left
          · (intro w hSw; (try dsimp only at hSw); go_simp <;> with_reducible rfl)
          try simp only [Act.put]
          refine wpAnyH_take (i := 23) (v := ?_) rfl (by kernel_rfl) (by kernel_rfl) (by kernel_rfl) (fun _ _ _ h => h) (Or.inl ⟨by kernel_rfl, ?_⟩) hHeld ?_
          rotate_left
          · (intro w hSw; (try dsimp only at hSw); go_simp <;> with_reducible rfl)
          try simp only [Act.put]
          refine wpAnyH_done (by kernel_rfl) ?_ _
          cases bq with
          | false =>
            have hm2 := Lib.hid (hmem.out hok1.out)
            have fE := Lib.hid (fWh.out.trans (hFh.out.trans K1))
            go_wp2_with fail
            go_ret2
            unfold ListPost
            rw [hm2.out]
            exact ⟨_, rfl, by rw [hn]; exact hOh.out.fr fE.out (by simp), fE.out, fun g hg => .inl hg⟩
          | true =>
            have fE := Lib.hid (hFh.out.trans K1)
            go_wp2_with fail
            go_roundg (m - i)
            case measure => omega
            case rel =>
              refine ⟨i + 1, by go_num, by have := hlth.out; omega, by have := hlth.out; omega, ?_, fE.out⟩
              rw [htk.out, hallh.out, hok1.out]
              rfl
        · have hm2 := Lib.hid (hmem.out (by rw [hok1.out, decide_eq_false hfz]; rfl))
          obtain ⟨fe, HFE⟩ : ∃ z, Hid (fitsE y1 y2 = z) := ⟨_, Lib.hid rfl⟩
          simp only [HFE.out] at hfit
          rw [HFE.out] at hfz
          have hne : (fe != 0) = true := by simpa using hfz
          have hfit := Lib.hid hfit
          clear hfz hmem hok1
          go_upto_region 4 with (fail)
          refine wp_region_held_drew (S := fun w' => w'.cell? ⟨b, o + i * 2, none⟩ = some (.string y1) ∧ w'.cell? ⟨b, o + i * 2 + 1, none⟩ = some (.string y2) ∧ w'.cell? ⟨gp, q, none⟩ = some (.bool bq)) (by kernel_rfl) ⟨cn, cv, cq⟩ ?_
          intro hHeld
          refine wpAnyH_take (i := 0) (v := ?_) rfl (by kernel_rfl) (by kernel_rfl) (by kernel_rfl) (fun _ _ _ h => h) (Or.inl ⟨by kernel_rfl, ?_⟩) hHeld ?_
          rotate_left
          · (intro w hSw; (try dsimp only at hSw); go_simp <;> with_reducible rfl)
          try simp only [Act.put, List.setIfInBounds_toArray]
          refine wpAnyH_take (i := 1) (v := ?_) rfl (by kernel_rfl) (by kernel_rfl) (by kernel_rfl) (fun _ _ _ h => h) (Or.inl ⟨by kernel_rfl, ?_⟩) hHeld ?_
          rotate_left
          · (intro w hSw; (try dsimp only at hSw); go_simp <;> with_reducible rfl)
          try simp only [Act.put]
          refine wpAnyH_take (i := 2) (v := ?_) rfl (by kernel_rfl) (by kernel_rfl) (by kernel_rfl) (fun _ _ _ h => h) (Or.inl ⟨by kernel_rfl, ?_⟩) hHeld ?_
          rotate_left
          · (intro w hSw; (try dsimp only at hSw); go_simp <;> with_reducible rfl)
          try simp only [Act.put]
          refine wpAnyH_take (i := 3) (v := ?_) rfl (by kernel_rfl) (by kernel_rfl) (by kernel_rfl) (fun _ _ _ h => h) (Or.inl ⟨by kernel_rfl, ?_⟩) hHeld ?_
          rotate_left
          · (intro w hSw; (try dsimp only at hSw); go_simp <;> with_reducible rfl)
          try simp only [Act.put]
          refine wpAnyH_take (i := 4) (v := ?_) rfl (by kernel_rfl) (by kernel_rfl) (by kernel_rfl) (fun _ _ _ h => h) (Or.inl ⟨by kernel_rfl, ?_⟩) hHeld ?_
          rotate_left
          · (intro w hSw; (try dsimp only at hSw); go_simp <;> with_reducible rfl)
          try simp only [Act.put]
          refine wpAnyH_take (i := 5) (v := ?_) rfl (by kernel_rfl) (by kernel_rfl) (by kernel_rfl) (fun _ _ _ h => h) (Or.inl ⟨by kernel_rfl, ?_⟩) hHeld ?_
          rotate_left
          · (intro w hSw; (try dsimp only at hSw); go_simp <;> with_reducible rfl)
          try simp only [Act.put]
          refine wpAnyH_take (i := 6) (v := ?_) rfl (by kernel_rfl) (by kernel_rfl) (by kernel_rfl) (fun _ _ _ h => h) (Or.inl ⟨by kernel_rfl, ?_⟩) hHeld ?_
          rotate_left
          · (intro w hSw; (try dsimp only at hSw); go_simp <;> with_reducible rfl)
          try simp only [Act.put]
          refine wpAnyH_take (i := 7) (v := ?_) rfl (by kernel_rfl) (by kernel_rfl) (by kernel_rfl) (fun _ _ _ h => h) (Or.inl ⟨by kernel_rfl, ?_⟩) hHeld ?_
          rotate_left
          · (intro w hSw; (try dsimp only at hSw); go_simp <;> with_reducible rfl)
          try simp only [Act.put]
          refine wpAnyH_take (i := 8) (v := ?_) rfl (by kernel_rfl) (by kernel_rfl) (by kernel_rfl) (fun _ _ _ h => h) (Or.inl ⟨by kernel_rfl, ?_⟩) hHeld ?_
          rotate_left
          · (intro w hSw; (try dsimp only at hSw); go_simp <;> with_reducible rfl)
          try simp only [Act.put]
          refine wpAnyH_take (i := 9) (v := ?_) rfl (by kernel_rfl) (by kernel_rfl) (by kernel_rfl) (fun _ _ _ h => h) (Or.inl ⟨by kernel_rfl, ?_⟩) hHeld ?_
          rotate_left
          · (intro w hSw; (try dsimp only at hSw); go_simp <;> with_reducible rfl)
          try simp only [Act.put]
          refine wpAnyH_ready (rs := [10]) (by kernel_rfl) (by simp) ?_
          refine AllReadyH.cons rfl (fun K hK => ?_) AllReadyH.nil
          go_simp
          go_wp2_with fail
          refine (hfit.out _).mono ?_
          rintro e w1 ⟨rfl, rfl⟩
          dsimp only
          refine hK.out _ _ ⟨cn, cv, cq⟩ (fun hHeld => ?_)
          clear hK K
          try simp only [Act.put, List.setIfInBounds_toArray, List.set_cons_zero, List.set_cons_succ]
          refine wpAnyH_take (i := 11) (v := ?_) rfl (by kernel_rfl) (by kernel_rfl) (by kernel_rfl) (fun _ _ _ h => h) (Or.inl ⟨by kernel_rfl, ?_⟩) hHeld ?_
          rotate_left
          · (intro w hSw; (try dsimp only at hSw); go_simp <;> with_reducible rfl)
          try simp only [Act.put, List.setIfInBounds_toArray]
          refine wpAnyH_take (i := 12) (v := ?_) rfl (by kernel_rfl) (by kernel_rfl) (by kernel_rfl) (fun _ _ _ h => h) (Or.inl ⟨by kernel_rfl, ?_⟩) hHeld ?_
          rotate_left
          · (intro w hSw; (try dsimp only at hSw); go_simp <;> with_reducible rfl)
          try simp only [Act.put]
          refine wpAnyH_take (i := 13) (v := undef) rfl (by kernel_rfl) (by kernel_rfl) (by kernel_rfl) (fun _ _ _ h => h) (Or.inr ⟨by kernel_rfl, rfl⟩) hHeld ?_
          simp only [List.getElem_toArray, List.getElem_cons_succ, List.getElem_cons_zero, Act.put, List.setIfInBounds_toArray, List.set_cons_zero, List.set_cons_succ]
          refine wpAnyH_take (i := 14) (v := undef) rfl (by kernel_rfl) (by kernel_rfl) (by kernel_rfl) (fun _ _ _ h => h) (Or.inr ⟨by kernel_rfl, rfl⟩) hHeld ?_
          simp only [List.getElem_toArray, List.getElem_cons_succ, List.getElem_cons_zero, Act.put, List.setIfInBounds_toArray, List.set_cons_zero, List.set_cons_succ]
          refine wpAnyH_take (i := 15) (v := undef) rfl (by kernel_rfl) (by kernel_rfl) (by kernel_rfl) (fun _ _ _ h => h) (Or.inr ⟨by kernel_rfl, rfl⟩) hHeld ?_
          simp only [List.getElem_toArray, List.getElem_cons_succ, List.getElem_cons_zero, Act.put, List.setIfInBounds_toArray, List.set_cons_zero, List.set_cons_succ]
          refine wpAnyH_take (i := 16) (v := undef) rfl (by kernel_rfl) (by kernel_rfl) (by kernel_rfl) (fun _ _ _ h => h) (Or.inr ⟨by kernel_rfl, rfl⟩) hHeld ?_
          simp only [List.getElem_toArray, List.getElem_cons_succ, List.getElem_cons_zero, Act.put, List.setIfInBounds_toArray, List.set_cons_zero, List.set_cons_succ]
          refine wpAnyH_take (i := 17) (v := undef) rfl (by kernel_rfl) (by kernel_rfl) (by kernel_rfl) (fun _ _ _ h => h) (Or.inr ⟨by kernel_rfl, rfl⟩) hHeld ?_
          simp only [List.getElem_toArray, List.getElem_cons_succ, List.getElem_cons_zero, Act.put, List.setIfInBounds_toArray, List.set_cons_zero, List.set_cons_succ]
          refine wpAnyH_take (i := 18) (v := undef) rfl (by kernel_rfl) (by kernel_rfl) (by kernel_rfl) (fun _ _ _ h => h) (Or.inr ⟨by kernel_rfl, rfl⟩) hHeld ?_
          simp only [List.getElem_toArray, List.getElem_cons_succ, List.getElem_cons_zero, Act.put, List.setIfInBounds_toArray, List.set_cons_zero, List.set_cons_succ]
          refine wpAnyH_take (i := 19) (v := undef) rfl (by kernel_rfl) (by kernel_rfl) (by kernel_rfl) (fun _ _ _ h => h) (Or.inr ⟨by kernel_rfl, rfl⟩) hHeld ?_
          simp only [List.getElem_toArray, List.getElem_cons_succ, List.getElem_cons_zero, Act.put, List.setIfInBounds_toArray, List.set_cons_zero, List.set_cons_succ]
          refine wpAnyH_take (i := 20) (v := undef) rfl (by kernel_rfl) (by kernel_rfl) (by kernel_rfl) (fun _ _ _ h => h) (Or.inr ⟨by kernel_rfl, rfl⟩) hHeld ?_
          simp only [List.getElem_toArray, List.getElem_cons_succ, List.getElem_cons_zero, Act.put, List.setIfInBounds_toArray, List.set_cons_zero, List.set_cons_succ]
          refine wpAnyH_take (i := 21) (v := undef) rfl (by kernel_rfl) (by kernel_rfl) (by kernel_rfl) (fun _ _ _ h => h) (Or.inr ⟨by kernel_rfl, rfl⟩) hHeld ?_
          simp only [List.getElem_toArray, List.getElem_cons_succ, List.getElem_cons_zero, Act.put, List.setIfInBounds_toArray, List.set_cons_zero, List.set_cons_succ]
          refine wpAnyH_take (i := 22) (v := undef) rfl (by kernel_rfl) (by kernel_rfl) (by kernel_rfl) (fun _ _ _ h => h) (Or.inr ⟨by kernel_rfl, rfl⟩) hHeld ?_
          simp only [List.getElem_toArray, List.getElem_cons_succ, List.getElem_cons_zero, Act.put, List.setIfInBounds_toArray, List.set_cons_zero, List.set_cons_succ]
          refine wpAnyH_take (i := 23) (v := ?_) rfl (by kernel_rfl) (by kernel_rfl) (by kernel_rfl) (fun _ _ _ h => h) (Or.inl ⟨by kernel_rfl, ?_⟩) hHeld ?_
          rotate_left
          · (intro w hSw; (try dsimp only at hSw); go_simp <;> with_reducible rfl)
          try simp only [Act.put, List.setIfInBounds_toArray]
          simp only [List.getElem_toArray, List.getElem_cons_succ, List.getElem_cons_zero, List.set_cons_zero, List.set_cons_succ]
          refine wpAnyH_done (by kernel_rfl) ?_ _
          have fE := Lib.hid (fWh.out.trans hFh.out.drew)
          go_wp2_with fail
          go_ret2
          unfold ListPost
          rw [hm2.out]
          exact ⟨_, rfl, by rw [hn]; exact hOh.out.fr fE.out (by simp), fE.out, fun g hg => .inl hg⟩
      · have hge : ¬ (i : Int) < m := by omega
        have hokp : okP pl ps = true := by
          unfold okP
          have := hallh.out
          rwa [List.take_of_length_le (by omega)] at this
        have hokh := Lib.hid hokp
        clear hlt hk hokp
        go_wp2_with fail
        go_meet
        exact ⟨hokh.out, hFh.out⟩
  case rest =>
    obtain ⟨hok, hFc⟩ := hcut
    have hokh := Lib.hid hok
    have hFch := Lib.hid hFc
    have R0 : ∃ z, Hid (newR ps (baseP pl l) = z) := ⟨_, Lib.hid rfl⟩
    obtain ⟨R, HR⟩ := R0
    have hmendR : Hid (mendR pl ps l = if R.1 = 0 then (0, R.2) else (R.1, l)) := Lib.hid (by unfold mendR; rw [if_pos hokh.out, HR.out])
    clear hok hFc
    go_upto_block 2 with (fail)
    go_cut [9, 10] from 45 to 67 (fun s9 s10 wx => AccIn w wx s9 (baseP pl l))
    case first =>
      go_wp2_with fail
      go_loopg [9, 10] (n + 1) (fun gk s9 s10 wr => ∃ (i : Nat), s10 = .int .i64 i ∧ i ≤ n ∧ n - i < gk ∧ AccIn W wr s9 (baseP pl (l.take i)))
      case atStart => exact ⟨0, rfl, by omega, by omega, AccIn.nil hFch.out⟩
      case round =>
        obtain ⟨i, rfl, hi, hk, hA⟩ := hrel
        have hAh := Lib.hid hA
        have hFh := Lib.hid hA.base
        by_cases hlt : i < n
        · have hlt' : (i : Int) < n := by omega
          have hlth := Lib.hid hlt
          have hi' : i < l.length := by omega
          have hRr := Rd.fr hAR.out (fWh.out.trans hA.base) (by simp [Off])
          obtain ⟨b, o, rfl, hcell⟩ := hRr.2 (by omega)
          have hp := pairCells_at hi'
          have cn := hcell _ _ hp.1
          have cv := hcell _ _ hp.2
          rw [← Nat.add_assoc] at cv
          have hys := (hGh.out.fits l[i] (List.getElem_mem hi')).1
          have hsn := Lib.hid (baseP_snoc (pl := pl) hi')
          have hle := baseP_take_le (pl := pl) (l := l) (i := i)
          have cnh := Lib.hid cn
          have cvh := Lib.hid cv
          clear hp hcell hRr cv hA
          obtain ⟨⟨y1, y2⟩, hy⟩ : ∃ z, Hid (l[i] = z) := ⟨_, Lib.hid rfl⟩
          rw [hy.out] at cn cnh cvh hsn hys
          simp only at cn hys
          have hpath := Lib.hid (fun (W : World) => rpath_t W y1 (by omega))
          have hpa : Hid (plAt pl (y1, y2) = pl.getD (nib (pathOf y1) 0) false) := Lib.hid rfl
          obtain ⟨D, HD⟩ : ∃ z, Hid (pathOf y1 = z) := ⟨_, Lib.hid rfl⟩
          rw [HD.out] at hpath hpa
          have hnl := nib_lt D 0
          have hrun := fun W' => index0 D W'
          obtain ⟨q, HQ⟩ : ∃ z, Hid (nib D 0 = z) := ⟨_, Lib.hid rfl⟩
          rw [HQ.out] at hnl hpa
          simp only [HQ.out] at hrun
          have hq16 : (q : Int) < 16 := by omega
          obtain ⟨out, ho⟩ : ∃ z, Hid (baseP pl (l.take i) = z) := ⟨_, Lib.hid rfl⟩
          rw [ho.out] at hsn hle hAh
          obtain ⟨A2, c2, rfl, O2, R2, F2⟩ := hAh.out
          clear O2 F2
          go_wp2_with fail
          refine (hpath.out _).mono ?_
          rintro e W5 ⟨rfl, F5⟩
          obtain ⟨A4, c4, hs4, O2, R2, F2⟩ := hAh.out.fr0 F5
          obtain ⟨rfl, rfl⟩ : A2 = A4 ∧ c2 = c4 := by injection hs4 with h1 _ h3; exact ⟨h1, h3⟩
          have cn := cell_fr F5 cnh.out
          have cv := cell_fr F5 cvh.out
          try simp only at cn
          try simp only at cv
          have f5 := Lib.hid (hFh.out.trans F5)
          have hP5 := hPh.out.fr f5.out (by simp)
          have cq := (hP5.cell q).trans (bools_at (show q < pl.length by omega))
          have hgpl := hP5.lt
          clear hs4 F5 hP5
          cases hpq : pl.getD q false with
          | true =>
            rw [hpq] at cq hpa
            rw [hpa.out, if_pos rfl, List.append_nil] at hsn
            have hA5 := Lib.hid (show AccIn W W5 (.slice A2 out.length c2) out from ⟨A2, c2, rfl, O2, R2, F2⟩)
            clear hpq O2 F2
            go_wp2_with fail
            go_roundg (n - i)
            case measure => omega
            case rel =>
              refine ⟨i + 1, by go_num, by have := hlth.out; omega, by have := hlth.out; omega, ?_⟩
              rw [hsn.out]
              exact hA5.out
          | false =>
            rw [hpq] at cq hpa
            rw [hpa.out, if_neg (by decide)] at hsn
            clear hpq
            go_wp2_with (refine wpList_own_append tPairs (O2.fr ((Fr.refl [] _).alloc _) (by simp)) (rd_pr (y1, y2) (Blk.new _ _ _)) (pairCells_one _) (by simp) (by unfold maxLen; omega) (by omega) rfl rfl rfl rfl (fun v2 w2 p1 p2 p3 => ?_); obtain ⟨A3, c3, rfl, hA3⟩ := p1.form)
            go_roundg (n - i)
            case measure => omega
            case rel =>
              refine ⟨i + 1, by go_num, by have := hlth.out; omega, by have := hlth.out; omega, ?_⟩
              rw [hsn.out]
              exact AccIn.push R2 F2 p1 p2 p3
        · have hge : ¬ (i : Int) < n := by omega
          have e : l.take i = l := List.take_of_length_le (by omega)
          rw [e] at hAh
          clear hlt hk e hA
          go_wp2_with fail
          go_meet
          exact hAh.out.up fWh.out
    case rest =>
      have hA0 := Lib.hid hcut
      have hGb := Lib.hid (filter_good (q := fun y => !plAt pl y) hGh.out)
      clear hcut
      go_wp2_with fail
      go_loopg [9, 11, 12, 13] (m + 1) (fun gk s9 s11 s12 s13 wr => ∃ (i : Nat) (l' : List Pr), s11 = .int .i64 i ∧ i ≤ m ∧ m - i < gk ∧ AccIn w wr s9 l' ∧ Good l' ∧ newR (ps.drop i) l' = R)
      case atStart => exact ⟨0, _, rfl, by omega, by omega, hA0.out, hGb.out, HR.out⟩
      case round =>
        obtain ⟨i, l', rfl, hi, hk, hAi, hGi, hRi⟩ := hrel
        have hAih := Lib.hid hAi
        have hGih := Lib.hid hGi
        have hRih := Lib.hid hRi
        obtain ⟨A2, c2, rfl, O2, R2, F2⟩ := hAi
        by_cases hlt : i < m
        · have hlt' : (i : Int) < m := by omega
          have hlth := Lib.hid hlt
          have hi' : i < ps.length := by omega
          have hRr := Rd.fr hRh.out F2 (by simp [Off])
          obtain ⟨b, o, rfl, hcell⟩ := hRr.2 (by omega)
          have hp := pairCells_at hi'
          have cn := hcell _ _ hp.1
          have cv := hcell _ _ hp.2
          rw [← Nat.add_assoc] at cv
          have hsy := hsh.out ps[i] (List.getElem_mem hi')
          have hdr := Lib.hid (List.drop_eq_getElem_cons hi')
          have hl4 := hGi.few
          clear hcell hp hRr O2 hGi hRi
          obtain ⟨⟨y1, y2⟩, hy⟩ : ∃ z, Hid (ps[i] = z) := ⟨_, Lib.hid rfl⟩
          rw [hy.out] at cn cv hdr hsy
          simp only at cn cv hsy
          have hbl := block_lt_of_cell cn
          obtain ⟨n2, hn2⟩ : ∃ z, Hid (l'.length = z) := ⟨_, Lib.hid rfl⟩
          have hput := Lib.hid (fun (W' : World) (hF : Fr [] wr W') => rput_t W' (.slice A2 n2 c2) l' (by
            obtain ⟨A4, c4, hs4, O3, _, _⟩ := hAih.out
            obtain ⟨rfl, rfl⟩ : A2 = A4 ∧ c2 = c4 := by injection hs4 with h1 _ h3; exact ⟨h1, h3⟩
            rw [← hn2.out]
            exact O3.fr hF (by simp)) (by omega) hGih.out.rising y1 y2 (by omega) (by omega))
          have hR2 := Lib.hid R2
          have hF2 := Lib.hid F2
          rw [hn2.out]
          rw [hn2.out] at hR2
          clear R2 F2
          go_upto_region 15 with (fail)
          refine wp_region_held_drew (S := fun w' => w'.cell? ⟨b, o + i * 2, none⟩ = some (.string y1) ∧ w'.cell? ⟨b, o + i * 2 + 1, none⟩ = some (.string y2)) (by kernel_rfl) ⟨cn, cv⟩ ?_
          intro hHeld
          refine wpAnyH_take (i := 0) (v := ?_) rfl (by kernel_rfl) (by kernel_rfl) (by kernel_rfl) (fun _ _ _ h => h) (Or.inl ⟨by kernel_rfl, ?_⟩) hHeld ?_
          rotate_left
          · (intro w hSw; (try dsimp only at hSw); go_simp <;> with_reducible rfl)
          try simp only [Act.put, List.setIfInBounds_toArray]
          refine wpAnyH_take (i := 1) (v := ?_) rfl (by kernel_rfl) (by kernel_rfl) (by kernel_rfl) (fun _ _ _ h => h) (Or.inl ⟨by kernel_rfl, ?_⟩) hHeld ?_
          rotate_left
          · (intro w hSw; (try dsimp only at hSw); go_simp <;> with_reducible rfl)
          try simp only [Act.put]
          refine wpAnyH_take (i := 2) (v := ?_) rfl (by kernel_rfl) (by kernel_rfl) (by kernel_rfl) (fun _ _ _ h => h) (Or.inl ⟨by kernel_rfl, ?_⟩) hHeld ?_
          rotate_left
          · (intro w hSw; (try dsimp only at hSw); go_simp <;> with_reducible rfl)
          try simp only [Act.put]
          refine wpAnyH_take (i := 3) (v := ?_) rfl (by kernel_rfl) (by kernel_rfl) (by kernel_rfl) (fun _ _ _ h => h) (Or.inl ⟨by kernel_rfl, ?_⟩) hHeld ?_
          rotate_left
          · (intro w hSw; (try dsimp only at hSw); go_simp <;> with_reducible rfl)
          try simp only [Act.put]
          refine wpAnyH_take (i := 4) (v := ?_) rfl (by kernel_rfl) (by kernel_rfl) (by kernel_rfl) (fun _ _ _ h => h) (Or.inl ⟨by kernel_rfl, ?_⟩) hHeld ?_
          rotate_left
          · (intro w hSw; (try dsimp only at hSw); go_simp <;> with_reducible rfl)
          try simp only [Act.put]
          refine wpAnyH_take (i := 5) (v := ?_) rfl (by kernel_rfl) (by kernel_rfl) (by kernel_rfl) (fun _ _ _ h => h) (Or.inl ⟨by kernel_rfl, ?_⟩) hHeld ?_
          rotate_left
          · (intro w hSw; (try dsimp only at hSw); go_simp <;> with_reducible rfl)
          try simp only [Act.put]
          refine wpAnyH_take (i := 6) (v := ?_) rfl (by kernel_rfl) (by kernel_rfl) (by kernel_rfl) (fun _ _ _ h => h) (Or.inl ⟨by kernel_rfl, ?_⟩) hHeld ?_
          rotate_left
          · (intro w hSw; (try dsimp only at hSw); go_simp <;> with_reducible rfl)
          try simp only [Act.put]
          refine wpAnyH_take (i := 7) (v := ?_) rfl (by kernel_rfl) (by kernel_rfl) (by kernel_rfl) (fun _ _ _ h => h) (Or.inl ⟨by kernel_rfl, ?_⟩) hHeld ?_
          rotate_left
          · (intro w hSw; (try dsimp only at hSw); go_simp <;> with_reducible rfl)
          try simp only [Act.put]
          refine wpAnyH_take (i := 8) (v := ?_) rfl (by kernel_rfl) (by kernel_rfl) (by kernel_rfl) (fun _ _ _ h => h) (Or.inl ⟨by kernel_rfl, ?_⟩) hHeld ?_
          rotate_left
          · (intro w hSw; (try dsimp only at hSw); go_simp <;> with_reducible rfl)
          try simp only [Act.put]
          refine wpAnyH_take (i := 9) (v := ?_) rfl (by kernel_rfl) (by kernel_rfl) (by kernel_rfl) (fun _ _ _ h => h) (Or.inl ⟨by kernel_rfl, ?_⟩) hHeld ?_
          rotate_left
          · (intro w hSw; (try dsimp only at hSw); go_simp <;> with_reducible rfl)
          try simp only [Act.put]
          refine wpAnyH_take (i := 10) (v := ?_) rfl (by kernel_rfl) (by kernel_rfl) (by kernel_rfl) (fun _ _ _ h => h) (Or.inl ⟨by kernel_rfl, ?_⟩) hHeld ?_
          rotate_left
          · (intro w hSw; (try dsimp only at hSw); go_simp <;> with_reducible rfl)
          try simp only [Act.put]
          refine wpAnyH_ready (rs := [11]) (by kernel_rfl) (by simp) ?_
          refine AllReadyH.cons rfl (fun K hK => ?_) AllReadyH.nil
          go_simp
          go_wp2_with fail
          refine (hput.out _ (Fr.refl _ _).drew).mono ?_
          rintro e W4 ⟨v4, rfl, O4, F4, R4⟩
          obtain ⟨A4, c4, rfl, hA4⟩ := O4.form
          have K1 : Fr [] wr W4 := F4.of_drew
          dsimp only
          refine hK.out _ _ ⟨cell_fr K1 cn, cell_fr K1 cv⟩ (fun hHeld => ?_)
          clear hK K
          try simp only [Act.put, List.setIfInBounds_toArray, List.set_cons_zero, List.set_cons_succ]
          refine wpAnyH_take (i := 12) (v := ?_) rfl (by kernel_rfl) (by kernel_rfl) (by kernel_rfl) (fun _ _ _ h => h) (Or.inl ⟨by kernel_rfl, ?_⟩) hHeld ?_
          rotate_left
          · (intro w hSw; (try dsimp only at hSw); go_simp <;> with_reducible rfl)
          try simp only [Act.put, List.setIfInBounds_toArray]
          refine wpAnyH_take (i := 13) (v := ?_) rfl (by kernel_rfl) (by kernel_rfl) (by kernel_rfl) (fun _ _ _ h => h) (Or.inl ⟨by kernel_rfl, ?_⟩) hHeld ?_
          rotate_left
          · (intro w hSw; (try dsimp only at hSw); go_simp <;> with_reducible rfl)
          try simp only [Act.put]
          refine wpAnyH_take (i := 14) (v := ?_) rfl (by kernel_rfl) (by kernel_rfl) (by kernel_rfl) (fun _ _ _ h => h) (Or.inl ⟨by kernel_rfl, ?_⟩) hHeld ?_
          rotate_left
          · (intro w hSw; (try dsimp only at hSw); go_simp <;> with_reducible rfl)
          try simp only [Act.put]
          refine wpAnyH_take (i := 15) (v := ?_) rfl (by kernel_rfl) (by kernel_rfl) (by kernel_rfl) (fun _ _ _ h => h) (Or.inl ⟨by kernel_rfl, ?_⟩) hHeld ?_
          rotate_left
          · (intro w hSw; (try dsimp only at hSw); go_simp <;> with_reducible rfl)
          try simp only [Act.put]
          simp only [List.getElem_toArray, List.getElem_cons_succ, List.getElem_cons_zero, List.setIfInBounds_toArray, List.set_cons_zero, List.set_cons_succ]
          refine wpAnyH_take (i := 16) (v := ?_) rfl (by kernel_rfl) (by kernel_rfl) (by kernel_rfl) (fun _ _ _ h => h) (Or.inl ⟨by kernel_rfl, ?_⟩) hHeld ?_
          rotate_left
          · (intro w hSw; (try dsimp only at hSw); go_simp <;> with_reducible rfl)
          try simp only [Act.put, List.setIfInBounds_toArray]
          simp only [List.getElem_toArray, List.getElem_cons_succ, List.getElem_cons_zero, List.set_cons_zero, List.set_cons_succ]
          refine wpAnyH_done (by kernel_rfl) ?_ _
          have hA4 := Lib.hid (show AccIn w W4 (.slice A4 (putM y1 y2 l').length c4) (putM y1 y2 l') from ⟨A4, c4, rfl, O4, fun g hg => (R4 g hg).elim (hR2.out g) (fun h => Nat.le_trans hF2.out.size h), hF2.out.trans K1⟩)
          obtain ⟨n4, hn4⟩ : ∃ z, Hid ((putM y1 y2 l').length = z) := ⟨_, Lib.hid rfl⟩
          rw [hn4.out] at hA4 ⊢
          by_cases he : putE y1 y2 l' = 0
          · have e2 : putM y1 y2 l' = put (y1, y2) l' := by unfold putM; rw [if_pos he]
            have hG4 := Lib.hid (putM_good (k := y1) (v := y2) hGih.out)
            rw [e2] at hA4 hG4
            have heh := Lib.hid he
            rw [he]
            clear he e2 O4 F4 R4 K1 cn cv
            go_wp2_with fail
            go_roundg (m - i)
            case measure => omega
            case rel =>
              refine ⟨i + 1, put (y1, y2) l', by go_num, by have := hlth.out; omega, by have := hlth.out; omega, hA4.out, hG4.out, ?_⟩
              rw [← hRih.out, hdr.out]
              exact (newR_pos heh.out).symm
          · have hR3 : R = (putE y1 y2 l', l') := by
              rw [← hRih.out, hdr.out]
              exact newR_neg he
            have hm2 := Lib.hid (show mendR pl ps l = (putE y1 y2 l', l) by rw [hmendR.out, hR3, if_neg he])
            obtain ⟨pe, HPE⟩ : ∃ z, Hid (putE y1 y2 l' = z) := ⟨_, Lib.hid rfl⟩
            rw [HPE.out] at he hm2 ⊢
            have he1 : (pe != 0) = true := by simpa using he
            have fE := Lib.hid hA4.out.base
            clear he hR3 O4 F4 R4 K1 cn cv
            go_wp2_with fail
            go_ret2
            unfold ListPost
            rw [hm2.out]
            exact ⟨_, rfl, by rw [hn]; exact hOh.out.fr fE.out (by simp), fE.out, fun g hg => .inl hg⟩
        · have hge : ¬ (i : Int) < m := by omega
          have hR3 : R = (0, l') := by
            rw [← hRi, List.drop_of_length_le (by omega)]
            rfl
          have hm2 := Lib.hid (show mendR pl ps l = (0, l') by rw [hmendR.out, hR3, if_pos rfl])
          clear hlt hk hR3 hGi hRi O2 F2
          go_wp2_with fail
          go_ret2
          unfold ListPost
          rw [hm2.out]
          obtain ⟨A4, c4, hs4, O3, R3, F3⟩ := hAih.out
          rw [hs4]
          exact ⟨_, rfl, O3, F3, fun g hg => .inr (R3 g hg)⟩
end Go.Proofs.Ytlhkkffljjbdmaa
