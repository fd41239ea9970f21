/- Walks of the reference's table: the path of a key. Conditions: each theorem's own. -/
import Derived.Test.YtlhkkffljjbdmaaRf
import Derived.Test.YtlhkkffljjbdmaaTb
namespace Go.Proofs.Ytlhkkffljjbdmaa
open Go.RowKit Go.Sig

/-- A path as 64 numbers. -/
def pathV (d : List UInt8) : Array Value := ((List.range 64).map fun k => Value.int .i64 (nib d k)).toArray
theorem pathV_size (d : List UInt8) : (pathV d).size = 64 := by simp [pathV]
theorem pathV_at {d : List UInt8} {k : Nat} (h : k < 64) : (pathV d)[k]? = some (.int .i64 (nib d k)) := by
  simp [pathV, h]
theorem pathV_one (d : List UInt8) : (pathV d).all (fun x => x.oneCell') = true := by
  rw [Array.all_eq_true']
  intro v hv
  simp [pathV] at hv
  obtain ⟨k, _, rfl⟩ := hv
  rfl
theorem uI64 : Try.prog.underlying 63 = some (.array 64 3) := by kernel_rfl
theorem infoI64 : (Try.prog.info? 63).map (·.size) = some 64 := by kernel_rfl
theorem infoPathV (d : List UInt8) : (Try.prog.info? 63).map (·.size) = some (pathV d).size := by rw [pathV_size]; exact infoI64
theorem infoPathVL (d : List UInt8) : (Try.prog.info? 63).map (·.size) = some (pathV d).toList.length := by rw [Array.length_toList, pathV_size]; exact infoI64
theorem pathV_of {d : List UInt8} {cs : Array Value} (hs : cs.size = 64) (h : ∀ j, j < 64 → cs[j]? = some (.int .i64 (nib d j))) : cs = pathV d := by
  apply Array.ext (by rw [hs, pathV_size])
  intro i h1 h2
  have e1 := h i (by omega)
  have e2 := pathV_at (d := d) (show i < 64 by omega)
  rw [Array.getElem?_eq_getElem h1] at e1
  rw [Array.getElem?_eq_getElem h2] at e2
  exact Option.some.inj (e1.trans e2.symm)
theorem nib_even {d : List UInt8} {k : Nat} (h : k % 2 = 0) : (nib d k : Int) = ((d.getD (k / 2) 0).toNat : Int) / 16 := by
  have := (d.getD (k / 2) 0).toNat_lt
  unfold nib
  rw [h]
  omega
theorem nib_odd {d : List UInt8} {k : Nat} (h : k % 2 = 1) : (nib d k : Int) = ((d.getD (k / 2) 0).toNat : Int) % 16 := by
  unfold nib
  rw [h]
  omega

set_option maxRecDepth 100000 in
set_option maxHeartbeats 4000000 in
theorem rpath_t (w : World) (s : ByteArray) (hs : s.size ≤ 1000000) :
   Calls Try.prog 29 #[.string s] w fun e w' => e = .returned (.agg (pathV (pathOf s))) ∧ Fr [] w w' := by
  obtain ⟨cW, cC, hcv, hcF, hcB, hcS, hcc⟩ := conv_any s
  obtain ⟨D, HD⟩ : ∃ z, Hid (pathOf s = z) := ⟨_, Lib.hid rfl⟩
  have hsD := Lib.hid (show sha s.data.toList = D from HD.out)
  have hDl : D.length = 32 := by rw [← HD.out]; rfl
  rw [HD.out]
  go_enter Try.func29, Try.ntmps29
  go_upto_region 1 with (fail)
  refine wp_gen (fun W => (∃ zs, Blk W w.heap.size 63 zs ∧ zs.size = 64) ∧ Fr [] w W) ⟨⟨_, Blk.new _ _ _, by kernel_rfl⟩, (Fr.refl _ _).alloc _⟩ ?_
  rintro W ⟨⟨zr, BR, hzr⟩, fW⟩
  obtain ⟨gr, HGR⟩ : ∃ x, Hid (w.heap.size = x) := ⟨_, Lib.hid rfl⟩
  rw [HGR.out] at BR ⊢
  have hcF0 := hcF W
  have hcB0 := hcB W W.heap.size rfl
  go_wp2_with fail
  refine (rsum_t (cW W) _ _ _ _ hcB0 (by simp) (by omega)).mono ?_
  rintro e W2 ⟨rfl, F2⟩
  rw [hsD.out]
  have F12 := hcF0.trans F2
  have BR2 := BR.fr F12 (by simp)
  have f2 := fW.trans F12
  clear hcv hcF hcB hcS hcc hcF0 hcB0 F2 F12 fW BR
  go_upto_region 3 with (refine wpList_store_row rfl 104 _ _ rfl W2.heap.size (digCells D) rfl rfl 104 _ (Blk.new W2 104 _) (by rw [digCells_size hDl]; kernel_rfl) (by rw [digCells_size hDl]; rfl) (digCells_one D) ?_)
  refine wp_gen (fun W3 => Blk W3 W2.heap.size 104 (digCells D) ∧ (∃ zs, Blk W3 (W2.heap.size + 1) 63 zs ∧ zs.size = 64) ∧ Fr [] W2 W3) ⟨(Blk.setRow (Blk.new W2 104 _) _).alloc _, ⟨_, Blk.new' _ _ (by simp), by kernel_rfl⟩, (((Fr.refl _ _).alloc _).setRow (.inr (Nat.le_refl _)) _).alloc _⟩ ?_
  rintro W3 ⟨BD, ⟨zp, BP, hzp⟩, F3⟩
  have BR3 := BR2.fr F3 (by simp)
  have f3 := f2.trans F3
  have hgr2 := BR2.lt
  obtain ⟨gd, HGD⟩ : ∃ x, Hid (W2.heap.size = x) := ⟨_, Lib.hid rfl⟩
  rw [HGD.out] at BD BP hgr2 ⊢
  obtain ⟨gp, HGP⟩ : ∃ x, Hid (gd + 1 = x) := ⟨_, Lib.hid rfl⟩
  rw [HGP.out] at BP ⊢
  have hgdp : gd < gp := by have := HGP.out; omega
  clear BR2 F3 f2
  go_wp2_with fail
  go_loopg [5] 65 (fun gk s5 wr => ∃ (i : Nat) (cs : Array Value), s5 = .int .i64 i ∧ i ≤ 64 ∧ 64 - i < gk ∧ Blk wr gp 63 cs ∧ cs.size = 64 ∧ (∀ j, j < i → cs[j]? = some (.int .i64 (nib D j))) ∧ Fr [gp] W3 wr)
  case atStart => exact ⟨0, zp, rfl, by omega, by omega, BP, hzp, fun j hj => by omega, Fr.refl _ _⟩
  case round =>
    clear BP
    obtain ⟨i, cs, rfl, hi, hk, hB, hsz, hall, hF⟩ := hrel
    have hallh := Lib.hid hall
    have hFh := Lib.hid hF
    have hBh := Lib.hid hB
    have hgl := hB.lt
    have BDr := BD.fr hF (by simp; omega)
    have hdl := BDr.lt
    clear hall hF
    by_cases hlt : i < 64
    · have hlt' : (i : Int) < 64 := by omega
      have hlth := Lib.hid hlt
      have hc : wr.cell? ⟨gd, i / 2, none⟩ = some (.int .u8 ((D.getD (i / 2) 0).toNat : Int)) := by
        rw [BDr.cell]
        unfold digCells
        rw [List.getElem?_toArray, List.getElem?_map, List.getElem?_eq_getElem (show i / 2 < D.length by omega)]
        simp [List.getD, List.getElem?_eq_getElem (show i / 2 < D.length by omega), bv]
      have cp : wr.cell? ⟨gp, i, none⟩ = some cs[i] := by rw [hB.cell]; exact Array.getElem?_eq_getElem (by omega)
      have hfz := fun m => hB.frozen m
      have e1 : ((i : Int) / 2).toNat = i / 2 := by omega
      have b1 : (i : Int) / 2 < 32 := by omega
      have b0 : 0 ≤ (i : Int) / 2 := by omega
      have hby := (D.getD (i / 2) 0).toNat_lt
      have hne : gd ≠ gp := by omega
      obtain ⟨by0, HBY⟩ : ∃ x, Hid ((D.getD (i / 2) 0).toNat = x) := ⟨_, Lib.hid rfl⟩
      rw [HBY.out] at hc hby
      rcases Nat.mod_two_eq_zero_or_one i with hm | hm
      · have hev := Lib.hid (nib_even (d := D) hm)
        have hmi : ((i : Int) % 2 == 1) = false := beq_eq_false_iff_ne.2 (by omega)
        have hmh := Lib.hid hm
        clear hm
        go_wp2
        go_roundg (64 - i)
        case measure => omega
        case rel =>
          refine ⟨i + 1, _, by go_num, by have := hlth.out; omega, by have := hlth.out; omega, hBh.out.set i _, by simpa using hsz, fun j hj => ?_, hFh.out.setCell (.inl (by simp)) _⟩
          rw [Array.getElem?_setIfInBounds]
          by_cases hji : i = j
          · subst hji
            rw [if_pos rfl, if_pos (by omega), hev.out, HBY.out]
          · rw [if_neg hji]
            exact hallh.out j (by omega)
      · have hev := Lib.hid (nib_odd (d := D) hm)
        have hmi : ((i : Int) % 2 == 1) = true := by
          rw [show (i : Int) % 2 = 1 by omega]
          rfl
        have hmh := Lib.hid hm
        clear hm
        go_wp2
        go_roundg (64 - i)
        case measure => omega
        case rel =>
          refine ⟨i + 1, _, by go_num, by have := hlth.out; omega, by have := hlth.out; omega, (hBh.out.set i _).set i _, by simpa using hsz, fun j hj => ?_, (hFh.out.setCell (.inl (by simp)) _).setCell (.inl (by simp)) _⟩
          rw [Array.getElem?_setIfInBounds]
          by_cases hji : i = j
          · subst hji
            rw [if_pos rfl, if_pos (by simp; omega), hev.out, HBY.out]
          · rw [if_neg hji, Array.getElem?_setIfInBounds, if_neg hji]
            exact hallh.out j (by omega)
    · have hcs : cs = pathV D := pathV_of hsz (fun j hj => hallh.out j (by omega))
      have BRr := BR3.fr hFh.out (by simp; omega)
      rw [hcs] at hB
      obtain rfl : i = 64 := by omega
      clear hlt hk hcs hi
      go_wp2_with (first
        | (refine wpList_load_at rfl 63 _ rfl rfl hB (sub_self _) uI64 rfl (infoPathVL D) ?_; rw [Array.toArray_toList])
        | refine wpList_store_row rfl 63 _ _ rfl gr (pathV D) rfl rfl 63 zr BRr (infoPathV D) (by rw [hzr, pathV_size]) (pathV_one D) ?_)
      exact bodyPost_ret (v := .agg (pathV D)) (results_cell_row rfl _ _ gr 63 (pathV D) (0, 0) _ rfl (Blk.setRow BRr _) uI64 rfl (infoPathV D)) rfl ⟨rfl, ((f3.nil.trans hFh.out).mono' (S' := []) (fun z hz => .inr (by have := HGP.out; have := HGD.out; have := HGR.out; simp at hz; omega))).setRow (.inr (by have := HGR.out; omega)) _⟩
end Go.Proofs.Ytlhkkffljjbdmaa
