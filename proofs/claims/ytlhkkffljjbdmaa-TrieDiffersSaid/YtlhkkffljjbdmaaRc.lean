/- Walks of the reference's hash: the schedule of a block. Conditions: each theorem's own. -/
import Derived.Test.YtlhkkffljjbdmaaRb
namespace Go.Proofs.Ytlhkkffljjbdmaa
open Go.RowKit Go.Sig

/-- The 64 words of a block, as cells. -/
def wCells (l : List UInt8) : Array Value := ((List.range 64).map fun j => wv (wAt l j)).toArray
theorem wCells_size (l : List UInt8) : (wCells l).size = 64 := by simp [wCells]
theorem wCells_get (l : List UInt8) {j : Nat} (h : j < 64) : (wCells l)[j]? = some (wv (wAt l j)) := by
  simp [wCells, h]
theorem wCells_ext {ws : Array Value} {l : List UInt8} (hs : ws.size = 64) (h : ∀ j, j < 64 → ws[j]? = some (wv (wAt l j))) : ws = wCells l := by
  apply Array.ext_getElem?
  intro j
  by_cases hj : j < 64
  · rw [h j hj, wCells_get l hj]
  · rw [Array.getElem?_eq_none (by omega), Array.getElem?_eq_none (by rw [wCells_size]; omega)]
theorem wCells_one (l : List UInt8) : (wCells l).all (·.oneCell') = true := by
  simp [wCells, wv, Value.oneCell']
theorem uW64 : Try.prog.underlying 150 = some (.array 64 116) := by kernel_rfl
theorem infoW64' : (Try.prog.info? 150).map (·.size) = some 64 := by kernel_rfl
def zW64 : Array Value := (List.replicate 64 (.int .u32 0)).toArray
theorem zW64_get {j : Nat} (h : j < 64) : zW64[j]? = some (.int .u32 0) := by
  rw [zW64, List.getElem?_toArray, List.getElem?_replicate, if_pos h]
theorem zW64_size : zW64.size = 64 := by simp [zW64]
theorem set_same {ws : Array Value} {i : Nat} {v : Value} (h : ws[i]? = some v) : ws.setIfInBounds i v = ws := by
  apply Array.ext_getElem?
  intro j
  rw [Array.getElem?_setIfInBounds]
  by_cases e : i = j
  · subst e
    rw [if_pos rfl, h]
    have := (Array.getElem?_eq_some_iff.1 h).1
    rw [if_pos this]
  · rw [if_neg e]
theorem acc_step (a : Nat) (b : UInt8) (h : 256 * a + b.toNat < 4294967296) : (256 * (a : Int) + (b.toNat : Int)) % 4294967296 = ((256 * a + b.toNat : Nat) : Int) := by
  omega
theorem ss1_down (y : UInt32) : bits .xor .u32 (bits .xor .u32 ((rotr y 17).toNat : Int) ((rotr y 19).toNat : Int)) ((y.toNat : Int) / 1024) = ((ss1 y).toNat : Int) := by
  rw [w_shr y 10 10 rfl 1024 rfl]
  simp only [w_xor]
  rfl
theorem ss0_down (y : UInt32) : bits .xor .u32 (bits .xor .u32 ((rotr y 7).toNat : Int) ((rotr y 18).toNat : Int)) ((y.toNat : Int) / 8) = ((ss0 y).toNat : Int) := by
  rw [w_shr y 3 3 rfl 8 rfl]
  simp only [w_xor]
  rfl
theorem wgrow_form (a b s0 s1 : UInt32) : ((s1.toNat : Int) + b.toNat + s0.toNat + a.toNat) % 4294967296 = ((a + b + s0 + s1).toNat : Int) := by
  have e := UInt32.toNat_add (a + b + s0) s1
  have e2 := UInt32.toNat_add (a + b) s0
  have e3 := UInt32.toNat_add a b
  omega

set_option maxRecDepth 100000 in
set_option maxHeartbeats 4000000 in
theorem rwords_t (w : World) (A : Option Addr) (c : Nat) (l : List UInt8) (hb : Byts w A 64 l) :
   Calls Try.prog 94 #[.slice A 64 c] w fun e w' => e = .returned (.agg (wCells l)) ∧ Fr [] w w' := by
  obtain ⟨b, o, rfl, hbl, -⟩ := hb.at (i := 0) (by decide)
  go_enter Try.func94, Try.ntmps94
  go_upto_region 2 with (fail)
  refine wp_gen (fun W => (∃ zs, Blk W w.heap.size 150 zs ∧ zs = zW64) ∧ (∃ zs, Blk W (w.heap.size + 1) 150 zs ∧ zs = zW64) ∧ Fr [] w W) ⟨⟨_, (Blk.new _ _ _).alloc _, by kernel_rfl⟩, ⟨_, Blk.new' _ _ (by simp), by kernel_rfl⟩, ((Fr.refl _ _).alloc _).alloc _⟩ ?_
  rintro W ⟨⟨_, BR, rfl⟩, ⟨_, BW, rfl⟩, fW⟩
  have hbW : Byts W (some ⟨b, o, none⟩) 64 l := Rd.fr hb fW (by simp [Off])
  have hbl' : b < w.heap.size := hbl
  obtain ⟨gr, HGR⟩ : ∃ x, Hid (w.heap.size = x) := ⟨_, Lib.hid rfl⟩
  rw [HGR.out] at BR BW hbl' ⊢
  obtain ⟨gw, HGW⟩ : ∃ x, Hid (gr + 1 = x) := ⟨_, Lib.hid rfl⟩
  rw [HGW.out] at BW ⊢
  have hrw : gr ≠ gw := by have := HGW.out; omega
  have hbw : b ≠ gw := by have := HGW.out; omega
  have hwsz : w.heap.size ≤ gw := by have := HGW.out; have := HGR.out; omega
  go_upto_block 0 with (fail)
  go_cut [4, 5] from 11 to 33 (fun s4 s5 wx => ∃ (ws : Array Value), Blk wx gw 150 ws ∧ ws.size = 64 ∧ (∀ j, j < 16 → ws[j]? = some (wv (wAt l j))) ∧ Fr [gw] W wx)
  case first =>
    go_wp2_with fail
    go_loopg [4, 5] 17 (fun gk s4 s5 wr => ∃ (i : Nat) (ws : Array Value), s4 = .int .i64 i ∧ i ≤ 16 ∧ 16 - i < gk ∧ Blk wr gw 150 ws ∧ ws.size = 64 ∧ (∀ j, j < i → ws[j]? = some (wv (wAt l j))) ∧ (∀ j, i ≤ j → j < 64 → ws[j]? = some (.int .u32 0)) ∧ Fr [gw] W wr)
    case atStart => exact ⟨0, _, rfl, by omega, by omega, BW, zW64_size, fun j hj => by omega, fun j _ hj => zW64_get hj, Fr.refl _ _⟩
    case round =>
      clear BW
      obtain ⟨i, ws, rfl, hi, hk, hBw, hsz, hpre, hz, hF⟩ := hrel
      by_cases hlt : i < 16
      · have hlt' : (i : Int) < 16 := by omega
        have hi64 : (i : Int) < 64 := by omega
        have hzi := hz i (Nat.le_refl _) (by omega)
        obtain ⟨f, hf⟩ : ∃ f : Nat → UInt8, Hid (f = fun k => l.getD (4 * i + k) 0) := ⟨_, Lib.hid rfl⟩
        have hw4 : (wAt l i).toNat = acc4 f 4 := by rw [wAt_lo l hlt, w16_get l hlt, acc4_word, hf.out]; rfl
        have hw4h := Lib.hid hw4
        have hB0 : Blk wr gw 150 (ws.setIfInBounds i (.int .u32 ((acc4 f 0 : Nat) : Int))) := by rw [show ((acc4 f 0 : Nat) : Int) = 0 from rfl, set_same hzi]; exact hBw
        clear hw4 hBw hzi
        go_wp2_with fail
        go_loopg [5] 5 (fun gk s5 wr => ∃ (j : Nat), s5 = .int .i64 j ∧ j ≤ 4 ∧ 4 - j < gk ∧ Blk wr gw 150 (ws.setIfInBounds i (.int .u32 ((acc4 f j : Nat) : Int))) ∧ Fr [gw] W wr)
        case atStart => exact ⟨0, rfl, by omega, by omega, hB0, hF⟩
        case round =>
          clear hB0 hF
          obtain ⟨j, rfl, hj, hkj, hBj, hFj⟩ := hrel
          by_cases hjl : j < 4
          · have hjl' : (j : Int) < 4 := by omega
            have hbr : Byts wr (some ⟨b, o, none⟩) 64 l := Rd.fr hbW hFj (fun _ ad h => by cases h; simpa using hbw)
            have hbc : wr.cell? ⟨b, o + (4 * i + j), none⟩ = some (.int .u8 ((f j).toNat : Int)) := by
              obtain ⟨b', o', e, -, h⟩ := hbr.at (i := 4 * i + j) (by omega)
              cases e
              rw [hf.out]
              exact h
            have hci : wr.cell? ⟨gw, i, none⟩ = some (.int .u32 ((acc4 f j : Nat) : Int)) := by
              rw [hBj.cell, Array.getElem?_setIfInBounds, if_pos rfl, if_pos (by omega)]
            have hfz := hBj.frozen i
            have hlt4 := acc4_lt f (j + 1)
            have hp4 : 256 ^ (j + 1) ≤ 4294967296 := by
              have : j = 0 ∨ j = 1 ∨ j = 2 ∨ j = 3 := by omega
              rcases this with e | e | e | e <;> subst e <;> decide
            have hst := Lib.hid (acc_step (acc4 f j) (f j) (Nat.lt_of_lt_of_le hlt4 hp4))
            clear hlt4 hp4 hbr
            have hsucc : 256 * acc4 f j + (f j).toNat = acc4 f (j + 1) := rfl
            rw [hsucc] at hst
            clear hsucc
            have hbv := (f j).toNat_lt
            generalize acc4 f j = a0 at *
            obtain ⟨a1, ha1⟩ : ∃ x, Hid (acc4 f (j + 1) = x) := ⟨_, Lib.hid rfl⟩
            rw [ha1.out] at hst
            have p0 : (0 : Int) ≤ 4 * (i : Int) + j := by omega
            have b0 : 4 * (i : Int) + j < 64 := by omega
            have n0 : (4 * (i : Int) + j).toNat = 4 * i + j := by omega
            have w0 : IntKind.i64.wrap (4 * (i : Int)) = 4 * (i : Int) := by rw [IntKind.wrap_i64]; omega
            have w1 : IntKind.i64.wrap (4 * (i : Int) + j) = 4 * (i : Int) + j := by rw [IntKind.wrap_i64]; omega
            go_wp2_with fail
            refine wp_tail 15 (by kernel_rfl) (by kernel_rfl) ?_
            simp only [List.take_succ_cons, List.take_zero, List.drop_succ_cons, List.drop_zero]
            repeat still_step
            refine wpStill_nil ?_
            clear p0 b0 n0 w0 w1
            go_wp2
            go_roundg (4 - j)
            case measure => omega
            case rel =>
              refine ⟨j + 1, by go_num, by omega, by omega, ?_, (hFj.setCell (by simp) _).drew⟩
              have := (hBj.set i (.int .u32 (a1 : Int))).drew
              rw [Array.setIfInBounds_setIfInBounds] at this
              rw [ha1.out, hst.out]
              exact this
          · have hj4 : j = 4 := by omega
            subst hj4
            have hge : ¬ ((4 : Nat) : Int) < 4 := by omega
            rw [← hw4h.out] at hBj
            clear hjl hkj
            go_wp2
            go_roundg (16 - i)
            case measure => omega
            case rel =>
              refine ⟨i + 1, _, by go_num, by omega, by omega, hBj, by simpa using hsz, pre_step hpre (by omega) rfl, fun j hj hj2 => ?_, hFj⟩
              rw [Array.getElem?_setIfInBounds, if_neg (by omega)]
              exact hz j (by omega) hj2
      · have hi16 : i = 16 := by omega
        subst hi16
        have hge : ¬ ((16 : Nat) : Int) < 16 := by omega
        clear hlt hk
        go_wp2
        go_meet
        exact ⟨ws, hBw, hsz, hpre, hF⟩
  case rest =>
    clear BW
    obtain ⟨ws, hBw, hsz, hpre, hF⟩ := hcut
    go_upto_block 4 with (fail)
    go_cut [6, 7, 8, 9, 10] from 34 to 76 (fun s6 s7 s8 s9 s10 wx => ∃ (ws : Array Value), Blk wx gw 150 ws ∧ ws.size = 64 ∧ (∀ j, j < 64 → ws[j]? = some (wv (wAt l j))) ∧ Fr [gw] W wx)
    case first =>
      go_wp2_with fail
      go_loopg [6, 7, 8, 9, 10] 49 (fun gk s6 s7 s8 s9 s10 wr => ∃ (i : Nat) (ws : Array Value), s6 = .int .i64 i ∧ 16 ≤ i ∧ i ≤ 64 ∧ 64 - i < gk ∧ Blk wr gw 150 ws ∧ ws.size = 64 ∧ (∀ j, j < i → ws[j]? = some (wv (wAt l j))) ∧ Fr [gw] W wr)
      case atStart => exact ⟨16, ws, rfl, by omega, by omega, by omega, hBw, hsz, hpre, hF⟩
      case round =>
        clear hBw hsz hpre hF
        obtain ⟨i, ws, rfl, h16, hi, hk, hBw, hsz, hpre, hF⟩ := hrel
        by_cases hlt : i < 64
        · have hlt' : (i : Int) < 64 := by omega
          have q16 : (16 : Int) ≤ i := by omega
          have q15 : (15 : Int) ≤ i := by omega
          have q7 : (7 : Int) ≤ i := by omega
          have q2 : (2 : Int) ≤ i := by omega
          have hc : ∀ j, j < i → wr.cell? ⟨gw, j, none⟩ = some (wv (wAt l j)) := fun j hj => by rw [hBw.cell]; exact hpre j hj
          have c2 := hc (i - 2) (by omega)
          have c7 := hc (i - 7) (by omega)
          have c15 := hc (i - 15) (by omega)
          have c16 := hc (i - 16) (by omega)
          have hh := Lib.hid (wAt_hi l h16 hlt)
          have hci : wr.cell? ⟨gw, i, none⟩ = some ws[i] := by rw [hBw.cell]; exact Array.getElem?_eq_getElem (by omega)
          have hfz := hBw.frozen i
          generalize (ws[i]'(by omega)) = vi at *
          clear hc
          generalize wAt l (i - 2) = x2 at *
          generalize wAt l (i - 7) = x7 at *
          generalize wAt l (i - 15) = x15 at *
          generalize wAt l (i - 16) = x16 at *
          have heq := Lib.hid (wgrow_form x16 x7 (ss0 x15) (ss1 x2))
          unfold wv at c2 c7 c15 c16
          have p2 : (0 : Int) ≤ (i : Int) - 2 := by omega
          have p7 : (0 : Int) ≤ (i : Int) - 7 := by omega
          have p15 : (0 : Int) ≤ (i : Int) - 15 := by omega
          have p16 : (0 : Int) ≤ (i : Int) - 16 := by omega
          have b2 : (i : Int) - 2 < 64 := by omega
          have b7 : (i : Int) - 7 < 64 := by omega
          have b15 : (i : Int) - 15 < 64 := by omega
          have b16 : (i : Int) - 16 < 64 := by omega
          have n2 : ((i : Int) - 2).toNat = i - 2 := by omega
          have n7 : ((i : Int) - 7).toNat = i - 7 := by omega
          have n15 : ((i : Int) - 15).toNat = i - 15 := by omega
          have n16 : ((i : Int) - 16).toNat = i - 16 := by omega
          have w2 : IntKind.i64.wrap ((i : Int) - 2) = (i : Int) - 2 := by rw [IntKind.wrap_i64]; omega
          have w7 : IntKind.i64.wrap ((i : Int) - 7) = (i : Int) - 7 := by rw [IntKind.wrap_i64]; omega
          have w15 : IntKind.i64.wrap ((i : Int) - 15) = (i : Int) - 15 := by rw [IntKind.wrap_i64]; omega
          have w16' : IntKind.i64.wrap ((i : Int) - 16) = (i : Int) - 16 := by rw [IntKind.wrap_i64]; omega
          go_wp2_with fail
          refine (rturn_any x2 17 _ (by decide)).mono ?_
          rintro _ _ ⟨rfl, rfl⟩
          go_wp2_with fail
          refine (rturn_any x2 19 _ (by decide)).mono ?_
          rintro _ _ ⟨rfl, rfl⟩
          go_wp2_with fail
          refine (rdown_any x2 10 _ (by decide)).mono ?_
          rintro _ _ ⟨rfl, rfl⟩
          go_wp2_with fail
          rw [ss1_down x2]
          obtain ⟨s1, HS1⟩ : ∃ x, Hid (ss1 x2 = x) := ⟨_, Lib.hid rfl⟩
          rw [HS1.out] at heq ⊢
          refine (rturn_any x15 7 _ (by decide)).mono ?_
          rintro _ _ ⟨rfl, rfl⟩
          go_wp2_with fail
          refine (rturn_any x15 18 _ (by decide)).mono ?_
          rintro _ _ ⟨rfl, rfl⟩
          go_wp2_with fail
          refine (rdown_any x15 3 _ (by decide)).mono ?_
          rintro _ _ ⟨rfl, rfl⟩
          go_upto_region 16 with (fail)
          rw [ss0_down x15]
          obtain ⟨s0, HS0⟩ : ∃ x, Hid (ss0 x15 = x) := ⟨_, Lib.hid rfl⟩
          rw [HS0.out] at heq ⊢
          refine wp_tail 15 (by kernel_rfl) (by kernel_rfl) ?_
          simp only [List.take_succ_cons, List.take_zero, List.drop_succ_cons, List.drop_zero]
          repeat still_step
          refine wpStill_nil ?_
          clear p2 p7 p15 p16 b2 b7 b15 b16 n2 n7 n15 n16 w2 w7 w15 w16'
          go_wp2
          go_roundg (64 - i)
          case measure => omega
          case rel =>
            refine ⟨i + 1, _, by go_num, by omega, by omega, by omega, (hBw.drewN _).set i _, by simpa using hsz, pre_step hpre (by omega) ?_, (hF.drewN _).setCell (by simp) _⟩
            rw [hh.out, HS0.out, HS1.out, heq.out]
            rfl
        · have hi64 : i = 64 := by omega
          subst hi64
          have hge : ¬ ((64 : Nat) : Int) < 64 := by omega
          clear hlt hk h16 hi
          go_wp2
          go_meet
          exact ⟨ws, hBw, hsz, hpre, hF⟩
    case rest =>
      clear hBw hsz hpre hF
      obtain ⟨ws, hBw, hsz, hpre, hF⟩ := hcut
      obtain rfl := wCells_ext hsz hpre
      have BRc : Blk wc gr 150 zW64 := BR.fr hF (by simpa using hrw)
      have fc : Fr [] w wc := fW.andThen hF (fun x hx => .inr (by simp at hx; omega))
      clear hF hsz hpre BR
      have hsub : Sub (wCells l) 0 (wCells l).toList := fun j v hv => by rw [Nat.zero_add, ← Array.getElem?_toList]; exact hv
      have hinf : (Try.prog.info? 150).map (·.size) = some (wCells l).toList.length := by rw [Array.length_toList, wCells_size]; exact infoW64'
      have hinf2 : (Try.prog.info? 150).map (·.size) = some (wCells l).size := by rw [wCells_size]; exact infoW64'
      have hfit : 0 + (wCells l).size ≤ zW64.size := by rw [wCells_size, zW64_size]; decide
      have hone : ∀ v ∈ (wCells l).toList, v.oneCell' = true := fun v hv => Array.all_eq_true_iff_forall_mem.1 (wCells_one l) v (Array.mem_toList_iff.1 hv)
      go_wp2_with (first
        | (refine wpList_load_at rfl 150 _ rfl rfl hBw hsub uW64 rfl hinf ?_)
        | (refine wpList_store_at rfl 150 _ _ rfl rfl rfl BRc hinf2 hfit hone ?_))
      have B := BRc.setRow (laid zW64 0 (wCells l).toList)
      have el : laid zW64 0 (wCells l).toList = wCells l := by simp [laid, zW64, wCells_size]
      rw [el] at B
      exact bodyPost_ret (v := .agg (wCells l)) (results_cell_row rfl _ _ gr 150 (wCells l) (0, 0) _ rfl B uW64 rfl hinf2) rfl ⟨rfl, fc.setRow (.inr (by have := HGR.out; omega)) _⟩
end Go.Proofs.Ytlhkkffljjbdmaa
