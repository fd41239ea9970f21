/- Walks of the reference's hash: the bytes, padded. Conditions: each theorem's own. -/
import Derived.Test.YtlhkkffljjbdmaaRd
import Derived.Laws.MakeOwn
namespace Go.Proofs.Ytlhkkffljjbdmaa
open Go.RowKit Go.Sig

theorem tByt : SliceTy Try.prog 27 5 1 1 (.int .u8 0) := ⟨by kernel_rfl, by kernel_rfl, rfl, by decide⟩
theorem _root_.Go.Sig.Own.cap {w : World} {e size n c : Nat} {A : Option Addr} {xs : List Value} (h : Own w e size (.slice A n c) n xs) : n ≤ c := by
  rcases h.2 with ⟨hv, h0⟩ | ⟨g, cap, cur, hv, _, hh, h1, h2, h3, h4⟩
  · omega
  · injection hv with _ _ hc
    omega
/-- 'make([]byte, 0, c)'. -/
theorem make_byts (w : World) (c : Nat) (hc : c ≤ 100000000000000) : ∃ w', (Instr.makeSlice 27 (.int .i64 0) (.int .i64 (c : Int))).run Try.prog w = .ok (.slice (some ⟨w.heap.size, 0, none⟩) 0 c) w' ∧
    Own w' 5 1 (.slice (some ⟨w.heap.size, 0, none⟩) 0 c) 0 [] ∧ Fr [] w w' := by
  obtain ⟨i, hi, hz, hs, hby⟩ := info_parts tByt.info
  obtain ⟨w', h1, h2, h3⟩ := run_make_own (P := Try.prog) w 0 27 5 i (.int .u8 0) 1 tByt.ty hi hz hs .i64 .i64 c (by rw [hby]; omega) (by unfold maxLen; omega) (Nat.zero_le _)
  exact ⟨w', h1, h2, (Fr.refl _ _).grown h3 (fun k hk => by cases hk)⟩
theorem byts_one (x : UInt8) {w : World} {g : Nat} {t : TypeId} (h : Blk w g t #[.int .u8 x.toNat]) : Rd w 1 (some ⟨g, 0, none⟩) 1 ([x].map bv) :=
  byts_new (l := [x]) h rfl rfl

/-- The bytes so far: with 128 and so many zeros behind. -/
def PadSt (w wr : World) (l : List UInt8) (z : Nat) (s : Value) : Prop :=
  ∃ A c, s = .slice A (l.length + 1 + z) c ∧ Own wr 5 1 (.slice A (l.length + 1 + z) c) (l.length + 1 + z) ((l ++ 128 :: List.replicate z 0).map bv) ∧ (∀ g, g ∈ rowOf (.slice A (l.length + 1 + z) c) → w.heap.size ≤ g) ∧ Fr [] w wr
theorem pad_step (l : List UInt8) (z : Nat) : (l ++ 128 :: List.replicate z 0).map bv ++ [(0 : UInt8)].map bv = (l ++ 128 :: List.replicate (z + 1) 0).map bv := by
  rw [List.replicate_succ']
  simp

set_option maxRecDepth 100000 in
set_option maxHeartbeats 4000000 in
theorem rpadded_t (w : World) (A : Option Addr) (n c : Nat) (l : List UInt8) (hb : Byts w A n l) (hA : A = none → n = 0) (hmax : n ≤ 1000000000000) :
   Calls Try.prog 71 #[.slice A n c] w fun e w' => ∃ g c', e = .returned (.slice (some ⟨g, 0, none⟩) (padded l).length c') ∧ Byts w' (some ⟨g, 0, none⟩) (padded l).length (padded l) ∧ Fr [] w w' ∧ w.heap.size ≤ g ∧ (padded l).length ≤ c' := by
  have hl := hb.length
  obtain ⟨w0, hrun, hO0, F0⟩ := make_byts w (n + 80) (by omega)
  have hnn : ((n + 80 : Nat) : Int) = (n : Int) + 80 := by omega
  rw [hnn] at hrun
  go_enter Try.func71, Try.ntmps71
  go_upto_region 2 with (refine wpList_own_append tByt hO0 (Rd.fr hb F0 (by simp [Off])) (bv_one l) hA (by unfold maxLen; omega) (by omega) rfl rfl rfl rfl (fun v1 w1 q1 q2 q3 => ?_); obtain ⟨A1, c1, rfl, hA1⟩ := q1.form)
  have R0 : ∀ g, g ∈ rowOf (.slice (some ⟨w.heap.size, 0, none⟩) 0 (n + 80)) → w.heap.size ≤ g := fun g hg => by simp [rowOf, Value.ownBlock] at hg; omega
  have F1 : Fr [] w w1 := F0.andThen q2 (fun x hx => .inr (R0 x hx))
  have R1 : ∀ g, g ∈ rowOf (.slice A1 (0 + n) c1) → w.heap.size ≤ g := fun g hg => (q3 g hg).elim (R0 g) (fun e => by rw [e]; exact F0.size)
  have e1 : [] ++ l.map bv = l.map bv := rfl
  rw [Nat.zero_add] at R1
  rw [e1, Nat.zero_add] at q1
  clear hA1 q2 q3 R0 F0 hO0 hrun
  go_upto_block 0 with (refine wpList_own_append tByt (q1.fr ((Fr.refl [] _).alloc _) (by simp)) (byts_one 128 (Blk.new _ _ _)) (bv_one [128]) (by simp) (by unfold maxLen; omega) (by omega) rfl rfl rfl rfl (fun v2 w2 p1 p2 p3 => ?_); obtain ⟨A2, c2, rfl, hA2⟩ := p1.form)
  have F2 : Fr [] w w2 := (F1.alloc _).andThen p2 (fun x hx => .inr (R1 x hx))
  have R2 : ∀ g, g ∈ rowOf (.slice A2 (n + 1) c2) → w.heap.size ≤ g := fun g hg => (p3 g hg).elim (R1 g) (fun e => by rw [e]; exact Nat.le_trans F1.size (by simp))
  have hS : PadSt w w2 l 0 (.slice A2 (n + 1) c2) := by
    refine ⟨A2, c2, by rw [hl], ?_, by rw [hl]; exact R2, F2⟩
    rw [hl]
    have e2 : (l ++ 128 :: List.replicate 0 0).map bv = l.map bv ++ [(128 : UInt8)].map bv := by simp
    rw [e2]
    exact p1
  clear q1 F1 R1 e1 p1 p2 p3 hA2 F2 R2
  go_cut [3] from 16 to 22 (fun s3 wx => ∃ z, n + 1 + z = 64 * ((n + 72) / 64) - 8 ∧ PadSt w wx l z s3)
  case first =>
    go_wp2_with fail
    go_loopg [3] 65 (fun gk s3 wr => ∃ z, n + 1 + z ≤ 64 * ((n + 72) / 64) - 8 ∧ 64 * ((n + 72) / 64) - 8 - (n + 1 + z) < gk ∧ PadSt w wr l z s3)
    case atStart => exact ⟨0, by omega, by omega, hS⟩
    case round =>
      clear hS
      obtain ⟨z, hz1, hz2, A3, c3, rfl, O3, R3, F3⟩ := hrel
      rw [hl] at O3 R3 ⊢
      have hremt : ((n + 1 + z : Nat) : Int).tmod 64 = ((n + 1 + z) % 64 : Nat) := by rw [Int.tmod_eq_emod_of_nonneg (by omega)]; omega
      have hrem : ((n + 1 + z : Nat) : Int) % 64 = ((n + 1 + z) % 64 : Nat) := by omega
      have hq := Lib.hid (show (n + 1 + z) % 64 = 56 ↔ n + 1 + z = 64 * ((n + 72) / 64) - 8 by omega)
      have hm63 : n + 1 + z + 1 ≤ 1000000000200 := by omega
      obtain ⟨q, hqq⟩ : ∃ x, Hid ((n + 1 + z) % 64 = x) := ⟨_, Lib.hid rfl⟩
      rw [hqq.out] at hrem hremt
      by_cases he : q = 56
      · subst he
        have hfin := hq.out.1 hqq.out
        have he1 : (((56 : Nat) : Int) != 56) = false := by decide
        go_wp2_with fail
        go_meet
        exact ⟨z, hfin, A3, c3, by rw [hl], by rw [hl]; exact O3, by rw [hl]; exact R3, F3⟩
      · have hlt : n + 1 + z < 64 * ((n + 72) / 64) - 8 := by
          have : ¬ n + 1 + z = 64 * ((n + 72) / 64) - 8 := fun e => he (by rw [← hqq.out]; exact hq.out.2 e)
          omega
        have he1 : ((q : Int) == 56) = false := by simp; omega
        have he2 : decide ((q : Int) = 56) = false := by simp; omega
        have he3 : ((q : Int) != 56) = true := by simp; omega
        go_wp2_with (refine wpList_own_append tByt (O3.fr ((Fr.refl [] _).alloc _) (by simp)) (byts_one 0 (Blk.new _ _ _)) (bv_one [0]) (by simp) (by unfold maxLen; omega) (by omega) rfl rfl rfl rfl (fun v2 w2 p1 p2 p3 => ?_); obtain ⟨A2, c2, rfl, hA2⟩ := p1.form)
        go_roundg (64 * ((n + 72) / 64) - 8 - (n + 1 + z))
        case measure => exact hz2
        case rel =>
          refine ⟨z + 1, by omega, by omega, A2, c2, by rw [hl]; rfl, ?_, ?_, (F3.alloc _).andThen p2 (fun x hx => .inr (R3 x hx))⟩
          · rw [hl, ← pad_step]
            exact p1
          · rw [hl]
            exact fun g hg => (p3 g hg).elim (R3 g) (fun e => by rw [e]; exact Nat.le_trans F3.size (by simp))
  case rest =>
    clear hS
    obtain ⟨z, hz, A3, c3, rfl, O3, R3, F3⟩ := hcut
    rw [hl] at O3 R3 ⊢
    have hpad : padded l = (l ++ 128 :: List.replicate z 0) ++ be8 (n * 8) := by
      unfold padded
      rw [hl, show (119 - n % 64) % 64 = z by omega, show n * 8 % 18446744073709551616 = n * 8 by omega]
    have hpl : (padded l).length = n + 1 + z + 8 := by rw [padded_length, hl]; omega
    have hpadh := Lib.hid hpad
    have hplh := Lib.hid hpl
    have hzb : n + 1 + z ≤ 1000000000200 := by omega
    clear hpad hpl hz
    go_upto_region 7 with (fail)
    refine wp_gen (fun W4 => Blk W4 wc.heap.size 139 #[.int .u8 0, .int .u8 0, .int .u8 0, .int .u8 0, .int .u8 0, .int .u8 0, .int .u8 0, .int .u8 0] ∧ Fr [] wc W4) ⟨Blk.new _ _ _, (Fr.refl _ _).alloc _⟩ ?_
    rintro W4 ⟨hB8, F4⟩
    have O4 := O3.fr F4 (by simp)
    have f4 := F3.trans F4
    have hrl := O3.lt
    obtain ⟨g8, HG8⟩ : ∃ x, Hid (wc.heap.size = x) := ⟨_, Lib.hid rfl⟩
    have hg8w : w.heap.size ≤ g8 := by rw [← HG8.out]; exact F3.size
    rw [HG8.out] at hB8 hrl ⊢
    clear O3 F3 F4
    have hN : 8 * (n : Int) = ((n * 8 : Nat) : Int) := by omega
    rw [hN]
    obtain ⟨N, HN⟩ : ∃ x, Hid (n * 8 = x) := ⟨_, Lib.hid rfl⟩
    have hNl : N < 18446744073709551616 := by have := HN.out; omega
    rw [HN.out] at hpadh ⊢
    clear hN
    go_upto_block 2 with (fail)
    go_cut [4, 6] from 27 to 37 (fun s4 s6 wx => Blk wx g8 139 ((be8 N).map bv).toArray ∧ Fr [g8] W4 wx)
    case first =>
      go_wp2_with fail
      go_loopg [4, 6] 9 (fun gk s4 s6 wr => ∃ (k : Nat) (ds : Array Value), s6 = .int .i64 (7 - (k : Int)) ∧ s4 = .int .u64 ((N / 256 ^ k : Nat) : Int) ∧ k ≤ 8 ∧ 8 - k < gk ∧ Blk wr g8 139 ds ∧ ds.size = 8 ∧ (∀ j, j < k → ds[7 - j]? = some (bv (UInt8.ofNat (N / 256 ^ j)))) ∧ Fr [g8] W4 wr)
      case atStart => exact ⟨0, _, rfl, by simp, by omega, by omega, hB8, rfl, fun j hj => by omega, Fr.refl _ _⟩
      case round =>
        clear hB8
        obtain ⟨k, ds, rfl, rfl, hk8, hk, hB8, hds, hpre, F8⟩ := hrel
        by_cases hlt : k < 8
        · have p0 : (0 : Int) ≤ 7 - (k : Int) := by omega
          have p1 : 7 - (k : Int) < 8 := by omega
          have p2 : (7 - (k : Int)).toNat = 7 - k := by omega
          have hq : N / 256 ^ k < 18446744073709551616 := Nat.lt_of_le_of_lt (Nat.div_le_self _ _) hNl
          have hqs := Lib.hid (show N / 256 ^ (k + 1) = N / 256 ^ k / 256 by rw [Nat.pow_succ, Nat.div_div_eq_div_mul])
          obtain ⟨q, Hq⟩ : ∃ x, Hid (N / 256 ^ k = x) := ⟨_, Lib.hid rfl⟩
          rw [Hq.out] at hq hqs ⊢
          have hci : wr.cell? ⟨g8, 7 - k, none⟩ = some ds[7 - k] := by rw [hB8.cell]; exact Array.getElem?_eq_getElem (by omega)
          have hfz := hB8.frozen (7 - k)
          go_wp2_with fail
          go_roundg (8 - k)
          case measure => omega
          case rel =>
            refine ⟨k + 1, _, by go_num, ?_, by omega, by omega, hB8.set (7 - k) _, by simpa using hds, ?_, F8.setCell (by simp) _⟩
            · rw [hqs.out]
              simp
            · intro j hj
              rw [Array.getElem?_setIfInBounds]
              by_cases e : j = k
              · subst e
                rw [if_pos rfl, if_pos (by omega), Hq.out, b_ext (n := (q : Int)) (k := q) (by omega)]
              · rw [if_neg (by omega)]
                exact hpre j (by omega)
        · have hk8' : k = 8 := by omega
          subst hk8'
          have hge : ¬ (0 : Int) ≤ 7 - ((8 : Nat) : Int) := by omega
          have e8 : ds = ((be8 N).map bv).toArray := by
            have hbl : (be8 N).length = 8 := by simp [be8]
            apply Array.ext_getElem?
            intro j
            by_cases hj : j < 8
            · have h1 := hpre (7 - j) (by omega)
              have h2 := be8_div N (7 - j) (by omega)
              rw [show 7 - (7 - j) = j by omega] at h1 h2
              rw [h1, List.getElem?_toArray, List.getElem?_map, ← h2]
              simp [List.getD, List.getElem?_eq_getElem (show j < (be8 N).length by omega)]
            · rw [Array.getElem?_eq_none (by omega), Array.getElem?_eq_none (by simp [be8]; omega)]
          subst e8
          clear hpre hds hlt hk hk8
          generalize N / 256 ^ 8 = q
          go_wp2
          go_meet
          exact ⟨hB8, F8⟩
    case rest =>
      clear hB8
      obtain ⟨hB8, F8⟩ := hcut
      have hn8 : ∀ g, g ∈ rowOf (.slice A3 (n + 1 + z) c3) → g ∉ [g8] := fun g hg => by have := hrl g hg; simp; omega
      have O5 := O4.fr F8 hn8
      have f5 : Fr [] w wc := f4.andThen F8 (fun x hx => .inr (by simp at hx; omega))
      have hr8 : Rd wc 1 (some ⟨g8, 0, none⟩) 8 ((be8 N).map bv) := byts_new hB8 rfl (by simp [be8])
      have hgl := hB8.lt
      clear O4 F8 f4
      go_wp2_with (refine wpList_own_append tByt O5 hr8 (bv_one (be8 N)) (by simp) (by unfold maxLen; omega) (by omega) rfl rfl rfl rfl (fun v2 w2 p1 p2 p3 => ?_); obtain ⟨A2, c2, rfl, hA2⟩ := p1.form)
      have hrows : ∀ g, g ∈ rowOf (.slice A2 (n + 1 + z + 8) c2) → w.heap.size ≤ g := fun g hg => (p3 g hg).elim (R3 g) (fun e => by rw [e]; exact f5.size)
      have fe : Fr [] w w2 := f5.andThen p2 (fun x hx => .inr (R3 x hx))
      have hrd := p1.rd
      have hcap := p1.cap
      rw [← List.map_append, ← hpadh.out] at hrd
      have hlen := hplh.out
      clear p1 p2 p3 O5
      rcases hA2 with rfl | ⟨g, rfl, hg⟩
      · obtain ⟨_, _, h0, _⟩ := hrd.2 (by omega)
        cases h0
      · have hg2 := hrows g (by simp [rowOf, Value.ownBlock])
        go_ret
        rw [hlen]
        exact ⟨g, c2, rfl, hrd, fe, hg2, hcap⟩
end Go.Proofs.Ytlhkkffljjbdmaa
