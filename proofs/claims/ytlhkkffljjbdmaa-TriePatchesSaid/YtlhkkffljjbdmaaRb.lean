/- Walks of the reference's hash: a word moved and turned down, the constants. Conditions: each theorem's own. -/
import Derived.Test.YtlhkkffljjbdmaaSf
import Derived.Test.YtlhkkffljjbdmaaRa
namespace Go.Proofs.Ytlhkkffljjbdmaa
open Go.RowKit Go.Sig

set_option maxHeartbeats 1000000 in
theorem rdown_t (x : UInt32) (n : Nat) (hn : n ≤ 100) (w : World) : Calls Try.prog 73 #[.int .u32 x.toNat, .int .i64 n] w fun e w' => e = .returned (.int .u32 ((x.toNat / 2 ^ n : Nat) : Int)) ∧ w = w' := by
  have hx := x.toNat_lt
  obtain ⟨X, HX⟩ : ∃ X, Hid (x.toNat = X) := ⟨_, Lib.hid rfl⟩
  rw [HX.out] at hx ⊢
  go_enter Try.func73, Try.ntmps73
  go_wp2_with fail
  go_loopg [0, 5] (n + 1) (fun gk s0 s5 wr => ∃ (i Y : Nat), s5 = .int .i64 i ∧ s0 = .int .u32 Y ∧ Y = X / 2 ^ i ∧ i ≤ n ∧ n - i < gk ∧ w = wr)
  case atStart => exact ⟨0, X, rfl, rfl, by simp, by omega, by omega, rfl⟩
  case round =>
    obtain ⟨i, Y, rfl, rfl, hY, hi, hk, rfl⟩ := hrel
    have hYh := Lib.hid hY
    have hYl : Y < 4294967296 := by rw [hY]; exact Nat.lt_of_le_of_lt (Nat.div_le_self _ _) hx
    clear hY
    by_cases hlt : i < n
    · have hlt' : (i : Int) < n := by omega
      go_wp2
      go_roundg (n - i)
      case measure => omega
      case rel =>
        refine ⟨i + 1, Y / 2, by go_num, by go_num, ?_, by omega, by omega, rfl⟩
        rw [hYh.out, Nat.pow_succ, Nat.div_div_eq_div_mul]
    · have hin : i = n := by omega
      have hge : ¬ (i : Int) < n := by omega
      clear hlt hk
      go_wp2
      go_ret
      exact ⟨ret_word (by rw [hYh.out, hin]; simp), rfl⟩
set_option maxHeartbeats 1000000 in
theorem rturn_t (x : UInt32) (n : Nat) (hn : n ≤ 31) (w : World) : Calls Try.prog 95 #[.int .u32 x.toNat, .int .i64 n] w fun e w' => e = .returned (.int .u32 (rotr x n).toNat) ∧ w = w' := by
  have hx := x.toNat_lt
  have hend := Lib.hid (rotr_nat x (i := n) (by omega))
  have hlt32 := Lib.hid (fun (i : Nat) (h : i < 32) => (rotr_nat x h) ▸ (rotr x i).toNat_lt)
  obtain ⟨X, HX⟩ : ∃ X, Hid (x.toNat = X) := ⟨_, Lib.hid rfl⟩
  rw [HX.out] at hx hend hlt32 ⊢
  obtain ⟨R, HR⟩ : ∃ R, Hid ((rotr x n).toNat = R) := ⟨_, Lib.hid rfl⟩
  rw [HR.out] at hend ⊢
  go_enter Try.func95, Try.ntmps95
  go_wp2_with fail
  go_loopg [0, 5] (n + 1) (fun gk s0 s5 wr => ∃ (i Y : Nat), s5 = .int .i64 i ∧ s0 = .int .u32 Y ∧ Y = rotN X i ∧ i ≤ n ∧ n - i < gk ∧ w = wr)
  case atStart => exact ⟨0, X, rfl, rfl, by rw [rotN_zero], by omega, by omega, rfl⟩
  case round =>
    obtain ⟨i, Y, rfl, rfl, hY, hi, hk, rfl⟩ := hrel
    have hYh := Lib.hid hY
    have hYl : Y < 4294967296 := by rw [hY]; exact hlt32.out i (by omega)
    clear hY
    by_cases hlt : i < n
    · have hlt' : (i : Int) < n := by omega
      have hst := Lib.hid (rotN_step X (i := i) (by omega))
      have hm : Y % 2 = 0 ∨ Y % 2 = 1 := by omega
      rcases hm with hm | hm
      · have hmi : (Y : Int) % 2 = 0 := by omega
        have hmt : ((Y : Int) % 2 == 1) = false := by rw [hmi]; rfl
        have hmh := Lib.hid hm
        clear hm hmi
        go_wp2
        go_roundg (n - i)
        case measure => omega
        case rel =>
          refine ⟨i + 1, Y / 2, by go_num, by go_num, ?_, by omega, by omega, rfl⟩
          rw [hst.out, ← hYh.out, hmh.out]
          omega
      · have hmi : (Y : Int) % 2 = 1 := by omega
        have hmt : ((Y : Int) % 2 == 1) = true := by rw [hmi]; rfl
        have hmh := Lib.hid hm
        clear hm hmi
        go_wp2
        go_roundg (n - i)
        case measure => omega
        case rel =>
          refine ⟨i + 1, Y / 2 + 2147483648, by go_num, by go_num, ?_, by omega, by omega, rfl⟩
          rw [hst.out, ← hYh.out, hmh.out]
    · have hin : i = n := by omega
      have hge : ¬ (i : Int) < n := by omega
      clear hlt hk
      go_wp2
      go_ret
      refine ⟨ret_word ?_, rfl⟩
      rw [hend.out, hYh.out, hin]
theorem rturn_any (x : UInt32) (k : Int) (w : World) (hk : decide (1 ≤ k ∧ k ≤ 31) = true) : Calls Try.prog 95 #[.int .u32 x.toNat, .int .i64 k] w fun e w' => e = .returned (.int .u32 (rotr x k.toNat).toNat) ∧ w = w' := by
  have hk' := of_decide_eq_true hk
  obtain ⟨n, rfl⟩ : ∃ n : Nat, k = (n : Int) := ⟨k.toNat, by omega⟩
  rw [Int.toNat_natCast]
  exact rturn_t x n (by omega) w
theorem rdown_any (x : UInt32) (k : Int) (w : World) (hk : decide (0 ≤ k ∧ k ≤ 31) = true) : Calls Try.prog 73 #[.int .u32 x.toNat, .int .i64 k] w fun e w' => e = .returned (.int .u32 ((x.toNat / 2 ^ k.toNat : Nat) : Int)) ∧ w = w' := by
  have hk' := of_decide_eq_true hk
  obtain ⟨n, rfl⟩ : ∃ n : Nat, k = (n : Int) := ⟨k.toNat, by omega⟩
  rw [Int.toNat_natCast]
  exact rdown_t x n (by omega) w
theorem infoW64 : (Try.prog.info? 150).map (·.size) = some kCells.size := by kernel_rfl
set_option maxRecDepth 100000 in
theorem rk_t (t : Nat) (h : t < 64) (w : World) : Calls Try.prog 96 #[.int .i64 t] w fun e w' => e = .returned (.int .u32 (kAt t).toNat) ∧ Fr [] w w' := by
  go_enter Try.func96, Try.ntmps96
  go_upto_region 2 with (first
    | (refine wpList_build_k rfl 150 _ rfl (cells := kCells) ?_ ?_; (focus kernel_rfl))
    | (refine wpList_store_row rfl 150 _ _ rfl w.heap.size kCells rfl rfl 150 _ (Blk.new w 150 _) infoW64 (by rfl) (by kernel_rfl) ?_))
  refine wp_gen (fun W => Blk W w.heap.size 150 kCells ∧ Fr [] w W) ⟨Blk.setRow (Blk.new w 150 _) _, ((Fr.refl _ _).alloc _).setRow (.inr (Nat.le_refl _)) _⟩ ?_
  rintro W ⟨hB, fW⟩
  have ck := (hB.cell t).trans (kCells_get h)
  have hti : (t : Int) < 64 := by omega
  go_wp2
  go_ret
  exact ⟨rfl, fW⟩
end Go.Proofs.Ytlhkkffljjbdmaa
