/- Walks of the reference's hash: a word moved and turned down, the constants. Conditions: each theorem's own. -/
import Derived.Test.YtlhkkffljjbdmaaSa
import Derived.Test.YtlhkkffljjbdmaaSf
namespace Go.Sig
open Go.RowKit

/-- A word turned i bits down, as a number. -/
def rotN (X i : Nat) : Nat := X / 2 ^ i + X % 2 ^ i * 2 ^ (32 - i)
theorem rotr_nat (x : UInt32) {i : Nat} (h : i < 32) : (rotr x i).toNat = rotN x.toNat i := by
  show (x.toBitVec.rotateRight i).toNat = _
  rw [BitVec.toNat_rotateRight, Nat.mod_eq_of_lt h, Nat.shiftRight_eq_div_pow, Nat.shiftLeft_eq]
  have hX : x.toNat < 2 ^ 32 := x.toNat_lt
  show x.toNat / 2 ^ i ||| x.toNat * 2 ^ (32 - i) % 2 ^ 32 = rotN x.toNat i
  generalize x.toNat = X at hX
  have e1 : X * 2 ^ (32 - i) % 2 ^ 32 = 2 ^ (32 - i) * (X % 2 ^ i) := by
    have : (2 : Nat) ^ 32 = 2 ^ i * 2 ^ (32 - i) := by rw [← Nat.pow_add]; congr 1; omega
    rw [this, Nat.mul_mod_mul_right, Nat.mul_comm]
  have hlt : X / 2 ^ i < 2 ^ (32 - i) := by
    rw [Nat.div_lt_iff_lt_mul (Nat.two_pow_pos i), ← Nat.pow_add]
    rwa [show 32 - i + i = 32 by omega]
  rw [e1, Nat.or_comm, ← Nat.two_pow_add_eq_or_of_lt hlt]
  unfold rotN
  rw [Nat.mul_comm, Nat.add_comm]
theorem rotN_step (X : Nat) {i : Nat} (h : i < 32) : rotN X (i + 1) = rotN X i / 2 + rotN X i % 2 * 2147483648 := by
  unfold rotN
  have e2 : (2 : Nat) ^ (32 - i) = 2 * 2 ^ (31 - i) := by rw [show 32 - i = (31 - i) + 1 by omega, Nat.pow_succ, Nat.mul_comm]
  have e3 : (2 : Nat) ^ (32 - (i + 1)) = 2 ^ (31 - i) := by congr 1; omega
  have e4 : (2147483648 : Nat) = 2 ^ i * 2 ^ (31 - i) := by rw [← Nat.pow_add, show i + (31 - i) = 31 by omega]
  have hp := Nat.two_pow_pos i
  have hd : X / 2 ^ (i + 1) = X / 2 ^ i / 2 := by rw [Nat.pow_succ, Nat.div_div_eq_div_mul]
  have hm : X % 2 ^ (i + 1) = X % 2 ^ i + 2 ^ i * (X / 2 ^ i % 2) := by rw [Nat.pow_succ, Nat.mod_mul]
  rw [e2, e3, hd, hm]
  generalize X / 2 ^ i = A
  generalize X % 2 ^ i = C
  have e5 : C * (2 * 2 ^ (31 - i)) = 2 * (C * 2 ^ (31 - i)) := by rw [Nat.mul_left_comm]
  rw [e5]
  have e6 : (A + 2 * (C * 2 ^ (31 - i))) / 2 = A / 2 + C * 2 ^ (31 - i) := by omega
  have e7 : (A + 2 * (C * 2 ^ (31 - i))) % 2 = A % 2 := by omega
  rw [e6, e7, Nat.add_mul]
  have e8 : 2 ^ i * (A % 2) * 2 ^ (31 - i) = A % 2 * 2147483648 := by
    rw [e4, Nat.mul_comm (2 ^ i) (A % 2), Nat.mul_assoc]
  rw [e8]
  omega
theorem rotN_zero (X : Nat) : rotN X 0 = X := by
  unfold rotN
  rw [Nat.pow_zero, Nat.mod_one, Nat.div_one]
  omega
theorem compl_nat (x : UInt32) : (4294967295 ^^^ x : UInt32).toNat = 4294967295 - x.toNat := by
  rw [UInt32.toNat_xor]
  have h : (BitVec.allOnes 32 ^^^ x.toBitVec).toNat = 2 ^ 32 - 1 - x.toBitVec.toNat := by rw [BitVec.allOnes_xor, BitVec.toNat_not]
  rw [BitVec.toNat_xor, BitVec.toNat_allOnes] at h
  exact h
/-- The word of four bytes, byte by byte. -/
def acc4 (f : Nat → UInt8) : Nat → Nat
  | 0 => 0
  | j + 1 => 256 * acc4 f j + (f j).toNat
theorem acc4_lt (f : Nat → UInt8) : ∀ j, acc4 f j < 256 ^ j
  | 0 => by simp [acc4]
  | j + 1 => by
    have := acc4_lt f j
    have hb := (f j).toNat_lt
    unfold acc4
    rw [Nat.pow_succ]
    omega
theorem acc4_word (f : Nat → UInt8) : acc4 f 4 = (word4 (f 0) (f 1) (f 2) (f 3)).toNat := by
  have h := acc4_lt f 4
  have h0 := (f 0).toNat_lt
  have h1 := (f 1).toNat_lt
  have h2 := (f 2).toNat_lt
  have h3 := (f 3).toNat_lt
  unfold word4
  rw [UInt32.toNat_ofNat_of_lt' (by simp [UInt32.size]; omega)]
  simp only [acc4]
  omega
theorem be8_div (n k : Nat) (h : k < 8) : (be8 n).getD (7 - k) 0 = UInt8.ofNat (n / 256 ^ k) := by
  unfold be8
  simp only [List.getD, List.getElem?_map, List.getElem?_range (show 7 - k < 8 by omega), Option.map_some, Option.getD_some]
  rw [show 56 - 8 * (7 - k) = 8 * k by omega, Nat.pow_mul]
end Go.Sig
namespace Go.Proofs.Ytlhkkffljjbdmaa
open Go.RowKit Go.Sig

set_option maxHeartbeats 1000000 in
theorem rdown_t (x : UInt32) (n : Nat) (hn : n ≤ 100) (w : World) : Calls Try.prog 73 #[.int .u32 x.toNat, .int .i64 n] w fun e w' => e = .returned (.int .u32 ((x.toNat / 2 ^ n : Nat) : Int)) ∧ w = w' := by
  have hx := x.toNat_lt
  obtain ⟨X, HX⟩ : ∃ X, Hid (x.toNat = X) := ⟨_, Lib.hid rfl⟩
  rw [HX.out] at hx ⊢
  go_enter Try.func73, Try.ntmps73
  go_wp2_with fail
  go_loopg [0, 5] (n + 1) (fun gk s0 s5 wr => ∃ (i Y : Nat), s5 = .int .i64 i ∧ s0 = .int .u32 Y ∧ Y = X / 2 ^ i ∧ i ≤ n ∧ n - i < gk ∧ w = wr)
  case atStart => exact ⟨0, X, rfl, rfl, by simp, by omega, by omega, rfl⟩
  case round =>
    obtain ⟨i, Y, rfl, rfl, hY, hi, hk, rfl⟩ := hrel
    have hYh := Lib.hid hY
    have hYl : Y < 4294967296 := by rw [hY]; exact Nat.lt_of_le_of_lt (Nat.div_le_self _ _) hx
    clear hY
    by_cases hlt : i < n
    · have hlt' : (i : Int) < n := by omega
      go_wp2
      go_roundg (n - i)
      case measure => omega
      case rel =>
        refine ⟨i + 1, Y / 2, by go_num, by go_num, ?_, by omega, by omega, rfl⟩
        rw [hYh.out, Nat.pow_succ, Nat.div_div_eq_div_mul]
    · have hin : i = n := by omega
      have hge : ¬ (i : Int) < n := by omega
      clear hlt hk
      go_wp2
      go_ret
      exact ⟨ret_word (by rw [hYh.out, hin]; simp), rfl⟩
set_option maxHeartbeats 1000000 in
theorem rturn_t (x : UInt32) (n : Nat) (hn : n ≤ 31) (w : World) : Calls Try.prog 95 #[.int .u32 x.toNat, .int .i64 n] w fun e w' => e = .returned (.int .u32 (rotr x n).toNat) ∧ w = w' := by
  have hx := x.toNat_lt
  have hend := Lib.hid (rotr_nat x (i := n) (by omega))
  have hlt32 := Lib.hid (fun (i : Nat) (h : i < 32) => (rotr_nat x h) ▸ (rotr x i).toNat_lt)
  obtain ⟨X, HX⟩ : ∃ X, Hid (x.toNat = X) := ⟨_, Lib.hid rfl⟩
  rw [HX.out] at hx hend hlt32 ⊢
  obtain ⟨R, HR⟩ : ∃ R, Hid ((rotr x n).toNat = R) := ⟨_, Lib.hid rfl⟩
  rw [HR.out] at hend ⊢
  go_enter Try.func95, Try.ntmps95
  go_wp2_with fail
  go_loopg [0, 5] (n + 1) (fun gk s0 s5 wr => ∃ (i Y : Nat), s5 = .int .i64 i ∧ s0 = .int .u32 Y ∧ Y = rotN X i ∧ i ≤ n ∧ n - i < gk ∧ w = wr)
  case atStart => exact ⟨0, X, rfl, rfl, by rw [rotN_zero], by omega, by omega, rfl⟩
  case round =>
    obtain ⟨i, Y, rfl, rfl, hY, hi, hk, rfl⟩ := hrel
    have hYh := Lib.hid hY
    have hYl : Y < 4294967296 := by rw [hY]; exact hlt32.out i (by omega)
    clear hY
    by_cases hlt : i < n
    · have hlt' : (i : Int) < n := by omega
      have hst := Lib.hid (rotN_step X (i := i) (by omega))
      have hm : Y % 2 = 0 ∨ Y % 2 = 1 := by omega
      rcases hm with hm | hm
      · have hmi : (Y : Int) % 2 = 0 := by omega
        have hmt : ((Y : Int) % 2 == 1) = false := by rw [hmi]; rfl
        have hmh := Lib.hid hm
        clear hm hmi
        go_wp2
        go_roundg (n - i)
        case measure => omega
        case rel =>
          refine ⟨i + 1, Y / 2, by go_num, by go_num, ?_, by omega, by omega, rfl⟩
          rw [hst.out, ← hYh.out, hmh.out]
          omega
      · have hmi : (Y : Int) % 2 = 1 := by omega
        have hmt : ((Y : Int) % 2 == 1) = true := by rw [hmi]; rfl
        have hmh := Lib.hid hm
        clear hm hmi
        go_wp2
        go_roundg (n - i)
        case measure => omega
        case rel =>
          refine ⟨i + 1, Y / 2 + 2147483648, by go_num, by go_num, ?_, by omega, by omega, rfl⟩
          rw [hst.out, ← hYh.out, hmh.out]
    · have hin : i = n := by omega
      have hge : ¬ (i : Int) < n := by omega
      clear hlt hk
      go_wp2
      go_ret
      refine ⟨ret_word ?_, rfl⟩
      rw [hend.out, hYh.out, hin]
theorem rturn_any (x : UInt32) (k : Int) (w : World) (hk : decide (1 ≤ k ∧ k ≤ 31) = true) : Calls Try.prog 95 #[.int .u32 x.toNat, .int .i64 k] w fun e w' => e = .returned (.int .u32 (rotr x k.toNat).toNat) ∧ w = w' := by
  have hk' := of_decide_eq_true hk
  obtain ⟨n, rfl⟩ : ∃ n : Nat, k = (n : Int) := ⟨k.toNat, by omega⟩
  rw [Int.toNat_natCast]
  exact rturn_t x n (by omega) w
theorem rdown_any (x : UInt32) (k : Int) (w : World) (hk : decide (0 ≤ k ∧ k ≤ 31) = true) : Calls Try.prog 73 #[.int .u32 x.toNat, .int .i64 k] w fun e w' => e = .returned (.int .u32 ((x.toNat / 2 ^ k.toNat : Nat) : Int)) ∧ w = w' := by
  have hk' := of_decide_eq_true hk
  obtain ⟨n, rfl⟩ : ∃ n : Nat, k = (n : Int) := ⟨k.toNat, by omega⟩
  rw [Int.toNat_natCast]
  exact rdown_t x n (by omega) w
theorem infoW64 : (Try.prog.info? 150).map (·.size) = some kCells.size := by kernel_rfl
set_option maxRecDepth 100000 in
theorem rk_t (t : Nat) (h : t < 64) (w : World) : Calls Try.prog 96 #[.int .i64 t] w fun e w' => e = .returned (.int .u32 (kAt t).toNat) ∧ Fr [] w w' := by
  go_enter Try.func96, Try.ntmps96
  go_upto_region 2 with (first
    | (refine wpList_build_k rfl 150 _ rfl (cells := kCells) ?_ ?_; (focus kernel_rfl))
    | (refine wpList_store_row rfl 150 _ _ rfl w.heap.size kCells rfl rfl 150 _ (Blk.new w 150 _) infoW64 (by rfl) (by kernel_rfl) ?_))
  refine wp_gen (fun W => Blk W w.heap.size 150 kCells ∧ Fr [] w W) ⟨Blk.setRow (Blk.new w 150 _) _, ((Fr.refl _ _).alloc _).setRow (.inr (Nat.le_refl _)) _⟩ ?_
  rintro W ⟨hB, fW⟩
  have ck := (hB.cell t).trans (kCells_get h)
  have hti : (t : Int) < 64 := by omega
  go_wp2
  go_ret
  exact ⟨rfl, fW⟩
end Go.Proofs.Ytlhkkffljjbdmaa
