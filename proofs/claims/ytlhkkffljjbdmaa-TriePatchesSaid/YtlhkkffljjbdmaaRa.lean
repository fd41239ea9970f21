/- SHA-256 as the reference has it: plain laws. Conditions: none. -/
import Derived.Test.YtlhkkffljjbdmaaSw
namespace Go.Sig
open Go.RowKit

/-- A word turned i bits down, as a number. -/
def rotN (X i : Nat) : Nat := X / 2 ^ i + X % 2 ^ i * 2 ^ (32 - i)
theorem rotr_nat (x : UInt32) {i : Nat} (h : i < 32) : (rotr x i).toNat = rotN x.toNat i := by
  show (x.toBitVec.rotateRight i).toNat = _
  rw [BitVec.toNat_rotateRight, Nat.mod_eq_of_lt h, Nat.shiftRight_eq_div_pow, Nat.shiftLeft_eq]
  have hX : x.toNat < 2 ^ 32 := x.toNat_lt
  show x.toNat / 2 ^ i ||| x.toNat * 2 ^ (32 - i) % 2 ^ 32 = rotN x.toNat i
  generalize x.toNat = X at hX
  have e1 : X * 2 ^ (32 - i) % 2 ^ 32 = 2 ^ (32 - i) * (X % 2 ^ i) := by
    have : (2 : Nat) ^ 32 = 2 ^ i * 2 ^ (32 - i) := by rw [← Nat.pow_add]; congr 1; omega
    rw [this, Nat.mul_mod_mul_right, Nat.mul_comm]
  have hlt : X / 2 ^ i < 2 ^ (32 - i) := by
    rw [Nat.div_lt_iff_lt_mul (Nat.two_pow_pos i), ← Nat.pow_add]
    rwa [show 32 - i + i = 32 by omega]
  rw [e1, Nat.or_comm, ← Nat.two_pow_add_eq_or_of_lt hlt]
  unfold rotN
  rw [Nat.mul_comm, Nat.add_comm]
theorem rotN_step (X : Nat) {i : Nat} (h : i < 32) : rotN X (i + 1) = rotN X i / 2 + rotN X i % 2 * 2147483648 := by
  unfold rotN
  have e2 : (2 : Nat) ^ (32 - i) = 2 * 2 ^ (31 - i) := by rw [show 32 - i = (31 - i) + 1 by omega, Nat.pow_succ, Nat.mul_comm]
  have e3 : (2 : Nat) ^ (32 - (i + 1)) = 2 ^ (31 - i) := by congr 1; omega
  have e4 : (2147483648 : Nat) = 2 ^ i * 2 ^ (31 - i) := by rw [← Nat.pow_add, show i + (31 - i) = 31 by omega]
  have hp := Nat.two_pow_pos i
  have hd : X / 2 ^ (i + 1) = X / 2 ^ i / 2 := by rw [Nat.pow_succ, Nat.div_div_eq_div_mul]
  have hm : X % 2 ^ (i + 1) = X % 2 ^ i + 2 ^ i * (X / 2 ^ i % 2) := by rw [Nat.pow_succ, Nat.mod_mul]
  rw [e2, e3, hd, hm]
  generalize X / 2 ^ i = A
  generalize X % 2 ^ i = C
  have e5 : C * (2 * 2 ^ (31 - i)) = 2 * (C * 2 ^ (31 - i)) := by rw [Nat.mul_left_comm]
  rw [e5]
  have e6 : (A + 2 * (C * 2 ^ (31 - i))) / 2 = A / 2 + C * 2 ^ (31 - i) := by omega
  have e7 : (A + 2 * (C * 2 ^ (31 - i))) % 2 = A % 2 := by omega
  rw [e6, e7, Nat.add_mul]
  have e8 : 2 ^ i * (A % 2) * 2 ^ (31 - i) = A % 2 * 2147483648 := by
    rw [e4, Nat.mul_comm (2 ^ i) (A % 2), Nat.mul_assoc]
  rw [e8]
  omega
theorem rotN_zero (X : Nat) : rotN X 0 = X := by
  unfold rotN
  rw [Nat.pow_zero, Nat.mod_one, Nat.div_one]
  omega
theorem compl_nat (x : UInt32) : (4294967295 ^^^ x : UInt32).toNat = 4294967295 - x.toNat := by
  rw [UInt32.toNat_xor]
  have h : (BitVec.allOnes 32 ^^^ x.toBitVec).toNat = 2 ^ 32 - 1 - x.toBitVec.toNat := by rw [BitVec.allOnes_xor, BitVec.toNat_not]
  rw [BitVec.toNat_xor, BitVec.toNat_allOnes] at h
  exact h
/-- The word of four bytes, byte by byte. -/
def acc4 (f : Nat → UInt8) : Nat → Nat
  | 0 => 0
  | j + 1 => 256 * acc4 f j + (f j).toNat
theorem acc4_lt (f : Nat → UInt8) : ∀ j, acc4 f j < 256 ^ j
  | 0 => by simp [acc4]
  | j + 1 => by
    have := acc4_lt f j
    have hb := (f j).toNat_lt
    unfold acc4
    rw [Nat.pow_succ]
    omega
theorem acc4_word (f : Nat → UInt8) : acc4 f 4 = (word4 (f 0) (f 1) (f 2) (f 3)).toNat := by
  have h := acc4_lt f 4
  have h0 := (f 0).toNat_lt
  have h1 := (f 1).toNat_lt
  have h2 := (f 2).toNat_lt
  have h3 := (f 3).toNat_lt
  unfold word4
  rw [UInt32.toNat_ofNat_of_lt' (by simp [UInt32.size]; omega)]
  simp only [acc4]
  omega
theorem be8_div (n k : Nat) (h : k < 8) : (be8 n).getD (7 - k) 0 = UInt8.ofNat (n / 256 ^ k) := by
  unfold be8
  simp only [List.getD, List.getElem?_map, List.getElem?_range (show 7 - k < 8 by omega), Option.map_some, Option.getD_some]
  rw [show 56 - 8 * (7 - k) = 8 * k by omega, Nat.pow_mul]
end Go.Sig
