/- Walks of the hash: a word turned, the constants, the state at first. Conditions: each theorem's own. -/
import Derived.Test.YtdeoinjjphdbmaaGreatRow
import Derived.Laws.BitsAllLaws
import Derived.Test.YtdeoinjjphdbmaaGreatProg
import Derived.Deep.RegionHeld3
import Derived.Deep.RegionLaw
import Derived.Deep.DeepCutAuto
import Derived.Deep.CutBlock
namespace Go.Sig
open Go.RowKit

def I64 (n : Int) : Prop := -9223372036854775808 ≤ n ∧ n ≤ 9223372036854775807
def bv (b : UInt8) : Value := .int .u8 b.toNat
def wv (x : UInt32) : Value := .int .u32 x.toNat
theorem bv_one (l : List UInt8) : ∀ u ∈ l.map bv, u.oneCell' = true := by
  intro u hu
  obtain ⟨_, _, rfl⟩ := List.mem_map.1 hu
  rfl
theorem wv_one (l : List UInt32) : ∀ u ∈ l.map wv, u.oneCell' = true := by
  intro u hu
  obtain ⟨_, _, rfl⟩ := List.mem_map.1 hu
  rfl
theorem ret_bool {a b : Bool} (h : a = b) : Ending.returned (.bool a) = .returned (.bool b) := by rw [h]
theorem ret_int {a b : Int} (h : a = b) : Ending.returned (.int .i64 a) = .returned (.int .i64 b) := by rw [h]
theorem ret_word {a b : Int} (h : a = b) : Ending.returned (.int .u32 a) = .returned (.int .u32 b) := by rw [h]

/-- Bytes that can be read. -/
def Byts (w : World) (A : Option Addr) (n : Nat) (l : List UInt8) : Prop := Rd w 1 A n (l.map bv)
theorem Byts.length {w : World} {A : Option Addr} {n : Nat} {l : List UInt8} (h : Byts w A n l) : l.length = n := by have := h.1; simpa using this
theorem Byts.at {w : World} {A : Option Addr} {n i : Nat} {l : List UInt8} (h : Byts w A n l) (hi : i < n) : ∃ b o, A = some ⟨b, o, none⟩ ∧ b < w.heap.size ∧ w.cell? ⟨b, o + i, none⟩ = some (.int .u8 ((l.getD i 0).toNat : Int)) := by
  obtain ⟨b, o, hA, hc⟩ := h.2 (by omega)
  have hl := h.length
  have := hc i (bv (l.getD i 0)) (by simp [List.getD, List.getElem?_map, List.getElem?_eq_getElem (show i < l.length by omega)])
  exact ⟨b, o, hA, block_lt_of_cell (a := ⟨b, o + i, none⟩) this, this⟩

/-! ### Words -/
section
variable (a b : UInt32)
theorem w_add : IntKind.u32.wrap ((a.toNat : Int) + (b.toNat : Int)) = ((a + b).toNat : Int) := by
  rw [IntKind.wrap_u32', UInt32.toNat_add]
  omega
theorem w_xor : bits .xor .u32 (a.toNat : Int) (b.toNat : Int) = ((a ^^^ b).toNat : Int) := by
  rw [u32_xor_nat _ _ a.toNat_lt b.toNat_lt, UInt32.toNat_xor]
theorem w_and : bits .and .u32 (a.toNat : Int) (b.toNat : Int) = ((a &&& b).toNat : Int) := by
  rw [u32_and_nat _ _ a.toNat_lt b.toNat_lt, UInt32.toNat_and]
theorem w_or : bits .or .u32 (a.toNat : Int) (b.toNat : Int) = ((a ||| b).toNat : Int) := by
  rw [u32_or_nat _ _ a.toNat_lt b.toNat_lt, UInt32.toNat_or]
end
theorem w_ext {x : UInt32} {n : Int} (h : (x.toNat : Int) = n) : (.int .u32 n : Value) = wv x := by rw [← h]; rfl

/-! ### SHA-256 -/
def rotr (x : UInt32) (n : Nat) : UInt32 := ⟨x.toBitVec.rotateRight n⟩
def ss0 (x : UInt32) : UInt32 := rotr x 7 ^^^ rotr x 18 ^^^ (x >>> 3)
def ss1 (x : UInt32) : UInt32 := rotr x 17 ^^^ rotr x 19 ^^^ (x >>> 10)
def bs0 (x : UInt32) : UInt32 := rotr x 2 ^^^ rotr x 13 ^^^ rotr x 22
def bs1 (x : UInt32) : UInt32 := rotr x 6 ^^^ rotr x 11 ^^^ rotr x 25
def chs (x y z : UInt32) : UInt32 := (x &&& y) ^^^ ((4294967295 ^^^ x) &&& z)
def maj (x y z : UInt32) : UInt32 := (x &&& y) ^^^ (x &&& z) ^^^ (y &&& z)
def kTab : List UInt32 := [
  0x428a2f98, 0x71374491, 0xb5c0fbcf, 0xe9b5dba5, 0x3956c25b, 0x59f111f1, 0x923f82a4, 0xab1c5ed5,
  0xd807aa98, 0x12835b01, 0x243185be, 0x550c7dc3, 0x72be5d74, 0x80deb1fe, 0x9bdc06a7, 0xc19bf174,
  0xe49b69c1, 0xefbe4786, 0x0fc19dc6, 0x240ca1cc, 0x2de92c6f, 0x4a7484aa, 0x5cb0a9dc, 0x76f988da,
  0x983e5152, 0xa831c66d, 0xb00327c8, 0xbf597fc7, 0xc6e00bf3, 0xd5a79147, 0x06ca6351, 0x14292967,
  0x27b70a85, 0x2e1b2138, 0x4d2c6dfc, 0x53380d13, 0x650a7354, 0x766a0abb, 0x81c2c92e, 0x92722c85,
  0xa2bfe8a1, 0xa81a664b, 0xc24b8b70, 0xc76c51a3, 0xd192e819, 0xd6990624, 0xf40e3585, 0x106aa070,
  0x19a4c116, 0x1e376c08, 0x2748774c, 0x34b0bcb5, 0x391c0cb3, 0x4ed8aa4a, 0x5b9cca4f, 0x682e6ff3,
  0x748f82ee, 0x78a5636f, 0x84c87814, 0x8cc70208, 0x90befffa, 0xa4506ceb, 0xbef9a3f7, 0xc67178f2]
/-- Eight words. -/
structure W8 where
  a : UInt32
  b : UInt32
  c : UInt32
  d : UInt32
  e : UInt32
  f : UInt32
  g : UInt32
  h : UInt32
def W8.list (v : W8) : List UInt32 := [v.a, v.b, v.c, v.d, v.e, v.f, v.g, v.h]
@[reducible] def W8.arr (v : W8) : Array Value := #[.int .u32 v.a.toNat, .int .u32 v.b.toNat, .int .u32 v.c.toNat, .int .u32 v.d.toNat, .int .u32 v.e.toNat, .int .u32 v.f.toNat, .int .u32 v.g.toNat, .int .u32 v.h.toNat]
def W8.add (v u : W8) : W8 := ⟨v.a + u.a, v.b + u.b, v.c + u.c, v.d + u.d, v.e + u.e, v.f + u.f, v.g + u.g, v.h + u.h⟩
def shaInit : W8 := ⟨0x6a09e667, 0xbb67ae85, 0x3c6ef372, 0xa54ff53a, 0x510e527f, 0x9b05688c, 0x1f83d9ab, 0x5be0cd19⟩
def word4 (a b c d : UInt8) : UInt32 := UInt32.ofNat (a.toNat * 16777216 + b.toNat * 65536 + c.toNat * 256 + d.toNat)
def w16 (l : List UInt8) : List UInt32 := (List.range 16).map fun t => word4 (l.getD (4 * t) 0) (l.getD (4 * t + 1) 0) (l.getD (4 * t + 2) 0) (l.getD (4 * t + 3) 0)
/-- The word behind these. -/
def wnext (ws : List UInt32) : UInt32 :=
  ws.getD (ws.length - 16) 0 + ws.getD (ws.length - 7) 0 + ss0 (ws.getD (ws.length - 15) 0) + ss1 (ws.getD (ws.length - 2) 0)
def wgrow : Nat → List UInt32 → List UInt32
  | 0, ws => ws
  | n + 1, ws => wgrow n (ws ++ [wnext ws])
def t1 (v : W8) (k w : UInt32) : UInt32 := v.h + bs1 v.e + chs v.e v.f v.g + k + w
def t2 (v : W8) : UInt32 := bs0 v.a + maj v.a v.b v.c
def round1 (v : W8) (k w : UInt32) : W8 := ⟨t1 v k w + t2 v, v.a, v.b, v.c, v.d + t1 v k w, v.e, v.f, v.g⟩
def rounds : List (UInt32 × UInt32) → W8 → W8
  | [], v => v
  | p :: l, v => rounds l (round1 v p.1 p.2)
def press (h : W8) (l : List UInt8) : W8 := h.add (rounds (kTab.zip (wgrow 48 (w16 l))) h)
/-- The words behind so many blocks. -/
def pressN : Nat → W8 → List UInt8 → W8
  | 0, h, _ => h
  | n + 1, h, l => pressN n (press h (l.take 64)) (l.drop 64)
def be8 (n : Nat) : List UInt8 := (List.range 8).map fun i => UInt8.ofNat (n / 2 ^ (56 - 8 * i))
def padded (l : List UInt8) : List UInt8 := l ++ 128 :: List.replicate ((119 - l.length % 64) % 64) 0 ++ be8 (l.length * 8 % 18446744073709551616)
def bytes4 (x : UInt32) : List UInt8 := [UInt8.ofNat (x.toNat / 16777216), UInt8.ofNat (x.toNat / 65536), UInt8.ofNat (x.toNat / 256), UInt8.ofNat x.toNat]
def sha (l : List UInt8) : List UInt8 := (pressN ((padded l).length / 64) shaInit (padded l)).list.flatMap bytes4
theorem W8.list_length (v : W8) : v.list.length = 8 := rfl
theorem sha_length (l : List UInt8) : (sha l).length = 32 := rfl

theorem press_snoc : ∀ (n : Nat) (h : W8) (l : List UInt8), pressN (n + 1) h l = press (pressN n h l) ((l.drop (64 * n)).take 64)
  | 0, h, l => by simp [pressN]
  | n + 1, h, l => by
    show pressN (n + 1) (press h (l.take 64)) (l.drop 64) = _
    rw [press_snoc n, List.drop_drop]
    show press (pressN n (press h (l.take 64)) (l.drop 64)) _ = press (pressN (n + 1) h l) _
    rw [show 64 + 64 * n = 64 * (n + 1) by omega]
    rfl
/-- Only the bytes of whole blocks count. -/
theorem pressN_take : ∀ (n : Nat) (h : W8) (l m : List UInt8), 64 * n ≤ l.length → pressN n h (l ++ m) = pressN n h l
  | 0, h, l, m, _ => rfl
  | n + 1, h, l, m, hl => by
    have h64 : 64 ≤ l.length := by omega
    show pressN n (press h ((l ++ m).take 64)) ((l ++ m).drop 64) = pressN n (press h (l.take 64)) (l.drop 64)
    rw [List.take_append_of_le_length h64, List.drop_append_of_le_length h64]
    exact pressN_take n _ _ _ (by simp; omega)
theorem padded_length (l : List UInt8) : (padded l).length = 64 * ((l.length + 72) / 64) := by
  simp only [padded, be8, List.length_append, List.length_cons, List.length_replicate, List.length_map, List.length_range]
  omega
theorem wgrow_snoc : ∀ (n : Nat) (ws : List UInt32), wgrow (n + 1) ws = wgrow n ws ++ [wnext (wgrow n ws)]
  | 0, ws => rfl
  | n + 1, ws => by
    show wgrow (n + 1) (ws ++ [wnext ws]) = _
    rw [wgrow_snoc n]
    rfl
theorem wgrow_length : ∀ (n : Nat) (ws : List UInt32), (wgrow n ws).length = ws.length + n
  | 0, ws => rfl
  | n + 1, ws => by
    show (wgrow n (ws ++ [wnext ws])).length = _
    rw [wgrow_length n]
    simp
    omega
theorem w16_length (l : List UInt8) : (w16 l).length = 16 := by simp [w16]
theorem rounds_append : ∀ (l m : List (UInt32 × UInt32)) (v : W8), rounds (l ++ m) v = rounds m (rounds l v)
  | [], _m, _v => rfl
  | _p :: l, m, _v => rounds_append l m _
end Go.Sig
namespace Go.Proofs.YtdeoinjjphdbmaaGreat
open Go.RowKit Go.Sig

theorem rotl_eq (x : UInt32) (n : Nat) (h : n < 32) : bits .or .u32 ((x.toNat : Int) * 2 ^ (32 - n) % 4294967296) ((x.toNat : Int) / 2 ^ n) = ((rotr x n).toNat : Int) := by
  have e1 : (x.toNat : Int) * 2 ^ (32 - n) % 4294967296 = ((x.toNat * 2 ^ (32 - n) % 4294967296 : Nat) : Int) := by simp
  have e2 : (x.toNat : Int) / 2 ^ n = ((x.toNat / 2 ^ n : Nat) : Int) := by simp
  rw [e1, e2, u32_or_nat _ _ (Nat.mod_lt _ (by decide)) (Nat.lt_of_le_of_lt (Nat.div_le_self _ _) x.toNat_lt)]
  show _ = ((x.toBitVec.rotateRight n).toNat : Int)
  rw [BitVec.toNat_rotateRight, Nat.mod_eq_of_lt h, Nat.shiftRight_eq_div_pow, Nat.shiftLeft_eq, Nat.or_comm]
  rfl
theorem rotl_t (x : UInt32) (k : Int) (n : Nat) (w : World) (hk : bits .and .u64 (IntKind.u64.wrap k) 31 = 32 - (n : Int)) (h : n < 32) (h0 : 0 < n) :
   Calls Tryz.prog 169 #[wv x, .int .i64 k] w fun e w' => e = .returned (wv (rotr x n)) ∧ w = w' := by
  unfold wv
  go_enter Tryz.func169, Tryz.ntmps169
  go_wp2
  go_ret
  refine ⟨ret_word ?_, rfl⟩
  rw [show 32 - (32 - n) = n by omega]
  exact rotl_eq x n h

theorem turns_and : ∀ n : Nat, n < 32 → 0 < n → bits .and .u64 (IntKind.u64.wrap (-(n : Int))) 31 = 32 - (n : Int) := by decide
theorem rotl_any (x : UInt32) (k : Int) (w : World) (hk : decide (-31 ≤ k ∧ k ≤ -1) = true) :
   Calls Tryz.prog 169 #[.int .u32 x.toNat, .int .i64 k] w fun e w' => e = .returned (.int .u32 (rotr x (-k).toNat).toNat) ∧ w = w' := by
  have hk' := of_decide_eq_true hk
  obtain ⟨n, rfl⟩ : ∃ n : Nat, k = -(n : Int) := ⟨(-k).toNat, by omega⟩
  have e : (-(-(n : Int))).toNat = n := by omega
  rw [e]
  exact rotl_t x _ n w (turns_and n (by omega) (by omega)) (by omega) (by omega)

def kCells : Array Value := (kTab.map wv).toArray
theorem consts_t (w : World) :
   Calls Tryz.prog 167 #[] w fun e w' => e = .returned (.pointer (some ⟨w.heap.size, 0, none⟩)) ∧ w' = w.alloc (.cells kCells 203) := by
  go_enter Tryz.func167, Tryz.ntmps167
  go_wp2_with (refine wpList_build_k rfl 203 _ rfl (cells := kCells) ?_ ?_; (focus kernel_rfl))
  go_ret
  exact ⟨rfl, rfl⟩

def restZero : List Value := List.replicate 64 (Value.int .u8 0)
/-- The state's cells at first. -/
def initCells : Array Value := (shaInit.list.map wv ++ restZero ++ [Value.int .i64 0]).toArray
def w8Cells : Array Value := (shaInit.list.map wv).toArray
theorem infoState : (Tryz.prog.info? 194).map (·.size) = some initCells.size := by kernel_rfl
theorem zState : Tryz.zeroCells194.size = initCells.size := by kernel_rfl
theorem uState : Tryz.prog.underlying 194 = some (.struct (Tryz.prog.fieldsOf 194)) := by kernel_rfl
theorem initOne : initCells.all (·.oneCell') = true := by kernel_rfl
theorem begun_t (w : World) :
   Calls Tryz.prog 157 #[] w fun e w' => e = .returned (.agg initCells) ∧ Fr [] w w' := by
  go_enter Tryz.func157, Tryz.ntmps157
  go_wp2_with (first
    | (refine wpList_build_k rfl 184 _ rfl (cells := w8Cells) ?_ ?_; (focus kernel_rfl))
    | (refine wpList_build_k rfl 194 _ rfl (cells := initCells) ?_ ?_; (focus kernel_rfl))
    | (refine wpList_store_row rfl 194 _ _ rfl w.heap.size initCells rfl rfl 194 Tryz.zeroCells194 (Blk.new w 194 _) infoState zState initOne ?_))
  have B := Blk.setRow (Blk.new w 194 Tryz.zeroCells194) initCells
  exact bodyPost_ret (v := .agg initCells) (results_cell_row rfl _ _ w.heap.size 194 initCells (0, 0) _ rfl B uState rfl infoState) rfl ⟨rfl, ((Fr.refl _ _).alloc _).setRow (.inr (Nat.le_refl _)) _⟩
end Go.Proofs.YtdeoinjjphdbmaaGreat
