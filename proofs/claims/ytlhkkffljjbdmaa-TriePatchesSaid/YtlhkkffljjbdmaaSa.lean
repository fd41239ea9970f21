/- Walks of the hash: a word turned, the constants, the state at first. Conditions: each theorem's own. -/
import Derived.Test.YtlhkkffljjbdmaaProg
import Derived.Test.YtlhkkffljjbdmaaSw
import Derived.Deep.RegionHeld3
import Derived.Deep.RegionLaw
import Derived.Deep.DeepCutAuto
import Derived.Deep.CutBlock
namespace Go.Proofs.Ytlhkkffljjbdmaa
open Go.RowKit Go.Sig

theorem rotl_eq (x : UInt32) (n : Nat) (h : n < 32) : bits .or .u32 ((x.toNat : Int) * 2 ^ (32 - n) % 4294967296) ((x.toNat : Int) / 2 ^ n) = ((rotr x n).toNat : Int) := by
  have e1 : (x.toNat : Int) * 2 ^ (32 - n) % 4294967296 = ((x.toNat * 2 ^ (32 - n) % 4294967296 : Nat) : Int) := by simp
  have e2 : (x.toNat : Int) / 2 ^ n = ((x.toNat / 2 ^ n : Nat) : Int) := by simp
  rw [e1, e2, u32_or_nat _ _ (Nat.mod_lt _ (by decide)) (Nat.lt_of_le_of_lt (Nat.div_le_self _ _) x.toNat_lt)]
  show _ = ((x.toBitVec.rotateRight n).toNat : Int)
  rw [BitVec.toNat_rotateRight, Nat.mod_eq_of_lt h, Nat.shiftRight_eq_div_pow, Nat.shiftLeft_eq, Nat.or_comm]
  rfl
theorem rotl_t (x : UInt32) (k : Int) (n : Nat) (w : World) (hk : bits .and .u64 (IntKind.u64.wrap k) 31 = 32 - (n : Int)) (h : n < 32) (h0 : 0 < n) :
   Calls Try.prog 106 #[wv x, .int .i64 k] w fun e w' => e = .returned (wv (rotr x n)) ∧ w = w' := by
  unfold wv
  go_enter Try.func106, Try.ntmps106
  go_wp2
  go_ret
  refine ⟨ret_word ?_, rfl⟩
  rw [show 32 - (32 - n) = n by omega]
  exact rotl_eq x n h

theorem turns_and : ∀ n : Nat, n < 32 → 0 < n → bits .and .u64 (IntKind.u64.wrap (-(n : Int))) 31 = 32 - (n : Int) := by decide
theorem rotl_any (x : UInt32) (k : Int) (w : World) (hk : decide (-31 ≤ k ∧ k ≤ -1) = true) :
   Calls Try.prog 106 #[.int .u32 x.toNat, .int .i64 k] w fun e w' => e = .returned (.int .u32 (rotr x (-k).toNat).toNat) ∧ w = w' := by
  have hk' := of_decide_eq_true hk
  obtain ⟨n, rfl⟩ : ∃ n : Nat, k = -(n : Int) := ⟨(-k).toNat, by omega⟩
  have e : (-(-(n : Int))).toNat = n := by omega
  rw [e]
  exact rotl_t x _ n w (turns_and n (by omega) (by omega)) (by omega) (by omega)

def kCells : Array Value := (kTab.map wv).toArray
theorem consts_t (w : World) :
   Calls Try.prog 81 #[] w fun e w' => e = .returned (.pointer (some ⟨w.heap.size, 0, none⟩)) ∧ w' = w.alloc (.cells kCells 150) := by
  go_enter Try.func81, Try.ntmps81
  go_wp2_with (refine wpList_build_k rfl 150 _ rfl (cells := kCells) ?_ ?_; (focus kernel_rfl))
  go_ret
  exact ⟨rfl, rfl⟩

def restZero : List Value := List.replicate 64 (Value.int .u8 0)
/-- The state's cells at first. -/
def initCells : Array Value := (shaInit.list.map wv ++ restZero ++ [Value.int .i64 0]).toArray
def w8Cells : Array Value := (shaInit.list.map wv).toArray
theorem infoState : (Try.prog.info? 120).map (·.size) = some initCells.size := by kernel_rfl
theorem zState : Try.zeroCells120.size = initCells.size := by kernel_rfl
theorem uState : Try.prog.underlying 120 = some (.struct (Try.prog.fieldsOf 120)) := by kernel_rfl
theorem initOne : initCells.all (·.oneCell') = true := by kernel_rfl
theorem begun_t (w : World) :
   Calls Try.prog 65 #[] w fun e w' => e = .returned (.agg initCells) ∧ Fr [] w w' := by
  go_enter Try.func65, Try.ntmps65
  go_wp2_with (first
    | (refine wpList_build_k rfl 117 _ rfl (cells := w8Cells) ?_ ?_; (focus kernel_rfl))
    | (refine wpList_build_k rfl 120 _ rfl (cells := initCells) ?_ ?_; (focus kernel_rfl))
    | (refine wpList_store_row rfl 120 _ _ rfl w.heap.size initCells rfl rfl 120 Try.zeroCells120 (Blk.new w 120 _) infoState zState initOne ?_))
  have B := Blk.setRow (Blk.new w 120 Try.zeroCells120) initCells
  exact bodyPost_ret (v := .agg initCells) (results_cell_row rfl _ _ w.heap.size 120 initCells (0, 0) _ rfl B uState rfl infoState) rfl ⟨rfl, ((Fr.refl _ _).alloc _).setRow (.inr (Nat.le_refl _)) _⟩
end Go.Proofs.Ytlhkkffljjbdmaa
