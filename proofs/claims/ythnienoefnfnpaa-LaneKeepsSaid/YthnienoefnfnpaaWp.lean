/- Walks: a nil lane. Conditions: none. -/
import Derived.Test.YthnienoefnfnpaaWn
namespace Go.Proofs.Ythnienoefnfnpaa
open Go.RowKit Go.Sig

section
variable {w : World}
theorem has_nil (k : Int) : Calls Try.prog 30 #[.pointer none, .int .i64 k] w fun e w' => e = .returned (.int .i64 12) ∧ w = w' := by
  go_enter Try.func30, Try.ntmps30
  go_wp2
  go_ret
  exact ⟨rfl, rfl⟩
theorem heal_nil : Calls Try.prog 18 #[.pointer none] w fun e w' => e = .returned (.tuple #[]) ∧ Fr [] w w' := by
  go_enter Try.func18, Try.ntmps18
  go_wp2
  go_end0
  exact ⟨rfl, Fr.refl _ _⟩
theorem link_nil (x y : Int) (s : Bool) : Calls Try.prog 31 #[.pointer none, .int .i64 x, .int .i64 y, .bool s] w fun e w' => e = .returned (.int .i64 12) ∧ Fr [] w w' := by
  go_enter Try.func31, Try.ntmps31
  go_wp2
  go_ret
  exact ⟨rfl, Fr.refl _ _⟩
theorem shut_nil (x y : Int) : Calls Try.prog 13 #[.pointer none, .int .i64 x, .int .i64 y] w fun e w' => e = .returned (.int .i64 12) ∧ Fr [] w w' := by
  go_enter Try.func13, Try.ntmps13
  go_wp2_with fail
  refine (link_nil x y true).mono ?_
  rintro e w' ⟨rfl, f⟩
  go_wp2
  go_ret
  exact ⟨rfl, f⟩
theorem join_nil (x y : Int) : Calls Try.prog 27 #[.pointer none, .int .i64 x, .int .i64 y] w fun e w' => e = .returned (.int .i64 12) ∧ Fr [] w w' := by
  go_enter Try.func27, Try.ntmps27
  go_wp2_with fail
  refine (link_nil x y false).mono ?_
  rintro e w' ⟨rfl, f⟩
  go_wp2
  go_ret
  exact ⟨rfl, f⟩
theorem count_nil : Calls Try.prog 11 #[.pointer none] w fun e w' => e = .returned (.int .i64 0) ∧ Fr [] w w' := by
  go_enter Try.func11, Try.ntmps11
  go_wp2
  go_ret
  exact ⟨rfl, Fr.refl _ _⟩
theorem open_nil (x y : Int) : Calls Try.prog 14 #[.pointer none, .int .i64 x, .int .i64 y] w fun e w' => e = .returned (.bool false) ∧ Fr [] w w' := by
  go_enter Try.func14, Try.ntmps14
  go_upto_region 1 with (fail)
  go_quiet (fail)
  go_wp2
  go_ret
  exact ⟨rfl, (Fr.refl _ _).drewN _⟩
theorem next_nil : Calls Try.prog 16 #[.pointer none] w fun e w' => e = .returned (.int .i64 (-1)) ∧ Fr [] w w' := by
  go_enter Try.func16, Try.ntmps16
  go_wp2
  go_ret
  refine ⟨rfl, ?_⟩
  exact (Fr.refl _ _).alloc _
theorem drop_nil (k : Int) : Calls Try.prog 12 #[.pointer none, .int .i64 k] w fun e w' => e = .returned (.int .i64 12) ∧ Fr [] w w' := by
  go_enter Try.func12, Try.ntmps12
  go_wp2_with fail
  refine (has_nil k).mono ?_
  rintro e w' ⟨rfl, rfl⟩
  go_wp2
  go_ret
  exact ⟨rfl, Fr.refl _ _⟩
theorem twice_nil (k : Int) : Calls Try.prog 10 #[.pointer none, .int .i64 k] w fun e w' => e = .returned (.int .i64 12) ∧ Fr [] w w' := by
  go_enter Try.func10, Try.ntmps10
  go_wp2_with fail
  refine (has_nil k).mono ?_
  rintro e w' ⟨rfl, rfl⟩
  go_wp2
  go_ret
  exact ⟨rfl, Fr.refl _ _⟩
theorem spoil_nil (k j x : Int) : Calls Try.prog 24 #[.pointer none, .int .i64 k, .int .i64 j, .int .u8 x] w fun e w' => e = .returned (.int .i64 12) ∧ Fr [] w w' := by
  go_enter Try.func24, Try.ntmps24
  go_wp2_with fail
  refine (has_nil k).mono ?_
  rintro e w' ⟨rfl, rfl⟩
  go_wp2
  go_ret
  exact ⟨rfl, Fr.refl _ _⟩
theorem send_nil (x y : Int) (A : Option Addr) (n c : Nat) : Calls Try.prog 8 #[.pointer none, .int .i64 x, .int .i64 y, .slice A n c] w fun e w' => e = .returned (.int .i64 12) ∧ Fr [] w w' := by
  go_enter Try.func8, Try.ntmps8
  go_wp2
  go_ret
  exact ⟨rfl, Fr.refl _ _⟩
def ZeroP : Value := .agg #[.int .i64 0, .int .i64 0, .slice none 0 0]
theorem at_nil (k : Int) : Calls Try.prog 23 #[.pointer none, .int .i64 k] w fun e w' => e = .returned (.tuple #[ZeroP, .int .i64 12]) ∧ Fr [] w w' := by
  go_enter Try.func23, Try.ntmps23
  go_wp2_with fail
  refine (has_nil k).mono ?_
  rintro e w' ⟨rfl, rfl⟩
  have hB := (Blk.new w 37 #[.int .i64 0, .int .i64 0, .slice none 0 0]).c3
  have hz := fun i => (Blk.new w 37 #[.int .i64 0, .int .i64 0, .slice none 0 0]).frozen i
  go_wp2
  refine bodyPost_ret (v := .tuple #[ZeroP, .int .i64 12]) (by simp [results, Try.results23, go_sem, ZeroP]) rfl ⟨rfl, ?_⟩
  repeat (first | with_reducible exact Fr.refl _ _ | with_reducible refine Fr.alloc ?_ _ | (with_reducible refine Fr.setCell ?_ ?_ _; rotate_left; simp))
theorem take_nil (k : Int) : Calls Try.prog 15 #[.pointer none, .int .i64 k] w fun e w' => e = .returned (.tuple #[ZeroP, .int .i64 12]) ∧ Fr [] w w' := by
  go_enter Try.func15, Try.ntmps15
  go_wp2_with fail
  refine (has_nil k).mono ?_
  rintro e w' ⟨rfl, rfl⟩
  have hB := (Blk.new w 37 #[.int .i64 0, .int .i64 0, .slice none 0 0]).c3
  have hz := fun i => (Blk.new w 37 #[.int .i64 0, .int .i64 0, .slice none 0 0]).frozen i
  go_wp2
  refine bodyPost_ret (v := .tuple #[ZeroP, .int .i64 12]) (by simp [results, Try.results15, go_sem, ZeroP]) rfl ⟨rfl, ?_⟩
  repeat (first | with_reducible exact Fr.refl _ _ | with_reducible refine Fr.alloc ?_ _ | (with_reducible refine Fr.setCell ?_ ?_ _; rotate_left; simp))

end
end Go.Proofs.Ythnienoefnfnpaa
