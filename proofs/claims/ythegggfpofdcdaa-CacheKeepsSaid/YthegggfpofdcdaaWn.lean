/- Walks: a nil cache. Conditions: none. -/
import Derived.Test.YthegggfpofdcdaaWe
namespace Go.Proofs.Ythegggfpofdcdaa
open Go.RowKit Go.Sig

section
variable {w : World}
theorem count_nil : Calls Try.prog 11 #[.pointer none] w fun e w' => e = .returned (.int .i64 0) ∧ Fr [] w w' := by
  go_enter Try.func11, Try.ntmps11
  go_wp2
  go_ret
  exact ⟨rfl, Fr.refl _ _⟩
theorem open_nil : Calls Try.prog 23 #[.pointer none] w fun e w' => e = .returned (.int .i64 0) ∧ Fr [] w w' := by
  go_enter Try.func23, Try.ntmps23
  go_wp2
  go_ret
  exact ⟨rfl, Fr.refl _ _⟩
theorem drop_nil (n : Int) : Calls Try.prog 16 #[.pointer none, .int .i64 n] w fun e w' => e = .returned (.tuple #[]) ∧ Fr [] w w' := by
  go_enter Try.func16, Try.ntmps16
  go_wp2
  go_end0
  exact ⟨rfl, Fr.refl _ _⟩
theorem void_nil (fam : ByteArray) : Calls Try.prog 20 #[.pointer none, .string fam] w fun e w' => e = .returned (.tuple #[]) ∧ Fr [] w w' := by
  go_enter Try.func20, Try.ntmps20
  go_wp2
  go_end0
  exact ⟨rfl, Fr.alloc (Fr.refl _ _) _⟩
theorem ask_nil (tok fam : ByteArray) (now : Int) : Calls Try.prog 12 #[.pointer none, .string tok, .string fam, .int .i64 now] w fun e w' => e = .returned (.int .i64 0) ∧ Fr [] w w' := by
  go_enter Try.func12, Try.ntmps12
  go_wp2
  go_ret
  exact ⟨rfl, Fr.refl _ _⟩
theorem fill_nil (n : Int) (a : Ans) (now : Int) : Calls Try.prog 14 #[.pointer none, .int .i64 n, .agg a.arr, .int .i64 now] w fun e w' => e = .returned (.bool false) ∧ Fr [] w w' := by
  go_enter Try.func14, Try.ntmps14
  go_wp2
  go_ret
  exact ⟨rfl, Fr.alloc (Fr.refl _ _) _⟩
theorem get_nil (tok : ByteArray) (now : Int) : Calls Try.prog 18 #[.pointer none, .string tok, .int .i64 now] w (GetNo w) := by
  go_enter Try.func18, Try.ntmps18
  go_wp2
  refine bodyPost_ret (v := .tuple #[Ans.val Ans.zero, .bool false]) (by simp [results, Try.results18, go_sem, Ans.val, Ans.zero]) rfl ⟨rfl, ?_⟩
  repeat (first | with_reducible exact Fr.refl _ _ | with_reducible refine Fr.alloc ?_ _ | with_reducible refine Fr.drew ?_ | with_reducible refine Fr.drewN ?_ _ | (with_reducible refine Fr.setCell ?_ ?_ _; rotate_left; simp))
end
end Go.Proofs.Ythegggfpofdcdaa
