/- A walk of the library's sort at no pairs. Conditions: each theorem's own. -/
import Derived.Test.YtlhkkffljjbdmaaProg
import Derived.Test.YtlhkkffljjbdmaaRow
namespace Go.Proofs.Ytlhkkffljjbdmaa
open Go.RowKit Go.Sig

set_option maxRecDepth 100000 in
theorem insert0_t (w : World) (A : Option Addr) (c : Nat) (f : Value) : Calls Try.prog 83 #[.slice A 0 c, .int .i64 0, .int .i64 0, f] w fun e w' => e = .returned (.tuple #[]) ∧ w' = w := by
  go_enter Try.func83, Try.ntmps83
  go_wp2_with fail
  refine wp_loop_rounds 1 ?_
  rw [rounds_succ]
  go_wp2
  go_end0
  exact ⟨rfl, rfl⟩
set_option maxRecDepth 100000 in
theorem pdq0_t (w : World) (A : Option Addr) (c : Nat) (b : Int) (f : Value) : Calls Try.prog 68 #[.slice A 0 c, .int .i64 0, .int .i64 0, .int .i64 b, f] w fun e w' => e = .returned (.tuple #[]) ∧ w' = w := by
  go_enter Try.func68, Try.ntmps68
  go_wp2_with fail
  refine wp_loop_rounds 1 ?_
  rw [rounds_succ]
  go_wp2_with (go_at_call 83; refine (insert0_t _ _ _ _).mono ?_; rintro e w' ⟨rfl, rfl⟩)
  (try simp only [Exit.inBlock, Exit.then]); refine bodyPost_ret (results_none rfl _ _ _) rfl ?_
  exact ⟨rfl, rfl⟩
set_option maxRecDepth 100000 in
theorem len640_t (w : World) : Calls Try.prog 92 #[.int .u64 0] w fun e w' => e = .returned (.int .i64 0) ∧ w' = w := by
  go_enter Try.func92, Try.ntmps92
  go_wp2
  go_ret
  exact ⟨by kernel_rfl, rfl⟩
set_option maxRecDepth 100000 in
theorem len0_t (w : World) : Calls Try.prog 69 #[.int .u64 0] w fun e w' => e = .returned (.int .i64 0) ∧ w' = w := by
  go_enter Try.func69, Try.ntmps69
  go_wp2_with (go_at_call 92; refine (len640_t _).mono ?_; rintro e w' ⟨rfl, rfl⟩)
  go_ret
  exact ⟨rfl, rfl⟩
set_option maxRecDepth 100000 in
set_option maxHeartbeats 400000 in
theorem sort0_t (w : World) (A : Option Addr) (c : Nat) (f : Value) : Calls Try.prog 50 #[.slice A 0 c, f] w fun e w' => e = .returned (.tuple #[]) ∧ w' = w := by
  go_enter Try.func50, Try.ntmps50
  go_wp2_with (first | (go_at_call 69; refine (len0_t _).mono ?_; rintro e w' ⟨rfl, rfl⟩) | (go_at_call 68; refine (pdq0_t _ _ _ _ _).mono ?_; rintro e w' ⟨rfl, rfl⟩))
  go_end0
  exact ⟨rfl, rfl⟩
end Go.Proofs.Ytlhkkffljjbdmaa
