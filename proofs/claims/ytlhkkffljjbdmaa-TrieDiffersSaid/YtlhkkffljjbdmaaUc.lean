/- The pairs of all kids, and lists that rise: plain laws. Conditions: each theorem's own. -/
import Derived.Test.YtlhkkffljjbdmaaProg
import Derived.Test.YtlhkkffljjbdmaaRow
import Derived.Test.YtlhkkffljjbdmaaTr
namespace Go.Proofs.Ytlhkkffljjbdmaa
open Go.RowKit Go.Sig

set_option maxRecDepth 100000 in
theorem insert0_t (w : World) (A : Option Addr) (c : Nat) (f : Value) : Calls Try.prog 83 #[.slice A 0 c, .int .i64 0, .int .i64 0, f] w fun e w' => e = .returned (.tuple #[]) ∧ w' = w := by
  go_enter Try.func83, Try.ntmps83
  go_wp2_with fail
  refine wp_loop_rounds 1 ?_
  rw [rounds_succ]
  go_wp2
  go_end0
  exact ⟨rfl, rfl⟩
set_option maxRecDepth 100000 in
theorem pdq0_t (w : World) (A : Option Addr) (c : Nat) (b : Int) (f : Value) : Calls Try.prog 68 #[.slice A 0 c, .int .i64 0, .int .i64 0, .int .i64 b, f] w fun e w' => e = .returned (.tuple #[]) ∧ w' = w := by
  go_enter Try.func68, Try.ntmps68
  go_wp2_with fail
  refine wp_loop_rounds 1 ?_
  rw [rounds_succ]
  go_wp2_with (go_at_call 83; refine (insert0_t _ _ _ _).mono ?_; rintro e w' ⟨rfl, rfl⟩)
  (try simp only [Exit.inBlock, Exit.then]); refine bodyPost_ret (results_none rfl _ _ _) rfl ?_
  exact ⟨rfl, rfl⟩
set_option maxRecDepth 100000 in
theorem len640_t (w : World) : Calls Try.prog 92 #[.int .u64 0] w fun e w' => e = .returned (.int .i64 0) ∧ w' = w := by
  go_enter Try.func92, Try.ntmps92
  go_wp2
  go_ret
  exact ⟨by kernel_rfl, rfl⟩
set_option maxRecDepth 100000 in
theorem len0_t (w : World) : Calls Try.prog 69 #[.int .u64 0] w fun e w' => e = .returned (.int .i64 0) ∧ w' = w := by
  go_enter Try.func69, Try.ntmps69
  go_wp2_with (go_at_call 92; refine (len640_t _).mono ?_; rintro e w' ⟨rfl, rfl⟩)
  go_ret
  exact ⟨rfl, rfl⟩
set_option maxRecDepth 100000 in
set_option maxHeartbeats 400000 in
theorem sort0_t (w : World) (A : Option Addr) (c : Nat) (f : Value) : Calls Try.prog 50 #[.slice A 0 c, f] w fun e w' => e = .returned (.tuple #[]) ∧ w' = w := by
  go_enter Try.func50, Try.ntmps50
  go_wp2_with (first | (go_at_call 69; refine (len0_t _).mono ?_; rintro e w' ⟨rfl, rfl⟩) | (go_at_call 68; refine (pdq0_t _ _ _ _ _).mono ?_; rintro e w' ⟨rfl, rfl⟩))
  go_end0
  exact ⟨rfl, rfl⟩
end Go.Proofs.Ytlhkkffljjbdmaa
namespace Go.Proofs.Ytlhkkffljjbdmaa
open Go.RowKit Go.Sig

/-- The pairs of the first n kids, one kid behind the other. -/
def kidsL (f : Nat) (l : List Pr) (n : Nat) : List Pr := (List.range n).flatMap (kid f l)
theorem kidsL_zero (f : Nat) (l : List Pr) : kidsL f l 0 = [] := rfl
theorem kidsL_succ (f : Nat) (l : List Pr) (n : Nat) : kidsL f l (n + 1) = kidsL f l n ++ kid f l n := by
  unfold kidsL
  rw [List.range_succ, List.flatMap_append]
  simp
theorem split_perm {α : Type} {p q r : α → Bool} (hr : ∀ a, r a = (p a || q a)) (hd : ∀ a, ¬ (p a = true ∧ q a = true)) : ∀ l : List α, (l.filter p ++ l.filter q).Perm (l.filter r)
  | [] => .refl _
  | a :: l => by
    have ih := split_perm hr hd l
    have h1 := hr a
    have h2 := hd a
    cases hp : p a with
    | true =>
      have hq : q a = false := by
        cases hq : q a with
        | false => rfl
        | true => exact absurd ⟨hp, hq⟩ h2
      rw [hp, hq] at h1
      rw [List.filter_cons, if_pos hp, List.filter_cons, if_neg (by simp [hq]), List.filter_cons, if_pos (by rw [h1]; rfl)]
      exact ih.cons a
    | false =>
      cases hq : q a with
      | true =>
        rw [hp, hq] at h1
        rw [List.filter_cons, if_neg (by simp [hp]), List.filter_cons, if_pos hq, List.filter_cons, if_pos (by rw [h1]; rfl)]
        exact List.perm_middle.trans (ih.cons a)
      | false =>
        rw [hp, hq] at h1
        rw [List.filter_cons, if_neg (by simp [hp]), List.filter_cons, if_neg (by simp [hq]), List.filter_cons, if_neg (by rw [h1]; simp)]
        exact ih
theorem kidsL_perm (f : Nat) (l : List Pr) : ∀ n, (kidsL f l n).Perm (l.filter fun y => decide (nib (pathOf y.1) (63 - f) < n))
  | 0 => by
    rw [kidsL_zero, List.filter_eq_nil_iff.2 (by intro a _; simp)]
  | n + 1 => by
    rw [kidsL_succ]
    refine ((kidsL_perm f l n).append_right _).trans ?_
    unfold kid
    refine split_perm (fun a => ?_) (fun a h => ?_) l
    · by_cases h1 : nib (pathOf a.1) (63 - f) < n
      · simp [h1, show nib (pathOf a.1) (63 - f) < n + 1 by omega]
      · by_cases h2 : nib (pathOf a.1) (63 - f) = n
        · simp [h2]
        · simp [h1, h2, show ¬ nib (pathOf a.1) (63 - f) < n + 1 by omega]
    · simp only [decide_eq_true_eq] at h
      omega
theorem kidsL_all (f : Nat) (l : List Pr) : (kidsL f l 16).Perm l := by
  refine (kidsL_perm f l 16).trans ?_
  rw [List.filter_eq_self.2]
  intro a _
  simpa using nib_lt _ _
theorem kidsL_length_le (f : Nat) (l : List Pr) (n : Nat) : (kidsL f l n).length ≤ l.length := by
  rw [(kidsL_perm f l n).length_eq]
  exact List.length_filter_le _ _
theorem sorted_perm {l l' : List Pr} (hr : Rising l) (hp : l'.Perm l) (hs : Sorted l') : l' = l :=
  rising_ext (sorted_rising hs ((hp.map (·.1)).nodup_iff.2 (rising_nodup hr))) hr hp
theorem underL_rising {l : List Pr} {ns : List Int} (h : Rising l) : Rising (underL l ns) := h.filter _
theorem underL_good {l : List Pr} {ns : List Int} (h : Good l) : Good (underL l ns) :=
  ⟨underL_rising h.rising, fun y hy => h.fits y (List.mem_filter.1 hy).1, Nat.le_trans (List.length_filter_le _ _) h.few⟩
/-- What is told of a list, when its own row, or a new one, holds it. -/
def AppPost (w : World) (v : Value) (out l : List Pr) (e : Ending) (w' : World) : Prop :=
  ∃ v' m, e = .returned v' ∧ m.Perm l ∧ Own w' 66 2 v' (out ++ m).length (pairCells (out ++ m)) ∧ Fr (rowOf v) w w' ∧ ∀ g, g ∈ rowOf v' → g ∈ rowOf v ∨ w.heap.size ≤ g
end Go.Proofs.Ytlhkkffljjbdmaa
