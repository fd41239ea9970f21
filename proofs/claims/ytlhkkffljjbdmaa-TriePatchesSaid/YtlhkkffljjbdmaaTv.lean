/- Tables of pairs: all pairs of a node, in the order of the paths; what the reference makes of lists. Conditions: none. -/
import Derived.Test.YtlhkkffljjbdmaaTp
namespace Go.Sig
open Go.RowKit

/-- All pairs of a node at the depth 64 - f, as all lays them. -/
def allN : Nat → List Pr → List Pr
  | 0, l => l
  | f + 1, l => byLen l [] (fun y => [y]) ((List.range 16).flatMap fun k => allN f (kid f l k))
theorem kids_perm (f : Nat) (l : List Pr) : ∀ n, ((List.range n).flatMap fun k => kid f l k).Perm (l.filter fun y => decide (nib (pathOf y.1) (63 - f) < n))
  | 0 => by
    rw [List.filter_eq_nil_iff.2 (by intro a _; simp)]
    exact List.Perm.refl _
  | n + 1 => by
    rw [List.range_succ, List.flatMap_append]
    refine ((kids_perm f l n).append_right _).trans ?_
    simp only [List.flatMap_cons, List.flatMap_nil, List.append_nil]
    unfold kid
    induction l with
    | nil => exact List.Perm.refl _
    | cons y l ih =>
      simp only [List.filter_cons]
      by_cases h1 : nib (pathOf y.1) (63 - f) < n
      · have h2 : ¬ nib (pathOf y.1) (63 - f) = n := by omega
        have h3 : nib (pathOf y.1) (63 - f) < n + 1 := by omega
        simp only [h1, h2, h3, decide_true, decide_false, if_true, Bool.false_eq_true, if_false, List.cons_append]
        exact ih.cons y
      · by_cases h2 : nib (pathOf y.1) (63 - f) = n
        · have h3 : nib (pathOf y.1) (63 - f) < n + 1 := by omega
          simp only [h2, decide_true, if_true, Nat.lt_irrefl, decide_false, Bool.false_eq_true, if_false, Nat.lt_succ_self]
          exact List.perm_middle.trans (ih.cons y)
        · have h3 : ¬ nib (pathOf y.1) (63 - f) < n + 1 := by omega
          simp only [h1, h2, h3, decide_false, Bool.false_eq_true, if_false]
          exact ih
theorem flatMap_perm {α β : Type} {f g : α → List β} : ∀ {l : List α}, (∀ a ∈ l, (f a).Perm (g a)) → (l.flatMap f).Perm (l.flatMap g)
  | [], _ => List.Perm.refl _
  | a :: l, h => by
    rw [List.flatMap_cons, List.flatMap_cons]
    exact (h a List.mem_cons_self).append (flatMap_perm fun b hb => h b (List.mem_cons_of_mem _ hb))
theorem allN_perm : ∀ (f : Nat) (l : List Pr), (allN f l).Perm l
  | 0, l => List.Perm.refl _
  | f + 1, [] => List.Perm.refl _
  | f + 1, [y] => List.Perm.refl _
  | f + 1, y :: z :: l => by
    show ((List.range 16).flatMap fun k => allN f (kid f (y :: z :: l) k)).Perm _
    refine (flatMap_perm fun k _ => allN_perm f _).trans ((kids_perm f (y :: z :: l) 16).trans ?_)
    rw [List.filter_eq_self.2]
    intro a _
    simpa using nib_lt _ _
/-- The reference's Put, pair by pair: what is out behind the first i pairs, and whether the new one is in. -/
def putGo (x : Pr) : List Pr → Bool → List Pr → List Pr × Bool
  | [], b, out => (out, b)
  | y :: l, b, out =>
    let out1 := if !b && !(bl y.1 x.1) then out ++ [x] else out
    let b1 := b || !(bl y.1 x.1)
    putGo x l b1 (if y.1 = x.1 then out1 else out1 ++ [y])
theorem putGo_done {x : Pr} : ∀ {l : List Pr} (out : List Pr), (∀ z ∈ l, bl x.1 z.1 = true) → putGo x l true out = (out ++ l, true)
  | [], out, _ => by simp [putGo]
  | y :: l, out, h => by
    have h1 := h y List.mem_cons_self
    have hne : ¬ y.1 = x.1 := fun e => by rw [e, bl_irrefl] at h1; cases h1
    simp only [putGo, Bool.not_true, Bool.false_and, Bool.false_eq_true, if_false, Bool.true_or, if_neg hne]
    rw [putGo_done _ fun z hz => h z (List.mem_cons_of_mem _ hz)]
    simp
theorem putGo_put {x : Pr} : ∀ {l : List Pr} (out : List Pr), Rising l → (if (putGo x l false out).2 then (putGo x l false out).1 else (putGo x l false out).1 ++ [x]) = out ++ put x l
  | [], out, _ => by simp [putGo, put]
  | y :: l, out, h => by
    have h' := List.pairwise_cons.1 h
    by_cases e1 : x.1 = y.1
    · have hb2 : bl y.1 y.1 = false := bl_irrefl _
      have e2 : putGo x (y :: l) false out = putGo x l true (out ++ [x]) := by simp [putGo, hb2, e1]
      rw [e2, putGo_done _ (fun z hz => by rw [e1]; exact h'.1 z hz)]
      simp [put, e1]
    · by_cases e2 : bl x.1 y.1 = true
      · have hb : bl y.1 x.1 = false := bl_asymm e2
        have e3 : putGo x (y :: l) false out = putGo x l true (out ++ [x] ++ [y]) := by simp [putGo, hb, Ne.symm e1]
        rw [e3, putGo_done _ (fun z hz => bl_trans e2 (h'.1 z hz))]
        simp [put, e1, e2]
      · have hb : bl y.1 x.1 = true := (bl_total e1).resolve_left e2
        have e3 : putGo x (y :: l) false out = putGo x l false (out ++ [y]) := by simp [putGo, hb, Ne.symm e1]
        rw [e3, putGo_put _ h'.2]
        simp [put, e1, e2]
end Go.Sig
