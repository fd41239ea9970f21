/- The order in which a full cache lets go: plain facts. Conditions: none. -/
import Derived.Test.YthegggfpofdcdaaCm
namespace Go.Proofs.Ythegggfpofdcdaa
open Go.RowKit Go.Sig

@[reducible] def Ans.re (a : Ans) (A' : Option Addr) (c' : Nat) : Ans := { a with sa := A', sc := c' }
def kl (p q : ByteArray × Int) : Bool := decide (p.2 < q.2) || (decide (p.2 = q.2) && bl p.1 q.1)
def Oldest (t : ByteArray) (l : List (ByteArray × Kp)) : Prop := ∃ f, aget t l = some f ∧ ∀ p ∈ l, p.1 = t ∨ kl (t, f.start) (p.1, p.2.start) = true
def Least (lb : List (ByteArray × Kp × Nat)) (seen : Array Nat) (t : ByteArray) (f : Kp) : Prop := ∀ y ∈ lb, seen.contains y.2.2 = true → y.1 = t ∨ kl (t, f.start) (y.1, y.2.1.start) = true

theorem kl_trans {p q r : ByteArray × Int} (h : kl p q = true) (k : kl q r = true) : kl p r = true := by
  unfold kl at *
  simp only [Bool.or_eq_true, Bool.and_eq_true, decide_eq_true_eq] at *
  rcases h with h | ⟨h, h'⟩
  · rcases k with k | ⟨k, k'⟩
    · exact .inl (by omega)
    · exact .inl (by omega)
  · rcases k with k | ⟨k, k'⟩
    · exact .inl (by omega)
    · exact .inr ⟨by omega, bl_trans h' k'⟩
theorem kl_total {p q : ByteArray × Int} (h : p.1 ≠ q.1) (hn : kl p q = false) : kl q p = true := by
  unfold kl at *
  simp only [Bool.or_eq_false_iff, Bool.and_eq_false_iff, decide_eq_false_iff_not, Bool.or_eq_true, Bool.and_eq_true, decide_eq_true_eq] at *
  obtain ⟨h1, h2⟩ := hn
  rcases Int.lt_or_le q.2 p.2 with h3 | h3
  · exact .inl h3
  · have he : p.2 = q.2 := by omega
    refine .inr ⟨he.symm, ?_⟩
    rcases h2 with h2 | h2
    · exact absurd he h2
    · rcases bl_total h with h4 | h4
      · rw [h4] at h2; cases h2
      · exact h4

section
variable {lb : List (ByteArray × Kp × Nat)} {seen : Array Nat} {t : ByteArray} {f : Kp} {y : ByteArray × Kp × Nat}
theorem get_lb {l : List (ByteArray × Kp)} (hl : lb.map (fun x => (x.1, x.2.1)) = l) (hk : (lb.map (·.1)).Nodup) (hy : y ∈ lb) : aget y.1 l = some y.2.1 := by
  subst hl
  apply aget_of_mem
  · simpa [Function.comp_def] using hk
  · exact List.mem_map.2 ⟨y, hy, rfl⟩
theorem least_yes {l : List (ByteArray × Kp)} (hl : lb.map (fun x => (x.1, x.2.1)) = l) (hn : (lb.map (·.2.2)).Nodup) (hk : (lb.map (·.1)).Nodup) (hf : aget t l = some f) (h : Least lb seen t f) (hy : y ∈ lb)
    (hlt : kl (y.1, y.2.1.start) (t, f.start) = true) : Least lb (seen.push y.2.2) y.1 y.2.1 := by
  intro z hz hs
  rw [Array.contains_push] at hs
  by_cases hb : z.2.2 = y.2.2
  · exact .inl (by rw [inj_of_nodup hn hz hy hb])
  · have hs' : seen.contains z.2.2 = true := by
      simp only [Bool.or_eq_true] at hs
      rcases hs with hs | hs
      · simp at hs; first | exact absurd hs hb | exact absurd hs.symm hb | simpa using hs
      · simp at hs; first | exact absurd hs hb | exact absurd hs.symm hb | simpa using hs
    rcases h z hz hs' with h1 | h1
    · right
      have := get_lb hl hk hz
      rw [h1, hf] at this
      cases this
      rw [h1]
      exact hlt
    · exact .inr (kl_trans hlt h1)
theorem least_no (hn : (lb.map (·.2.2)).Nodup) (h : Least lb seen t f) (hy : y ∈ lb) (hlt : kl (y.1, y.2.1.start) (t, f.start) = false) : Least lb (seen.push y.2.2) t f := by
  intro z hz hs
  rw [Array.contains_push] at hs
  by_cases hb : z.2.2 = y.2.2
  · rw [inj_of_nodup hn hz hy hb]
    by_cases he : y.1 = t
    · exact .inl he
    · exact .inr (kl_total he hlt)
  · have hs' : seen.contains z.2.2 = true := by
      simp only [Bool.or_eq_true] at hs
      rcases hs with hs | hs
      · simp at hs; first | exact absurd hs hb | exact absurd hs.symm hb | simpa using hs
      · simp at hs; first | exact absurd hs hb | exact absurd hs.symm hb | simpa using hs
    exact h z hz hs'
theorem least_end {l : List (ByteArray × Kp)} (hl : lb.map (fun x => (x.1, x.2.1)) = l) (hf : aget t l = some f) (h : Least lb seen t f) (h0 : todo lb seen = []) : Oldest t l := by
  refine ⟨f, hf, fun p hp => ?_⟩
  rw [← hl] at hp
  obtain ⟨z, hz, rfl⟩ := List.mem_map.1 hp
  refine h z hz ?_
  have := List.filter_eq_nil_iff.1 h0 z hz
  simpa using this
end
end Go.Proofs.Ythegggfpofdcdaa
