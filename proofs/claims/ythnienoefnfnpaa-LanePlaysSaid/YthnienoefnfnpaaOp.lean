/- From an argument that can be read as data to what the walks ask: bytes. Conditions: none. -/
import Derived.Test.YthnienoefnfnpaaLm
import Derived.ProofKit
import Derived.OpenShut
import Derived.ShutString
import Derived.ChangeOld
import Derived.Below
import Derived.SliceStrings
import Derived.Deep.Slices
namespace Go.Proofs.Ythnienoefnfnpaa
open Go.RowKit Go.Sig Go.ChangeShapes Go.WideShapes

theorem uu22 : Try.prog.underlying 22 = some (.slice 5) := by kernel_rfl
theorem uu5 : Try.prog.underlying 5 = some (.int .u8) := by kernel_rfl
theorem uu3 : Try.prog.underlying 3 = some (.int .i64) := by kernel_rfl
theorem uu4 : Try.prog.underlying 4 = some .bool := by kernel_rfl
theorem cc5 : Try.prog.cellsOf 5 = 1 := by kernel_rfl

section
variable {H : Type} {enc : TypeId × Value → H} {w : World} {base : Nat} {spare : Nat → Bool} {held : Bool}
theorem open_byts {fuel : Nat} {v : Value} {x : DataW H × List MemPlace} (h : DataW.trod enc Try.prog w base spare held fuel 22 [v] = some x) :
    ∃ A n c l, v = .slice A n c ∧ Byts w A n l ∧ (A = none → n = 0) ∧ n ≤ c ∧ n ≤ 9223372036854775807 := by
  rcases Deep.open_slice1 uu22 cc5 h with ⟨hcs, _⟩ | ⟨a, len, cap, m, n, V, D, Pl, hcs, _, hl, hm, hmm, _, hi⟩
  · simp only [List.cons.injEq, and_true] at hcs
    exact ⟨none, 0, 0, [], hcs, Rd.nil _ _ _, fun _ => rfl, by omega, by omega⟩
  · simp only [List.cons.injEq, and_true] at hcs
    have hlm : len ≤ m := by rw [hmm]; split <;> omega
    have hs : ∀ i, ∃ s : UInt8, i < len → w.cell? (a.add i) = some (bv s) := by
      intro i
      by_cases hil : i < len
      · obtain ⟨h1, h2⟩ := hi i (by omega)
        obtain ⟨k, e, _, hwf⟩ := DataW.trod_int uu5 h2
        simp only [List.cons.injEq, and_true] at e
        obtain ⟨hb1, hb2⟩ := bounds_u8 hwf
        refine ⟨UInt8.ofNat k.toNat, fun _ => ?_⟩
        rw [h1, e]
        simp [bv]
        omega
      · exact ⟨0, fun h => absurd h hil⟩
    obtain ⟨f, hf⟩ : ∃ f : Nat → UInt8, ∀ i, i < len → w.cell? (a.add i) = some (bv (f i)) := ⟨fun i => Classical.choose (hs i), fun i hi => Classical.choose_spec (hs i) hi⟩
    refine ⟨some a, len, cap, (List.range len).map f, hcs, ⟨by simp, fun hn => ?_⟩, (fun h => by cases h), hl, by unfold maxLen at hm; omega⟩
    have h0 := hf 0 hn
    obtain ⟨b, o, spot⟩ := a
    have hspot : spot = none := by simpa [Addr.add] using World.cell?_spot h0
    subst hspot
    refine ⟨b, o, rfl, fun j u hu => ?_⟩
    rw [List.map_map, List.getElem?_map] at hu
    obtain ⟨i, hi', rfl⟩ := Option.map_eq_some_iff.1 hu
    have hj : j < len := by
      have := (List.getElem?_eq_some_iff.1 hi').1
      simpa using this
    have : i = j := by
      rw [List.getElem?_range hj] at hi'
      cases hi'
      rfl
    subst this
    have := hf i hj
    rw [Addr.add_lit] at this
    exact this
end
end Go.Proofs.Ythnienoefnfnpaa
