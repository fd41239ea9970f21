/- signetlaw13.TrieOrders returns true for every input, and each argument reads afterwards as it read before. Conditions: none besides the row's own. -/
import Derived.Test.YtlhkkffljjbdmaaRows
import Derived.Test.YtlhkkffljjbdmaaOp
import Derived.Test.YtlhkkffljjbdmaaWc
namespace Go.Proofs.Ytlhkkffljjbdmaa
open Go.ChangeShapes Go.WideShapes Go.ChangeAt Go.RowKit Go.Sig
open Go.ChangeMaps (open_string shut_string)

theorem own8 : ownKnob Try.prog.godebug = none := by kernel_rfl
theorem laidOut8 : laidOutB Try.prog = true := by kernel_rfl

set_option maxRecDepth 100000 in
theorem orders_lifted (os : Os) (started : os.Started) (H : Type) (enc : TypeId × Value → H) :
    ReturnsInHanded {} Try.checked os 8 .any (Rows.trieOrdersSpec.pre6 enc Try.prog Try.f8 Rows.trieOrdersRow.domain false) (Rows.trieOrdersSpec.post enc Try.prog Try.f8 false true false false) := by
  refine returnsInHanded_of_change_sized (C := Try.checked) own8 started (by kernel_rfl) Try.func8
    (ChangeSpec.witness6 (enc := enc) (C := Try.checked) false ⟨#[], #[.slice none 0 0, .slice none 0 0], []⟩ 8 (by kernel_rfl) (by kernel_rfl) (by kernel_rfl) (by kernel_rfl)) ?_
  intro W base args ds gs before hval0 hW hcnd hsz0 _
  have hval : ∀ (j : Nat) t v, Try.f8.params[j]? = some t → args[j]? = some v → Value.okWide Try.prog W .any base t v := hval0
  have hW' := hW
  obtain ⟨p, q, hA0, hV, rfl, hfz, hnd⟩ := hW
  have hA : DataW.TrodAll enc Try.prog W 0 (fun _ => true) true Try.f8.params.toList args.toList ds p := hA0
  rw [Try.params8] at hA hval
  obtain ⟨v0, vs0, d0, ds0, p0, q0, hargs, rfl, rfl, h0, r0⟩ := trodAll_cons hA
  obtain ⟨v1, vs1, d1, ds1, p1, q1, rfl, rfl, rfl, h1, r1⟩ := trodAll_cons r0
  obtain ⟨rfl, rfl, rfl⟩ := trodAll_nil r1
  obtain rfl : args = #[v0, v1] := by cases args; simp_all
  obtain ⟨rfl, rfl⟩ := trodVars_none hV
  have hw0 : ∀ m ∈ d0.weights Try.prog 34, m ≤ 140737488351232 := reach_each (j := 0) hsz0 (by kernel_rfl) rfl
  have hw1 : ∀ m ∈ d1.weights Try.prog 35, m ≤ 140737488351232 := reach_each (j := 1) hsz0 (by kernel_rfl) rfl
  have k0 := h0
  have k1 := h1
  have lt0 : ∀ x ∈ p0, x.block < W.heap.size := by obtain ⟨m, hm⟩ := k0; exact DataW.trod_lt m _ _ _ hm
  have lt1 : ∀ x ∈ p1, x.block < W.heap.size := by obtain ⟨m, hm⟩ := k1; exact DataW.trod_lt m _ _ _ hm
  obtain ⟨a0, len0, cap0, rfl⟩ := okWide_slice uuSteps (hval 0 34 v0 rfl rfl)
  obtain ⟨a1, len1, cap1, rfl⟩ := okWide_slice uuInts (hval 1 35 v1 rfl rfl)
  obtain ⟨A, n, c, ss, hv0, hR, hn, hmax, hs⟩ := (by
    obtain ⟨fuel, hf⟩ := h0
    exact open_steps (by simpa [Value.cells] using hf) hw0 : ∃ A n c, ∃ ss : List St, Value.slice a0 len0 cap0 = .slice A n c ∧ Rd W 3 A n (stepCells ss) ∧ ss.length = n ∧ n ≤ 150000000000000 ∧ ∀ s ∈ ss, s.2.1.size ≤ 150000000000000 ∧ s.2.2.size ≤ 150000000000000)
  obtain ⟨B, m, d, ns, hv1, hB, hm, hmm, _⟩ := (by
    obtain ⟨fuel, hf⟩ := h1
    exact open_ns (by simpa [Value.cells] using hf) hw1 : ∃ A n c, ∃ ns : List Int, Value.slice a1 len1 cap1 = .slice A n c ∧ Rd W 1 A n (intCells ns) ∧ ns.length = n ∧ n ≤ 150000000000000 ∧ ∀ a ∈ ns, (Lit.int .i64 a).wf = true)
  injection hv0 with e1 e2 e3
  subst e1 e2 e3
  injection hv1 with e1 e2 e3
  subst e1 e2 e3
  clear hA0 hval0
  refine (orders_t W a0 len0 cap0 ss hR hn hmax hs a1 len1 cap1 ns hB hm hmm).mono fun e W' ⟨he, hF⟩ => ?_
  have bel := hF.below (Nat.le_refl _) (by simp)
  subst he
  exact ⟨_, rfl, _, _, _, [], _, [], hW', trodAll_mk1 (shut_bool uuBool _), (trodAll_cons_mk (Below.trod laidOut8 (by kernel_rfl) (of_decide_eq_true (by kernel_rfl)) k0 bel lt0) (trodAll_cons_mk (Below.trod laidOut8 (by kernel_rfl) (of_decide_eq_true (by kernel_rfl)) k1 bel lt1) trodAll_mk0)), rfl, bel.frame _, fun h => by cases h⟩

theorem orders_over : Rows.trieOrdersRow.holds Try.pinned (OpenSpec.ofChange Rows.trieOrdersSpec) :=
  OpenClaim.holds_of_wide 8 Try.f8 rfl rfl rfl rfl rfl rfl rfl ⟨rfl, rfl, rfl, rfl, rfl⟩ rfl rfl rfl rfl rfl (by kernel_rfl) Try.func8 (by kernel_rfl)
    (of_decide_eq_true (by kernel_rfl)) (by unfold Func.isWrapper; first | (rw [if_pos (by decide +kernel)]; kernel_rfl) | (rw [if_neg (by decide +kernel)]; exact ⟨rfl, rfl⟩))
    (fun os started H enc _ => orders_lifted os started H enc)

theorem orders_proved : Rows.TrieOrdersSaid := orders_over
#print axioms orders_proved
end Go.Proofs.Ytlhkkffljjbdmaa
