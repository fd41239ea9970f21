/- signetlaw13.TrieDiffers returns true for every input, and each argument reads afterwards as it read before. Conditions: none besides the row's own. -/
import Derived.Test.YtlhkkffljjbdmaaRows
import Derived.Test.YtlhkkffljjbdmaaOp
import Derived.Test.YtlhkkffljjbdmaaZf
namespace Go.Proofs.Ytlhkkffljjbdmaa
open Go.ChangeShapes Go.WideShapes Go.ChangeAt Go.RowKit Go.Sig
open Go.ChangeMaps (open_string shut_string)

section
variable {H : Type} {enc : TypeId × Value → H} {w : World} {base : Nat} {spare : Nat → Bool} {held : Bool}
theorem open_steps40 {fuel : Nat} {v : Value} {x : DataW H × List MemPlace} (h : DataW.trod enc Try.prog w base spare held fuel 34 [v] = some x) (hw : ∀ m ∈ x.1.weights Try.prog 34, m ≤ 140737488351232) :
    ∃ A n c, ∃ ss : List St, v = .slice A n c ∧ Rd w 3 A n (stepCells ss) ∧ ss.length = n ∧ n ≤ c ∧ c ≤ maxLen ∧ n * 40 ≤ 140737488351232 ∧ ∀ s ∈ ss, s.2.1.size ≤ 150000000000000 ∧ s.2.2.size ≤ 150000000000000 := by
  obtain ⟨A, n, c, l, h1, h2, h3, h4, h5, h6, h7, h8⟩ := open_rows uuSteps ccStep (by decide) (fun s : St => [.int .i64 s.1, .string s.2.1, .string s.2.2]) (fun _ => rfl) (fun s d => s.2.1.size ∈ d.weights Try.prog 75 ∧ s.2.2.size ∈ d.weights Try.prog 75) (fun fuel cs x hx => open_step hx) h
  refine ⟨A, n, c, l, h1, h2, h3, h5, h6, ?_, fun s hs => ?_⟩
  · rcases Nat.eq_zero_or_pos n with h0 | h0
    · omega
    · obtain ⟨m, hm, hb⟩ := h8 h0
      have := hw m hm
      rw [bbStep] at hb
      omega
  · obtain ⟨d, ⟨k1, k2⟩, hd⟩ := h7 s hs
    have e1 := hw _ (hd _ k1)
    have e2 := hw _ (hd _ k2)
    omega
end

theorem own7 : ownKnob Try.prog.godebug = none := by kernel_rfl
theorem laidOut7 : laidOutB Try.prog = true := by kernel_rfl

set_option maxRecDepth 100000 in
theorem differs_lifted (os : Os) (started : os.Started) (H : Type) (enc : TypeId × Value → H) :
    ReturnsInHanded {} Try.checked os 7 .any (Rows.trieDiffersSpec.pre6 enc Try.prog Try.f7 Rows.trieDiffersRow.domain false) (Rows.trieDiffersSpec.post enc Try.prog Try.f7 false true false false) := by
  refine returnsInHanded_of_change_sized (C := Try.checked) own7 started (by kernel_rfl) Try.func7
    (ChangeSpec.witness6 (enc := enc) (C := Try.checked) false ⟨#[], #[.slice none 0 0, .slice none 0 0], []⟩ 8 (by kernel_rfl) (by kernel_rfl) (by kernel_rfl) (by kernel_rfl)) ?_
  intro W base args ds gs before hval0 hW hcnd hsz0 _
  have hval : ∀ (j : Nat) t v, Try.f7.params[j]? = some t → args[j]? = some v → Value.okWide Try.prog W .any base t v := hval0
  have hW' := hW
  obtain ⟨p, q, hA0, hV, rfl, hfz, hnd⟩ := hW
  have hA : DataW.TrodAll enc Try.prog W 0 (fun _ => true) true Try.f7.params.toList args.toList ds p := hA0
  rw [Try.params7] at hA hval
  obtain ⟨v0, vs0, d0, ds0, p0, q0, hargs, rfl, rfl, h0, r0⟩ := trodAll_cons hA
  obtain ⟨v1, vs1, d1, ds1, p1, q1, rfl, rfl, rfl, h1, r1⟩ := trodAll_cons r0
  obtain ⟨rfl, rfl, rfl⟩ := trodAll_nil r1
  obtain rfl : args = #[v0, v1] := by cases args; simp_all
  obtain ⟨rfl, rfl⟩ := trodVars_none hV
  have hw0 : ∀ m ∈ d0.weights Try.prog 34, m ≤ 140737488351232 := reach_each (j := 0) hsz0 (by kernel_rfl) rfl
  have hw1 : ∀ m ∈ d1.weights Try.prog 34, m ≤ 140737488351232 := reach_each (j := 1) hsz0 (by kernel_rfl) rfl
  have k0 := h0
  have k1 := h1
  have lt0 : ∀ x ∈ p0, x.block < W.heap.size := by obtain ⟨m, hm⟩ := k0; exact DataW.trod_lt m _ _ _ hm
  have lt1 : ∀ x ∈ p1, x.block < W.heap.size := by obtain ⟨m, hm⟩ := k1; exact DataW.trod_lt m _ _ _ hm
  obtain ⟨a0, len0, cap0, rfl⟩ := okWide_slice uuSteps (hval 0 34 v0 rfl rfl)
  obtain ⟨a1, len1, cap1, rfl⟩ := okWide_slice uuSteps (hval 1 34 v1 rfl rfl)
  obtain ⟨A, n, c, ss, hv0, hR, hn, hnc, hcm, hmax, hs⟩ := (by
    obtain ⟨fuel, hf⟩ := h0
    exact open_steps40 (by simpa [Value.cells] using hf) hw0 : ∃ A n c, ∃ ss : List St, Value.slice a0 len0 cap0 = .slice A n c ∧ Rd W 3 A n (stepCells ss) ∧ ss.length = n ∧ n ≤ c ∧ c ≤ maxLen ∧ n * 40 ≤ 140737488351232 ∧ ∀ s ∈ ss, s.2.1.size ≤ 150000000000000 ∧ s.2.2.size ≤ 150000000000000)
  obtain ⟨B, m, d, ts, hv1, hB, hm, _, _, hmm, hs2⟩ := (by
    obtain ⟨fuel, hf⟩ := h1
    exact open_steps40 (by simpa [Value.cells] using hf) hw1 : ∃ A n c, ∃ ss : List St, Value.slice a1 len1 cap1 = .slice A n c ∧ Rd W 3 A n (stepCells ss) ∧ ss.length = n ∧ n ≤ c ∧ c ≤ maxLen ∧ n * 40 ≤ 140737488351232 ∧ ∀ s ∈ ss, s.2.1.size ≤ 150000000000000 ∧ s.2.2.size ≤ 150000000000000)
  injection hv0 with e1 e2 e3
  subst e1 e2 e3
  injection hv1 with e1 e2 e3
  subst e1 e2 e3
  clear hA0 hval0
  refine (differs_t W a0 len0 cap0 ss hR hn (by omega) hnc hcm hs a1 len1 cap1 ts hB hm hmm hs2).mono fun e W' ⟨he, hF⟩ => ?_
  have bel := hF.below (Nat.le_refl _) (by simp)
  subst he
  exact ⟨_, rfl, _, _, _, [], _, [], hW', trodAll_mk1 (shut_bool uuBool _), (trodAll_cons_mk (Below.trod laidOut7 (by kernel_rfl) (of_decide_eq_true (by kernel_rfl)) k0 bel lt0) (trodAll_cons_mk (Below.trod laidOut7 (by kernel_rfl) (of_decide_eq_true (by kernel_rfl)) k1 bel lt1) trodAll_mk0)), rfl, bel.frame _, fun h => by cases h⟩

theorem differs_over : Rows.trieDiffersRow.holds Try.pinned (OpenSpec.ofChange Rows.trieDiffersSpec) :=
  OpenClaim.holds_of_wide 7 Try.f7 rfl rfl rfl rfl rfl rfl rfl ⟨rfl, rfl, rfl, rfl, rfl⟩ rfl rfl rfl rfl rfl (by kernel_rfl) Try.func7 (by kernel_rfl)
    (of_decide_eq_true (by kernel_rfl)) (by unfold Func.isWrapper; first | (rw [if_pos (by decide +kernel)]; kernel_rfl) | (rw [if_neg (by decide +kernel)]; exact ⟨rfl, rfl⟩))
    (fun os started H enc _ => differs_lifted os started H enc)

theorem differs_proved : Rows.TrieDiffersSaid := differs_over
#print axioms differs_proved
end Go.Proofs.Ytlhkkffljjbdmaa
