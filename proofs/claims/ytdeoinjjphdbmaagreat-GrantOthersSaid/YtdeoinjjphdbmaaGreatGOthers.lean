/- signetlaw17.GrantOthers returns true for every input, and each argument reads afterwards as it read before. Conditions: none besides the row's own. -/
import Derived.Test.YtdeoinjjphdbmaaGreatRows
import Derived.Test.YtdeoinjjphdbmaaGreatHo
import Derived.Test.YtdeoinjjphdbmaaGreatHz
namespace Go.Proofs.YtdeoinjjphdbmaaGreat
open Go.ChangeShapes Go.WideShapes Go.ChangeAt Go.RowKit Go.Sig
open Go.ChangeMaps (open_string shut_string)

theorem own5 : ownKnob Tryz.prog.godebug = none := by kernel_rfl
theorem laidOut5 : laidOutB Tryz.prog = true := by kernel_rfl

set_option maxRecDepth 100000 in
theorem others_lifted (os : Os) (started : os.Started) (H : Type) (enc : TypeId × Value → H) :
    ReturnsInHanded {} Tryz.checked os 5 .any (Rows.grantOthersSpec.pre6 enc Tryz.prog Tryz.f5 Rows.grantOthersRow.domain false) (Rows.grantOthersSpec.post enc Tryz.prog Tryz.f5 false true false false) := by
  refine returnsInHanded_of_change_sized (C := Tryz.checked) own5 started (by kernel_rfl) Tryz.func5
    (ChangeSpec.witness6 (enc := enc) (C := Tryz.checked) false ⟨#[], #[.slice none 0 0, .agg #[.int .i64 0, .string ⟨#[]⟩, .int .i64 0, .int .i64 0, .string ⟨#[]⟩, .string ⟨#[]⟩, .slice none 0 0, .string ⟨#[]⟩, .string ⟨#[]⟩, .string ⟨#[]⟩, .string ⟨#[]⟩, .bool false, .int .i64 0]], []⟩ 8 (by kernel_rfl) (by kernel_rfl) (by kernel_rfl) (by kernel_rfl)) ?_
  intro W base args ds gs before hval0 hW hcnd hsz0 _
  have hval : ∀ (j : Nat) t v, Tryz.f5.params[j]? = some t → args[j]? = some v → Value.okWide Tryz.prog W .any base t v := hval0
  have hW' := hW
  obtain ⟨p, q, hA0, hV, rfl, hfz, hnd⟩ := hW
  have hA : DataW.TrodAll enc Tryz.prog W 0 (fun _ => true) true Tryz.f5.params.toList args.toList ds p := hA0
  rw [Tryz.params5] at hA hval
  obtain ⟨v0, vs0, d0, ds0, p0, q0, hargs, rfl, rfl, h0, r0⟩ := trodAll_cons hA
  obtain ⟨v1, vs1, d1, ds1, p1, q1, rfl, rfl, rfl, h1, r1⟩ := trodAll_cons r0
  obtain ⟨rfl, rfl, rfl⟩ := trodAll_nil r1
  obtain rfl : args = #[v0, v1] := by cases args; simp_all
  obtain ⟨rfl, rfl⟩ := trodVars_none hV
  have hw0 : ∀ m ∈ d0.weights Tryz.prog 22, m ≤ 140737488351232 := reach_each (j := 0) hsz0 (by kernel_rfl) rfl
  have k0 := h0
  have lt0 : ∀ x ∈ p0, x.block < W.heap.size := by obtain ⟨m, hm⟩ := k0; exact DataW.trod_lt m _ _ _ hm
  have hw1 : ∀ m ∈ d1.weights Tryz.prog 30, m ≤ 140737488351232 := reach_each (j := 1) hsz0 (by kernel_rfl) rfl
  have k1 := h1
  have lt1 : ∀ x ∈ p1, x.block < W.heap.size := by obtain ⟨m, hm⟩ := k1; exact DataW.trod_lt m _ _ _ hm
  obtain ⟨a0, len0, cap0, rfl⟩ := okWide_slice uuCmds (hval 0 22 v0 rfl rfl)
  obtain ⟨A0, m0, c0, l0, hv0, hl0⟩ := (by
    obtain ⟨fuel, hf⟩ := h0
    exact open_cmds (by simpa [Value.cells] using hf) hw0 : ∃ A n c, ∃ l : List CA, Value.slice a0 len0 cap0 = .slice A n c ∧ CmdsIn W A n l)
  injection hv0 with e1 e2 e3
  subst e1 e2 e3
  obtain ⟨cs1, rfl, hcs1⟩ := okWide_struct uuCmd (hval 1 30 v1 rfl rfl)
  obtain ⟨x1, hv1, hx1⟩ := (by
    obtain ⟨fuel, hf⟩ := h1
    obtain ⟨y, e1, e2⟩ := open_cmd (by simpa [Value.cells] using hf)
    exact ⟨y, e1, e2.cmd hw1⟩ : ∃ x : CA, cs1.toList = x.cells.toList ∧ CmdIn W x.c x.A x.c.scope.length)
  obtain rfl : cs1 = x1.cells := Array.toList_inj.1 hv1
  clear hA0 hval0
  refine (gothers_t W a0 len0 cap0 l0 hl0 x1 hx1).mono fun e W' ⟨he, hF⟩ => ?_
  have bel := hF.below (Nat.le_refl _) (by simp)
  subst he
  exact ⟨_, rfl, _, _, _, [], _, [], hW', trodAll_mk1 (shut_bool uuBool _), (trodAll_cons_mk (Below.trod laidOut5 (by kernel_rfl) (of_decide_eq_true (by kernel_rfl)) k0 bel lt0) (trodAll_cons_mk (Below.trod laidOut5 (by kernel_rfl) (of_decide_eq_true (by kernel_rfl)) k1 bel lt1) trodAll_mk0)), rfl, bel.frame _, fun h => by cases h⟩

theorem others_over : Rows.grantOthersRow.holds Tryz.pinned (OpenSpec.ofChange Rows.grantOthersSpec) :=
  OpenClaim.holds_of_wide 5 Tryz.f5 rfl rfl rfl rfl rfl rfl rfl ⟨rfl, rfl, rfl, rfl, rfl⟩ rfl rfl rfl rfl rfl (by kernel_rfl) Tryz.func5 (by kernel_rfl)
    (of_decide_eq_true (by kernel_rfl)) (by unfold Func.isWrapper; first | (rw [if_pos (by decide +kernel)]; kernel_rfl) | (rw [if_neg (by decide +kernel)]; exact ⟨rfl, rfl⟩))
    (fun os started H enc _ => others_lifted os started H enc)

theorem others_proved : Rows.GrantOthersSaid := others_over
#print axioms others_proved
end Go.Proofs.YtdeoinjjphdbmaaGreat
