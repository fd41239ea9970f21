/- signetlaw17.GrantMay returns true for every input, and its arguments read afterwards as they read before. Conditions: none besides the row's own. -/
import Derived.Test.YtdeoinjjphdbmaaGreatRows
import Derived.Test.YtdeoinjjphdbmaaGreatHo
import Derived.Test.YtdeoinjjphdbmaaGreatJu
import Derived.Test.YtdeoinjjphdbmaaGreatJt
namespace Go.Proofs.YtdeoinjjphdbmaaGreat
open Go.ChangeShapes Go.WideShapes Go.ChangeAt Go.RowKit Go.Sig
open Go.ChangeMaps (open_string shut_string)

theorem own6 : ownKnob Tryz.prog.godebug = none := by kernel_rfl
theorem laidOut6 : laidOutB Tryz.prog = true := by kernel_rfl

set_option maxRecDepth 100000 in
theorem may_lifted (os : Os) (started : os.Started) (H : Type) (enc : TypeId × Value → H) :
    ReturnsInHanded {} Tryz.checked os 6 .any (Rows.grantMaySpec.pre6 enc Tryz.prog Tryz.f6 Rows.grantMayRow.domain false) (Rows.grantMaySpec.post enc Tryz.prog Tryz.f6 false true false false) := by
  refine returnsInHanded_of_change_sized (C := Tryz.checked) own6 started (by kernel_rfl) Tryz.func6
    (ChangeSpec.witness6 (enc := enc) (C := Tryz.checked) false ⟨#[], #[.agg #[.int .i64 0, .string ⟨#[]⟩, .int .i64 0, .int .i64 0, .string ⟨#[]⟩, .string ⟨#[]⟩, .slice none 0 0, .string ⟨#[]⟩, .string ⟨#[]⟩, .string ⟨#[]⟩, .string ⟨#[]⟩, .bool false, .int .i64 0], .agg #[.string ⟨#[]⟩, .string ⟨#[]⟩, .string ⟨#[]⟩, .slice none 0 0, .string ⟨#[]⟩, .string ⟨#[]⟩, .string ⟨#[]⟩, .int .i64 0, .slice none 0 0, .bool false, .slice none 0 0], .int .i64 0], []⟩ 8 (by kernel_rfl) (by kernel_rfl) (by kernel_rfl) (by kernel_rfl)) ?_
  intro W base args ds gs before hval0 hW hcnd hsz0 _
  have hval : ∀ (j : Nat) t v, Tryz.f6.params[j]? = some t → args[j]? = some v → Value.okWide Tryz.prog W .any base t v := hval0
  have hW' := hW
  obtain ⟨p, q, hA0, hV, rfl, hfz, hnd⟩ := hW
  have hA : DataW.TrodAll enc Tryz.prog W 0 (fun _ => true) true Tryz.f6.params.toList args.toList ds p := hA0
  rw [Tryz.params6] at hA hval
  obtain ⟨v0, vs0, d0, ds0, p0, q0, hargs, rfl, rfl, h0, r0⟩ := trodAll_cons hA
  obtain ⟨v1, vs1, d1, ds1, p1, q1, rfl, rfl, rfl, h1, r1⟩ := trodAll_cons r0
  obtain ⟨v2, vs2, d2, ds2, p2, q2, rfl, rfl, rfl, h2, r2⟩ := trodAll_cons r1
  obtain ⟨rfl, rfl, rfl⟩ := trodAll_nil r2
  obtain rfl : args = #[v0, v1, v2] := by cases args; simp_all
  obtain ⟨rfl, rfl⟩ := trodVars_none hV
  have hw0 : ∀ m ∈ d0.weights Tryz.prog 30, m ≤ 140737488351232 := reach_each (j := 0) hsz0 (by kernel_rfl) rfl
  have k0 := h0
  have lt0 : ∀ x ∈ p0, x.block < W.heap.size := by obtain ⟨m, hm⟩ := k0; exact DataW.trod_lt m _ _ _ hm
  have hw1 : ∀ m ∈ d1.weights Tryz.prog 39, m ≤ 140737488351232 := reach_each (j := 1) hsz0 (by kernel_rfl) rfl
  have k1 := h1
  have lt1 : ∀ x ∈ p1, x.block < W.heap.size := by obtain ⟨m, hm⟩ := k1; exact DataW.trod_lt m _ _ _ hm
  obtain ⟨cs0, rfl, hcs0⟩ := okWide_struct uuCmd (hval 0 30 v0 rfl rfl)
  obtain ⟨x0, hv0, hx0⟩ := (by
    obtain ⟨fuel, hf⟩ := h0
    obtain ⟨y, e1, e2⟩ := open_cmd (by simpa [Value.cells] using hf)
    exact ⟨y, e1, e2.cmd hw0⟩ : ∃ x : CA, cs0.toList = x.cells.toList ∧ CmdIn W x.c x.A x.c.scope.length)
  obtain rfl : cs0 = x0.cells := Array.toList_inj.1 hv0
  obtain ⟨cs1, rfl, hcs1⟩ := okWide_struct uuFam (hval 1 39 v1 rfl rfl)
  obtain ⟨x1, hv1, hx1, hz1⟩ := (by
    obtain ⟨fuel, hf⟩ := h1
    exact open_fam (by simpa [Value.cells] using hf) hw1 : ∃ x : FA, cs1.toList = x.cells.toList ∧ FamIn W [] x ∧ FamSz x)
  obtain rfl : cs1 = x1.cells := Array.toList_inj.1 hv1
  obtain ⟨a2, rfl, rfl, rfl, w2⟩ := open_int uuInt (hval 2 3 v2 rfl rfl) h2
  clear hA0 hval0
  refine (gmay_t W x0.c x0.A x0.k hx0 x1 hx1 hz1 a2).mono fun e W' ⟨he, hF⟩ => ?_
  have bel := hF.below (Nat.le_refl _) (by simp)
  subst he
  exact ⟨_, rfl, _, _, _, [], _, [], hW', trodAll_mk1 (shut_bool uuBool _), (trodAll_cons_mk (Below.trod laidOut6 (by kernel_rfl) (of_decide_eq_true (by kernel_rfl)) k0 bel lt0) (trodAll_cons_mk (Below.trod laidOut6 (by kernel_rfl) (of_decide_eq_true (by kernel_rfl)) k1 bel lt1) (trodAll_cons_mk (shut_int uuInt w2) trodAll_mk0))), rfl, bel.frame _, fun h => by cases h⟩

theorem may_over : Rows.grantMayRow.holds Tryz.pinned (OpenSpec.ofChange Rows.grantMaySpec) :=
  OpenClaim.holds_of_wide 6 Tryz.f6 rfl rfl rfl rfl rfl rfl rfl ⟨rfl, rfl, rfl, rfl, rfl⟩ rfl rfl rfl rfl rfl (by kernel_rfl) Tryz.func6 (by kernel_rfl)
    (of_decide_eq_true (by kernel_rfl)) (by unfold Func.isWrapper; first | (rw [if_pos (by decide +kernel)]; kernel_rfl) | (rw [if_neg (by decide +kernel)]; exact ⟨rfl, rfl⟩))
    (fun os started H enc _ => may_lifted os started H enc)

theorem may_proved : Rows.GrantMaySaid := may_over
#print axioms may_proved
end Go.Proofs.YtdeoinjjphdbmaaGreat
