/- signetlaw24.CachePlays returns true for every input, and each argument reads afterwards as it read before. Conditions: none besides the row's own. -/
import Derived.Test.YthegggfpofdcdaaRows
import Derived.Test.YthegggfpofdcdaaOp
import Derived.Test.YthegggfpofdcdaaWz
namespace Go.Proofs.Ythegggfpofdcdaa
open Go.ChangeShapes Go.WideShapes Go.ChangeAt Go.RowKit Go.Sig
open Go.ChangeMaps (open_string shut_string)

theorem plays_walk (sh ro : Int) (A : Option Addr) (len cap : Nat) (ss : List StepM) (w : World) (h : Script w A len ss) (hs : I64 sh) (hr : I64 ro) :
   Calls Try.prog 4 #[.int .i64 sh, .int .i64 ro, .slice A len cap] w fun e w' => e = .returned (.bool true) ∧ Fr [] w w' := by
  by_cases hb : 0 ≤ sh ∧ sh ≤ 1099511627776 ∧ 1 ≤ ro ∧ ro ≤ 64
  · exact plays_good sh ro A len cap ss w h hb.1 hb.2.1 hb.2.2.1 hb.2.2.2
  · exact plays_bad sh ro A len cap w hs hr hb
theorem own4 : ownKnob Try.prog.godebug = none := by kernel_rfl
theorem laidOut4 : laidOutB Try.prog = true := by kernel_rfl

set_option maxRecDepth 100000 in
theorem plays_lifted (os : Os) (started : os.Started) (H : Type) (enc : TypeId × Value → H) :
    ReturnsInHanded {} Try.checked os 4 .any (Rows.cachePlaysSpec.pre6 enc Try.prog Try.f4 Rows.cachePlaysRow.domain false) (Rows.cachePlaysSpec.post enc Try.prog Try.f4 false true false false) := by
  refine returnsInHanded_of_change (C := Try.checked) own4 started (by kernel_rfl) Try.func4
    (ChangeSpec.witness6 (enc := enc) (C := Try.checked) false ⟨#[], #[.int .i64 0, .int .i64 0, .slice none 0 0], []⟩ 8 (by kernel_rfl) (by kernel_rfl) (by kernel_rfl) (by kernel_rfl)) ?_
  intro W base args ds gs before hval0 hW hcnd _
  have hval : ∀ (j : Nat) t v, Try.f4.params[j]? = some t → args[j]? = some v → Value.okWide Try.prog W .any base t v := hval0
  have hW' := hW
  obtain ⟨p, q, hA0, hV, rfl, hfz, hnd⟩ := hW
  have hA : DataW.TrodAll enc Try.prog W 0 (fun _ => true) true Try.f4.params.toList args.toList ds p := hA0
  rw [Try.params4] at hA hval
  obtain ⟨v0, vs0, d0, ds0, p0, q0, hargs, rfl, rfl, h0, r0⟩ := trodAll_cons hA
  obtain ⟨v1, vs1, d1, ds1, p1, q1, rfl, rfl, rfl, h1, r1⟩ := trodAll_cons r0
  obtain ⟨v2, vs2, d2, ds2, p2, q2, rfl, rfl, rfl, h2, r2⟩ := trodAll_cons r1
  obtain ⟨rfl, rfl, rfl⟩ := trodAll_nil r2
  obtain rfl : args = #[v0, v1, v2] := by cases args; simp_all
  obtain ⟨rfl, rfl⟩ := trodVars_none hV
  obtain ⟨a0, rfl, rfl, rfl, w0⟩ := open_int u3 (hval 0 3 v0 rfl rfl) h0
  obtain ⟨a1, rfl, rfl, rfl, w1⟩ := open_int u3 (hval 1 3 v1 rfl rfl) h1
  obtain ⟨a2, len2, cap2, rfl⟩ := okWide_slice u22 (hval 2 22 v2 rfl rfl)
  have k2 := h2
  have lt2 : ∀ x ∈ p2, x.block < W.heap.size := by obtain ⟨m, hm⟩ := k2; exact DataW.trod_lt m _ _ _ hm
  obtain ⟨A, n, c, ss, hv, hS⟩ : ∃ A n c ss, Value.slice a2 len2 cap2 = .slice A n c ∧ Script W A n ss := by
    obtain ⟨fuel, hf⟩ := h2
    exact open_script (by simpa [Value.cells] using hf)
  injection hv with e1 e2 e3
  subst e1 e2 e3
  clear hA0 hval0
  refine (plays_walk a0 a1 a2 len2 cap2 ss W hS (bounds_i64 w0) (bounds_i64 w1)).mono fun e W' ⟨he, hF⟩ => ?_
  have bel := hF.below (Nat.le_refl _) (by simp)
  subst he
  exact ⟨_, rfl, _, _, _, [], _, [], hW', trodAll_mk1 (shut_bool u4 _), (trodAll_cons_mk (shut_int u3 w0) (trodAll_cons_mk (shut_int u3 w1) (trodAll_cons_mk (Below.trod laidOut4 (by kernel_rfl) (of_decide_eq_true (by kernel_rfl)) k2 bel lt2) trodAll_mk0))), rfl, bel.frame _, fun h => by cases h⟩

theorem plays_over : Rows.cachePlaysRow.holds Try.pinned (OpenSpec.ofChange Rows.cachePlaysSpec) :=
  OpenClaim.holds_of_wide 4 Try.f4 rfl rfl rfl rfl rfl rfl rfl ⟨rfl, rfl, rfl, rfl, rfl⟩ rfl rfl rfl rfl rfl (by kernel_rfl) Try.func4 (by kernel_rfl)
    (of_decide_eq_true (by kernel_rfl)) (by unfold Func.isWrapper; first | (rw [if_pos (by decide +kernel)]; kernel_rfl) | (rw [if_neg (by decide +kernel)]; exact ⟨rfl, rfl⟩))
    (fun os started H enc _ => plays_lifted os started H enc)

theorem plays_proved : Rows.CachePlaysSaid := plays_over
#print axioms plays_proved
end Go.Proofs.Ythegggfpofdcdaa
