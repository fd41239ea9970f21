/- signetlaw11.LaneKeeps returns true for every input, and each argument reads afterwards as it read before. Conditions: none besides the row's own. -/
import Derived.Test.YthnienoefnfnpaaRows
import Derived.Test.YthnienoefnfnpaaOq
import Derived.Test.YthnienoefnfnpaaWs
namespace Go.Proofs.Ythnienoefnfnpaa
open Go.ChangeShapes Go.WideShapes Go.ChangeAt Go.RowKit Go.Sig

theorem own6 : ownKnob Try.prog.godebug = none := by kernel_rfl
theorem laidOut6 : laidOutB Try.prog = true := by kernel_rfl
theorem uu51 : Try.prog.underlying 51 = some (.struct (Try.prog.fieldsOf 51)) := by kernel_rfl
theorem cc51 : Try.prog.cellsOf 51 = 5 := by kernel_rfl

section
variable {H : Type} {enc : TypeId × Value → H} {w : World} {base : Nat} {spare : Nat → Bool} {held : Bool}
theorem open_sp {fuel : Nat} {cs : List Value} {x : DataW H × List MemPlace} (h : DataW.trod enc Try.prog w base spare held fuel 51 cs = some x) : ∃ s : Sp, cs = s.arr.toList := by
  obtain ⟨xs, n, _, _, hlen, hxl, hf⟩ := DataW.trod_struct uu51 h
  rw [cc51] at hlen
  match cs, hlen with
  | [v0, v1, v2, v3, v4], _ =>
    obtain ⟨y0, g0⟩ := field_of hf hxl (i := 0) (t := 3) (o := 0) (by kernel_rfl) cc3
    obtain ⟨y1, g1⟩ := field_of hf hxl (i := 1) (t := 3) (o := 1) (by kernel_rfl) cc3
    obtain ⟨y2, g2⟩ := field_of hf hxl (i := 2) (t := 3) (o := 2) (by kernel_rfl) cc3
    obtain ⟨y3, g3⟩ := field_of hf hxl (i := 3) (t := 5) (o := 3) (by kernel_rfl) cc5
    obtain ⟨y4, g4⟩ := field_of hf hxl (i := 4) (t := 22) (o := 4) (by kernel_rfl) cc22
    simp only [List.drop_succ_cons, List.drop_zero, List.take_succ_cons, List.take_zero] at g0 g1 g2 g3 g4
    obtain ⟨n0, e0, _, w0⟩ := DataW.trod_int uu3 g0
    obtain ⟨n1, e1, _, w1⟩ := DataW.trod_int uu3 g1
    obtain ⟨n2, e2, _, w2⟩ := DataW.trod_int uu3 g2
    obtain ⟨n3, e3, _, w3⟩ := DataW.trod_int uu5 g3
    obtain ⟨A, n4, c4, l, e4, hb, hA, hc, hm⟩ := open_byts g4
    simp only [List.cons.injEq, and_true] at e0 e1 e2 e3
    subst e0 e1 e2 e3 e4
    exact ⟨⟨n0, n1, n2, n3, A, n4, c4⟩, rfl⟩
end

set_option maxRecDepth 100000 in
theorem keeps_lifted (os : Os) (started : os.Started) (H : Type) (enc : TypeId × Value → H) :
    ReturnsInHanded {} Try.checked os 6 .any (Rows.laneKeepsSpec.pre6 enc Try.prog Try.f6 Rows.laneKeepsRow.domain false) (Rows.laneKeepsSpec.post enc Try.prog Try.f6 false true false false) := by
  refine returnsInHanded_of_change (C := Try.checked) own6 started (by kernel_rfl) Try.func6
    (ChangeSpec.witness6 (enc := enc) (C := Try.checked) false ⟨#[], #[.slice none 0 0, .agg #[.int .i64 0, .int .i64 0, .int .i64 0, .int .u8 0, .slice none 0 0]], []⟩ 8 (by kernel_rfl) (by kernel_rfl) (by kernel_rfl) (by kernel_rfl)) ?_
  intro W base args ds gs before hval0 hW hcnd _
  have hval : ∀ (j : Nat) t v, Try.f6.params[j]? = some t → args[j]? = some v → Value.okWide Try.prog W .any base t v := hval0
  have hW' := hW
  obtain ⟨p, q, hA0, hV, rfl, hfz, hnd⟩ := hW
  have hA : DataW.TrodAll enc Try.prog W 0 (fun _ => true) true Try.f6.params.toList args.toList ds p := hA0
  rw [Try.params6] at hA hval
  obtain ⟨v0, vs0, d0, ds0, p0, q0, hargs, rfl, rfl, h0, r0⟩ := trodAll_cons hA
  obtain ⟨v1, vs1, d1, ds1, p1, q1, rfl, rfl, rfl, h1, r1⟩ := trodAll_cons r0
  obtain ⟨rfl, rfl, rfl⟩ := trodAll_nil r1
  obtain rfl : args = #[v0, v1] := by cases args; simp_all
  obtain ⟨rfl, rfl⟩ := trodVars_none hV
  obtain ⟨a0, len0, cap0, rfl⟩ := okWide_slice uu22 (hval 0 22 v0 rfl rfl)
  have k0 := h0
  have lt0 : ∀ x ∈ p0, x.block < W.heap.size := by obtain ⟨m, hm⟩ := k0; exact DataW.trod_lt m _ _ _ hm
  obtain ⟨A, n, c, l, hv, hS, hnA, hnc, _⟩ : ∃ A n c l, Value.slice a0 len0 cap0 = .slice A n c ∧ Byts W A n l ∧ (A = none → n = 0) ∧ n ≤ c ∧ n ≤ 9223372036854775807 := by
    obtain ⟨fuel, hf⟩ := h0
    exact open_byts (by simpa [Value.cells] using hf)
  injection hv with e1 e2 e3
  subst e1 e2 e3
  obtain ⟨cs, rfl, hcs⟩ := okWide_struct uu51 (hval 1 51 v1 rfl rfl)
  have k1 := h1
  have lt1 : ∀ x ∈ p1, x.block < W.heap.size := by obtain ⟨m, hm⟩ := k1; exact DataW.trod_lt m _ _ _ hm
  obtain ⟨s, hs⟩ : ∃ s : Sp, cs.toList = s.arr.toList := by
    obtain ⟨fuel, hf⟩ := h1
    exact open_sp (by simpa [Value.cells] using hf)
  obtain rfl : cs = s.arr := Array.toList_inj.1 hs
  clear hA0 hval0
  refine (keeps_walk a0 len0 cap0 l s W hS hnA hnc).mono fun e W' ⟨he, hF⟩ => ?_
  have bel := hF.below (Nat.le_refl _) (by simp)
  subst he
  exact ⟨_, rfl, _, _, _, [], _, [], hW', trodAll_mk1 (shut_bool uu4 _), (trodAll_cons_mk (Below.trod laidOut6 (by kernel_rfl) (of_decide_eq_true (by kernel_rfl)) k0 bel lt0) (trodAll_cons_mk (Below.trod laidOut6 (by kernel_rfl) (of_decide_eq_true (by kernel_rfl)) k1 bel lt1) trodAll_mk0)), rfl, bel.frame _, fun h => by cases h⟩

theorem keeps_over : Rows.laneKeepsRow.holds Try.pinned (OpenSpec.ofChange Rows.laneKeepsSpec) :=
  OpenClaim.holds_of_wide 6 Try.f6 rfl rfl rfl rfl rfl rfl rfl ⟨rfl, rfl, rfl, rfl, rfl⟩ rfl rfl rfl rfl rfl (by kernel_rfl) Try.func6 (by kernel_rfl)
    (of_decide_eq_true (by kernel_rfl)) (by unfold Func.isWrapper; first | (rw [if_pos (by decide +kernel)]; kernel_rfl) | (rw [if_neg (by decide +kernel)]; exact ⟨rfl, rfl⟩))
    (fun os started H enc _ => keeps_lifted os started H enc)

theorem keeps_proved : Rows.LaneKeepsSaid := keeps_over
#print axioms keeps_proved
end Go.Proofs.Ythnienoefnfnpaa
