/- From an argument that can be read as data to what the walks ask: calls, pairs, numbers. Conditions: none. -/
import Derived.Test.YtlhkkffljjbdmaaOpen
import Derived.Test.YtlhkkffljjbdmaaUk
namespace Go.Proofs.Ytlhkkffljjbdmaa
open Go.RowKit Go.Sig Go.ChangeShapes Go.WideShapes

theorem uuStr : Try.prog.underlying 9 = some .string := by kernel_rfl
theorem uuBool : Try.prog.underlying 4 = some .bool := by kernel_rfl
theorem uuInt : Try.prog.underlying 3 = some (.int .i64) := by kernel_rfl
theorem uuInts : Try.prog.underlying 35 = some (.slice 3) := by kernel_rfl
theorem uuSteps : Try.prog.underlying 34 = some (.slice 75) := by kernel_rfl
theorem uuStep : Try.prog.underlying 75 = some (.struct (Try.prog.fieldsOf 75)) := by kernel_rfl
theorem ccStr : Try.prog.cellsOf 9 = 1 := by kernel_rfl
theorem ccInt : Try.prog.cellsOf 3 = 1 := by kernel_rfl
theorem ccStep : Try.prog.cellsOf 75 = 3 := by kernel_rfl
theorem bbStep : Try.prog.bytesOf 75 = 40 := by kernel_rfl
theorem bbInt : Try.prog.bytesOf 3 = 8 := by kernel_rfl

section
variable {H : Type} {enc : TypeId × Value → H} {w : World} {base : Nat} {spare : Nat → Bool} {held : Bool}
set_option maxRecDepth 100000 in
theorem open_step {fuel : Nat} {cs : List Value} {x : DataW H × List MemPlace} (h : DataW.trod enc Try.prog w base spare held fuel 75 cs = some x) :
    ∃ s : St, cs = [.int .i64 s.1, .string s.2.1, .string s.2.2] ∧ s.2.1.size ∈ x.1.weights Try.prog 75 ∧ s.2.2.size ∈ x.1.weights Try.prog 75 := by
  obtain ⟨xs, n, _, hx, hlen, hxl, hf⟩ := DataW.trod_struct uuStep h
  rw [ccStep] at hlen
  match cs, hlen with
  | [v0, v1, v2], _ =>
    obtain ⟨y0, _, g0⟩ := field_at hf hxl (i := 0) (t := 3) (o := 0) (by kernel_rfl) ccInt
    obtain ⟨y1, i1, g1⟩ := field_at hf hxl (i := 1) (t := 9) (o := 1) (by kernel_rfl) ccStr
    obtain ⟨y2, i2, g2⟩ := field_at hf hxl (i := 2) (t := 9) (o := 2) (by kernel_rfl) ccStr
    simp only [List.drop_succ_cons, List.drop_zero, List.take_succ_cons, List.take_zero] at g0 g1 g2
    obtain ⟨n0, e0, _, w0⟩ := DataW.trod_int uuInt g0
    obtain ⟨s1, e1, d1, _⟩ := DataW.trod_string uuStr g1
    obtain ⟨s2, e2, d2, _⟩ := DataW.trod_string uuStr g2
    simp only [List.cons.injEq, and_true] at e0 e1 e2
    subst e0 e1 e2 d1 d2 hx
    refine ⟨(n0, s1, s2), rfl, ?_, ?_⟩
    · exact weights_field uuStep (i := 1) (t := 9) (o := 1) (by kernel_rfl) i1 _ (by simp [DataW.weights, Array.length_toList])
    · exact weights_field uuStep (i := 2) (t := 9) (o := 2) (by kernel_rfl) i2 _ (by simp [DataW.weights, Array.length_toList])
/-- The calls of a script. -/
theorem open_steps {fuel : Nat} {v : Value} {x : DataW H × List MemPlace} (h : DataW.trod enc Try.prog w base spare held fuel 34 [v] = some x) (hw : ∀ m ∈ x.1.weights Try.prog 34, m ≤ 140737488351232) :
    ∃ A n c, ∃ ss : List St, v = .slice A n c ∧ Rd w 3 A n (stepCells ss) ∧ ss.length = n ∧ n ≤ 150000000000000 ∧ ∀ s ∈ ss, s.2.1.size ≤ 150000000000000 ∧ s.2.2.size ≤ 150000000000000 := by
  obtain ⟨A, n, c, l, h1, h2, h3, h4, h5, h6, h7, h8⟩ := open_rows uuSteps ccStep (by decide) (fun s : St => [.int .i64 s.1, .string s.2.1, .string s.2.2]) (fun _ => rfl) (fun s d => s.2.1.size ∈ d.weights Try.prog 75 ∧ s.2.2.size ∈ d.weights Try.prog 75) (fun fuel cs x hx => open_step hx) h
  refine ⟨A, n, c, l, h1, h2, h3, ?_, fun s hs => ?_⟩
  · rcases Nat.eq_zero_or_pos n with h0 | h0
    · omega
    · obtain ⟨m, hm, hb⟩ := h8 h0
      have := hw m hm
      rw [bbStep] at hb
      omega
  · obtain ⟨d, ⟨k1, k2⟩, hd⟩ := h7 s hs
    have e1 := hw _ (hd _ k1)
    have e2 := hw _ (hd _ k2)
    omega
/-- Numbers. -/
theorem open_ns {fuel : Nat} {v : Value} {x : DataW H × List MemPlace} (h : DataW.trod enc Try.prog w base spare held fuel 35 [v] = some x) (hw : ∀ m ∈ x.1.weights Try.prog 35, m ≤ 140737488351232) :
    ∃ A n c, ∃ ns : List Int, v = .slice A n c ∧ Rd w 1 A n (intCells ns) ∧ ns.length = n ∧ n ≤ 150000000000000 ∧ ∀ a ∈ ns, (Lit.int .i64 a).wf = true := by
  obtain ⟨A, n, c, l, h1, h2, h3, h4, h5, h6, h7, h8⟩ := open_nums uuInts uuInt ccInt h
  refine ⟨A, n, c, l, h1, h2, h3, ?_, h7⟩
  rcases Nat.eq_zero_or_pos n with h0 | h0
  · omega
  · obtain ⟨m, hm, hb⟩ := h8 h0
    have := hw m hm
    rw [bbInt] at hb
    omega
end
end Go.Proofs.Ytlhkkffljjbdmaa
