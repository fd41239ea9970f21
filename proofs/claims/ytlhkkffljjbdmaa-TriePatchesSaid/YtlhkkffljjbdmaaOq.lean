/- From an argument that can be read as data to what the walks ask: pairs, a patch. Conditions: none. -/
import Derived.Test.YtlhkkffljjbdmaaOp
import Derived.Test.YtlhkkffljjbdmaaVa
namespace Go.Proofs.Ytlhkkffljjbdmaa
open Go.RowKit Go.Sig Go.ChangeShapes Go.WideShapes

theorem uuPairs : Try.prog.underlying 36 = some (.slice 66) := by kernel_rfl
theorem uuPair : Try.prog.underlying 66 = some (.struct (Try.prog.fieldsOf 66)) := by kernel_rfl
theorem uuPatch : Try.prog.underlying 53 = some (.struct (Try.prog.fieldsOf 53)) := by kernel_rfl
theorem uuB16 : Try.prog.underlying 51 = some (.array 16 4) := by kernel_rfl
theorem ccPair : Try.prog.cellsOf 66 = 2 := by kernel_rfl
theorem ccPairs : Try.prog.cellsOf 36 = 1 := by kernel_rfl
theorem ccPatch : Try.prog.cellsOf 53 = 17 := by kernel_rfl
theorem ccB16 : Try.prog.cellsOf 51 = 16 := by kernel_rfl
theorem ccBool : Try.prog.cellsOf 4 = 1 := by kernel_rfl
theorem bbPair : Try.prog.bytesOf 66 = 32 := by kernel_rfl

section
variable {H : Type} {enc : TypeId × Value → H} {w : World} {base : Nat} {spare : Nat → Bool} {held : Bool}
set_option maxRecDepth 100000 in
theorem open_pair {fuel : Nat} {cs : List Value} {x : DataW H × List MemPlace} (h : DataW.trod enc Try.prog w base spare held fuel 66 cs = some x) :
    ∃ s : Pr, cs = [.string s.1, .string s.2] ∧ s.1.size ∈ x.1.weights Try.prog 66 ∧ s.2.size ∈ x.1.weights Try.prog 66 := by
  obtain ⟨xs, n, _, hx, hlen, hxl, hf⟩ := DataW.trod_struct uuPair h
  rw [ccPair] at hlen
  match cs, hlen with
  | [v1, v2], _ =>
    obtain ⟨y1, i1, g1⟩ := field_at hf hxl (i := 0) (t := 9) (o := 0) (by kernel_rfl) ccStr
    obtain ⟨y2, i2, g2⟩ := field_at hf hxl (i := 1) (t := 9) (o := 1) (by kernel_rfl) ccStr
    simp only [List.drop_succ_cons, List.drop_zero, List.take_succ_cons, List.take_zero] at g1 g2
    obtain ⟨s1, e1, d1, _⟩ := DataW.trod_string uuStr g1
    obtain ⟨s2, e2, d2, _⟩ := DataW.trod_string uuStr g2
    simp only [List.cons.injEq, and_true] at e1 e2
    subst e1 e2 d1 d2 hx
    refine ⟨(s1, s2), rfl, ?_, ?_⟩
    · exact weights_field uuPair (i := 0) (t := 9) (o := 0) (by kernel_rfl) i1 _ (by simp [DataW.weights, Array.length_toList])
    · exact weights_field uuPair (i := 1) (t := 9) (o := 1) (by kernel_rfl) i2 _ (by simp [DataW.weights, Array.length_toList])
theorem open_pairs {fuel : Nat} {v : Value} {x : DataW H × List MemPlace} (h : DataW.trod enc Try.prog w base spare held fuel 36 [v] = some x) (hw : ∀ m ∈ x.1.weights Try.prog 36, m ≤ 140737488351232) :
    ∃ A n c, ∃ ps : List Pr, v = .slice A n c ∧ Rd w 2 A n (pairCells ps) ∧ ps.length = n ∧ n ≤ 150000000000000 ∧ n ≤ c ∧ c ≤ maxLen ∧ ∀ s ∈ ps, s.1.size ≤ 150000000000000 ∧ s.2.size ≤ 150000000000000 := by
  obtain ⟨A, n, c, l, h1, h2, h3, h4, h5, h6, h7, h8⟩ := open_rows uuPairs ccPair (by decide) (fun s : Pr => [.string s.1, .string s.2]) (fun _ => rfl) (fun s d => s.1.size ∈ d.weights Try.prog 66 ∧ s.2.size ∈ d.weights Try.prog 66) (fun fuel cs x hx => open_pair hx) h
  refine ⟨A, n, c, l, h1, h2, h3, ?_, h5, h6, fun s hs => ?_⟩
  · rcases Nat.eq_zero_or_pos n with h0 | h0
    · omega
    · obtain ⟨m, hm, hb⟩ := h8 h0
      have := hw m hm
      rw [bbPair] at hb
      omega
  · obtain ⟨d, ⟨k1, k2⟩, hd⟩ := h7 s hs
    have e1 := hw _ (hd _ k1)
    have e2 := hw _ (hd _ k2)
    omega
def boolOf (o : Option Value) : Bool := match o with
  | some (Value.bool b) => b
  | _ => false
/-- Sixteen booleans. -/
theorem open_bools {fuel : Nat} {cs : List Value} {x : DataW H × List MemPlace} (h : DataW.trod enc Try.prog w base spare held fuel 51 cs = some x) : ∃ pl : List Bool, pl.length = 16 ∧ cs = pl.map Value.bool := by
  obtain ⟨xs, m, _, _, hlen, hxl, hi⟩ := DataW.trod_array uuB16 h
  rw [ccB16] at hlen
  have hb : ∀ i, i < 16 → ∃ b, cs[i]? = some (.bool b) := by
    intro i hil
    have h1 := hi i hil
    rw [ccBool, Nat.mul_one] at h1
    have hx : i < xs.length := by omega
    rw [List.getElem?_eq_getElem hx] at h1
    obtain ⟨b, hb, _⟩ := DataW.trod_bool uuBool h1
    refine ⟨b, ?_⟩
    have h2 : ((cs.drop i).take 1)[0]? = some (Value.bool b) := by rw [hb]; rfl
    rw [List.getElem?_take_of_lt (by decide), List.getElem?_drop] at h2
    simpa using h2
  refine ⟨(List.range 16).map (fun i => boolOf (cs[i]?)), by simp, ?_⟩
  apply List.ext_getElem?
  intro i
  by_cases hil : i < 16
  · obtain ⟨b, hb2⟩ := hb i hil
    rw [hb2, List.getElem?_map, List.getElem?_map, List.getElem?_range hil]
    simp [hb2, boolOf]
  · rw [List.getElem?_eq_none (by omega), List.getElem?_eq_none (by simp; omega)]
set_option maxRecDepth 100000 in
theorem open_patch {fuel : Nat} {cs : List Value} {x : DataW H × List MemPlace} (h : DataW.trod enc Try.prog w base spare held fuel 53 cs = some x) (hw : ∀ m ∈ x.1.weights Try.prog 53, m ≤ 140737488351232) :
    ∃ (pl : List Bool) (A : Option Addr) (n c : Nat) (ps : List Pr), pl.length = 16 ∧ cs = (patchV pl (.slice A n c)).toList ∧ Rd w 2 A n (pairCells ps) ∧ ps.length = n ∧ n ≤ 150000000000000 ∧ n ≤ c ∧ c ≤ maxLen ∧ ∀ s ∈ ps, s.1.size ≤ 150000000000000 ∧ s.2.size ≤ 150000000000000 := by
  obtain ⟨xs, n, _, hx, hlen, hxl, hf⟩ := DataW.trod_struct uuPatch h
  rw [ccPatch] at hlen
  obtain ⟨y1, i1, g1⟩ := field_at hf hxl (i := 0) (t := 51) (o := 0) (by kernel_rfl) ccB16
  obtain ⟨y2, i2, g2⟩ := field_at hf hxl (i := 1) (t := 36) (o := 16) (by kernel_rfl) ccPairs
  obtain ⟨pl, hpl, hb⟩ := open_bools g1
  have hl1 : ((cs.drop 16).take 1).length = 1 := by rw [List.length_take, List.length_drop]; omega
  obtain ⟨v, hv⟩ := List.length_eq_one_iff.1 hl1
  rw [hv] at g2
  obtain ⟨A, m, c, ps, e1, e2, e3, e4, e5, e6, e7⟩ := open_pairs g2 (fun m hm => hw m (by
    rw [hx]
    exact weights_field uuPatch (i := 1) (t := 36) (o := 16) (by kernel_rfl) i2 m hm))
  refine ⟨pl, A, m, c, ps, hpl, ?_, e2, e3, e4, e5, e6, e7⟩
  have h1 : cs = (cs.drop 0).take 16 ++ (cs.drop 16).take 1 := by
    rw [List.drop_zero, List.take_of_length_le (show (cs.drop 16).length ≤ 1 by rw [List.length_drop]; omega), List.take_append_drop]
  rw [h1, hb, hv, e1]
  rfl
end
end Go.Proofs.Ytlhkkffljjbdmaa
