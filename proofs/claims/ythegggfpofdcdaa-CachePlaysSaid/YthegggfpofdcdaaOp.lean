/- From an argument that can be read as data to what the walks ask: a slice of steps, an answer, strings. Conditions: none. -/
import Derived.Test.YthegggfpofdcdaaCs
import Derived.ProofKit
import Derived.OpenShut
import Derived.ShutString
import Derived.ChangeOld
import Derived.Below
import Derived.SliceStrings
import Derived.Deep.Slices
namespace Go.Proofs.Ythegggfpofdcdaa
open Go.RowKit Go.Sig Go.ChangeShapes Go.WideShapes

theorem field_of {H : Type} {enc : TypeId × Value → H} {P : Program} {w : World} {base : Nat} {spare : Nat → Bool} {held : Bool} {fs : Array Field} {n : Nat} {cs : List Value} {xs : List (DataW H × List MemPlace)}
    (h : ∀ (i : Nat) (f : Field), fs[i]? = some f → DataW.trod enc P w base spare held n f.type ((cs.drop f.offset).take (P.cellsOf f.type)) = xs[i]?) (hx : xs.length = fs.size)
    {i : Nat} {t o c : Nat} (hk : (fs[i]?).map (fun f => (f.type, f.offset)) = some (t, o)) (hc : P.cellsOf t = c) : ∃ y, DataW.trod enc P w base spare held n t ((cs.drop o).take c) = some y := by
  obtain ⟨f, hf, he⟩ := Option.map_eq_some_iff.1 hk
  simp only [Prod.mk.injEq] at he
  have h1 := h i f hf
  rw [he.1, he.2, hc] at h1
  have hi : i < xs.length := by rw [hx]; exact (Array.getElem?_eq_some_iff.1 hf).1
  rw [List.getElem?_eq_getElem hi] at h1
  exact ⟨_, h1⟩

theorem u4 : Try.prog.underlying 4 = some .bool := by kernel_rfl
theorem u29 : Try.prog.underlying 29 = some (.int .i64) := by kernel_rfl
theorem u30 : Try.prog.underlying 30 = some (.slice 9) := by kernel_rfl
theorem u32 : Try.prog.underlying 32 = some (.struct (Try.prog.fieldsOf 32)) := by kernel_rfl
theorem u34 : Try.prog.underlying 34 = some (.struct (Try.prog.fieldsOf 34)) := by kernel_rfl
theorem u22 : Try.prog.underlying 22 = some (.slice 34) := by kernel_rfl
theorem c9' : Try.prog.cellsOf 9 = 1 := by kernel_rfl
theorem c3' : Try.prog.cellsOf 3 = 1 := by kernel_rfl
theorem c4' : Try.prog.cellsOf 4 = 1 := by kernel_rfl
theorem c29' : Try.prog.cellsOf 29 = 1 := by kernel_rfl
theorem c30' : Try.prog.cellsOf 30 = 1 := by kernel_rfl
theorem c32' : Try.prog.cellsOf 32 = 8 := by kernel_rfl
theorem c34' : Try.prog.cellsOf 34 = 13 := by kernel_rfl

section
variable {H : Type} {enc : TypeId × Value → H} {w : World} {base : Nat} {spare : Nat → Bool} {held : Bool}

theorem open_strs {fuel : Nat} {v : Value} {x : DataW H × List MemPlace} (h : DataW.trod enc Try.prog w base spare held fuel 30 [v] = some x) :
    ∃ A n c l, v = .slice A n c ∧ Strs w A n l ∧ (A = none → n = 0) := by
  rcases open_strings u30 u9 c9' h with ⟨hcs, _⟩ | ⟨a, len, cap, ss, hcs, _, hl, hm, hz, hx, hcell, _⟩
  · simp only [List.cons.injEq, and_true] at hcs
    exact ⟨none, 0, 0, [], hcs, Rd.nil _ _ _, fun _ => rfl⟩
  · simp only [List.cons.injEq, and_true] at hcs
    refine ⟨some a, len, cap, ss.take len, hcs, ?_, fun h => by cases h⟩
    have hlen : len ≤ ss.length := by rw [hz]; split <;> omega
    refine ⟨by simp [Nat.min_eq_left hlen], fun hn => ?_⟩
    have h0 := hcell 0 (by omega)
    obtain ⟨b, o, spot⟩ := a
    have hspot : spot = none := by simpa [Addr.add] using World.cell?_spot h0
    subst hspot
    refine ⟨b, o, rfl, fun j u hu => ?_⟩
    simp only [List.getElem?_map, Option.map_eq_some_iff] at hu
    obtain ⟨s, hs, rfl⟩ := hu
    have hj : j < len := by
      have := (List.getElem?_eq_some_iff.1 hs).1
      simp at this
      omega
    rw [List.getElem?_take_of_lt hj] at hs
    have := hcell j (by omega)
    rw [Addr.add_lit] at this
    rw [this]
    simp [List.getD, hs]

theorem open_ans {fuel : Nat} {cs : List Value} {x : DataW H × List MemPlace} (h : DataW.trod enc Try.prog w base spare held fuel 32 cs = some x) :
    ∃ (a : Ans) (l : List ByteArray), cs = a.cells ∧ Strs w a.sa a.sl l ∧ (a.sa = none → a.sl = 0) := by
  obtain ⟨xs, n, _, _, hlen, hxl, hf⟩ := DataW.trod_struct u32 h
  rw [c32'] at hlen
  match cs, hlen with
  | [v0, v1, v2, v3, v4, v5, v6, v7], _ =>
    obtain ⟨y0, g0⟩ := field_of hf hxl (i := 0) (t := 29) (o := 0) (by kernel_rfl) c29'
    obtain ⟨y1, g1⟩ := field_of hf hxl (i := 1) (t := 3) (o := 1) (by kernel_rfl) c3'
    obtain ⟨y2, g2⟩ := field_of hf hxl (i := 2) (t := 3) (o := 2) (by kernel_rfl) c3'
    obtain ⟨y3, g3⟩ := field_of hf hxl (i := 3) (t := 30) (o := 3) (by kernel_rfl) c30'
    obtain ⟨y4, g4⟩ := field_of hf hxl (i := 4) (t := 9) (o := 4) (by kernel_rfl) c9'
    obtain ⟨y5, g5⟩ := field_of hf hxl (i := 5) (t := 9) (o := 5) (by kernel_rfl) c9'
    obtain ⟨y6, g6⟩ := field_of hf hxl (i := 6) (t := 4) (o := 6) (by kernel_rfl) c4'
    obtain ⟨y7, g7⟩ := field_of hf hxl (i := 7) (t := 4) (o := 7) (by kernel_rfl) c4'
    simp only [List.drop_succ_cons, List.drop_zero, List.take_succ_cons, List.take_zero] at g0 g1 g2 g3 g4 g5 g6 g7
    obtain ⟨n0, e0, _⟩ := DataW.trod_int u29 g0
    obtain ⟨n1, e1, _⟩ := DataW.trod_int u3 g1
    obtain ⟨n2, e2, _⟩ := DataW.trod_int u3 g2
    obtain ⟨A, sn, sc, l, e3, hs, hA⟩ := open_strs g3
    obtain ⟨s4, e4, _⟩ := DataW.trod_string u9 g4
    obtain ⟨s5, e5, _⟩ := DataW.trod_string u9 g5
    obtain ⟨b6, e6, _⟩ := DataW.trod_bool u4 g6
    obtain ⟨b7, e7, _⟩ := DataW.trod_bool u4 g7
    simp only [List.cons.injEq, and_true] at e0 e1 e2 e4 e5 e6 e7
    subst e0 e1 e2 e3 e4 e5 e6 e7
    exact ⟨⟨n0, n1, n2, A, sn, sc, s4, s5, b6, b7⟩, l, rfl, hs, hA⟩

theorem open_step {fuel : Nat} {cs : List Value} {x : DataW H × List MemPlace} (h : DataW.trod enc Try.prog w base spare held fuel 34 cs = some x) : ∃ s : StepM, cs = s.cells ∧ StepOk w s := by
  obtain ⟨xs, n, _, _, hlen, hxl, hf⟩ := DataW.trod_struct u34 h
  rw [c34'] at hlen
  match cs, hlen with
  | [v0, v1, v2, v3, v4, v5, v6, v7, v8, v9, v10, v11, v12], _ =>
    obtain ⟨y0, g0⟩ := field_of hf hxl (i := 0) (t := 3) (o := 0) (by kernel_rfl) c3'
    obtain ⟨y1, g1⟩ := field_of hf hxl (i := 1) (t := 9) (o := 1) (by kernel_rfl) c9'
    obtain ⟨y2, g2⟩ := field_of hf hxl (i := 2) (t := 9) (o := 2) (by kernel_rfl) c9'
    obtain ⟨y3, g3⟩ := field_of hf hxl (i := 3) (t := 3) (o := 3) (by kernel_rfl) c3'
    obtain ⟨y4, g4⟩ := field_of hf hxl (i := 4) (t := 3) (o := 4) (by kernel_rfl) c3'
    obtain ⟨y5, g5⟩ := field_of hf hxl (i := 5) (t := 32) (o := 5) (by kernel_rfl) c32'
    simp only [List.drop_succ_cons, List.drop_zero, List.take_succ_cons, List.take_zero] at g0 g1 g2 g3 g4 g5
    obtain ⟨n0, e0, _, w0⟩ := DataW.trod_int u3 g0
    obtain ⟨s1, e1, _⟩ := DataW.trod_string u9 g1
    obtain ⟨s2, e2, _⟩ := DataW.trod_string u9 g2
    obtain ⟨n3, e3, _, w3⟩ := DataW.trod_int u3 g3
    obtain ⟨n4, e4, _, w4⟩ := DataW.trod_int u3 g4
    obtain ⟨a, l, e5, hs, hA⟩ := open_ans g5
    simp only [Ans.cells, List.cons.injEq, and_true] at e0 e1 e2 e3 e4 e5
    obtain ⟨rfl, rfl, rfl, rfl, rfl, rfl, rfl, rfl⟩ := e5
    subst e0 e1 e2 e3 e4
    exact ⟨⟨n0, s1, s2, n3, n4, a, l⟩, rfl, ⟨bounds_i64 w0, bounds_i64 w3, bounds_i64 w4, hs, hA⟩⟩

theorem flat_len (f : Nat → List Value) (k : Nat) (hf : ∀ i, (f i).length = k) : ∀ n, ((List.range n).flatMap f).length = n * k
  | 0 => by simp
  | n + 1 => by rw [List.range_succ, List.flatMap_append, List.length_append, flat_len f k hf n]; simp [hf, Nat.add_mul]
theorem flat_range (f : Nat → List Value) (k : Nat) (hf : ∀ i, (f i).length = k) (P : Nat → Value → Prop) (n : Nat) (h : ∀ i, i < n → ∀ j v, (f i)[j]? = some v → P (i * k + j) v) :
    ∀ q v, ((List.range n).flatMap f)[q]? = some v → P q v := by
  induction n with
  | zero => intro q v hq; simp at hq
  | succ n ih =>
    intro q v hq
    have hlen := flat_len f k hf n
    rw [List.range_succ, List.flatMap_append] at hq
    rcases Nat.lt_or_ge q (n * k) with hlt | hge
    · rw [List.getElem?_append_left (by omega)] at hq
      exact ih (fun i hi => h i (by omega)) q v hq
    · rw [List.getElem?_append_right (by omega), hlen] at hq
      have := h n (by omega) (q - n * k) v (by simpa using hq)
      rwa [show n * k + (q - n * k) = q by omega] at this

theorem open_script {fuel : Nat} {v : Value} {x : DataW H × List MemPlace} (h : DataW.trod enc Try.prog w base spare held fuel 22 [v] = some x) :
    ∃ A n c ss, v = .slice A n c ∧ Script w A n ss := by
  rcases Deep.open_slice u22 h with ⟨hcs, _⟩ | ⟨a, len, cap, m, n, D, Pl, hcs, _, hl, hm, hmm, _, hi⟩
  · simp only [List.cons.injEq, and_true] at hcs
    exact ⟨none, 0, 0, [], hcs, ⟨Rd.nil _ _ _, rfl, by simp, by omega⟩⟩
  · simp only [List.cons.injEq, and_true] at hcs
    have hlm : len ≤ m := by rw [hmm]; split <;> omega
    have hs : ∀ i, ∃ s : StepM, i < len → StepOk w s ∧ ∀ j u, s.cells[j]? = some u → w.cell? ((a.add (i * 13)).add j) = some u := by
      intro i
      by_cases hil : i < len
      · obtain ⟨cs', h1, h2⟩ := hi i (by omega)
        rw [c34'] at h1
        obtain ⟨s, rfl, hok⟩ := open_step h2
        obtain ⟨_, hcl, hat⟩ := World.cells?_some h1
        refine ⟨s, fun _ => ⟨hok, fun j u hu => ?_⟩⟩
        rw [hat j (by have := (List.getElem?_eq_some_iff.1 hu).1; simpa using this)]
        exact hu
      · exact ⟨default, fun h => absurd h hil⟩
    have hch : ∃ f : Nat → StepM, ∀ i, i < len → StepOk w (f i) ∧ ∀ j u, (f i).cells[j]? = some u → w.cell? ((a.add (i * 13)).add j) = some u := ⟨fun i => Classical.choose (hs i), fun i hi => Classical.choose_spec (hs i) hi⟩
    obtain ⟨f, hf⟩ := hch
    refine ⟨some a, len, cap, (List.range len).map f, hcs, ⟨⟨?_, fun hn => ?_⟩, by simp, ?_, by unfold maxLen at hm; omega⟩⟩
    · rw [List.flatMap_map]
      exact flat_len _ 13 (fun _ => rfl) len
    · have h0 := (hf 0 hn).2 0 _ rfl
      obtain ⟨b, o, spot⟩ := a
      have hspot : spot = none := by simpa [Addr.add] using World.cell?_spot h0
      subst hspot
      refine ⟨b, o, rfl, ?_⟩
      rw [List.flatMap_map]
      refine flat_range (fun i => (f i).cells) 13 (fun _ => rfl) (fun q v => w.cell? ⟨b, o + q, none⟩ = some v) len (fun i hi j u hu => ?_)
      have := (hf i hi).2 j u hu
      rw [Addr.add_lit, Addr.add_lit] at this
      rw [← Nat.add_assoc]
      exact this
    · intro s hs
      obtain ⟨i, hi, rfl⟩ := List.mem_map.1 hs
      exact (hf i (List.mem_range.1 hi)).1
end
end Go.Proofs.Ythegggfpofdcdaa
