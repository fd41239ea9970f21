/- From an argument that can be read as data to what the walks ask: a slice of packets, of numbers. Conditions: none. -/
import Derived.Test.YthnienoefnfnpaaOp
import Derived.Test.YthnienoefnfnpaaWk
namespace Go.Proofs.Ythnienoefnfnpaa
open Go.RowKit Go.Sig Go.ChangeShapes Go.WideShapes

theorem uu33 : Try.prog.underlying 33 = some (.slice 37) := by kernel_rfl
theorem uu34 : Try.prog.underlying 34 = some (.slice 3) := by kernel_rfl
theorem uu37 : Try.prog.underlying 37 = some (.struct (Try.prog.fieldsOf 37)) := by kernel_rfl
theorem cc3 : Try.prog.cellsOf 3 = 1 := by kernel_rfl
theorem cc22 : Try.prog.cellsOf 22 = 1 := by kernel_rfl
theorem cc37 : Try.prog.cellsOf 37 = 3 := by kernel_rfl

theorem field_of {H : Type} {enc : TypeId × Value → H} {P : Program} {w : World} {base : Nat} {spare : Nat → Bool} {held : Bool} {fs : Array Field} {n : Nat} {cs : List Value} {xs : List (DataW H × List MemPlace)}
    (h : ∀ (i : Nat) (f : Field), fs[i]? = some f → DataW.trod enc P w base spare held n f.type ((cs.drop f.offset).take (P.cellsOf f.type)) = xs[i]?) (hx : xs.length = fs.size)
    {i : Nat} {t o c : Nat} (hk : (fs[i]?).map (fun f => (f.type, f.offset)) = some (t, o)) (hc : P.cellsOf t = c) : ∃ y, DataW.trod enc P w base spare held n t ((cs.drop o).take c) = some y := by
  obtain ⟨f, hf, he⟩ := Option.map_eq_some_iff.1 hk
  simp only [Prod.mk.injEq] at he
  have h1 := h i f hf
  rw [he.1, he.2, hc] at h1
  have hi : i < xs.length := by rw [hx]; exact (Array.getElem?_eq_some_iff.1 hf).1
  rw [List.getElem?_eq_getElem hi] at h1
  exact ⟨_, h1⟩

section
variable {H : Type} {enc : TypeId × Value → H} {w : World} {base : Nat} {spare : Nat → Bool} {held : Bool}
def SentOk (w : World) (q : Pc × List UInt8) : Prop := I64 q.1.src ∧ I64 q.1.dst ∧ Byts w q.1.a q.1.n q.2 ∧ (q.1.a = none → q.1.n = 0) ∧ q.1.n ≤ 9223372036854775807
theorem open_packet {fuel : Nat} {cs : List Value} {x : DataW H × List MemPlace} (h : DataW.trod enc Try.prog w base spare held fuel 37 cs = some x) : ∃ q : Pc × List UInt8, cs = q.1.cells ∧ SentOk w q := by
  obtain ⟨xs, n, _, _, hlen, hxl, hf⟩ := DataW.trod_struct uu37 h
  rw [cc37] at hlen
  match cs, hlen with
  | [v0, v1, v2], _ =>
    obtain ⟨y0, g0⟩ := field_of hf hxl (i := 0) (t := 3) (o := 0) (by kernel_rfl) cc3
    obtain ⟨y1, g1⟩ := field_of hf hxl (i := 1) (t := 3) (o := 1) (by kernel_rfl) cc3
    obtain ⟨y2, g2⟩ := field_of hf hxl (i := 2) (t := 22) (o := 2) (by kernel_rfl) cc22
    simp only [List.drop_succ_cons, List.drop_zero, List.take_succ_cons, List.take_zero] at g0 g1 g2
    obtain ⟨n0, e0, _, w0⟩ := DataW.trod_int uu3 g0
    obtain ⟨n1, e1, _, w1⟩ := DataW.trod_int uu3 g1
    obtain ⟨A, n2, c2, l, e2, hb, hA, hc, hm⟩ := open_byts g2
    simp only [List.cons.injEq, and_true] at e0 e1
    subst e0 e1 e2
    exact ⟨(⟨n0, n1, A, n2, c2⟩, l), rfl, bounds_i64 w0, bounds_i64 w1, hb, hA, hm⟩

theorem flat_len (f : Nat → List Value) (k : Nat) (hf : ∀ i, (f i).length = k) : ∀ n, ((List.range n).flatMap f).length = n * k
  | 0 => by simp
  | n + 1 => by rw [List.range_succ, List.flatMap_append, List.length_append, flat_len f k hf n]; simp [hf, Nat.add_mul]
theorem flat_range (f : Nat → List Value) (k : Nat) (hf : ∀ i, (f i).length = k) (P : Nat → Value → Prop) (n : Nat) (h : ∀ i, i < n → ∀ j v, (f i)[j]? = some v → P (i * k + j) v) :
    ∀ q v, ((List.range n).flatMap f)[q]? = some v → P q v := by
  induction n with
  | zero => intro q v hq; simp at hq
  | succ n ih =>
    intro q v hq
    have hlen := flat_len f k hf n
    rw [List.range_succ, List.flatMap_append] at hq
    rcases Nat.lt_or_ge q (n * k) with hlt | hge
    · rw [List.getElem?_append_left (by omega)] at hq
      exact ih (fun i hi => h i (by omega)) q v hq
    · rw [List.getElem?_append_right (by omega), hlen] at hq
      have := h n (by omega) (q - n * k) v (by simpa using hq)
      rwa [show n * k + (q - n * k) = q by omega] at this

theorem open_sent {fuel : Nat} {v : Value} {x : DataW H × List MemPlace} (h : DataW.trod enc Try.prog w base spare held fuel 33 [v] = some x) :
    ∃ A n c ss, v = .slice A n c ∧ Sent w A n ss := by
  rcases Deep.open_slice uu33 h with ⟨hcs, _⟩ | ⟨a, len, cap, m, n, D, Pl, hcs, _, hl, hm, hmm, _, hi⟩
  · simp only [List.cons.injEq, and_true] at hcs
    exact ⟨none, 0, 0, [], hcs, ⟨Rd.nil _ _ _, rfl, by simp, by omega⟩⟩
  · simp only [List.cons.injEq, and_true] at hcs
    have hlm : len ≤ m := by rw [hmm]; split <;> omega
    have hs : ∀ i, ∃ s : Pc × List UInt8, i < len → SentOk w s ∧ ∀ j u, s.1.cells[j]? = some u → w.cell? ((a.add (i * 3)).add j) = some u := by
      intro i
      by_cases hil : i < len
      · obtain ⟨cs', h1, h2⟩ := hi i (by omega)
        rw [cc37] at h1
        obtain ⟨s, rfl, hok⟩ := open_packet h2
        obtain ⟨_, hcl, hat⟩ := World.cells?_some h1
        refine ⟨s, fun _ => ⟨hok, fun j u hu => ?_⟩⟩
        rw [hat j (by have := (List.getElem?_eq_some_iff.1 hu).1; simpa using this)]
        exact hu
      · exact ⟨(default, []), fun h => absurd h hil⟩
    obtain ⟨f, hf⟩ : ∃ f : Nat → Pc × List UInt8, ∀ i, i < len → SentOk w (f i) ∧ ∀ j u, (f i).1.cells[j]? = some u → w.cell? ((a.add (i * 3)).add j) = some u := ⟨fun i => Classical.choose (hs i), fun i hi => Classical.choose_spec (hs i) hi⟩
    refine ⟨some a, len, cap, (List.range len).map f, hcs, ⟨⟨?_, fun hn => ?_⟩, by simp, ?_, by unfold maxLen at hm; omega⟩⟩
    · rw [List.flatMap_map]
      exact flat_len _ 3 (fun _ => rfl) len
    · have h0 := (hf 0 hn).2 0 _ rfl
      obtain ⟨b, o, spot⟩ := a
      have hspot : spot = none := by simpa [Addr.add] using World.cell?_spot h0
      subst hspot
      refine ⟨b, o, rfl, ?_⟩
      rw [List.flatMap_map]
      refine flat_range (fun i => (f i).1.cells) 3 (fun _ => rfl) (fun q v => w.cell? ⟨b, o + q, none⟩ = some v) len (fun i hi j u hu => ?_)
      have := (hf i hi).2 j u hu
      rw [Addr.add_lit, Addr.add_lit] at this
      rw [← Nat.add_assoc]
      exact this
    · intro s hs
      obtain ⟨i, hi, rfl⟩ := List.mem_map.1 hs
      exact (hf i (List.mem_range.1 hi)).1

theorem open_zs {fuel : Nat} {v : Value} {x : DataW H × List MemPlace} (h : DataW.trod enc Try.prog w base spare held fuel 34 [v] = some x) :
    ∃ A n c zs, v = .slice A n c ∧ Ints w A n zs := by
  rcases Deep.open_slice1 uu34 cc3 h with ⟨hcs, _⟩ | ⟨a, len, cap, m, n, V, D, Pl, hcs, _, hl, hm, hmm, _, hi⟩
  · simp only [List.cons.injEq, and_true] at hcs
    exact ⟨none, 0, 0, [], hcs, ⟨Rd.nil _ _ _, rfl, by simp, by omega⟩⟩
  · simp only [List.cons.injEq, and_true] at hcs
    have hlm : len ≤ m := by rw [hmm]; split <;> omega
    have hs : ∀ i, ∃ z : Int, i < len → I64 z ∧ w.cell? (a.add i) = some (.int .i64 z) := by
      intro i
      by_cases hil : i < len
      · obtain ⟨h1, h2⟩ := hi i (by omega)
        obtain ⟨k, e, _, hwf⟩ := DataW.trod_int uu3 h2
        simp only [List.cons.injEq, and_true] at e
        exact ⟨k, fun _ => ⟨bounds_i64 hwf, by rw [h1, e]⟩⟩
      · exact ⟨0, fun h => absurd h hil⟩
    obtain ⟨f, hf⟩ : ∃ f : Nat → Int, ∀ i, i < len → I64 (f i) ∧ w.cell? (a.add i) = some (.int .i64 (f i)) := ⟨fun i => Classical.choose (hs i), fun i hi => Classical.choose_spec (hs i) hi⟩
    refine ⟨some a, len, cap, (List.range len).map f, hcs, ⟨⟨by simp, fun hn => ?_⟩, by simp, ?_, by unfold maxLen at hm; omega⟩⟩
    · have h0 := (hf 0 hn).2
      obtain ⟨b, o, spot⟩ := a
      have hspot : spot = none := by simpa [Addr.add] using World.cell?_spot h0
      subst hspot
      refine ⟨b, o, rfl, fun j u hu => ?_⟩
      rw [List.map_map, List.getElem?_map] at hu
      obtain ⟨i, hi', rfl⟩ := Option.map_eq_some_iff.1 hu
      have hj : j < len := by
        have := (List.getElem?_eq_some_iff.1 hi').1
        simpa using this
      have : i = j := by
        rw [List.getElem?_range hj] at hi'
        cases hi'
        rfl
      subst this
      have := (hf i hj).2
      rw [Addr.add_lit] at this
      exact this
    · intro z hz
      obtain ⟨i, hi, rfl⟩ := List.mem_map.1 hz
      exact (hf i (List.mem_range.1 hi)).1
end
end Go.Proofs.Ythnienoefnfnpaa
