/- The world of LaneOrders' loops: a lane, and two slices of packets that the call has made. Conditions: none. -/
import Derived.Test.YthnienoefnfnpaaWj
namespace Go.Proofs.Ythnienoefnfnpaa
open Go.RowKit Go.Sig

/-- A packet's cells in an argument's memory. -/
structure Told (w : World) (q : Pc × Pk) : Prop where
  src : q.1.src = q.2.src
  dst : q.1.dst = q.2.dst
  bs : Byts w q.1.a q.1.n q.2.bs
  le : q.1.n ≤ 65544

structure OW (w wr : World) (b : Nat) (F : List Nat) (L : LaneM) (v7 v8 : Value) (ws ss : List (Pc × Pk)) : Prop where
  lane : LaneAt wr b F L
  base : ∀ g ∈ F, w.heap.size ≤ g
  fr : Fr [] w wr
  o7 : Own wr 37 3 v7 ws.length (ws.flatMap fun q => q.1.cells)
  o8 : Own wr 37 3 v8 ss.length (ss.flatMap fun q => q.1.cells)
  d7 : ∀ g ∈ rowOf v7, g ∉ F ∧ w.heap.size ≤ g
  d8 : ∀ g ∈ rowOf v8, g ∉ F ∧ w.heap.size ≤ g
  d78 : ∀ g ∈ rowOf v7, g ∉ rowOf v8
  p7 : ∀ q ∈ ws, Told w q
  p8 : ∀ q ∈ ss, Told w q

section
variable {w wr w2 : World} {b : Nat} {F F2 : List Nat} {L L2 : LaneM} {v7 v8 v' : Value} {ws ss : List (Pc × Pk)}
theorem OW.quiet (h : OW w wr b F L v7 v8 ws ss) (hf : Fr [] wr w2) : OW w w2 b F L v7 v8 ws ss :=
  ⟨h.lane.nilfr hf, h.base, h.fr.trans hf, h.o7.fr hf (by simp), h.o8.fr hf (by simp), h.d7, h.d8, h.d78, h.p7, h.p8⟩
theorem OW.went (h : OW w wr b F L v7 v8 ws ss) (hl : LaneAt w2 b F2 L2) (g : Went wr w2 F F2) : OW w w2 b F2 L2 v7 v8 ws ss :=
  ⟨hl, g.base h.base h.fr.size, h.fr.andThen g.fr (fun x hx => .inr (h.base x hx)), h.o7.fr g.fr (fun x hx => (h.d7 x hx).1), h.o8.fr g.fr (fun x hx => (h.d8 x hx).1),
    fun x hx => ⟨g.far (h.o7.lt x hx) (h.d7 x hx).1, (h.d7 x hx).2⟩, fun x hx => ⟨g.far (h.o8.lt x hx) (h.d8 x hx).1, (h.d8 x hx).2⟩, h.d78, h.p7, h.p8⟩
theorem OW.app7 (h : OW w wr b F L v7 v8 ws ss) {q : Pc × Pk} (hq : Told w q) (q1 : Own w2 37 3 v' (ws.length + 1) ((ws.flatMap fun q => q.1.cells) ++ q.1.cells)) (q2 : Fr (rowOf v7) wr w2) (q3 : ∀ g, g ∈ rowOf v' → g ∈ rowOf v7 ∨ g = wr.heap.size) :
    OW w w2 b F L v' v8 (ws ++ [q]) ss := by
  have hF := h.lane.lt
  have h8 := h.o8.lt
  have hn : ∀ g ∈ rowOf v', g ∈ rowOf v7 ∨ wr.heap.size ≤ g := fun g hg => (q3 g hg).imp id (fun e => by omega)
  refine ⟨h.lane.fr q2 (fun g hg hh => (h.d7 g hh).1 hg), h.base, h.fr.andThen q2 (fun g hg => .inr (h.d7 g hg).2), ?_, h.o8.fr q2 (fun g hg hh => h.d78 g hh hg), fun g hg => ?_, h.d8, fun g hg hh => ?_, fun x hx => ?_, h.p8⟩
  · rw [List.length_append, List.flatMap_append]
    simpa using q1
  · rcases hn g hg with h1 | h1
    · exact h.d7 g h1
    · exact ⟨fun hh => by have := hF g hh; omega, Nat.le_trans h.fr.size h1⟩
  · rcases hn g hg with h1 | h1
    · exact h.d78 g h1 hh
    · have := h8 g hh; omega
  · rcases List.mem_append.1 hx with hx | hx
    · exact h.p7 x hx
    · simp only [List.mem_singleton] at hx
      subst hx
      exact hq
theorem OW.app8 (h : OW w wr b F L v7 v8 ws ss) {q : Pc × Pk} (hq : Told w q) (q1 : Own w2 37 3 v' (ss.length + 1) ((ss.flatMap fun q => q.1.cells) ++ q.1.cells)) (q2 : Fr (rowOf v8) wr w2) (q3 : ∀ g, g ∈ rowOf v' → g ∈ rowOf v8 ∨ g = wr.heap.size) :
    OW w w2 b F L v7 v' ws (ss ++ [q]) := by
  have hF := h.lane.lt
  have h7 := h.o7.lt
  have hn : ∀ g ∈ rowOf v', g ∈ rowOf v8 ∨ wr.heap.size ≤ g := fun g hg => (q3 g hg).imp id (fun e => by omega)
  refine ⟨h.lane.fr q2 (fun g hg hh => (h.d8 g hh).1 hg), h.base, h.fr.andThen q2 (fun g hg => .inr (h.d8 g hg).2), h.o7.fr q2 (fun g hg hh => h.d78 g hg hh), ?_, h.d7, fun g hg => ?_, fun g hg hh => ?_, h.p7, fun x hx => ?_⟩
  · rw [List.length_append, List.flatMap_append]
    simpa using q1
  · rcases hn g hg with h1 | h1
    · exact h.d8 g h1
    · exact ⟨fun hh => by have := hF g hh; omega, Nat.le_trans h.fr.size h1⟩
  · rcases hn g hh with h1 | h1
    · exact h.d78 g hg h1
    · have := h7 g hg; omega
  · rcases List.mem_append.1 hx with hx | hx
    · exact h.p8 x hx
    · simp only [List.mem_singleton] at hx
      subst hx
      exact hq
theorem own_at {n : Nat} {v : Value} {ps : List (Pc × Pk)} (h : Own w 37 3 v n (ps.flatMap fun q => q.1.cells)) (hn : n = ps.length) {k : Nat} (hk : k < ps.length) : ∃ g cap, v = .slice (some ⟨g, 0, none⟩) n cap ∧ g < w.heap.size ∧ w.cell? ⟨g, k * 3, none⟩ = some (.int .i64 ps[k].1.src) ∧ w.cell? ⟨g, k * 3 + 1, none⟩ = some (.int .i64 ps[k].1.dst) ∧ w.cell? ⟨g, k * 3 + 2, none⟩ = some (.slice ps[k].1.a ps[k].1.n ps[k].1.c) := by
  subst hn
  obtain ⟨A, cap, rfl, -⟩ := h.form
  have hr := h.rd
  rcases h.2 with ⟨hv, h0⟩ | ⟨g, cap', cur, hv, _, hg, _⟩
  · omega
  · injection hv with hv _ _
    subst hv
    obtain ⟨b', o, hA, hc⟩ := hr.2 (by omega)
    injection hA with hA
    injection hA with h1 h2 _
    subst h1 h2
    have hf : ∀ q : Pc × Pk, (q.1.cells).length = 3 := fun _ => rfl
    refine ⟨g, cap, rfl, lt_of_heap hg, ?_, ?_, ?_⟩
    · have := hc (k * 3 + 0) _ (by rw [flat_get _ 3 hf ps k 0 hk (by omega)]; rfl)
      simpa using this
    · have := hc (k * 3 + 1) _ (by rw [flat_get _ 3 hf ps k 1 hk (by omega)]; rfl)
      simpa using this
    · have := hc (k * 3 + 2) _ (by rw [flat_get _ 3 hf ps k 2 hk (by omega)]; rfl)
      simpa using this

/-- An argument of packets; of numbers. -/
structure Sent (w : World) (A : Option Addr) (n : Nat) (ss : List (Pc × List UInt8)) : Prop where
  rd : Rd w 3 A n (ss.flatMap fun q => q.1.cells)
  length : ss.length = n
  ok : ∀ q ∈ ss, I64 q.1.src ∧ I64 q.1.dst ∧ Byts w q.1.a q.1.n q.2 ∧ (q.1.a = none → q.1.n = 0) ∧ q.1.n ≤ 9223372036854775807
  le : n ≤ 9223372036854775807
structure Ints (w : World) (A : Option Addr) (n : Nat) (zs : List Int) : Prop where
  rd : Rd w 1 A n (zs.map (Value.int .i64))
  length : zs.length = n
  ok : ∀ z ∈ zs, I64 z
  le : n ≤ 9223372036854775807
theorem Sent.at {A : Option Addr} {n k : Nat} {ss : List (Pc × List UInt8)} (h : Sent w A n ss) (hf : Fr [] w wr) (hk : k < ss.length) : ∃ b o, A = some ⟨b, o, none⟩ ∧ wr.cell? ⟨b, o + k * 3, none⟩ = some (.int .i64 ss[k].1.src) ∧ wr.cell? ⟨b, o + k * 3 + 1, none⟩ = some (.int .i64 ss[k].1.dst) ∧ wr.cell? ⟨b, o + k * 3 + 2, none⟩ = some (.slice ss[k].1.a ss[k].1.n ss[k].1.c) := by
  obtain ⟨b, o, hA, hc⟩ := (Rd.fr h.rd hf (by simp [Off])).2 (by have := h.length; omega)
  have hf : ∀ q : Pc × List UInt8, (q.1.cells).length = 3 := fun _ => rfl
  refine ⟨b, o, hA, ?_, ?_, ?_⟩
  · have := hc (k * 3 + 0) _ (by rw [flat_get _ 3 hf ss k 0 hk (by omega)]; rfl)
    simpa [Nat.add_assoc] using this
  · have := hc (k * 3 + 1) _ (by rw [flat_get _ 3 hf ss k 1 hk (by omega)]; rfl)
    simpa [Nat.add_assoc] using this
  · have := hc (k * 3 + 2) _ (by rw [flat_get _ 3 hf ss k 2 hk (by omega)]; rfl)
    simpa [Nat.add_assoc] using this
theorem Ints.at {A : Option Addr} {n k : Nat} {zs : List Int} (h : Ints w A n zs) (hf : Fr [] w wr) (hk : k < n) : ∃ b o, A = some ⟨b, o, none⟩ ∧ ∀ k, k < n → ∃ z, I64 z ∧ wr.cell? ⟨b, o + k, none⟩ = some (.int .i64 z) := by
  obtain ⟨b, o, hA, hc⟩ := (Rd.fr h.rd hf (by simp [Off])).2 (by omega)
  refine ⟨b, o, hA, fun k hk => ?_⟩
  have hl := h.length
  exact ⟨zs[k], h.ok _ (List.getElem_mem (by omega)), hc k _ (by simp [List.getElem?_map, List.getElem?_eq_getElem (show k < zs.length by omega)])⟩
end
def m8 (z : Int) : Int := wrap64 ((IntKind.u64.wrap z).tmod 8)
theorem m8_node (z : Int) : nodeB 8 (m8 z) = true ∧ I64 (m8 z) := by
  have h0 : 0 ≤ IntKind.u64.wrap z := by rw [IntKind.wrap_u64]; omega
  have : m8 z = IntKind.u64.wrap z % 8 := by
    unfold m8
    rw [Int.tmod_eq_emod_of_nonneg h0]
    unfold wrap64
    omega
  rw [this]
  refine ⟨?_, ?_, ?_⟩
  · unfold nodeB; simp; omega
  · omega
  · omega
end Go.Proofs.Ythnienoefnfnpaa
