/- The document's cache as the proofs see it, and how it lies in memory. Conditions: none. -/
import Derived.Test.YthegggfpofdcdaaCm
namespace Go.Proofs.Ythegggfpofdcdaa
open Go.RowKit Go.Sig

/-- A row: a lookup (n), or an answer that is kept. -/
structure Rw where
  n : Int
  tok : ByteArray
  fam : ByteArray
  start : Int
  a : Ans
  str : List ByteArray
@[reducible] def Rw.cells (x : Rw) : List Value := [.int .i64 x.n, .string x.tok, .string x.fam, .int .i64 x.start, .int .i64 x.a.why, .int .i64 x.a.access, .int .i64 x.a.refresh, .slice x.a.sa x.a.sl x.a.sc, .string x.a.client, .string x.a.user, .bool x.a.active, .bool x.a.wait]
@[reducible] def Rw.arr (x : Rw) : Array Value := #[.int .i64 x.n, .string x.tok, .string x.fam, .int .i64 x.start, .int .i64 x.a.why, .int .i64 x.a.access, .int .i64 x.a.refresh, .slice x.a.sa x.a.sl x.a.sc, .string x.a.client, .string x.a.user, .bool x.a.active, .bool x.a.wait]
structure RefM where
  way : List Rw
  all : List Rw
  short : Int
  room : Int
  last : Int

def footR (r : Nat) (vw va : Value) : List Nat := r :: (rowOf vw ++ rowOf va)
structure RefIn (w : World) (r : Nat) (vw va : Value) (R : RefM) : Prop where
  blk : Blk w r 43 #[vw, va, .int .i64 R.short, .int .i64 R.room, .int .i64 R.last]
  ow : Own w 64 12 vw R.way.length (R.way.flatMap Rw.cells)
  oa : Own w 64 12 va R.all.length (R.all.flatMap Rw.cells)
  dw : r ∉ rowOf vw
  da : r ∉ rowOf va
  dd : ∀ g ∈ rowOf vw, g ∉ rowOf va
  str : ∀ p ∈ R.all, ScOk w p.a p.str ∧ Ty9 w p.a.sa
  l1 : R.way.length ≤ 1000
  l2 : R.all.length ≤ 1000

/-- What a call changes: its own blocks, and what is new. -/
structure Went (w w' : World) (F F' : List Nat) : Prop where
  fr : Fr F w w'
  sub : ∀ g ∈ F', g ∈ F ∨ w.heap.size ≤ g
theorem Went.trans {a b c : World} {F G H : List Nat} (h : Went a b F G) (k : Went b c G H) : Went a c F H :=
  ⟨h.fr.andThen k.fr h.sub, fun g hg => (k.sub g hg).elim (h.sub g) fun hge => .inr (Nat.le_trans h.fr.size hge)⟩
theorem Went.refl (w : World) (F : List Nat) : Went w w F F := ⟨Fr.refl _ _, fun _ h => .inl h⟩
theorem Went.quiet {w w' : World} {F : List Nat} (h : Fr [] w w') : Went w w' F F := ⟨h.nil, fun _ h => .inl h⟩
theorem Went.far {w w' : World} {F F' : List Nat} (h : Went w w' F F') {g : Nat} (hg : g < w.heap.size) (hn : g ∉ F) : g ∉ F' := fun hh => (h.sub g hh).elim hn fun hge => by omega

section
variable {w w' : World} {r : Nat} {vw va : Value} {R : RefM} {S : List Nat}
theorem own_off9 {e size n : Nat} {v : Value} {xs : List Value} (h : Own w e size v n xs) (he : e ≠ 9) {A : Option Addr} (hA : Ty9 w A) : Off (rowOf v) A := by
  intro ad ha hm
  obtain ⟨cs, fr, hh⟩ := hA ad ha
  rcases h.2 with ⟨rfl, _⟩ | ⟨g, cap, cur, rfl, _, hg, _⟩
  · simp [rowOf, Value.ownBlock] at hm
  · simp [rowOf, Value.ownBlock] at hm
    rw [hm, hg] at hh
    simp only [Option.some.injEq, Obj.cells.injEq] at hh
    exact he hh.2.1
theorem RefIn.off9 (h : RefIn w r vw va R) {A : Option Addr} (hA : Ty9 w A) : Off (footR r vw va) A := by
  intro ad ha hm
  simp only [footR, List.mem_cons, List.mem_append] at hm
  rcases hm with hm | hm | hm
  · exact hA.ne h.blk (by decide) ad ha (by simp [hm])
  · exact own_off9 h.ow (by decide) hA ad ha hm
  · exact own_off9 h.oa (by decide) hA ad ha hm
theorem RefIn.lt (h : RefIn w r vw va R) : ∀ g ∈ footR r vw va, g < w.heap.size := by
  intro g hg
  simp only [footR, List.mem_cons, List.mem_append] at hg
  rcases hg with rfl | hg | hg
  · exact h.blk.lt
  · exact h.ow.lt g hg
  · exact h.oa.lt g hg
theorem RefIn.fr (h : RefIn w r vw va R) (hf : Fr S w w') (hS : ∀ g ∈ footR r vw va, g ∉ S) (hA : ∀ p ∈ R.all, Off S p.a.sa) : RefIn w' r vw va R :=
  ⟨h.blk.fr hf (hS r (by simp [footR])), h.ow.fr hf (fun g hg => hS g (by simp [footR, hg])), h.oa.fr hf (fun g hg => hS g (by simp [footR, hg])), h.dw, h.da, h.dd,
    fun p hp => ⟨⟨(h.str p hp).1.strs.fr hf (fun _ => hA p hp), (h.str p hp).1.nil, (h.str p hp).1.le⟩, (h.str p hp).2.fr hf (hA p hp)⟩, h.l1, h.l2⟩
theorem RefIn.nilfr (h : RefIn w r vw va R) (hf : Fr [] w w') : RefIn w' r vw va R := h.fr hf (fun _ _ => by simp) (fun _ _ _ _ => by simp)
theorem _root_.Go.Sig.Blk.c5 {w : World} {g : Nat} {t : TypeId} {v0 v1 v2 v3 v4 : Value} (h : Blk w g t #[v0, v1, v2, v3, v4]) : w.cell? ⟨g, 0, none⟩ = some v0 ∧ w.cell? ⟨g, 1, none⟩ = some v1 ∧ w.cell? ⟨g, 2, none⟩ = some v2 ∧ w.cell? ⟨g, 3, none⟩ = some v3 ∧ w.cell? ⟨g, 4, none⟩ = some v4 ∧ g < w.heap.size :=
  ⟨by rw [Blk.cell h]; rfl, by rw [Blk.cell h]; rfl, by rw [Blk.cell h]; rfl, by rw [Blk.cell h]; rfl, by rw [Blk.cell h]; rfl, Blk.lt h⟩

theorem flat12 : ∀ (l : List Rw) (k j : Nat) (hk : k < l.length), j < 12 → (l.flatMap Rw.cells)[k * 12 + j]? = (l[k].cells)[j]?
  | [], k, j, hk, _ => by simp at hk
  | a :: l, 0, j, _, hj => by
    simp only [List.flatMap_cons, Nat.zero_mul, Nat.zero_add, List.getElem_cons_zero]
    rw [List.getElem?_append_left (by simpa using hj)]
  | a :: l, k + 1, j, hk, hj => by
    simp only [List.flatMap_cons, List.getElem_cons_succ]
    have h12 : a.cells.length = 12 := rfl
    rw [List.getElem?_append_right (by rw [h12, Nat.add_mul]; omega), h12]
    have : (k + 1) * 12 + j - 12 = k * 12 + j := by rw [Nat.add_mul]; omega
    rw [this]
    exact flat12 l k j (by simpa using hk) hj

/-- Element k's cells. -/
structure At12 (w : World) (g k : Nat) (x : Rw) : Prop where
  c0 : w.cell? ⟨g, k * 12, none⟩ = some (.int .i64 x.n)
  c1 : w.cell? ⟨g, k * 12 + 1, none⟩ = some (.string x.tok)
  c2 : w.cell? ⟨g, k * 12 + 2, none⟩ = some (.string x.fam)
  c3 : w.cell? ⟨g, k * 12 + 3, none⟩ = some (.int .i64 x.start)
  c4 : w.cell? ⟨g, k * 12 + 4, none⟩ = some (.int .i64 x.a.why)
  c5 : w.cell? ⟨g, k * 12 + 5, none⟩ = some (.int .i64 x.a.access)
  c6 : w.cell? ⟨g, k * 12 + 6, none⟩ = some (.int .i64 x.a.refresh)
  c7 : w.cell? ⟨g, k * 12 + 7, none⟩ = some (.slice x.a.sa x.a.sl x.a.sc)
  c8 : w.cell? ⟨g, k * 12 + 8, none⟩ = some (.string x.a.client)
  c9 : w.cell? ⟨g, k * 12 + 9, none⟩ = some (.string x.a.user)
  c10 : w.cell? ⟨g, k * 12 + 10, none⟩ = some (.bool x.a.active)
  c11 : w.cell? ⟨g, k * 12 + 11, none⟩ = some (.bool x.a.wait)
theorem own_at12 {n : Nat} {v : Value} {ps : List Rw} (h : Own w 64 12 v n (ps.flatMap Rw.cells)) (hn : n = ps.length) {k : Nat} (hk : k < ps.length) : ∃ g cap, v = .slice (some ⟨g, 0, none⟩) n cap ∧ g < w.heap.size ∧ At12 w g k ps[k] := by
  subst hn
  obtain ⟨A, cap, rfl, -⟩ := h.form
  have hr := h.rd
  rcases h.2 with ⟨hv, h0⟩ | ⟨g, cap', cur, hv, _, hg, _⟩
  · omega
  · injection hv with hv _ _
    subst hv
    obtain ⟨b', o, hA, hc⟩ := hr.2 (by omega)
    injection hA with hA
    injection hA with h1 h2 _
    subst h1 h2
    have hh : ∀ j u, j < 12 → (ps[k].cells)[j]? = some u → w.cell? ⟨g, k * 12 + j, none⟩ = some u := fun j u hj hu => by
      have := hc (k * 12 + j) u (by rw [flat12 ps k j hk hj]; exact hu)
      simpa using this
    exact ⟨g, cap, rfl, lt_of_heap hg, hh 0 _ (by omega) rfl, hh 1 _ (by omega) rfl, hh 2 _ (by omega) rfl, hh 3 _ (by omega) rfl, hh 4 _ (by omega) rfl, hh 5 _ (by omega) rfl, hh 6 _ (by omega) rfl, hh 7 _ (by omega) rfl, hh 8 _ (by omega) rfl, hh 9 _ (by omega) rfl, hh 10 _ (by omega) rfl, hh 11 _ (by omega) rfl⟩
theorem rd_block12 {w : World} {x : Rw} : Rd (w.alloc (.cells x.arr 64)) 12 (some ⟨w.heap.size, 0, none⟩) 1 x.cells := by
  refine ⟨rfl, fun _ => ⟨w.heap.size, 0, rfl, fun j u hu => ?_⟩⟩
  rw [Nat.zero_add, (Blk.new w 64 x.arr).cell]
  simpa using hu
theorem cells_one12 (x : Rw) : ∀ u ∈ x.cells, u.oneCell' = true := by
  intro u hs
  simp only [Rw.cells, List.mem_cons, List.not_mem_nil, or_false] at hs
  rcases hs with rfl | rfl | rfl | rfl | rfl | rfl | rfl | rfl | rfl | rfl | rfl | rfl <;> rfl
end
theorem t41 : SliceTy Try.prog 41 64 12 136 (.agg #[.int .i64 0, .string ⟨#[]⟩, .string ⟨#[]⟩, .int .i64 0, .int .i64 0, .int .i64 0, .int .i64 0, .slice none 0 0, .string ⟨#[]⟩, .string ⟨#[]⟩, .bool false, .bool false]) := ⟨by kernel_rfl, by kernel_rfl, rfl, by decide⟩
end Go.Proofs.Ythegggfpofdcdaa
