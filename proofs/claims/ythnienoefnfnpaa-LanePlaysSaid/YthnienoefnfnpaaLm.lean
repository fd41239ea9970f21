/- The lane as the proofs see it: a short record with its packets, and how it lies in memory. Conditions: none. -/
import Derived.Test.YthnienoefnfnpaaProg
import Derived.Test.YthnienoefnfnpaaMem
namespace Go.Proofs.Ythnienoefnfnpaa
open Go.RowKit Go.Sig

def I64 (n : Int) : Prop := -9223372036854775808 ≤ n ∧ n ≤ 9223372036854775807
def bv (b : UInt8) : Value := .int .u8 b.toNat
theorem bv_one (l : List UInt8) : ∀ u ∈ l.map bv, u.oneCell' = true := by
  intro u hu
  obtain ⟨_, _, rfl⟩ := List.mem_map.1 hu
  rfl
theorem ret_bool {a b : Bool} (h : a = b) : Ending.returned (.bool a) = .returned (.bool b) := by rw [h]
theorem ret_int {a b : Int} (h : a = b) : Ending.returned (.int .i64 a) = .returned (.int .i64 b) := by rw [h]

/-- A packet as it is told. -/
structure Pk where
  src : Int
  dst : Int
  bs : List UInt8
/-- A packet's cells. -/
structure Pc where
  src : Int
  dst : Int
  a : Option Addr
  n : Nat
  c : Nat
@[reducible] def Pc.cells (p : Pc) : List Value := [.int .i64 p.src, .int .i64 p.dst, .slice p.a p.n p.c]
@[reducible] def Pc.arr (p : Pc) : Array Value := #[.int .i64 p.src, .int .i64 p.dst, .slice p.a p.n p.c]
def Pc.val (p : Pc) : Value := .slice p.a p.n p.c
instance : Inhabited Pc := ⟨⟨0, 0, none, 0, 0⟩⟩
instance : Inhabited Pk := ⟨⟨0, 0, []⟩⟩

/-- Bytes that can be read. -/
def Byts (w : World) (A : Option Addr) (n : Nat) (l : List UInt8) : Prop := Rd w 1 A n (l.map bv)
theorem Byts.length {w : World} {A : Option Addr} {n : Nat} {l : List UInt8} (h : Byts w A n l) : l.length = n := by have := h.1; simpa using this

/-- These cells are this packet, its bytes in memory of its own. -/
structure PkAt (w : World) (p : Pc) (k : Pk) : Prop where
  src : p.src = k.src
  dst : p.dst = k.dst
  own : Own w 5 1 p.val p.n (k.bs.map bv)
  le : p.n ≤ 65544

structure LaneM where
  n : Int
  way : List Pk
  shut : List ((Int × Int) × Bool)

@[reducible] def ek (p : Int × Int) : Value := .agg #[.int .i64 p.1, .int .i64 p.2]
def Lb (ps : List (Pc × Pk)) : List Nat := ps.flatMap fun q => rowOf q.1.val
def footOf (b m : Nat) (v : Value) (ps : List (Pc × Pk)) : List Nat := b :: m :: (rowOf v ++ Lb ps)

/-- A lane in memory. -/
structure LaneIn (w : World) (b m : Nat) (v : Value) (ps : List (Pc × Pk)) (n : Int) (shut : List ((Int × Int) × Bool)) : Prop where
  blk : Blk w b 62 #[.int .i64 n, v, .map (some m)]
  own : Own w 37 3 v ps.length (ps.flatMap fun q => q.1.cells)
  shut : IsMap w m ek Value.bool shut
  pks : ∀ q ∈ ps, PkAt w q.1 q.2
  dist : (footOf b m v ps).Nodup
  r1 : 1 ≤ n ∧ n ≤ 32
  r2 : ps.length ≤ 4096
  r3 : ∀ q ∈ ps, 0 ≤ q.2.src ∧ q.2.src < n ∧ 0 ≤ q.2.dst ∧ q.2.dst < n
/-- The same, seen from without: its own blocks are F. -/
def LaneAt (w : World) (b : Nat) (F : List Nat) (L : LaneM) : Prop := ∃ m v ps, LaneIn w b m v ps L.n L.shut ∧ L.way = ps.map (·.2) ∧ F = footOf b m v ps

/-- What a call of a lane changes: its own blocks, and what is new. -/
structure Went (w w' : World) (F F' : List Nat) : Prop where
  fr : Fr F w w'
  sub : ∀ g ∈ F', g ∈ F ∨ w.heap.size ≤ g

theorem Went.trans {a b c : World} {F G H : List Nat} (h : Went a b F G) (k : Went b c G H) : Went a c F H :=
  ⟨h.fr.andThen k.fr h.sub, fun g hg => (k.sub g hg).elim (h.sub g) fun hge => .inr (Nat.le_trans h.fr.size hge)⟩
theorem Went.refl (w : World) (F : List Nat) : Went w w F F := ⟨Fr.refl _ _, fun _ h => .inl h⟩
theorem Went.quiet {w w' : World} {F : List Nat} (h : Fr [] w w') : Went w w' F F := ⟨h.nil, fun _ h => .inl h⟩
theorem Went.far {w w' : World} {F F' : List Nat} (h : Went w w' F F') {g : Nat} (hg : g < w.heap.size) (hn : g ∉ F) : g ∉ F' := fun hh => (h.sub g hh).elim hn fun hge => by omega

section
variable {w w' : World} {b m : Nat} {v : Value} {ps : List (Pc × Pk)} {n : Int} {shut : List ((Int × Int) × Bool)} {F S : List Nat} {L : LaneM}

theorem mem_Lb {q : Pc × Pk} (hq : q ∈ ps) {g : Nat} (hg : g ∈ rowOf q.1.val) : g ∈ Lb ps := List.mem_flatMap.2 ⟨q, hq, hg⟩
theorem PkAt.fr {p : Pc} {k : Pk} (h : PkAt w p k) (hf : Fr S w w') (hS : ∀ g ∈ rowOf p.val, g ∉ S) : PkAt w' p k := ⟨h.src, h.dst, h.own.fr hf hS, h.le⟩
theorem LaneIn.lt (h : LaneIn w b m v ps n shut) : ∀ g ∈ footOf b m v ps, g < w.heap.size := by
  intro g hg
  simp only [footOf, List.mem_cons, List.mem_append] at hg
  rcases hg with rfl | rfl | hg | hg
  · exact h.blk.lt
  · exact h.shut.lt
  · exact h.own.lt g hg
  · obtain ⟨q, hq, hg⟩ := List.mem_flatMap.1 hg
    exact (h.pks q hq).own.lt g hg
theorem LaneIn.fr (h : LaneIn w b m v ps n shut) (hf : Fr S w w') (hS : ∀ g ∈ footOf b m v ps, g ∉ S) : LaneIn w' b m v ps n shut :=
  ⟨h.blk.fr hf (hS b (by simp [footOf])), h.own.fr hf (fun g hg => hS g (by simp [footOf, hg])), h.shut.fr hf (hS m (by simp [footOf])),
    fun q hq => (h.pks q hq).fr hf (fun g hg => hS g (by simp only [footOf, List.mem_cons, List.mem_append]; exact .inr (.inr (.inr (mem_Lb hq hg))))), h.dist, h.r1, h.r2, h.r3⟩
theorem LaneIn.nilfr (h : LaneIn w b m v ps n shut) (hf : Fr [] w w') : LaneIn w' b m v ps n shut := h.fr hf (fun _ _ => by simp)
theorem LaneAt.lt (h : LaneAt w b F L) : ∀ g ∈ F, g < w.heap.size := by
  obtain ⟨m, v, ps, h, _, rfl⟩ := h
  exact h.lt
theorem LaneAt.fr (h : LaneAt w b F L) (hf : Fr S w w') (hS : ∀ g ∈ F, g ∉ S) : LaneAt w' b F L := by
  obtain ⟨m, v, ps, h, h1, rfl⟩ := h
  exact ⟨m, v, ps, h.fr hf hS, h1, rfl⟩
theorem LaneAt.nilfr (h : LaneAt w b F L) (hf : Fr [] w w') : LaneAt w' b F L := h.fr hf (fun _ _ => by simp)
theorem LaneIn.cells (h : LaneIn w b m v ps n shut) : w.cell? ⟨b, 0, none⟩ = some (.int .i64 n) ∧ w.cell? ⟨b, 1, none⟩ = some v ∧ w.cell? ⟨b, 2, none⟩ = some (.map (some m)) ∧ w.frozen? ⟨b, 1, none⟩ = false ∧ b < w.heap.size :=
  ⟨h.blk.c3.1, h.blk.c3.2.1, h.blk.c3.2.2, h.blk.frozen 1, h.blk.lt⟩
theorem Lb_one (h : LaneIn w b m v ps n shut) : ∀ u ∈ ps.flatMap (fun q => q.1.cells), u.oneCell' = true := by
  intro u hu
  obtain ⟨q, _, hs⟩ := List.mem_flatMap.1 hu
  simp only [Pc.cells, List.mem_cons, List.not_mem_nil, or_false] at hs
  rcases hs with rfl | rfl | rfl <;> rfl
end

def nodeB (L n : Int) : Bool := decide (0 ≤ n) && decide (n < L)
def hasE (len : Nat) (k : Int) : Int := if k < 0 ∨ (len : Int) ≤ k then 6 else 0
theorem t33 : SliceTy Try.prog 33 37 3 40 (.agg #[.int .i64 0, .int .i64 0, .slice none 0 0]) := ⟨by kernel_rfl, by kernel_rfl, rfl, by decide⟩
theorem t22 : SliceTy Try.prog 22 5 1 1 (.int .u8 0) := ⟨by kernel_rfl, by kernel_rfl, rfl, by decide⟩
end Go.Proofs.Ythnienoefnfnpaa
