/- The cache as the proofs see it: a short record with two association lists, and how it lies in memory. Conditions: none. -/
import Derived.Test.YthegggfpofdcdaaProg
import Derived.Test.YthegggfpofdcdaaMem
namespace Go.Proofs.Ythegggfpofdcdaa
open Go.RowKit Go.Sig

def I64 (n : Int) : Prop := -9223372036854775808 ≤ n ∧ n ≤ 9223372036854775807
theorem ret_bool {a b : Bool} (h : a = b) : Ending.returned (.bool a) = .returned (.bool b) := by rw [h]
theorem ret_int {a b : Int} (h : a = b) : Ending.returned (.int .i64 a) = .returned (.int .i64 b) := by rw [h]
theorem ret_u64 {a b : Int} (h : a = b) : Ending.returned (.int .u64 a) = .returned (.int .u64 b) := by rw [h]

structure Lk where
  family : ByteArray
  start : Int
  token : ByteArray

structure Ans where
  why : Int
  access : Int
  refresh : Int
  sa : Option Addr
  sl : Nat
  sc : Nat
  client : ByteArray
  user : ByteArray
  active : Bool
  wait : Bool

structure Kp where
  family : ByteArray
  start : Int
  a : Ans
  str : List ByteArray

@[reducible] def Ans.cells (x : Ans) : List Value := [.int .i64 x.why, .int .i64 x.access, .int .i64 x.refresh, .slice x.sa x.sl x.sc, .string x.client, .string x.user, .bool x.active, .bool x.wait]
@[reducible] def evLk (x : Lk) : Value := .agg #[.string x.family, .int .i64 x.start, .string x.token]
@[reducible] def evKp (x : Kp) : Value := .agg #[.string x.family, .int .i64 x.start, .int .i64 x.a.why, .int .i64 x.a.access, .int .i64 x.a.refresh, .slice x.a.sa x.a.sl x.a.sc, .string x.a.client, .string x.a.user, .bool x.a.active, .bool x.a.wait]

structure CacheM where
  short : Int
  room : Int
  last : Int
  way : List (Int × Lk)
  all : List (ByteArray × Kp)

/-- An answer's scope is strings that can be read. -/
structure ScOk (w : World) (a : Ans) (l : List ByteArray) : Prop where
  strs : Strs w a.sa a.sl l
  nil : a.sa = none → a.sl = 0
  le : a.sl ≤ 50

/-- A slice's row is one of strings. -/
def Ty9 (w : World) (A : Option Addr) : Prop := ∀ ad, A = some ad → ∃ cs fr, w.heap[ad.block]? = some (.cells cs 9 fr)

structure CacheAt (w : World) (b m1 m2 : Nat) (c : CacheM) : Prop where
  blk : Blk w b 58 #[.int .i64 c.short, .int .i64 c.room, .int .i64 c.last, .map (some m1), .map (some m2)]
  way : IsMap w m1 (Value.int .i64) evLk c.way
  all : IsMap w m2 Value.string evKp c.all
  ne1 : b ≠ m1
  ne2 : b ≠ m2
  ne12 : m1 ≠ m2
  str : ∀ p ∈ c.all, ScOk w p.2.a p.2.str
  r1 : 0 ≤ c.short ∧ c.short ≤ 1099511627776
  r2 : 1 ≤ c.room ∧ c.room ≤ 64
  r3 : 0 ≤ c.last ∧ c.last < 4611686018427387904
  r4 : ∀ p ∈ c.way, I64 p.2.start
  r5 : ∀ p ∈ c.all, I64 p.2.start
  typ : ∀ p ∈ c.all, Ty9 w p.2.a.sa

theorem u55 : Try.prog.underlying 55 = some (.map 3 62) := by kernel_rfl
theorem u56 : Try.prog.underlying 56 = some (.map 9 69) := by kernel_rfl
theorem u3 : Try.prog.underlying 3 = some (.int .i64) := by kernel_rfl
theorem u9 : Try.prog.underlying 9 = some .string := by kernel_rfl
theorem z62 (w : World) : (zeroValue 62).run Try.prog w = .ok (evLk ⟨⟨#[]⟩, 0, ⟨#[]⟩⟩) w := by kernel_rfl
def Ans.zero : Ans := ⟨0, 0, 0, none, 0, 0, ⟨#[]⟩, ⟨#[]⟩, false, false⟩
theorem z69 (w : World) : (zeroValue 69).run Try.prog w = .ok (evKp ⟨⟨#[]⟩, 0, Ans.zero, []⟩) w := by kernel_rfl
theorem t30 : SliceTy Try.prog 30 9 1 16 (.string ⟨#[]⟩) := ⟨by kernel_rfl, by kernel_rfl, rfl, by decide⟩
theorem k3 : KeyOk Try.prog 3 (fun n : Int => Value.int .i64 n) := keyOk_int u3
theorem k9 : KeyOk Try.prog 9 (fun s : ByteArray => Value.string s) := keyOk_string u9

section
variable {w w' : World} {b m1 m2 : Nat} {c : CacheM}

/-- A block that holds no string. -/
theorem Strs.off {w : World} {A : Option Addr} {n : Nat} {l : List ByteArray} (h : Strs w A n l) (hn : 0 < n) {g : Nat} (hg : ∀ j s, w.cell? ⟨g, j, none⟩ ≠ some (.string s)) : ∀ ad, A = some ad → ad.block ≠ g := by
  intro ad hA e
  obtain ⟨b, o, hA', hc⟩ := h.at (k := 0) hn
  rw [hA] at hA'
  cases hA'
  simp only at e
  subst e
  exact hg _ _ hc
theorem IsMap.nostr {κ ν : Type} {ek : κ → Value} {ev : ν → Value} {l : List (κ × ν)} (h : IsMap w b ek ev l) (j : Nat) (s : ByteArray) : w.cell? ⟨b, j, none⟩ ≠ some (.string s) := by
  obtain ⟨es, cl, hb, _⟩ := h
  simp [World.cell?, hb]
theorem CacheAt.nostr (h : CacheAt w b m1 m2 c) (j : Nat) (s : ByteArray) : w.cell? ⟨b, j, none⟩ ≠ some (.string s) := by
  rw [h.blk.cell]
  match j with
  | 0 => simp
  | 1 => simp
  | 2 => simp
  | 3 => simp
  | 4 => simp
  | j + 5 => simp
theorem CacheAt.off (h : CacheAt w b m1 m2 c) {A : Option Addr} {n : Nat} {l : List ByteArray} (hs : Strs w A n l) (hn : 0 < n) : Off [b, m1, m2] A := by
  intro ad hA
  have h1 := Strs.off hs hn h.nostr ad hA
  have h2 := Strs.off hs hn (fun j s => IsMap.nostr h.way j s) ad hA
  have h3 := Strs.off hs hn (fun j s => IsMap.nostr h.all j s) ad hA
  simp [h1, h2, h3]
theorem Ty9.lt {A : Option Addr} (h : Ty9 w A) : ∀ ad, A = some ad → ad.block < w.heap.size := fun ad hA => by
  obtain ⟨cs, fr, hh⟩ := h ad hA
  exact lt_of_heap hh
theorem Ty9.fr {A : Option Addr} {S : List Nat} (h : Ty9 w A) (hf : Fr S w w') (hS : Off S A) : Ty9 w' A := fun ad hA => by
  obtain ⟨cs, fr, hh⟩ := h ad hA
  exact ⟨cs, fr, (hf.block _ (lt_of_heap hh) (hS ad hA)).trans hh⟩
theorem Ty9.ne {A : Option Addr} (h : Ty9 w A) {g : Nat} {t : TypeId} {cs : Array Value} (hg : Blk w g t cs) (ht : t ≠ 9) : Off [g] A := fun ad hA => by
  obtain ⟨cs', fr, hh⟩ := h ad hA
  simp only [List.mem_singleton]
  intro e
  rw [e, hg] at hh
  simp only [Option.some.injEq, Obj.cells.injEq] at hh
  exact ht hh.2.1
theorem CacheAt.off9 (h : CacheAt w b m1 m2 c) {A : Option Addr} (hA : Ty9 w A) : Off [b, m1, m2] A := by
  intro ad ha
  obtain ⟨cs, fr, hh⟩ := hA ad ha
  have h1 : ad.block ≠ b := by
    intro e
    rw [e, h.blk] at hh
    simp at hh
  have h2 : ad.block ≠ m1 := by
    intro e
    obtain ⟨_, _, hm, _⟩ := h.way
    rw [e, hm] at hh
    cases hh
  have h3 : ad.block ≠ m2 := by
    intro e
    obtain ⟨_, _, hm, _⟩ := h.all
    rw [e, hm] at hh
    cases hh
  simp [h1, h2, h3]
theorem CacheAt.keeps (h : CacheAt w b m1 m2 c) (hf : Fr [b, m1, m2] w w') {a : Ans} {l : List ByteArray} (hs : ScOk w a l) : ScOk w' a l :=
  ⟨hs.strs.fr hf (fun hn => h.off hs.strs hn), hs.nil, hs.le⟩
theorem CacheAt.fr (h : CacheAt w b m1 m2 c) {S : List Nat} (hf : Fr S w w') (h0 : b ∉ S) (h1 : m1 ∉ S) (h2 : m2 ∉ S) (hs : ∀ p ∈ c.all, Off S p.2.a.sa) : CacheAt w' b m1 m2 c :=
  ⟨h.blk.fr hf h0, h.way.fr hf h1, h.all.fr hf h2, h.ne1, h.ne2, h.ne12, fun p hp => ⟨(h.str p hp).strs.fr hf (fun _ => hs p hp), (h.str p hp).nil, (h.str p hp).le⟩, h.r1, h.r2, h.r3, h.r4, h.r5, fun p hp => (h.typ p hp).fr hf (hs p hp)⟩
theorem CacheAt.nilfr (h : CacheAt w b m1 m2 c) (hf : Fr [] w w') : CacheAt w' b m1 m2 c := h.fr hf (by simp) (by simp) (by simp) (fun _ _ _ _ => by simp)
theorem CacheAt.drew (h : CacheAt w b m1 m2 c) : CacheAt w.drew b m1 m2 c := h.nilfr (Fr.refl _ _).drew
theorem CacheAt.alloc (h : CacheAt w b m1 m2 c) (o : Obj) : CacheAt (w.alloc o) b m1 m2 c := h.nilfr ((Fr.refl _ _).alloc o)
theorem CacheAt.setLast (h : CacheAt w b m1 m2 c) (n : Int) (hn : 0 ≤ n ∧ n < 4611686018427387904) : CacheAt (w.setCell ⟨b, 2, none⟩ (.int .i64 n)) b m1 m2 { c with last := n } :=
  ⟨by simpa using h.blk.set 2 (.int .i64 n), h.way.setCell (Ne.symm h.ne1) _, h.all.setCell (Ne.symm h.ne2) _, h.ne1, h.ne2, h.ne12, fun p hp => h.keeps ((Fr.refl _ _).setCell (by simp) _) (h.str p hp), h.r1, h.r2, hn, h.r4, h.r5, fun p hp => (h.typ p hp).fr ((Fr.refl _ _).setCell (by simp) _) (h.off9 (h.typ p hp))⟩
theorem CacheAt.turnWay (h : CacheAt w b m1 m2 c) {l : List (Int × Lk)} (hm : IsMap w' m1 (Value.int .i64) evLk l) (ht : Turned m1 w w') (hl : ∀ p ∈ l, I64 p.2.start) : CacheAt w' b m1 m2 { c with way := l } :=
  have hf : Fr [b, m1, m2] w w' := ht.fr.mono (by simp)
  ⟨h.blk.fr ht.fr (by simpa using h.ne1), hm, h.all.fr ht.fr (by simpa using Ne.symm h.ne12), h.ne1, h.ne2, h.ne12, fun p hp => h.keeps hf (h.str p hp), h.r1, h.r2, h.r3, hl, h.r5, fun p hp => (h.typ p hp).fr hf (h.off9 (h.typ p hp))⟩
theorem CacheAt.turnAll (h : CacheAt w b m1 m2 c) {l : List (ByteArray × Kp)} (hm : IsMap w' m2 Value.string evKp l) (ht : Turned m2 w w') (hl : ∀ p ∈ l, ScOk w p.2.a p.2.str ∧ I64 p.2.start ∧ Ty9 w p.2.a.sa) : CacheAt w' b m1 m2 { c with all := l } :=
  have hf : Fr [b, m1, m2] w w' := ht.fr.mono (by simp)
  ⟨h.blk.fr ht.fr (by simpa using h.ne2), h.way.fr ht.fr (by simpa using h.ne12), hm, h.ne1, h.ne2, h.ne12, fun p hp => h.keeps hf (hl p hp).1, h.r1, h.r2, h.r3, h.r4, fun p hp => (hl p hp).2.1, fun p hp => (hl p hp).2.2.fr hf (h.off9 (hl p hp).2.2)⟩
theorem CacheAt.cells (h : CacheAt w b m1 m2 c) :
    w.cell? ⟨b, 0, none⟩ = some (.int .i64 c.short) ∧ w.cell? ⟨b, 1, none⟩ = some (.int .i64 c.room) ∧ w.cell? ⟨b, 2, none⟩ = some (.int .i64 c.last) ∧ w.cell? ⟨b, 3, none⟩ = some (.map (some m1)) ∧ w.cell? ⟨b, 4, none⟩ = some (.map (some m2)) ∧
    w.frozen? ⟨b, 2, none⟩ = false ∧ b < w.heap.size :=
  ⟨by rw [h.blk.cell]; rfl, by rw [h.blk.cell]; rfl, by rw [h.blk.cell]; rfl, by rw [h.blk.cell]; rfl, by rw [h.blk.cell]; rfl, h.blk.frozen _, h.blk.lt⟩
end

def CacheM.ask (c : CacheM) (tok fam : ByteArray) (now : Int) : CacheM := { c with last := c.last + 1, way := aset (c.last + 1) ⟨fam, now, tok⟩ c.way }
def CacheM.drop (c : CacheM) (n : Int) : CacheM := { c with way := adel n c.way }
def CacheM.void (c : CacheM) (fam : ByteArray) : CacheM := { c with way := c.way.filter (fun p => !decide (p.2.family = fam)), all := c.all.filter (fun p => !decide (p.2.family = fam)) }
def liveB (s n k : Int) : Bool := decide (s ≤ n ∧ 0 < k ∧ n - s < k)
def behindB (s n k : Int) : Bool := decide (k ≤ 0 ∨ k ≤ n - s)
end Go.Proofs.Ythegggfpofdcdaa
