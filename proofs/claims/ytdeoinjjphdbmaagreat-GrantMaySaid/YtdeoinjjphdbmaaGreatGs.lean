/- Families, answers and books in memory. Conditions: none. -/
import Derived.Test.YtdeoinjjphdbmaaGreatGm
import Derived.Test.YtdeoinjjphdbmaaGreatGr
namespace Go.Proofs.YtdeoinjjphdbmaaGreat
open Go.RowKit Go.Sig

/-- A slice that lies off the blocks of X. -/
def RdX (w : World) (X : List Nat) (size : Nat) (A : Option Addr) (n : Nat) (xs : List Value) : Prop := Rd w size A n xs ∧ (0 < n → Off X A)
theorem RdX.fr {w w' : World} {X : List Nat} {s : Nat} {A : Option Addr} {n : Nat} {xs : List Value} (h : RdX w X s A n xs) (hF : Fr X w w') : RdX w' X s A n xs :=
  ⟨h.1.fr hF h.2, h.2⟩
theorem off_mono {X Y : List Nat} {A : Option Addr} (h : Off X A) (hS : ∀ g ∈ Y, g ∈ X) : Off Y A := fun ad e hg => h ad e (hS _ hg)
theorem RdX.mono {w : World} {X Y : List Nat} {s : Nat} {A : Option Addr} {n : Nat} {xs : List Value} (h : RdX w X s A n xs) (hS : ∀ g ∈ Y, g ∈ X) : RdX w Y s A n xs :=
  ⟨h.1, fun hn => off_mono (h.2 hn) hS⟩
theorem RdX.nil (w : World) (X : List Nat) (s : Nat) (A : Option Addr) : RdX w X s A 0 [] := ⟨Rd.nil w s A, fun h => absurd h (by omega)⟩
def intCells (l : List Int) : List Value := l.map (Value.int .i64)
theorem intCells_length (l : List Int) : (intCells l).length = l.length := List.length_map _
theorem intCells_one (l : List Int) : ∀ u ∈ intCells l, u.oneCell' = true := by
  intro u hu
  obtain ⟨s, _, rfl⟩ := List.mem_map.1 hu
  rfl
/-- A token, and where its scope lies. -/
structure TA where
  tok : GTok
  A : Option Addr
  c : Nat
def TA.cells (t : TA) : List Value := [.int .i64 t.tok.kind, .slice t.A t.tok.scope.length t.c, .bool t.tok.used]
def tokCells (l : List TA) : List Value := l.flatMap TA.cells
theorem tokCells_append (a b : List TA) : tokCells (a ++ b) = tokCells a ++ tokCells b := List.flatMap_append
theorem tokCells_length : ∀ (l : List TA), (tokCells l).length = l.length * 3
  | [] => rfl
  | t :: l => by
    have := tokCells_length l
    simp only [tokCells, List.flatMap_cons, List.length_append, List.length_cons] at this ⊢
    rw [this]
    simp [TA.cells]
    omega
theorem tokCells_one (l : List TA) : ∀ u ∈ tokCells l, u.oneCell' = true := by
  intro u hu
  obtain ⟨t, _, hu⟩ := List.mem_flatMap.1 hu
  simp only [TA.cells, List.mem_cons, List.not_mem_nil, or_false] at hu
  rcases hu with rfl | rfl | rfl <;> rfl
theorem tokCells_at : ∀ {l : List TA} {i : Nat} (h : i < l.length), (tokCells l)[i * 3]? = some (.int .i64 l[i].tok.kind) ∧ (tokCells l)[i * 3 + 1]? = some (.slice l[i].A l[i].tok.scope.length l[i].c) ∧ (tokCells l)[i * 3 + 2]? = some (.bool l[i].tok.used)
  | t :: l, 0, _ => ⟨rfl, rfl, rfl⟩
  | t :: l, i + 1, h => by
    have := tokCells_at (l := l) (i := i) (by simpa using h)
    have e : tokCells (t :: l) = .int .i64 t.tok.kind :: .slice t.A t.tok.scope.length t.c :: .bool t.tok.used :: tokCells l := rfl
    rw [e, show (i + 1) * 3 = i * 3 + 1 + 1 + 1 by omega]
    simpa using this
/-- A family, and where its slices lie. -/
structure FA where
  f : GFam
  sA : Option Addr
  sc : Nat
  tA : Option Addr
  tc : Nat
  ts : List TA
  lA : Option Addr
  lc : Nat
def FA.cells (x : FA) : Array Value := #[.string x.f.id, .string x.f.client, .string x.f.user, .slice x.sA x.f.scope.length x.sc, .string x.f.redirect, .string x.f.challenge, .string x.f.method, .int .i64 x.f.code, .slice x.tA x.ts.length x.tc, .bool x.f.revoked, .slice x.lA x.f.leases.length x.lc]
def FA.val (x : FA) : Value := .agg x.cells
/-- A family whose slices lie off the blocks of X. -/
structure FamIn (w : World) (X : List Nat) (x : FA) : Prop where
  ts : x.ts.map (·.tok) = x.f.tokens
  scope : RdX w X 1 x.sA x.f.scope.length (strCells x.f.scope)
  toks : RdX w X 3 x.tA x.ts.length (tokCells x.ts)
  leases : RdX w X 1 x.lA x.f.leases.length (intCells x.f.leases)
  each : ∀ t ∈ x.ts, RdX w X 1 t.A t.tok.scope.length (strCells t.tok.scope)
theorem FamIn.fr {w w' : World} {X : List Nat} {x : FA} (h : FamIn w X x) (hF : Fr X w w') : FamIn w' X x :=
  ⟨h.ts, h.scope.fr hF, h.toks.fr hF, h.leases.fr hF, fun t ht => (h.each t ht).fr hF⟩
theorem FamIn.mono {w : World} {X Y : List Nat} {x : FA} (h : FamIn w X x) (hS : ∀ g ∈ Y, g ∈ X) : FamIn w Y x :=
  ⟨h.ts, h.scope.mono hS, h.toks.mono hS, h.leases.mono hS, fun t ht => (h.each t ht).mono hS⟩
theorem FamIn.len {w : World} {X : List Nat} {x : FA} (h : FamIn w X x) : x.ts.length = x.f.tokens.length := by rw [← h.ts, List.length_map]
def zeroF : GFam := ⟨nilB, nilB, nilB, [], nilB, nilB, nilB, 0, [], false, []⟩
def zeroFA : FA := ⟨zeroF, none, 0, none, 0, [], none, 0⟩
theorem zero_in (w : World) (X : List Nat) : FamIn w X zeroFA :=
  ⟨rfl, RdX.nil _ _ _ _, RdX.nil _ _ _ _, RdX.nil _ _ _ _, fun t ht => by cases ht⟩
/-- Where a slice lies: at B or behind it. -/
def From (B : Nat) (A : Option Addr) : Prop := ∀ ad, A = some ad → B ≤ ad.block
theorem From.off {B : Nat} {A : Option Addr} {X : List Nat} (h : From B A) (hX : ∀ g ∈ X, g < B) : Off X A := fun ad e hg => by
  have := h ad e
  have := hX _ hg
  omega
theorem From.mono {B C : Nat} {A : Option Addr} (h : From B A) (hC : C ≤ B) : From C A := fun ad e => Nat.le_trans hC (h ad e)
/-- Two slices lie apart. -/
def Apart (A C : Option Addr) : Prop := ∀ x y, A = some x → C = some y → x.block ≠ y.block
/-- A family in memory of its own, from block B on: its tokens' row and its leases' row may be written over. -/
structure FamW (w : World) (B : Nat) (x : FA) : Prop where
  ts : x.ts.map (·.tok) = x.f.tokens
  scope : Own w 9 1 (.slice x.sA x.f.scope.length x.sc) x.f.scope.length (strCells x.f.scope)
  toks : Own w 55 3 (.slice x.tA x.ts.length x.tc) x.ts.length (tokCells x.ts)
  leases : Own w 3 1 (.slice x.lA x.f.leases.length x.lc) x.f.leases.length (intCells x.f.leases)
  each : ∀ t ∈ x.ts, Own w 9 1 (.slice t.A t.tok.scope.length t.c) t.tok.scope.length (strCells t.tok.scope)
  fs : From B x.sA
  ft : From B x.tA
  fl : From B x.lA
  fe : ∀ t ∈ x.ts, From B t.A
  ts_ : Apart x.tA x.sA
  tl : Apart x.tA x.lA
  te : ∀ t ∈ x.ts, Apart x.tA t.A
  ls : Apart x.lA x.sA
  le : ∀ t ∈ x.ts, Apart x.lA t.A
theorem FamW.len {w : World} {B : Nat} {x : FA} (h : FamW w B x) : x.ts.length = x.f.tokens.length := by rw [← h.ts, List.length_map]
theorem FamW.fam {w : World} {B : Nat} {x : FA} {X : List Nat} (h : FamW w B x) (hX : ∀ g ∈ X, g < B) : FamIn w X x :=
  ⟨h.ts, ⟨h.scope.rd, fun _ => h.fs.off hX⟩, ⟨h.toks.rd, fun _ => h.ft.off hX⟩, ⟨h.leases.rd, fun _ => h.fl.off hX⟩, fun t ht => ⟨(h.each t ht).rd, fun _ => (h.fe t ht).off hX⟩⟩
theorem rowOf_mem {A : Option Addr} {n c g : Nat} : g ∈ rowOf (.slice A n c) ↔ ∃ ad, A = some ad ∧ ad.block = g := by
  cases A with
  | none => simp [rowOf, Value.ownBlock]
  | some ad => simp [rowOf, Value.ownBlock, eq_comm]
/-- Nothing of a family is written over. -/
theorem FamW.fr0 {w w' : World} {B : Nat} {x : FA} (h : FamW w B x) (hF : Fr [] w w') : FamW w' B x :=
  ⟨h.ts, h.scope.fr hF (by simp), h.toks.fr hF (by simp), h.leases.fr hF (by simp), fun t ht => (h.each t ht).fr hF (by simp), h.fs, h.ft, h.fl, h.fe, h.ts_, h.tl, h.te, h.ls, h.le⟩
theorem FamW.below {w : World} {B C : Nat} {x : FA} (h : FamW w B x) (hC : C ≤ B) : FamW w C x :=
  ⟨h.ts, h.scope, h.toks, h.leases, h.each, h.fs.mono hC, h.ft.mono hC, h.fl.mono hC, fun t ht => (h.fe t ht).mono hC, h.ts_, h.tl, h.te, h.ls, h.le⟩
/-- Blocks in front of B alone are written over. -/
theorem FamW.fr {w w' : World} {B : Nat} {x : FA} {S : List Nat} (h : FamW w B x) (hF : Fr S w w') (hS : ∀ g ∈ S, g < B) : FamW w' B x := by
  have off : ∀ {A : Option Addr} {n c : Nat}, From B A → ∀ g, g ∈ rowOf (.slice A n c) → g ∉ S := fun hA g hg hs => by
    obtain ⟨ad, rfl, rfl⟩ := rowOf_mem.1 hg
    have := hA _ rfl
    have := hS _ hs
    omega
  exact ⟨h.ts, h.scope.fr hF (off h.fs), h.toks.fr hF (off h.ft), h.leases.fr hF (off h.fl), fun t ht => (h.each t ht).fr hF (off (h.fe t ht)), h.fs, h.ft, h.fl, h.fe, h.ts_, h.tl, h.te, h.ls, h.le⟩
theorem zero_w (w : World) (B : Nat) : FamW w B zeroFA :=
  ⟨rfl, Own.nil _ _ _, Own.nil _ _ _, Own.nil _ _ _, fun t ht => by (cases ht), fun ad e => by (cases e), fun ad e => by (cases e), fun ad e => by (cases e), fun t ht => by (cases ht), fun x y e => by (cases e), fun x y e => by (cases e), fun t ht => by (cases ht), fun x y e => by (cases e), fun t ht => by (cases ht)⟩
/-! ### Answers -/
/-- An answer, and where its scope lies. -/
structure AA where
  a : GAns
  A : Option Addr
  c : Nat
def AA.cells (y : AA) : Array Value := #[.int .i64 y.a.why, .int .i64 y.a.access, .int .i64 y.a.refresh, .slice y.A y.a.scope.length y.c, .string y.a.client, .string y.a.user, .bool y.a.active, .bool y.a.wait]
def AA.val (y : AA) : Value := .agg y.cells
def AA.slice (y : AA) : Value := .slice y.A y.a.scope.length y.c
/-- An answer in memory of its own, from block B on. -/
def AnsIn (w : World) (B : Nat) (y : AA) : Prop := Own w 9 1 y.slice y.a.scope.length (strCells y.a.scope) ∧ From B y.A
/-! ### Books -/
/-- Families lie in the map mb, their slices off the blocks of X. -/
def BkIn (w : World) (mb : Nat) (X : List Nat) (b : GBk) : Prop := ∃ l : List (ByteArray × FA), IsMap w mb Value.string FA.val l ∧ l.map (fun p => (p.1, p.2.f)) = b ∧ ∀ p ∈ l, FamIn w X p.2
theorem BkIn.lt {w : World} {mb : Nat} {X : List Nat} {b : GBk} (h : BkIn w mb X b) : mb < w.heap.size := by
  obtain ⟨l, h, _⟩ := h
  exact h.lt
theorem BkIn.fr {w w' : World} {mb : Nat} {X S : List Nat} {b : GBk} (h : BkIn w mb X b) (hF : Fr S w w') (hS : ∀ g ∈ S, g ∈ X ∨ w.heap.size ≤ g) (hm : mb ∉ S) : BkIn w' mb X b := by
  obtain ⟨l, h1, h2, h3⟩ := h
  exact ⟨l, h1.fr hF hm, h2, fun p hp => (h3 p hp).fr (hF.mono' hS)⟩
theorem BkIn.mono {w : World} {mb : Nat} {X Y : List Nat} {b : GBk} (h : BkIn w mb X b) (hS : ∀ g ∈ Y, g ∈ X) : BkIn w mb Y b := by
  obtain ⟨l, h1, h2, h3⟩ := h
  exact ⟨l, h1, h2, fun p hp => (h3 p hp).mono hS⟩
theorem aget_fa {k : ByteArray} : ∀ (l : List (ByteArray × FA)), aget k (l.map fun p => (p.1, p.2.f)) = (aget k l).map (·.f)
  | [] => rfl
  | p :: l => by
    simp only [List.map_cons, aget]
    split
    · rfl
    · exact aget_fa l
theorem aset_fa {k : ByteArray} {x : FA} : ∀ (l : List (ByteArray × FA)), (aset k x l).map (fun p => (p.1, p.2.f)) = aset k x.f (l.map fun p => (p.1, p.2.f))
  | [] => rfl
  | p :: l => by
    simp only [List.map_cons, aset]
    split
    · rfl
    · rw [List.map_cons, aset_fa l]
theorem adel_fa {k : ByteArray} : ∀ (l : List (ByteArray × FA)), (adel k l).map (fun p => (p.1, p.2.f)) = adel k (l.map fun p => (p.1, p.2.f))
  | [] => rfl
  | p :: l => by
    simp only [List.map_cons, adel]
    split
    · rfl
    · rw [List.map_cons, adel_fa l]
end Go.Proofs.YtdeoinjjphdbmaaGreat
