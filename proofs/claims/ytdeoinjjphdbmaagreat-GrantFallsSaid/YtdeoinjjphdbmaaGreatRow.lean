/- Words for arrays that lie within a block: loads and stores of many cells at once, at any place of the block. Conditions: none. -/
import Derived.Test.YtdeoinjjphdbmaaGreatMem
namespace Go.Sig
open Go.RowKit

/-- These cells stand in the block from place o on. -/
def Sub (cs : Array Value) (o : Nat) (ys : List Value) : Prop := ∀ j v, ys[j]? = some v → cs[o + j]? = some v
/-- The block with other cells from place o on. -/
def laid (cs : Array Value) (o : Nat) (ys : List Value) : Array Value := (cs.toList.take o ++ (ys ++ cs.toList.drop (o + ys.length))).toArray

theorem laid_size {cs : Array Value} {o : Nat} {ys : List Value} (h : o + ys.length ≤ cs.size) : (laid cs o ys).size = cs.size := by
  simp [laid]; omega
theorem laid_get {cs : Array Value} {o : Nat} {ys : List Value} (h : o + ys.length ≤ cs.size) (j : Nat) : (laid cs o ys)[j]? = if o ≤ j ∧ j < o + ys.length then ys[j - o]? else cs[j]? := by
  have ht : (cs.toList.take o).length = o := by simp; omega
  simp only [laid, List.getElem?_toArray, List.getElem?_append, ht]
  by_cases h1 : j < o
  · rw [if_pos h1, if_neg (by omega), List.getElem?_take_of_lt h1, Array.getElem?_toList]
  · rw [if_neg h1]
    by_cases h2 : j - o < ys.length
    · rw [if_pos h2, if_pos ⟨by omega, by omega⟩]
    · rw [if_neg h2, if_neg (by omega), List.getElem?_drop, Array.getElem?_toList]
      congr 1
      omega
theorem laid_sub {cs : Array Value} {o : Nat} {ys : List Value} (h : o + ys.length ≤ cs.size) : Sub (laid cs o ys) o ys := by
  intro j v hv
  have hj := (List.getElem?_eq_some_iff.1 hv).1
  rw [laid_get h, if_pos ⟨by omega, by omega⟩, show o + j - o = j by omega]
  exact hv
theorem laid_far {cs : Array Value} {o : Nat} {ys : List Value} (h : o + ys.length ≤ cs.size) {j : Nat} (hj : j < o ∨ o + ys.length ≤ j) : (laid cs o ys)[j]? = cs[j]? := by
  rw [laid_get h, if_neg (by omega)]

section
variable {P : Program}
theorem run_loadVar_at {w : World} {g o : Nat} {ty : TypeId} {ys : List Value} {d : TypeDesc} (hc : ∀ j v, ys[j]? = some v → w.cell? ⟨g, o + j, none⟩ = some v)
    (hu : P.underlying ty = some d) (hd : (match d with | .struct _ | .array _ _ => true | _ => false) = true) (hi : (P.info? ty).map (·.size) = some ys.length) :
    (loadVar ty ⟨g, o, none⟩).run P w = .ok (.agg ys.toArray) w := by
  have hl : (loadCells ⟨g, o, none⟩ ys.length).run P w = .ok ys.toArray w :=
    run_loadCells_list (P := P) w ⟨g, o, none⟩ ys (fun j v hv => by rw [Addr.add_lit]; exact hc j v hv)
  cases hq : P.info? ty with
  | none => simp [hq] at hi
  | some i =>
    have hs : i.size = ys.length := by simpa [hq] using hi
    have hagg : (isAgg ty).run P w = .ok true w := by
      unfold isAgg
      rw [Sem.run_bind, run_underlying hu w]
      cases d <;> simp_all
    simp [loadVar, Sem.run_bind, hagg, sizeOf, typeInfo, hq, hs, hl]
theorem Blk.run_load {w : World} {g o : Nat} {t ty : TypeId} {cs : Array Value} {ys : List Value} {d : TypeDesc} (h : Blk w g t cs) (hs : Sub cs o ys)
    (hu : P.underlying ty = some d) (hd : (match d with | .struct _ | .array _ _ => true | _ => false) = true) (hi : (P.info? ty).map (·.size) = some ys.length) :
    (loadVar ty ⟨g, o, none⟩).run P w = .ok (.agg ys.toArray) w :=
  run_loadVar_at (fun j v hv => by rw [h.cell]; exact hs j v hv) hu hd hi
theorem Blk.run_load' {w : World} {g o : Nat} {t ty : TypeId} {cs : Array Value} {ys : List Value} {d : TypeDesc} (h : Blk w g t cs) (hs : Sub cs o ys)
    (hu : P.underlying ty = some d) (hd : (match d with | .struct _ | .array _ _ => true | _ => false) = true) (hi : (P.info? ty).map (·.size) = some ys.length) :
    (Instr.loadAt ty (.pointer (some ⟨g, o, none⟩))).run P w = .ok (.agg ys.toArray) w := by
  simp only [Instr.loadAt, Instr.sureAddr, Sem.run_bind, Sem.run_pure, Result.andThen_ok, h.run_load hs hu hd hi]

theorem run_storeCells_at (g o : Nat) (t : TypeId) : ∀ (vs : List Value) (i : Nat) (cur : Array Value) (w : World), w.heap[g]? = some (.cells cur t (0, 0)) → o + i + vs.length ≤ cur.size → (∀ v ∈ vs, v.oneCell' = true) →
    (storeCells ⟨g, o, none⟩ vs i).run P w = .ok () (w.setRow g (laid cur (o + i) vs))
  | [], i, cur, w, hg, hl, _ => by
    have e : laid cur (o + i) [] = cur := by simp [laid]
    rw [e]
    have hlt : g < w.heap.size := (Array.getElem?_eq_some_iff.1 hg).1
    have hv : w.heap[g] = .cells cur t (0, 0) := (Array.getElem?_eq_some_iff.1 hg).2
    simp only [storeCells]
    show Result.ok () w = _
    congr 1
    unfold World.setRow
    cases w with
    | mk heap tape drawn os output =>
      congr 1
      apply Array.ext
      · simp
      · intro k h1 h2
        simp only [Array.getElem_modify]
        split
        · rename_i hk; subst hk; simp at hv; simp [hv]
        · rfl
  | v :: rest, i, cur, w, hg, hl, h1 => by
    have hi : o + i < cur.size := by simp at hl; omega
    have hadd : (⟨g, o, none⟩ : Addr).add i = ⟨g, o + i, none⟩ := Addr.add_lit ..
    have hcell : w.cell? ⟨g, o + i, none⟩ = some cur[o + i] := by simp [World.cell?, hg, hi]
    have hfro : w.frozen? ⟨g, o + i, none⟩ = false := by simp [World.frozen?, hg]
    have hst : (store ((⟨g, o, none⟩ : Addr).add i) v).run P w = .ok () (w.setRow g (cur.setIfInBounds (o + i) v)) := by
      rw [hadd, run_store P w _ v _ (h1 v (by simp)), hcell]
      simp [hfro, setCell_eq_setRow w g (o + i) cur t (0, 0) v hg]
    have hsz : (cur.setIfInBounds (o + i) v).size = cur.size := by simp
    have ih := run_storeCells_at g o t rest (i + 1) (cur.setIfInBounds (o + i) v) (w.setRow g (cur.setIfInBounds (o + i) v)) (setRow_heap w g cur _ t _ hg) (by rw [hsz]; simp at hl; omega) (fun x hx => h1 x (by simp [hx]))
    simp only [storeCells, Sem.run_bind, hst, Result.andThen_ok, ih, setRow_setRow]
    congr 2
    apply Array.ext_getElem?
    intro k
    rw [laid_get (by rw [hsz]; simp at hl; omega), laid_get (by simpa using hl)]
    simp only [List.length_cons, Array.getElem?_setIfInBounds]
    by_cases hk : k = o + i
    · subst hk
      rw [if_neg (by omega), if_pos rfl, if_pos (by omega), if_pos (by omega), Nat.sub_self]
      rfl
    · by_cases hk2 : o + i ≤ k ∧ k < o + i + (rest.length + 1)
      · rw [if_pos (by omega), if_pos hk2, show k - (o + i) = (k - (o + (i + 1))) + 1 by omega]
        rfl
      · rw [if_neg (by omega), if_neg hk2, if_neg (by omega)]

theorem Blk.run_store {w : World} {g o : Nat} {t ty : TypeId} {cs ys : Array Value} (h : Blk w g t cs) (hi : (P.info? ty).map (·.size) = some ys.size) (ho : o + ys.size ≤ cs.size) (h1 : ∀ v ∈ ys.toList, v.oneCell' = true) :
    (storeVar ty ⟨g, o, none⟩ (.agg ys)).run P w = .ok () (w.setRow g (laid cs o ys.toList)) := by
  have := run_storeCells_at (P := P) g o t ys.toList 0 cs w h (by simpa using ho) h1
  cases hq : P.info? ty with
  | none => simp [hq] at hi
  | some i =>
    have hs : ys.size = i.size := by simp [hq] at hi; omega
    simp only [Nat.add_zero] at this
    simp [storeVar, sizeOf, typeInfo, hq, Value.cells, hs, this]
theorem Blk.run_store' {w : World} {g o : Nat} {t ty : TypeId} {cs ys : Array Value} (h : Blk w g t cs) (hi : (P.info? ty).map (·.size) = some ys.size) (ho : o + ys.size ≤ cs.size) (h1 : ∀ v ∈ ys.toList, v.oneCell' = true) :
    (Instr.storeAt ty (.pointer (some ⟨g, o, none⟩)) (.agg ys)).run P w = .ok () (w.setRow g (laid cs o ys.toList)) := by
  simp only [Instr.storeAt, Instr.sureAddr, Sem.run_bind, Sem.run_pure, Result.andThen_ok, h.run_store hi ho h1]
theorem Blk.setRow {w : World} {g : Nat} {t : TypeId} {cs : Array Value} (h : Blk w g t cs) (ds : Array Value) : Blk (w.setRow g ds) g t ds := setRow_heap w g cs ds t (0, 0) h
theorem Fr.setRow {S : List Nat} {a w : World} (h : Fr S a w) {g : Nat} (hg : g ∈ S ∨ a.heap.size ≤ g) (cs : Array Value) : Fr S a (w.setRow g cs) :=
  ⟨h.os, h.tape, h.output, by simpa using h.size, fun i hi hn => (setRow_other w g i cs (by rintro rfl; exact hg.elim hn (by omega))).trans (h.block i hi hn)⟩
theorem Blk.farRow {w : World} {g k : Nat} {t : TypeId} {cs : Array Value} (h : Blk w g t cs) (hk : g ≠ k) (ds : Array Value) : Blk (w.setRow k ds) g t cs := (setRow_other w k g ds hk).trans h

/-! ### The steps of a walk -/
variable {ops : Array Oper} {rest : List Oper} {o : Oper} {a : Act} {w : World} {Q : Exit → Act → World → Prop} {K : Act → World → Prop}
theorem wp_load_at (ty : TypeId) (x : Operand) (ho : o.op = .load ty x) {g off : Nat} (hx : a.eval x = .pointer (some ⟨g, off, none⟩)) {t : TypeId} {cs : Array Value} {ys : List Value} {d : TypeDesc} (hg : Blk w g t cs) (hs : Sub cs off ys)
    (hu : P.underlying ty = some d) (hd : (match d with | .struct _ | .array _ _ => true | _ => false) = true) (hi : (P.info? ty).map (·.size) = some ys.length)
    (h : K (a.put o.dst (.agg ys.toArray)) w) : o.wp P a w K Q := by
  unfold Oper.wp execOp
  simp only [ho, hx, Instr.loadAt, Instr.sureAddr, Sem.run_bind, Sem.run_pure, Result.andThen_ok, hg.run_load hs hu hd hi]
  exact h
theorem wpList_load_at (hgd : o.guard = none) (ty : TypeId) (x : Operand) (ho : o.op = .load ty x) {g off : Nat} (hx : a.eval x = .pointer (some ⟨g, off, none⟩)) {t : TypeId} {cs : Array Value} {ys : List Value} {d : TypeDesc} (hg : Blk w g t cs) (hs : Sub cs off ys)
    (hu : P.underlying ty = some d) (hd : (match d with | .struct _ | .array _ _ => true | _ => false) = true) (hi : (P.info? ty).map (·.size) = some ys.length)
    (h : wpList P ops Q rest (a.put o.dst (.agg ys.toArray)) w) : wpList P ops Q (o :: rest) a w :=
  wpList_plain hgd fun _ hK => wp_load_at ty x ho hx hg hs hu hd hi (hK _ _ h)
theorem wp_store_at (ty : TypeId) (x y : Operand) (ho : o.op = .store ty x y) {g off : Nat} {ys : Array Value} (hx : a.eval x = .pointer (some ⟨g, off, none⟩)) (hy : a.eval y = .agg ys) {t : TypeId} {cs : Array Value} (hg : Blk w g t cs)
    (hi : (P.info? ty).map (·.size) = some ys.size) (hfit : off + ys.size ≤ cs.size) (h1 : ∀ v ∈ ys.toList, v.oneCell' = true)
    (h : K (a.put o.dst undef) (w.setRow g (laid cs off ys.toList))) : o.wp P a w K Q := by
  unfold Oper.wp execOp
  simp only [ho, hx, hy, Instr.storeAt, Instr.sureAddr, Sem.run_bind, Sem.run_pure, Result.andThen_ok, hg.run_store hi hfit h1]
  exact h
theorem wpList_store_at (hgd : o.guard = none) (ty : TypeId) (x y : Operand) (ho : o.op = .store ty x y) {g off : Nat} {ys : Array Value} (hx : a.eval x = .pointer (some ⟨g, off, none⟩)) (hy : a.eval y = .agg ys) {t : TypeId} {cs : Array Value} (hg : Blk w g t cs)
    (hi : (P.info? ty).map (·.size) = some ys.size) (hfit : off + ys.size ≤ cs.size) (h1 : ∀ v ∈ ys.toList, v.oneCell' = true)
    (h : wpList P ops Q rest (a.put o.dst undef) (w.setRow g (laid cs off ys.toList))) : wpList P ops Q (o :: rest) a w :=
  wpList_plain hgd fun _ hK => wp_store_at ty x y ho hx hy hg hi hfit h1 (hK _ _ h)
theorem wpList_build_as (hg : o.guard = none) (t : TypeId) (parts : Array (Nat × Operand)) (ho : o.op = .build t parts) {cells : Array Value} (ps : List (Nat × Value)) (hps : (parts.map fun (i, x) => (i, a.eval x)).toList = ps)
    (hf : P.built t ps = some cells) (h : wpList P ops Q rest (a.put o.dst (.agg cells)) w) : wpList P ops Q (o :: rest) a w :=
  wpList_build hg t parts ho (by rw [hps, hf]; rfl) (by rw [hps, hf]; exact h)
theorem wpList_build_k (hg : o.guard = none) (t : TypeId) (parts : Array (Nat × Operand)) (ho : o.op = .build t parts) {cells : Array Value}
    (hf : P.built t (parts.map fun (i, x) => (i, a.eval x)).toList = some cells) (h : wpList P ops Q rest (a.put o.dst (.agg cells)) w) : wpList P ops Q (o :: rest) a w :=
  wpList_build hg t parts ho (by rw [hf]; rfl) (by rw [hf]; exact h)
end
end Go.Sig
