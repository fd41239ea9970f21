/- The hash's state as a block of memory, and the walk of write. Conditions: each theorem's own. -/
import Derived.Test.YtdeoinjjphdbmaaGreatSb
namespace Go.Proofs.YtdeoinjjphdbmaaGreat
open Go.RowKit Go.Sig

/-- 'copy' into a row that is known whole, elements of any size. -/
theorem run_copy_rows {P : Program} (w : World) (dT sT ty elem : TypeId) (size g o dLen dCap : Nat) (sp : Option Addr) (sLen sCap : Nat) (cur : Array Value) (t : TypeId) (cs : List Value)
    (hu : P.underlying dT = some (.slice elem)) (hs : (P.info? elem).map (·.size) = some size) (hg : w.heap[g]? = some (.cells cur t (0, 0))) (hn : cs.length = Nat.min sLen dLen * size)
    (hsrc : 0 < Nat.min sLen dLen → ∃ a, sp = some a ∧ ∀ j v, cs[j]? = some v → w.cell? (a.add j) = some v) (hfit : o + cs.length ≤ cur.size) (h1 : ∀ v ∈ cs, v.oneCell' = true) :
    (Builtin.copy_ #[dT, sT] ty #[.slice (some ⟨g, o, none⟩) dLen dCap, .slice sp sLen sCap]).run P w =
      .ok (goInt (Nat.min sLen dLen)) (w.setRow g (laid cur o cs)) := by
  have hst := run_storeCells_at (P := P) g o t cs 0 cur w hg (by simpa using hfit) h1
  cases hq : P.info? elem with
  | none => simp [hq] at hs
  | some i =>
    have hi : i.size = size := by simpa [hq] using hs
    have hload : (Builtin.firstCells size (Nat.min sLen dLen) (.slice sp sLen sCap)).run P w = .ok cs.toArray w := by
      rcases Nat.eq_zero_or_pos (Nat.min sLen dLen) with h0 | h0
      · have hc : cs = [] := List.eq_nil_of_length_eq_zero (by rw [hn, h0]; simp)
        subst hc
        rw [h0]
        cases sp with
        | none => simp [Builtin.firstCells]
        | some a =>
          have := run_loadCells_list (P := P) w a [] (by simp)
          simpa [Builtin.firstCells] using this
      · obtain ⟨a, rfl, ha⟩ := hsrc h0
        have := run_loadCells_list (P := P) w a cs ha
        rw [hn] at this
        simpa [Builtin.firstCells] using this
    simp [Builtin.copy_, run_underlying hu, Builtin.lenOf, sizeOf, typeInfo, hq, hi, hload, hst]
    rfl
theorem wpList_copy_rows {P : Program} {w : World} {ops : Array Oper} {rest : List Oper} {op : Oper} {a : Act} {Q : Exit → Act → World → Prop} {elem dT sT t : TypeId} {size g o dLen dCap : Nat} {sp : Option Addr} {sLen sCap : Nat} {cur : Array Value} {cs : List Value} (M : Nat)
    (hgd : op.guard = none) {d s : Operand} (ho : op.op = .call { callee := .builtin .copy, args := #[d, s], argTypes := #[dT, sT] }) (hd : a.eval d = .slice (some ⟨g, o, none⟩) dLen dCap) (hs' : a.eval s = .slice sp sLen sCap)
    (hu : P.underlying dT = some (.slice elem)) (hs : (P.info? elem).map (·.size) = some size) (hg : Blk w g t cur) (hM : Nat.min sLen dLen = M) (hn : cs.length = M * size)
    (hsrc : 0 < M → ∃ a, sp = some a ∧ ∀ j v, cs[j]? = some v → w.cell? (a.add j) = some v) (hfit : o + cs.length ≤ cur.size) (h1 : ∀ v ∈ cs, v.oneCell' = true)
    (hK : wpList P ops Q rest (a.put op.dst (.int .i64 (M : Int))) (w.setRow g (laid cur o cs))) : wpList P ops Q (op :: rest) a w := by
  subst hM
  refine wpList_plain hgd fun K' hK' => ?_
  have hrun := run_copy_rows (P := P) w dT sT op.type elem size g o dLen dCap sp sLen sCap cur t cs hu hs hg hn hsrc hfit h1
  unfold Oper.wp
  simp [execOp, ho, resolve, invoke, builtin, hd, hs', hrun, Result.andThen]
  exact hK' _ _ hK
theorem byts_src {w : World} {A : Option Addr} {n M : Nat} {l : List UInt8} (h : Byts w A n l) (hM : M ≤ n) : 0 < M → ∃ a, A = some a ∧ ∀ j v, ((l.take M).map bv)[j]? = some v → w.cell? (a.add j) = some v := by
  intro h0
  obtain ⟨b, o, hA, hc⟩ := h.2 (by omega)
  refine ⟨_, hA, fun j v hv => ?_⟩
  have hl := h.length
  have hj := (List.getElem?_eq_some_iff.1 hv).1
  simp at hj
  rw [Addr.add_lit]
  exact hc j v (by rw [← hv, List.map_take, List.getElem?_take_of_lt (by omega)])

/-! ### The state as cells -/
def StOf (cs : Array Value) (bs : List UInt8) : Prop :=
  cs.size = 73 ∧ HasW cs (pressN (bs.length / 64) shaInit bs) ∧ (∀ j, j < bs.length % 64 → cs[8 + j]? = some (bv (bs.getD (64 * (bs.length / 64) + j) 0))) ∧ cs[72]? = some (.int .i64 bs.length)
theorem st_take {cs : Array Value} {bs m : List UInt8} (h0 : bs.length % 64 = 0) (hm : m.length = 64) (hz : cs.size = 73) (hW : HasW cs (press (pressN (bs.length / 64) shaInit bs) m)) (h72 : cs[72]? = some (.int .i64 ((bs.length : Int) + 64))) : StOf cs (bs ++ m) := by
  have hl : (bs ++ m).length = bs.length + 64 := by simp [hm]
  have hq : (bs ++ m).length / 64 = bs.length / 64 + 1 := by omega
  have h64 : 64 * (bs.length / 64) = bs.length := by omega
  refine ⟨hz, ?_, fun j hj => by omega, ?_⟩
  · rw [hq, press_snoc, pressN_take _ _ _ _ (by omega), h64, List.drop_append_of_le_length (Nat.le_refl _), List.drop_length, List.nil_append, List.take_of_length_le (by omega)]
    exact hW
  · rw [h72, hl]; rfl
/-- The cells behind a copy into the rest. -/
theorem st_mid {cs : Array Value} {bs m : List UInt8} (h : StOf cs bs) (hm : bs.length % 64 + m.length ≤ 64) (j : Nat) (hj : j < bs.length % 64 + m.length) :
    ((laid cs (8 + bs.length % 64) (m.map bv)).setIfInBounds 72 (.int .i64 ((bs.length : Int) + m.length)))[8 + j]? = some (bv ((bs ++ m).getD (64 * (bs.length / 64) + j) 0)) := by
  have hz := h.1
  have hfit : 8 + bs.length % 64 + (m.map bv).length ≤ cs.size := by simp; omega
  rw [Array.getElem?_setIfInBounds, if_neg (by omega), laid_get hfit]
  simp only [List.length_map]
  by_cases h1 : j < bs.length % 64
  · rw [if_neg (by omega), h.2.2.1 j h1]
    simp only [List.getD]
    rw [List.getElem?_append_left (by omega)]
  · rw [if_pos (by omega), List.getElem?_map]
    simp only [List.getD]
    rw [List.getElem?_append_right (by omega), show 64 * (bs.length / 64) + j - bs.length = 8 + j - (8 + bs.length % 64) by omega, List.getElem?_eq_getElem (by omega)]
    rfl
theorem st_words {cs : Array Value} {bs m : List UInt8} (h : StOf cs bs) (hm : bs.length % 64 + m.length ≤ 64) : HasW ((laid cs (8 + bs.length % 64) (m.map bv)).setIfInBounds 72 (.int .i64 ((bs.length : Int) + m.length))) (pressN (bs.length / 64) shaInit (bs ++ m)) := by
  have hz := h.1
  have hfit : 8 + bs.length % 64 + (m.map bv).length ≤ cs.size := by simp; omega
  rw [pressN_take _ _ _ _ (by omega)]
  intro j v hv
  have hj : j < 8 := (List.getElem?_eq_some_iff.1 hv).1
  rw [Array.getElem?_setIfInBounds, if_neg (by omega), laid_far hfit (.inl (by omega))]
  exact h.2.1 j v hv
theorem st_size {cs : Array Value} {bs m : List UInt8} (h : StOf cs bs) (hm : bs.length % 64 + m.length ≤ 64) (v : Value) : ((laid cs (8 + bs.length % 64) (m.map bv)).setIfInBounds 72 v).size = 73 := by
  have hz := h.1
  rw [Array.size_setIfInBounds, laid_size (by simp; omega), hz]
theorem st_rest {cs : Array Value} {bs m : List UInt8} (h : StOf cs bs) (hm : bs.length % 64 + m.length < 64) : StOf ((laid cs (8 + bs.length % 64) (m.map bv)).setIfInBounds 72 (.int .i64 ((bs.length : Int) + m.length))) (bs ++ m) := by
  have hz := h.1
  have hfit : 8 + bs.length % 64 + (m.map bv).length ≤ cs.size := by simp; omega
  have hq : (bs ++ m).length / 64 = bs.length / 64 := by simp; omega
  have hr : (bs ++ m).length % 64 = bs.length % 64 + m.length := by simp; omega
  refine ⟨st_size h (by omega) _, ?_, fun j hj => ?_, ?_⟩
  · rw [hq]
    exact st_words h (by omega)
  · rw [hq]
    exact st_mid h (by omega) j (by omega)
  · rw [Array.getElem?_setIfInBounds, if_pos rfl, if_pos (by rw [laid_size hfit]; omega)]
    simp
/-- The bytes of the rest when it is full. -/
def fullRest (bs m : List UInt8) : List UInt8 := ((bs ++ m).drop (64 * (bs.length / 64))).take 64
theorem fullRest_length {bs m : List UInt8} (hm : bs.length % 64 + m.length = 64) : (fullRest bs m).length = 64 := by
  unfold fullRest
  simp
  omega
theorem fullRest_get {cs : Array Value} {bs m : List UInt8} (h : StOf cs bs) (hm : bs.length % 64 + m.length = 64) :
    Sub ((laid cs (8 + bs.length % 64) (m.map bv)).setIfInBounds 72 (.int .i64 ((bs.length : Int) + m.length))) 8 ((fullRest bs m).map bv) := by
  intro j v hv
  have hj : j < 64 := by
    have := (List.getElem?_eq_some_iff.1 hv).1
    simp only [List.length_map] at this
    rw [fullRest_length hm] at this
    exact this
  rw [st_mid h (by omega) j (by omega), ← hv, List.getElem?_map]
  have : (fullRest bs m)[j]? = (bs ++ m)[64 * (bs.length / 64) + j]? := by
    unfold fullRest
    rw [List.getElem?_take_of_lt hj, List.getElem?_drop]
  rw [this]
  simp only [List.getD]
  rw [List.getElem?_eq_getElem (show 64 * (bs.length / 64) + j < (bs ++ m).length by simp; omega)]
  rfl
theorem st_full {cs cs' : Array Value} {bs m : List UInt8} (h : StOf cs bs) (hm : bs.length % 64 + m.length = 64) (hz : cs'.size = 73)
    (hW : HasW cs' (press (pressN (bs.length / 64) shaInit (bs ++ m)) (fullRest bs m)))
    (hf : ∀ j, 8 ≤ j → cs'[j]? = ((laid cs (8 + bs.length % 64) (m.map bv)).setIfInBounds 72 (.int .i64 ((bs.length : Int) + m.length)))[j]?) : StOf cs' (bs ++ m) := by
  have hz0 := h.1
  have hfit : 8 + bs.length % 64 + (m.map bv).length ≤ cs.size := by simp; omega
  have hq : (bs ++ m).length / 64 = bs.length / 64 + 1 := by simp; omega
  have hr : (bs ++ m).length % 64 = 0 := by simp; omega
  refine ⟨hz, ?_, fun j hj => by omega, ?_⟩
  · rw [hq, press_snoc]
    exact hW
  · rw [hf 72 (by omega), Array.getElem?_setIfInBounds, if_pos rfl, if_pos (by rw [laid_size hfit]; omega)]
    simp
theorem st_init : StOf initCells [] := by
  refine ⟨rfl, ?_, fun j hj => by simp at hj, rfl⟩
  intro j v hv
  have hj : j < 8 := (List.getElem?_eq_some_iff.1 hv).1
  rw [← hv]
  have : j = 0 ∨ j = 1 ∨ j = 2 ∨ j = 3 ∨ j = 4 ∨ j = 5 ∨ j = 6 ∨ j = 7 := by omega
  rcases this with e | e | e | e | e | e | e | e <;> subst e <;> rfl
/-- A state in memory that was told these bytes. -/
def StIn (w : World) (g : Nat) (t : TypeId) (bs : List UInt8) : Prop := ∃ cs, Blk w g t cs ∧ StOf cs bs
theorem StIn.fr {w w' : World} {g : Nat} {t : TypeId} {bs : List UInt8} {S : List Nat} (h : StIn w g t bs) (hf : Fr S w w') (hg : g ∉ S) : StIn w' g t bs := by
  obtain ⟨cs, h1, h2⟩ := h
  exact ⟨cs, h1.fr hf hg, h2⟩
theorem StIn.lt {w : World} {g : Nat} {t : TypeId} {bs : List UInt8} (h : StIn w g t bs) : g < w.heap.size := h.choose_spec.1.lt
theorem byts_drop {w : World} {b o n i : Nat} {l : List UInt8} (h : Byts w (some ⟨b, o, none⟩) n l) (hi : i ≤ n) : Byts w (some ⟨b, o + i, none⟩) (n - i) (l.drop i) := by
  have hl := h.length
  refine ⟨by simp [hl], fun hn => ⟨b, o + i, rfl, fun j u hu => ?_⟩⟩
  obtain ⟨b', o', e, hc⟩ := h.2 (by omega)
  cases e
  have := hc (i + j) u (by rw [← List.getElem?_drop, List.map_drop.symm]; exact hu)
  rw [Nat.add_assoc]
  exact this
theorem byts_take {w : World} {b o n i : Nat} {l : List UInt8} (h : Byts w (some ⟨b, o, none⟩) n l) (hi : i ≤ n) : Byts w (some ⟨b, o, none⟩) i (l.take i) := by
  have hl := h.length
  refine ⟨by simp [hl]; omega, fun hn => ⟨b, o, rfl, fun j u hu => ?_⟩⟩
  obtain ⟨b', o', e, hc⟩ := h.2 (by omega)
  cases e
  have hj := (List.getElem?_eq_some_iff.1 hu).1
  simp at hj
  exact hc j u (by rw [← hu, List.map_take, List.getElem?_take_of_lt (by omega)])
theorem byts_slice {w : World} {b o n c i : Nat} {l : List UInt8} (h : Byts w (some ⟨b, o, none⟩) n l) (hi : i ≤ n) (hc : n ≤ c) : Byts w (if c = i then some ⟨b, o, none⟩ else some ⟨b, o + i, none⟩) (n - i) (l.drop i) := by
  split
  · have hl := h.length
    have e : n - i = 0 := by omega
    rw [e, List.drop_of_length_le (by omega)]
    exact Rd.nil _ _ _
  · exact byts_drop h hi
theorem off_slice {S : List Nat} {b o c i : Nat} (h : Off S (some ⟨b, o, none⟩)) : Off S (if c = i then some ⟨b, o, none⟩ else some ⟨b, o + i, none⟩) := by
  split
  · exact h
  · intro ad e
    cases e
    exact h ⟨b, o, none⟩ rfl
end Go.Proofs.YtdeoinjjphdbmaaGreat
