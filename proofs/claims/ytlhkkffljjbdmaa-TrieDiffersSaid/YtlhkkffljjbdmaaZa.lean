/- What differs in two tables, and unlike parts of one digest: plain laws. Conditions: none. -/
import Derived.Test.YtlhkkffljjbdmaaTp
namespace Go.Sig
open Go.RowKit

/-- Have two unlike sets of pairs, or parts of them, one digest? -/
def alk : Nat → List Pr → List Pr → Bool
  | 0, a, b => if a = b then false else decide (dig 0 a = dig 0 b)
  | f + 1, a, b => if a = b then false else if dig (f + 1) a = dig (f + 1) b then true else if a.length ≤ 1 ∧ b.length ≤ 1 then false else (List.range 16).any fun k => alk f (kid f a k) (kid f b k)
theorem alk_self : ∀ (f : Nat) (a : List Pr), alk f a a = false
  | 0, a => by simp [alk]
  | f + 1, a => by simp [alk]
theorem alk_symm : ∀ (f : Nat) (a b : List Pr), alk f a b = alk f b a
  | 0, a, b => by
    unfold alk
    by_cases h : a = b
    · rw [if_pos h, if_pos h.symm]
    · rw [if_neg h, if_neg (show ¬b = a from fun e => h e.symm), decide_eq_decide]
      exact eq_comm
  | f + 1, a, b => by
    unfold alk
    by_cases h : a = b
    · rw [if_pos h, if_pos h.symm]
    · rw [if_neg h, if_neg (show ¬b = a from fun e => h e.symm)]
      by_cases h2 : dig (f + 1) a = dig (f + 1) b
      · rw [if_pos h2, if_pos h2.symm]
      · rw [if_neg h2, if_neg (show ¬dig (f + 1) b = dig (f + 1) a from fun e => h2 e.symm)]
        simp only [fun k => alk_symm f (kid f a k) (kid f b k), and_comm]
theorem alk_eq {f : Nat} {a b : List Pr} (h : alk f a b = false) (hd : dig f a = dig f b) : a = b := by
  cases f with
  | zero =>
    unfold alk at h
    by_cases e : a = b
    · exact e
    · rw [if_neg e] at h
      simp [hd] at h
  | succ f =>
    unfold alk at h
    by_cases e : a = b
    · exact e
    · rw [if_neg e, if_pos hd] at h
      cases h
theorem alk_kid {f : Nat} {a b : List Pr} (h : alk (f + 1) a b = false) (h2 : 2 ≤ a.length) {k : Nat} (hk : k < 16) : alk f (kid f a k) (kid f b k) = false := by
  unfold alk at h
  by_cases e : a = b
  · subst e
    exact alk_self _ _
  · rw [if_neg e] at h
    by_cases hd : dig (f + 1) a = dig (f + 1) b
    · rw [if_pos hd] at h
      cases h
    · rw [if_neg hd, if_neg (by omega)] at h
      rw [List.any_eq_false] at h
      simpa using h k (by simpa using hk)

/-- The names of pairs of a that b hasn't so. -/
def dfA (a b : List Pr) : List ByteArray := (a.filter fun y => !decide (aget y.1 b = some y.2)).map (·.1)
/-- The names of b that a hasn't. -/
def dfB (a b : List Pr) : List ByteArray := (b.filter fun z => (aget z.1 a).isNone).map (·.1)
def dfN (a b : List Pr) : List ByteArray := dfA a b ++ dfB a b
theorem dfN_self {a : List Pr} (h : Rising a) : dfN a a = [] := by
  have hn := rising_nodup h
  have h1 : a.filter (fun y => !decide (aget y.1 a = some y.2)) = [] := List.filter_eq_nil_iff.2 fun y hy => by simp [aget_of_mem (k := y.1) (v := y.2) hn hy]
  have h2 : a.filter (fun z => (aget z.1 a).isNone) = [] := List.filter_eq_nil_iff.2 fun y hy => by simp [aget_of_mem (k := y.1) (v := y.2) hn hy]
  unfold dfN dfA dfB
  rw [h1, h2]
  rfl
theorem dfA_kid (f : Nat) (a b : List Pr) (k : Nat) : dfA (kid f a k) (kid f b k) = (kid f (a.filter fun y => !decide (aget y.1 b = some y.2)) k).map (·.1) := by
  unfold dfA
  rw [kid.eq_1 f a, kid.eq_1 f (a.filter _), List.filter_filter, List.filter_filter]
  congr 1
  apply List.filter_congr
  intro y _
  by_cases h : nib (pathOf y.1) (63 - f) = k
  · subst h
    rw [aget_kid, Bool.and_comm]
  · simp [h]
theorem dfB_kid (f : Nat) (a b : List Pr) (k : Nat) : dfB (kid f a k) (kid f b k) = (kid f (b.filter fun z => (aget z.1 a).isNone) k).map (·.1) := by
  unfold dfB
  rw [kid.eq_1 f b, kid.eq_1 f (b.filter _), List.filter_filter, List.filter_filter]
  congr 1
  apply List.filter_congr
  intro y _
  by_cases h : nib (pathOf y.1) (63 - f) = k
  · subst h
    rw [aget_kid, Bool.and_comm]
  · simp [h]
theorem flatMap_append_perm {α β : Type} (g h : α → List β) : ∀ l : List α, (l.flatMap fun x => g x ++ h x).Perm (l.flatMap g ++ l.flatMap h)
  | [] => .refl _
  | x :: l => by
    rw [List.flatMap_cons, List.flatMap_cons, List.flatMap_cons]
    refine ((flatMap_append_perm g h l).append_left _).trans ?_
    rw [List.append_assoc, List.append_assoc]
    refine .append_left _ ?_
    rw [← List.append_assoc, ← List.append_assoc]
    exact List.perm_append_comm.append_right _
theorem kids_names (f : Nat) (l : List Pr) : ((List.range 16).flatMap fun k => (kid f l k).map (·.1)).Perm (l.map (·.1)) := by
  have h := (kids_perm f l 16).map (·.1)
  rw [List.map_flatMap] at h
  refine h.trans ?_
  rw [List.filter_eq_self.2 fun y _ => by simp [nib_lt]]
theorem dfN_kids (f : Nat) (a b : List Pr) : ((List.range 16).flatMap fun k => dfN (kid f a k) (kid f b k)).Perm (dfN a b) := by
  unfold dfN
  refine (flatMap_append_perm _ _ _).trans ?_
  simp only [dfA_kid, dfB_kid]
  exact (kids_names f _).append (kids_names f _)
theorem dfN_snoc (f : Nat) (a b : List Pr) (k : Nat) : ((List.range (k + 1)).flatMap fun k => dfN (kid f a k) (kid f b k)) = ((List.range k).flatMap fun k => dfN (kid f a k) (kid f b k)) ++ dfN (kid f a k) (kid f b k) := by
  rw [List.range_succ, List.flatMap_append]
  simp

/-- The names in which two tables differ, rising. -/
def mrg : List Pr → List Pr → List ByteArray
  | [], b => b.map (·.1)
  | x :: l, [] => x.1 :: l.map (·.1)
  | x :: l, y :: m => if bl x.1 y.1 = true then x.1 :: mrg l (y :: m) else if bl y.1 x.1 = true then y.1 :: mrg (x :: l) m else (if x.2 = y.2 then mrg l m else x.1 :: mrg l m)
termination_by a b => a.length + b.length
theorem mrg_nil (b : List Pr) : mrg [] b = b.map (·.1) := by rw [mrg]
theorem mrg_none (a : List Pr) : mrg a [] = a.map (·.1) := by
  cases a with
  | nil => rw [mrg]
  | cons x l => rw [mrg]; rfl
theorem mrg_lt {x y : Pr} {l m : List Pr} (h : bl x.1 y.1 = true) : mrg (x :: l) (y :: m) = x.1 :: mrg l (y :: m) := by rw [mrg, if_pos h]
theorem mrg_gt {x y : Pr} {l m : List Pr} (h : bl y.1 x.1 = true) : mrg (x :: l) (y :: m) = y.1 :: mrg (x :: l) m := by
  rw [mrg, if_neg (by rw [bl_asymm h]; simp), if_pos h]
theorem mrg_same {x y : Pr} {l m : List Pr} (h : x.1 = y.1) (h2 : x.2 = y.2) : mrg (x :: l) (y :: m) = mrg l m := by
  rw [mrg, if_neg (by rw [h, bl_irrefl]; simp), if_neg (by rw [h, bl_irrefl]; simp), if_pos h2]
theorem mrg_else {x y : Pr} {l m : List Pr} (h : x.1 = y.1) (h2 : x.2 ≠ y.2) : mrg (x :: l) (y :: m) = x.1 :: mrg l m := by
  rw [mrg, if_neg (by rw [h, bl_irrefl]; simp), if_neg (by rw [h, bl_irrefl]; simp), if_neg h2]
theorem dfN_nil (b : List Pr) : dfN [] b = b.map (·.1) := by
  show [] ++ dfB [] b = _
  unfold dfB
  rw [show b.filter (fun z => (aget z.1 ([] : List Pr)).isNone) = b from List.filter_eq_self.2 fun y _ => rfl]
  rfl
theorem dfN_none (a : List Pr) : dfN a [] = a.map (·.1) := by
  unfold dfN dfA dfB
  rw [List.filter_eq_self.2 fun y _ => by simp [aget]]
  simp
theorem names_lt {x : ByteArray} {l : List Pr} (h : ∀ z ∈ l, bl x z.1 = true) : x ∉ l.map (·.1) := by
  intro hm
  obtain ⟨z, hz, e⟩ := List.mem_map.1 hm
  have := h z hz
  rw [← e, bl_irrefl] at this
  cases this
theorem no_name {x : Pr} {l : List Pr} (h : x.1 ∉ l.map (·.1)) : ¬aget x.1 l = some x.2 := by rw [aget_none_iff.2 h]; simp
theorem dfA_cons (x : Pr) (l b : List Pr) : dfA (x :: l) b = (if aget x.1 b = some x.2 then [] else [x.1]) ++ dfA l b := by
  unfold dfA
  by_cases h : aget x.1 b = some x.2
  · rw [if_pos h, List.filter_cons_of_neg (by simp [h])]
    rfl
  · rw [if_neg h, List.filter_cons_of_pos (by simp [h])]
    rfl
theorem dfB_cons (a : List Pr) (y : Pr) (m : List Pr) : dfB a (y :: m) = (if (aget y.1 a).isNone = true then [y.1] else []) ++ dfB a m := by
  unfold dfB
  by_cases h : (aget y.1 a).isNone = true
  · rw [if_pos h, List.filter_cons_of_pos (by simpa using h)]
    rfl
  · rw [if_neg h, List.filter_cons_of_neg (by simpa using h)]
    rfl
theorem aget_skip {s : ByteArray} {y : Pr} {m : List Pr} (h : y.1 ≠ s) : aget s (y :: m) = aget s m := by
  obtain ⟨y1, y2⟩ := y
  simp only at h
  rw [aget, if_neg h]
theorem aget_here {s : ByteArray} {y : Pr} {m : List Pr} (h : y.1 = s) : aget s (y :: m) = some y.2 := by
  obtain ⟨y1, y2⟩ := y
  simp only at h
  rw [aget, if_pos h]
theorem dfA_less {l : List Pr} {y : Pr} {m : List Pr} (h : y.1 ∉ l.map (·.1)) : dfA l (y :: m) = dfA l m := by
  unfold dfA
  congr 1
  apply List.filter_congr
  intro z hz
  rw [aget_skip fun e => h (List.mem_map.2 ⟨z, hz, e.symm⟩)]
theorem dfB_less {x : Pr} {l m : List Pr} (h : x.1 ∉ m.map (·.1)) : dfB (x :: l) m = dfB l m := by
  unfold dfB
  congr 1
  apply List.filter_congr
  intro z hz
  rw [aget_skip fun e => h (List.mem_map.2 ⟨z, hz, e.symm⟩)]
theorem rising_cons {x : Pr} {l : List Pr} (h : Rising (x :: l)) : (∀ z ∈ l, bl x.1 z.1 = true) ∧ Rising l := List.pairwise_cons.1 h
theorem rising_under {x y : Pr} {m : List Pr} (h : Rising (y :: m)) (hxy : bl x.1 y.1 = true) : ∀ z ∈ y :: m, bl x.1 z.1 = true := by
  intro z hz
  rcases List.mem_cons.1 hz with rfl | hz
  · exact hxy
  · exact bl_trans hxy ((rising_cons h).1 z hz)
theorem mrg_mem {n : ByteArray} : ∀ {a b : List Pr}, n ∈ mrg a b → n ∈ a.map (·.1) ∨ n ∈ b.map (·.1)
  | [], b, h => by rw [mrg_nil] at h; exact .inr h
  | x :: l, [], h => by rw [mrg_none] at h; exact .inl h
  | x :: l, y :: m, h => by
    rw [mrg] at h
    split at h
    · rcases List.mem_cons.1 h with h | h
      · exact .inl (by simp [h])
      · exact (mrg_mem h).imp (fun h => List.mem_cons_of_mem _ h) id
    · split at h
      · rcases List.mem_cons.1 h with h | h
        · exact .inr (by simp [h])
        · exact (mrg_mem h).imp id (fun h => List.mem_cons_of_mem _ h)
      · split at h
        · exact (mrg_mem h).imp (fun h => List.mem_cons_of_mem _ h) (fun h => List.mem_cons_of_mem _ h)
        · rcases List.mem_cons.1 h with h | h
          · exact .inl (by simp [h])
          · exact (mrg_mem h).imp (fun h => List.mem_cons_of_mem _ h) (fun h => List.mem_cons_of_mem _ h)
termination_by a b => a.length + b.length
theorem mrg_above {x : ByteArray} {a b : List Pr} (ha : ∀ z ∈ a, bl x z.1 = true) (hb : ∀ z ∈ b, bl x z.1 = true) : ∀ n ∈ mrg a b, bl x n = true := by
  intro n hn
  rcases mrg_mem hn with h | h
  · obtain ⟨z, hz, rfl⟩ := List.mem_map.1 h
    exact ha z hz
  · obtain ⟨z, hz, rfl⟩ := List.mem_map.1 h
    exact hb z hz
def RisingN (l : List ByteArray) : Prop := l.Pairwise fun a b => bl a b = true
theorem rising_names {l : List Pr} (h : Rising l) : RisingN (l.map (·.1)) := List.pairwise_map.2 h
theorem mrg_rising : ∀ {a b : List Pr}, Rising a → Rising b → RisingN (mrg a b)
  | [], b, _, hb => by rw [mrg_nil]; exact rising_names hb
  | x :: l, [], ha, _ => by rw [mrg_none]; exact rising_names ha
  | x :: l, y :: m, ha, hb => by
    have hl := rising_cons ha
    have hm := rising_cons hb
    by_cases h1 : bl x.1 y.1 = true
    · rw [mrg_lt h1]
      exact List.pairwise_cons.2 ⟨mrg_above hl.1 (rising_under hb h1), mrg_rising hl.2 hb⟩
    · by_cases h2 : bl y.1 x.1 = true
      · rw [mrg_gt h2]
        exact List.pairwise_cons.2 ⟨mrg_above (rising_under ha h2) hm.1, mrg_rising ha hm.2⟩
      · have e : x.1 = y.1 := by
          by_cases e : x.1 = y.1
          · exact e
          · exact absurd (bl_total e) (by simp [h1, h2])
        by_cases h3 : x.2 = y.2
        · rw [mrg_same e h3]
          exact mrg_rising hl.2 hm.2
        · rw [mrg_else e h3]
          exact List.pairwise_cons.2 ⟨mrg_above hl.1 (fun z hz => by rw [e]; exact hm.1 z hz), mrg_rising hl.2 hm.2⟩
termination_by a b => a.length + b.length
theorem mrg_perm : ∀ {a b : List Pr}, Rising a → Rising b → (mrg a b).Perm (dfN a b)
  | [], b, _, hb => by rw [mrg_nil, dfN_nil]
  | x :: l, [], ha, _ => by rw [mrg_none, dfN_none]
  | x :: l, y :: m, ha, hb => by
    have hl := rising_cons ha
    have hm := rising_cons hb
    by_cases h1 : bl x.1 y.1 = true
    · have hx := names_lt (rising_under hb h1)
      rw [mrg_lt h1]
      refine ((mrg_perm hl.2 hb).cons _).trans ?_
      unfold dfN
      rw [dfA_cons, if_neg (no_name hx), dfB_less hx]
      exact .refl _
    · by_cases h2 : bl y.1 x.1 = true
      · have hy := names_lt (rising_under ha h2)
        rw [mrg_gt h2]
        refine ((mrg_perm ha hm.2).cons _).trans ?_
        unfold dfN
        rw [dfA_less hy, dfB_cons, if_pos (by rw [aget_none_iff.2 hy]; rfl)]
        exact List.perm_middle.symm
      · have e : x.1 = y.1 := by
          by_cases e : x.1 = y.1
          · exact e
          · exact absurd (bl_total e) (by simp [h1, h2])
        have hyl : y.1 ∉ l.map (·.1) := by rw [← e]; exact names_lt hl.1
        have hxm : x.1 ∉ m.map (·.1) := by rw [e]; exact names_lt hm.1
        have hB : dfB (x :: l) (y :: m) = dfB l m := by
          rw [dfB_cons, if_neg (by rw [aget_here e]; simp), dfB_less hxm]
          rfl
        by_cases h3 : x.2 = y.2
        · rw [mrg_same e h3]
          refine (mrg_perm hl.2 hm.2).trans ?_
          unfold dfN
          rw [hB, dfA_cons, if_pos (by rw [aget_here e.symm, h3]), dfA_less hyl]
          exact .refl _
        · rw [mrg_else e h3]
          refine ((mrg_perm hl.2 hm.2).cons _).trans ?_
          unfold dfN
          rw [hB, dfA_cons, if_neg (by
            rw [aget_here e.symm]
            intro h
            exact h3 (Option.some.inj h).symm), dfA_less hyl]
          exact .refl _
termination_by a b => a.length + b.length
theorem risingN_ext {l m : List ByteArray} (hl : RisingN l) (hm : RisingN m) (hp : l.Perm m) : l = m := by
  refine List.Perm.eq_of_pairwise (le := fun (a b : ByteArray) => bl a b = true) ?_ hl hm hp
  intro a b _ _ h1 h2
  have := bl_trans h1 h2
  rw [bl_irrefl] at this
  cases this
theorem dfN_comm {a b : List Pr} (ha : Rising a) (hb : Rising b) : (dfN a b).Perm (dfN b a) := by
  have key : ∀ {a b : List Pr}, Rising a → Rising b → mrg a b = mrg b a := by
    intro a b
    induction a generalizing b with
    | nil => intro _ _; rw [mrg_nil, mrg_none]
    | cons x l ihl =>
      induction b with
      | nil => intro _ _; rw [mrg_nil, mrg_none]
      | cons y m ihm =>
        intro ha hb
        have hl := rising_cons ha
        have hm := rising_cons hb
        by_cases h1 : bl x.1 y.1 = true
        · rw [mrg_lt h1, mrg_gt h1, ihl hl.2 hb]
        · by_cases h2 : bl y.1 x.1 = true
          · rw [mrg_gt h2, mrg_lt h2, ihm ha hm.2]
          · have e : x.1 = y.1 := by
              by_cases e : x.1 = y.1
              · exact e
              · exact absurd (bl_total e) (by simp [h1, h2])
            by_cases h3 : x.2 = y.2
            · rw [mrg_same e h3, mrg_same e.symm h3.symm, ihl hl.2 hm.2]
            · rw [mrg_else e h3, mrg_else e.symm (fun e => h3 e.symm), ihl hl.2 hm.2, e]
  exact (mrg_perm ha hb).symm.trans (by rw [key ha hb]; exact mrg_perm hb ha)

/-! ### A table as a map, pair by pair -/
theorem aget_perm {l m : List Pr} (hp : l.Perm m) (hn : (l.map (·.1)).Nodup) (s : ByteArray) : aget s l = aget s m := by
  have hm : (m.map (·.1)).Nodup := (hp.map (·.1)).nodup_iff.1 hn
  cases h : aget s l with
  | some v => exact (aget_of_mem hm (hp.mem_iff.1 (mem_of_aget h))).symm
  | none =>
    symm
    rw [aget_none_iff] at h ⊢
    exact fun hh => h ((hp.map (·.1)).mem_iff.2 hh)
theorem aget_snoc {l : List Pr} {y : Pr} (h : y.1 ∉ l.map (·.1)) (s : ByteArray) : aget s (l ++ [y]) = if y.1 = s then some y.2 else aget s l := by
  induction l with
  | nil =>
    obtain ⟨y1, y2⟩ := y
    rfl
  | cons x l ih =>
    have hx : ¬x.1 = y.1 := fun e => h (by simp [e])
    have hl : y.1 ∉ l.map (·.1) := fun hh => h (List.mem_cons_of_mem _ hh)
    rw [List.cons_append]
    by_cases e : x.1 = s
    · rw [aget_here e, aget_here e, if_neg (by rw [← e]; exact fun e => hx e.symm)]
    · rw [aget_skip e, aget_skip e, ih hl]
theorem name_fresh {l : List Pr} (hn : (l.map (·.1)).Nodup) {i : Nat} (h : i < l.length) : l[i].1 ∉ (l.take i).map (·.1) := by
  intro hm
  obtain ⟨z, hz, e⟩ := List.mem_map.1 hm
  obtain ⟨j, hj, rfl⟩ := List.mem_iff_getElem.1 hz
  rw [List.length_take] at hj
  rw [List.getElem_take] at e
  have hp := List.pairwise_iff_getElem.1 hn j i (by rw [List.length_map]; omega) (by rw [List.length_map]; omega) (by omega)
  rw [List.getElem_map, List.getElem_map] at hp
  exact hp e
theorem aget_take_succ {l : List Pr} (hn : (l.map (·.1)).Nodup) {i : Nat} (h : i < l.length) (s : ByteArray) : aget s (l.take (i + 1)) = if l[i].1 = s then some l[i].2 else aget s (l.take i) := by
  rw [List.take_succ_eq_append_getElem h]
  exact aget_snoc (name_fresh hn h) s
/-- The map while the other table's pairs are gone through. -/
def MapD (M l b : List Pr) : Prop := ∀ s, aget s M = if aget s b = aget s l then none else aget s l
theorem MapD.start {M l : List Pr} (h : ∀ s, aget s M = aget s l) : MapD M l [] := by
  intro s
  rw [h]
  show aget s l = if none = aget s l then none else aget s l
  split
  · rename_i e; exact e.symm
  · rfl
theorem MapD.here {M l b : List Pr} {i : Nat} (hM : MapD M l (b.take i)) (hn : (b.map (·.1)).Nodup) (h : i < b.length) : aget b[i].1 M = aget b[i].1 l := by
  rw [hM, aget_none_iff.2 (name_fresh hn h)]
  split
  · rename_i e; exact e
  · rfl
theorem MapD.keep {M l b : List Pr} {i : Nat} (hM : MapD M l (b.take i)) (hn : (b.map (·.1)).Nodup) (h : i < b.length) (hne : ¬aget b[i].1 l = some b[i].2) : MapD M l (b.take (i + 1)) := by
  intro s
  rw [aget_take_succ hn h]
  by_cases e : b[i].1 = s
  · subst e
    rw [if_pos rfl, if_neg (fun e => hne e.symm), hM.here hn h]
  · rw [if_neg e]
    exact hM s
theorem MapD.gone {M N l b : List Pr} {i : Nat} (hM : MapD M l (b.take i)) (hn : (b.map (·.1)).Nodup) (h : i < b.length) (he : aget b[i].1 l = some b[i].2) (h1 : aget b[i].1 N = none) (h2 : ∀ s, s ≠ b[i].1 → aget s N = aget s M) : MapD N l (b.take (i + 1)) := by
  intro s
  rw [aget_take_succ hn h]
  by_cases e : b[i].1 = s
  · subst e
    rw [if_pos rfl, if_pos he.symm, h1]
  · rw [if_neg e, h2 s (fun e2 => e e2.symm)]
    exact hM s
theorem mem_keys {M : List Pr} {s : ByteArray} : s ∈ M.map (·.1) ↔ ∃ v, aget s M = some v := by
  constructor
  · intro h
    cases e : aget s M with
    | some v => exact ⟨v, rfl⟩
    | none => exact absurd h (aget_none_iff.1 e)
  · rintro ⟨v, hv⟩
    exact List.mem_map.2 ⟨_, mem_of_aget hv, rfl⟩
theorem MapD.keys {M l b : List Pr} (hM : MapD M l b) (hMn : (M.map (·.1)).Nodup) (hl : (l.map (·.1)).Nodup) : (M.map (·.1)).Perm (dfA l b) := by
  have hd : (dfA l b).Nodup := (List.filter_sublist.map _).nodup hl
  refine (List.perm_ext_iff_of_nodup hMn hd).2 fun s => ?_
  rw [mem_keys, hM]
  unfold dfA
  constructor
  · rintro ⟨v, hv⟩
    split at hv
    · cases hv
    · rename_i hne
      refine List.mem_map.2 ⟨(s, v), List.mem_filter.2 ⟨mem_of_aget hv, ?_⟩, rfl⟩
      simp only [Bool.not_eq_true', decide_eq_false_iff_not]
      intro e
      exact hne (e.trans hv.symm)
  · intro h
    obtain ⟨y, hy, rfl⟩ := List.mem_map.1 h
    obtain ⟨hy1, hy2⟩ := List.mem_filter.1 hy
    have e := aget_of_mem (k := y.1) (v := y.2) hl hy1
    refine ⟨y.2, ?_⟩
    rw [if_neg (fun e2 => by simp [e2, e] at hy2), e]
/-- The names of the other table that the first one hasn't, as they come. -/
def newN (l b : List Pr) : List ByteArray := (b.filter fun z => (aget z.1 l).isNone).map (·.1)
theorem newN_snoc {l b : List Pr} {i : Nat} (h : i < b.length) : newN l (b.take (i + 1)) = newN l (b.take i) ++ (if (aget b[i].1 l).isNone = true then [b[i].1] else []) := by
  unfold newN
  rw [List.take_succ_eq_append_getElem h, List.filter_append, List.map_append]
  cases e : (aget b[i].1 l).isNone <;> simp [e]
theorem newN_perm {l b m : List Pr} (h : b.Perm m) : (newN l b).Perm (dfB l m) := (h.filter _).map _
theorem newN_le {l b : List Pr} {i : Nat} : (newN l (b.take i)).length ≤ i := by
  unfold newN
  rw [List.length_map]
  exact Nat.le_trans (List.length_filter_le _ _) (by rw [List.length_take]; omega)
theorem todo_perm {κ ν : Type} {lb : List (κ × ν × Nat)} {seen : Array Nat} {x : κ × ν × Nat} (hn : (lb.map (·.2.2)).Nodup) (hx : x ∈ todo lb seen) : ((todo lb seen).map (·.1)).Perm (x.1 :: (todo lb (seen.push x.2.2)).map (·.1)) := by
  have hnl : lb.Nodup := List.Pairwise.of_map _ (fun a b h e => h (by rw [e])) hn
  have hn1 : (todo lb seen).Nodup := hnl.filter _
  have hmem : ∀ y, y ∈ todo lb (seen.push x.2.2) ↔ y ∈ todo lb seen ∧ y.2.2 ≠ x.2.2 := by
    intro y
    unfold todo
    simp only [List.mem_filter, Array.contains_push, Bool.not_or, Bool.and_eq_true, Bool.not_eq_true', beq_eq_false_iff_ne, ne_eq, Bool.not_eq_eq_eq_not, Bool.not_true]
    constructor
    · rintro ⟨h1, h2, h3⟩
      first | exact ⟨⟨h1, h2⟩, h3⟩ | exact ⟨⟨h1, h3⟩, h2⟩ | exact ⟨⟨h1, h2⟩, fun e => h3 e.symm⟩ | exact ⟨⟨h1, h3⟩, fun e => h2 e.symm⟩
    · rintro ⟨⟨h1, h2⟩, h3⟩
      first | exact ⟨h1, h2, h3⟩ | exact ⟨h1, h3, h2⟩ | exact ⟨h1, h2, fun e => h3 e.symm⟩ | exact ⟨h1, fun e => h3 e.symm, h2⟩
  have hp : (todo lb seen).Perm (x :: todo lb (seen.push x.2.2)) := by
    refine (List.perm_ext_iff_of_nodup hn1 (List.nodup_cons.2 ⟨fun h => ((hmem x).1 h).2 rfl, hnl.filter _⟩)).2 fun y => ?_
    rw [List.mem_cons, hmem]
    constructor
    · intro hy
      by_cases e : y.2.2 = x.2.2
      · exact .inl (inj_of_nodup hn (mem_todo hy) (mem_todo hx) e)
      · exact .inr ⟨hy, e⟩
    · rintro (rfl | ⟨h, _⟩)
      · exact hx
      · exact h
  exact hp.map _
end Go.Sig
