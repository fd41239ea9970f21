/- Plain facts: the program's cache and the document's tell the same. Conditions: each theorem's own. -/
import Derived.Test.YthegggfpofdcdaaRe
import Derived.Test.YthegggfpofdcdaaWi
namespace Go.Proofs.Ythegggfpofdcdaa
open Go.RowKit Go.Sig

def core (a : Ans) : Ans := { a with sa := none, sl := 0, sc := 0 }
def rowLk (p : Int × Lk) : Rw := ⟨p.1, p.2.token, p.2.family, p.2.start, Ans.zero, []⟩
def pr (x : Rw) : ByteArray × ByteArray × Int × Ans × List ByteArray := (x.tok, x.fam, x.start, core x.a, x.str)
def pk (p : ByteArray × Kp) : ByteArray × ByteArray × Int × Ans × List ByteArray := (p.1, p.2.family, p.2.start, core p.2.a, p.2.str)

structure Rel (c : CacheM) (R : RefM) : Prop where
  l0 : 0 ≤ c.last
  last : R.last = c.last
  short : R.short = c.short
  room : R.room = c.room
  way : R.way = c.way.map rowLk
  wn : (c.way.map (·.1)).Nodup
  wl : ∀ p ∈ c.way, 1 ≤ p.1 ∧ p.1 ≤ c.last
  all : (R.all.map pr).Perm (c.all.map pk)
  an : (c.all.map (·.1)).Nodup

theorem aset_new {κ ν : Type} [DecidableEq κ] {k : κ} {v : ν} : ∀ {l : List (κ × ν)}, k ∉ l.map (·.1) → aset k v l = l ++ [(k, v)]
  | [], _ => rfl
  | (a, x) :: l, h => by
    simp only [List.map_cons, List.mem_cons, not_or] at h
    unfold aset
    rw [if_neg (Ne.symm h.1), aset_new h.2]
    rfl
theorem aset_perm {κ ν : Type} [DecidableEq κ] {k : κ} {v : ν} : ∀ (l : List (κ × ν)), (aset k v l).Perm (adel k l ++ [(k, v)])
  | [] => List.Perm.refl _
  | (a, x) :: l => by
    unfold aset adel
    by_cases h : a = k
    · rw [if_pos h, if_pos h]
      exact (List.perm_append_singleton _ _).symm
    · rw [if_neg h, if_neg h]
      exact (aset_perm l).cons _

section
variable {c : CacheM} {R : RefM}
theorem Rel.ask (h : Rel c R) (tok fam : ByteArray) (now : Int) : Rel (c.ask tok fam now) { R with way := R.way ++ [⟨R.last + 1, tok, fam, now, Ans.zero, []⟩], last := R.last + 1 } := by
  have hk : c.last + 1 ∉ c.way.map (·.1) := fun hh => by
    obtain ⟨p, hp, e⟩ := List.mem_map.1 hh
    have := (h.wl p hp).2
    omega
  have h00 := h.l0
  refine ⟨by show 0 ≤ c.last + 1; omega, by simp [CacheM.ask, h.last], h.short, h.room, ?_, nodup_aset h.wn, fun p hp => ?_, h.all, h.an⟩
  · show R.way ++ [_] = (aset _ _ _).map rowLk
    rw [aset_new hk, h.way, List.map_append, h.last]
    rfl
  · rcases mem_aset hp with rfl | hp
    · exact ⟨by show 1 ≤ c.last + 1; omega, by show c.last + 1 ≤ c.last + 1; omega⟩
    · have := h.wl p hp
      refine ⟨this.1, ?_⟩
      show p.1 ≤ c.last + 1
      omega
theorem way_filter (h : Rel c R) (n : Int) : R.way.filter (fun x => !decide (x.n = n)) = (adel n c.way).map rowLk := by
  rw [h.way, adel_eq_filter h.wn, List.filter_map]
  rfl
theorem Rel.drop (h : Rel c R) (n : Int) : Rel (c.drop n) (R.drop n) :=
  ⟨h.l0, h.last, h.short, h.room, way_filter h n, nodup_adel h.wn, fun p hp => h.wl p (mem_adel hp), h.all, h.an⟩
theorem perm_filter {l : List Rw} {m : List (ByteArray × Kp)} (h : (l.map pr).Perm (m.map pk)) (f : Rw → Bool) (g : ByteArray × Kp → Bool) (q : ByteArray × ByteArray × Int × Ans × List ByteArray → Bool) (hf : ∀ x, f x = q (pr x)) (hg : ∀ p, g p = q (pk p)) :
    ((l.filter f).map pr).Perm ((m.filter g).map pk) := by
  have h1 : (l.filter f).map pr = (l.map pr).filter q := by
    rw [List.filter_map]
    congr 1
    apply List.filter_congr
    intro x _
    exact hf x
  have h2 : (m.filter g).map pk = (m.map pk).filter q := by
    rw [List.filter_map]
    congr 1
    apply List.filter_congr
    intro x _
    exact hg x
  rw [h1, h2]
  exact h.filter _
theorem Rel.void (h : Rel c R) (f : ByteArray) : Rel (c.void f) (R.void f) := by
  refine ⟨h.l0, h.last, h.short, h.room, ?_, ((List.filter_sublist (l := c.way)).map _).nodup h.wn, fun p hp => h.wl p (List.mem_filter.1 hp).1, ?_, ((List.filter_sublist (l := c.all)).map _).nodup h.an⟩
  · show R.way.filter _ = (c.way.filter _).map rowLk
    rw [h.way, List.filter_map]
    rfl
  · exact perm_filter h.all _ _ (fun x => !decide (x.2.1 = f)) (fun _ => rfl) (fun _ => rfl)
theorem lose_perm (h : Rel c R) (t : ByteArray) : ((R.all.filter fun x => !decide (x.tok = t)).map pr).Perm ((adel t c.all).map pk) := by
  rw [adel_eq_filter h.an]
  exact perm_filter h.all _ _ (fun x => !decide (x.1 = t)) (fun _ => rfl) (fun _ => rfl)
theorem Rel.lose (h : Rel c R) (t : ByteArray) : Rel { c with all := adel t c.all } (R.lose t) :=
  ⟨h.l0, h.last, h.short, h.room, h.way, h.wn, h.wl, lose_perm h t, nodup_adel h.an⟩
theorem Rel.mem (h : Rel c R) {x : Rw} (hx : x ∈ R.all) : ∃ kp, aget x.tok c.all = some kp ∧ kp.family = x.fam ∧ kp.start = x.start ∧ core kp.a = core x.a ∧ kp.str = x.str := by
  have h1 : pr x ∈ c.all.map pk := h.all.subset (List.mem_map.2 ⟨x, hx, rfl⟩)
  obtain ⟨p, hp, e⟩ := List.mem_map.1 h1
  simp only [pk, pr, Prod.mk.injEq] at e
  obtain ⟨e1, e2, e3, e4, e5⟩ := e
  refine ⟨p.2, ?_, e2, e3, e4, e5⟩
  rw [← e1]
  exact aget_of_mem h.an hp
theorem Rel.mem' (h : Rel c R) {t : ByteArray} {kp : Kp} (hx : aget t c.all = some kp) : ∃ x ∈ R.all, x.tok = t ∧ x.start = kp.start := by
  have h1 : pk (t, kp) ∈ R.all.map pr := h.all.symm.subset (List.mem_map.2 ⟨_, mem_of_aget hx, rfl⟩)
  obtain ⟨x, hp, e⟩ := List.mem_map.1 h1
  simp only [pk, pr, Prod.mk.injEq] at e
  exact ⟨x, hp, e.1, e.2.2.1⟩
theorem find_some (h : Rel c R) {t : ByteArray} {now : Int} {x : Rw} (hx : R.find t now = some x) : ∃ kp, aget t c.all = some kp ∧ liveB kp.start now c.short = true ∧ core kp.a = core x.a ∧ kp.str = x.str ∧ x ∈ R.all := by
  have h1 := List.find?_some hx
  have h2 := List.mem_of_find?_eq_some hx
  simp only [Bool.and_eq_true, decide_eq_true_eq] at h1
  obtain ⟨kp, g1, g2, g3, g4, g5⟩ := h.mem h2
  rw [h1.1] at g1
  exact ⟨kp, g1, by rw [g3, ← h.short]; exact h1.2, g4, g5, h2⟩
theorem find_none (h : Rel c R) {t : ByteArray} {now : Int} (hx : R.find t now = none) {kp : Kp} (hk : aget t c.all = some kp) : liveB kp.start now c.short = false := by
  obtain ⟨x, h1, h2, h3⟩ := h.mem' hk
  have := List.find?_eq_none.1 hx x h1
  simp only [h2, decide_true, Bool.true_and, h3] at this
  rw [← h.short]
  simpa using this
theorem fold_none (n : Int) : ∀ (l : List (Int × Lk)) (acc : Rw), n ∉ l.map (·.1) → (l.map rowLk).foldl (fun acc x => if x.n = n then x else acc) acc = acc
  | [], _, _ => rfl
  | p :: l, acc, h => by
    simp only [List.map_cons, List.mem_cons, not_or] at h
    simp only [List.map_cons, List.foldl_cons]
    rw [if_neg (show ¬ (rowLk p).n = n from fun e => h.1 e.symm)]
    exact fold_none n l acc h.2
theorem fold_some (n : Int) (x : Lk) : ∀ (l : List (Int × Lk)) (acc : Rw), (l.map (·.1)).Nodup → aget n l = some x → (l.map rowLk).foldl (fun acc x => if x.n = n then x else acc) acc = rowLk (n, x)
  | [], _, _, h => by cases h
  | (a, y) :: l, acc, hn, h => by
    simp only [List.map_cons, List.nodup_cons] at hn
    unfold aget at h
    simp only [List.map_cons, List.foldl_cons]
    by_cases ha : a = n
    · rw [if_pos ha] at h
      cases h
      subst ha
      rw [if_pos (show (rowLk (a, x)).n = a from rfl)]
      exact fold_none a l _ hn.1
    · rw [if_neg ha] at h
      rw [if_neg (show ¬ (rowLk (a, y)).n = n from ha)]
      exact fold_some n x l acc hn.2 h
theorem last_none (h : Rel c R) {n : Int} (hn : aget n c.way = none) : (lastN n R.way).n = 0 := by
  unfold lastN
  rw [h.way, fold_none n _ _ (aget_none_iff.1 hn)]
  rfl
theorem last_some (h : Rel c R) {n : Int} {x : Lk} (hn : aget n c.way = some x) : lastN n R.way = rowLk (n, x) ∧ (lastN n R.way).n ≠ 0 := by
  have : lastN n R.way = rowLk (n, x) := by
    unfold lastN
    rw [h.way]
    exact fold_some n x _ _ h.wn hn
  rw [this]
  refine ⟨rfl, ?_⟩
  have := (h.wl _ (mem_of_aget hn)).1
  show n ≠ 0
  simp only at this
  omega
theorem Rel.keep (h : Rel c R) (n : Int) (x : Lk) (a : Ans) (l : List ByteArray) (A' A7 : Option Addr) (k' k7 : Nat) (ha : a.active = true) (hx : lastN n R.way = rowLk (n, x)) :
    Rel { c.drop n with all := c.keep n x (a.re A' k') l } (R.keep n (kept (lastN n R.way) a A7 k7 l)) := by
  have hd := h.drop n
  refine ⟨h.l0, h.last, h.short, h.room, hd.way, hd.wn, hd.wl, ?_, nodup_aset hd.an⟩
  rw [hx]
  show ((((R.drop n).all.filter fun y => !decide (y.tok = x.token)) ++ [kept (rowLk (n, x)) a A7 k7 l]).map pr).Perm ((aset x.token ⟨x.family, x.start, a.re A' k', l⟩ (c.drop n).all).map pk)
  refine List.Perm.trans ?_ ((aset_perm _).map pk).symm
  rw [List.map_append, List.map_append]
  refine (lose_perm hd x.token).append ?_
  have : pr (kept (rowLk (n, x)) a A7 k7 l) = pk (x.token, ⟨x.family, x.start, a.re A' k', l⟩) := by
    simp [pr, pk, kept, rowLk, core, ha]
  simp only [List.map_cons, List.map_nil, this]
  exact List.Perm.refl _
theorem oldest_least (h : Rel c R) {t t' : ByteArray} {k : Nat} (ho : Oldest t c.all) (hl : LeastAt R.all k t') : t = t' := by
  obtain ⟨hk, e, hmin⟩ := hl
  obtain ⟨f, hf, hall⟩ := ho
  have hmk : R.all[k] ∈ R.all := List.getElem_mem hk
  have hky : ky R.all k = (R.all[k].tok, R.all[k].start) := by simp [ky, List.getD, hk]
  obtain ⟨kp, g1, _, g3, _, _⟩ := h.mem hmk
  rw [hky] at e
  simp only at e
  rcases hall _ (mem_of_aget g1) with h1 | h1
  · rw [e]; exact h1.symm
  · exfalso
    obtain ⟨y, hy, e1, e2⟩ := h.mem' hf
    obtain ⟨j, hj, hyj⟩ := List.mem_iff_getElem.1 hy
    have h2 := hmin j hj
    have hkj : ky R.all j = (t, f.start) := by simp [ky, List.getD, hj, hyj, e1, e2]
    rw [hkj, hky] at h2
    simp only [g3] at h1
    rw [h2] at h1
    cases h1
end
end Go.Proofs.Ythegggfpofdcdaa
