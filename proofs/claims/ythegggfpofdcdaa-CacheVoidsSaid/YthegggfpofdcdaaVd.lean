/- Void is void: the plain law over the record. Conditions: none. -/
import Derived.Test.YthegggfpofdcdaaWi
namespace Go.Proofs.Ythegggfpofdcdaa
open Go.RowKit Go.Sig

theorem doM_mem {w : World} {c c' : CacheM} {s : StepM} {told act : Bool} (h : DoM w c s told act c') : ∀ p ∈ c'.all, p ∈ c.all ∨ ∀ ad, p.2.a.sa = some ad → w.heap.size ≤ ad.block := by
  rcases h with ⟨_, _, _, rfl⟩ | ⟨_, h, _⟩ | ⟨_, _, _, rfl⟩ | ⟨_, rfl, _⟩ | ⟨_, _, _, rfl⟩ | ⟨_, _, _, rfl⟩
  · exact fun p hp => .inl hp
  · exact fillM_mem h
  · exact fun p hp => .inl hp
  · exact fun p hp => .inl hp
  · exact fun p hp => .inl (List.mem_filter.1 hp).1
  · exact fun p hp => .inl hp

structure VoidI (asked : List ByteArray) (tf : List (ByteArray × ByteArray)) (c : CacheM) : Prop where
  last : c.last = asked.length
  way : ∀ p ∈ c.way, ∃ k : Nat, k < asked.length ∧ p.1 = (k : Int) + 1 ∧ asked.getD k default = p.2.family ∧ aget p.2.token tf = some p.2.family
  all : ∀ p ∈ c.all, aget p.1 tf = some p.2.family
  len : c.way.length ≤ asked.length
structure NoF (fam : ByteArray) (c : CacheM) : Prop where
  way : ∀ p ∈ c.way, p.2.family ≠ fam
  all : ∀ p ∈ c.all, p.2.family ≠ fam

theorem VoidI.sub {asked : List ByteArray} {tf : List (ByteArray × ByteArray)} {c c' : CacheM} (h : VoidI asked tf c) (h1 : c'.last = c.last) (h2 : ∀ p ∈ c'.way, p ∈ c.way) (h3 : ∀ p ∈ c'.all, p ∈ c.all) (h4 : c'.way.length ≤ c.way.length) : VoidI asked tf c' :=
  ⟨h1.trans h.last, fun p hp => h.way p (h2 p hp), fun p hp => h.all p (h3 p hp), Nat.le_trans h4 h.len⟩
theorem NoF.sub {fam : ByteArray} {c c' : CacheM} (h : NoF fam c) (h2 : ∀ p ∈ c'.way, p ∈ c.way) (h3 : ∀ p ∈ c'.all, p ∈ c.all) : NoF fam c' := ⟨fun p hp => h.way p (h2 p hp), fun p hp => h.all p (h3 p hp)⟩
theorem voidI_void {asked : List ByteArray} {tf : List (ByteArray × ByteArray)} {c : CacheM} (fam : ByteArray) (h : VoidI asked tf c) : VoidI asked tf (c.void fam) :=
  h.sub rfl (fun _ hp => (List.mem_filter.1 hp).1) (fun _ hp => (List.mem_filter.1 hp).1) (List.length_filter_le _ _)
theorem noF_void (fam : ByteArray) (c : CacheM) : NoF fam (c.void fam) :=
  ⟨fun p hp => by have := (List.mem_filter.1 hp).2; simpa using this, fun p hp => by have := (List.mem_filter.1 hp).2; simpa using this⟩

theorem getD_snoc_lt {l : List ByteArray} {x : ByteArray} {k : Nat} (h : k < l.length) : (l ++ [x]).getD k default = l.getD k default := by simp [List.getD, List.getElem?_append_left h]
theorem getD_snoc_eq {l : List ByteArray} {x : ByteArray} : (l ++ [x]).getD l.length default = x := by simp [List.getD]

theorem keep_len {c : CacheM} {n : Int} : (c.drop n).way.length ≤ c.way.length := length_adel_le

/-- A call that is no Ask. -/
theorem VoidI.other {w : World} {asked : List ByteArray} {tf : List (ByteArray × ByteArray)} {c c' : CacheM} {s : StepM} {told act : Bool} (h : VoidI asked tf c) (hd : DoM w c s told act c') (h0 : s.kind ≠ 0) : VoidI asked tf c' := by
  rcases hd with ⟨hk, _⟩ | ⟨hk, hf, _⟩ | ⟨hk, _, _, rfl⟩ | ⟨hk, rfl, _⟩ | ⟨hk, _, _, rfl⟩ | ⟨hk, _, _, rfl⟩
  · exact absurd hk h0
  · rcases hf with ⟨_, _, rfl⟩ | ⟨x, hx, ⟨_, _, rfl⟩ | ⟨_, _, _, rfl⟩ | ⟨_, _, _, A', k, _, hc⟩⟩
    · exact h.sub rfl (fun p hp => mem_adel hp) (fun p hp => hp) length_adel_le
    · exact h.sub rfl (fun p hp => mem_adel hp) (fun p hp => mem_adel hp) length_adel_le
    · exact h.sub rfl (fun p hp => mem_adel hp) (fun p hp => hp) length_adel_le
    · have hkeep : ∀ p ∈ c.keep s.n x (s.a.re A' k) s.sc, aget p.1 tf = some p.2.family := by
        intro p hp
        rcases mem_aset hp with rfl | hp
        · obtain ⟨_, _, _, _, h4⟩ := h.way _ (mem_of_aget hx)
          exact h4
        · exact h.all p hp
      rcases hc with ⟨_, rfl⟩ | ⟨_, t, _, rfl⟩
      · exact ⟨h.last, fun p hp => h.way p (mem_adel hp), hkeep, Nat.le_trans keep_len h.len⟩
      · exact ⟨h.last, fun p hp => h.way p (mem_adel hp), fun p hp => hkeep p (mem_adel hp), Nat.le_trans keep_len h.len⟩
  · exact h.sub rfl (fun p hp => mem_adel hp) (fun p hp => hp) length_adel_le
  · exact h
  · exact voidI_void _ h
  · exact h

theorem VoidI.ask {w : World} {asked : List ByteArray} {tf : List (ByteArray × ByteArray)} {c c' : CacheM} {s : StepM} {told act : Bool} (h : VoidI asked tf c) (hd : DoM w c s told act c') (h0 : s.kind = 0)
    (hg : aget s.token tf = none ∨ aget s.token tf = some s.family) : VoidI (asked ++ [s.family]) (aset s.token s.family tf) c' := by
  have hof : ∀ t f, aget t tf = some f → aget t (aset s.token s.family tf) = some f := by
    intro t f ht
    by_cases e : t = s.token
    · subst e
      rw [aget_aset_same]
      rcases hg with hg | hg
      · rw [hg] at ht; cases ht
      · rw [hg] at ht; exact ht
    · rw [aget_aset_other e]; exact ht
  rcases hd with ⟨hk, rfl, rfl, rfl⟩ | ⟨hk, _⟩ | ⟨hk, _⟩ | ⟨hk, _⟩ | ⟨hk, _⟩ | ⟨hk, _⟩
  · refine ⟨?_, fun p hp => ?_, fun p hp => hof _ _ (h.all p hp), ?_⟩
    · show c.last + 1 = _
      rw [h.last]; simp
    · rcases mem_aset hp with rfl | hp
      · exact ⟨asked.length, by simp, by show c.last + 1 = _; rw [h.last], getD_snoc_eq, aget_aset_same⟩
      · obtain ⟨k, h1, h2, h3, h4⟩ := h.way p hp
        exact ⟨k, by simp; omega, h2, by rw [getD_snoc_lt h1]; exact h3, hof _ _ h4⟩
    · show (aset _ _ c.way).length ≤ _
      rw [length_aset, List.length_append, List.length_singleton]
      have := h.len
      split <;> omega
  · omega
  · omega
  · omega
  · omega
  · omega

theorem NoF.step {w : World} {fam : ByteArray} {asked : List ByteArray} {tf : List (ByteArray × ByteArray)} {c c' : CacheM} {s : StepM} {told act : Bool} (h : NoF fam c) (hI : VoidI asked tf c) (hd : DoM w c s told act c') (h0 : s.kind ≠ 0) :
    NoF fam c' ∧ (told = true → (s.kind = 1 ∧ ∃ k : Nat, k < asked.length ∧ s.n = (k : Int) + 1 ∧ asked.getD k default ≠ fam) ∨ (s.kind = 3 ∧ ∃ f, aget s.token tf = some f ∧ f ≠ fam)) := by
  rcases hd with ⟨hk, _⟩ | ⟨hk, hf, _⟩ | ⟨hk, rfl, _, rfl⟩ | ⟨hk, rfl, hg⟩ | ⟨hk, rfl, _, rfl⟩ | ⟨hk, rfl, _, rfl⟩
  · exact absurd hk h0
  · have hidx : ∀ x, aget s.n c.way = some x → ∃ k : Nat, k < asked.length ∧ s.n = (k : Int) + 1 ∧ asked.getD k default ≠ fam := by
      intro x hx
      obtain ⟨k, h1, h2, h3, _⟩ := hI.way _ (mem_of_aget hx)
      exact ⟨k, h1, h2, by rw [h3]; exact h.way _ (mem_of_aget hx)⟩
    rcases hf with ⟨_, rfl, rfl⟩ | ⟨x, hx, ⟨_, _, rfl⟩ | ⟨_, _, rfl, rfl⟩ | ⟨_, _, _, A', k, _, hc⟩⟩
    · exact ⟨h.sub (fun p hp => mem_adel hp) (fun p hp => hp), fun h => by cases h⟩
    · exact ⟨h.sub (fun p hp => mem_adel hp) (fun p hp => mem_adel hp), fun _ => .inl ⟨hk, hidx x hx⟩⟩
    · exact ⟨h.sub (fun p hp => mem_adel hp) (fun p hp => hp), fun h => by cases h⟩
    · have hkeep : ∀ p ∈ c.keep s.n x (s.a.re A' k) s.sc, p.2.family ≠ fam := by
        intro p hp
        rcases mem_aset hp with rfl | hp
        · exact h.way _ (mem_of_aget hx)
        · exact h.all p hp
      rcases hc with ⟨_, rfl⟩ | ⟨_, t, _, rfl⟩
      · exact ⟨⟨fun p hp => h.way p (mem_adel hp), hkeep⟩, fun _ => .inl ⟨hk, hidx x hx⟩⟩
      · exact ⟨⟨fun p hp => h.way p (mem_adel hp), fun p hp => hkeep p (mem_adel hp)⟩, fun _ => .inl ⟨hk, hidx x hx⟩⟩
  · exact ⟨h.sub (fun p hp => mem_adel hp) (fun p hp => hp), fun h => by cases h⟩
  · refine ⟨h, fun ht => .inr ⟨hk, ?_⟩⟩
    rcases hg with ⟨_, k, hg, _⟩ | ⟨h1, _⟩
    · exact ⟨k.family, hI.all _ (mem_of_aget hg), h.all _ (mem_of_aget hg)⟩
    · rw [h1] at ht; cases ht
  · exact ⟨h.sub (fun p hp => (List.mem_filter.1 hp).1) (fun p hp => (List.mem_filter.1 hp).1), fun h => by cases h⟩
  · exact ⟨h, fun h => by cases h⟩
end Go.Proofs.Ythegggfpofdcdaa
