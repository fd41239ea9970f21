/- What is told as active was asked for a short time ago: the plain law over the record. Conditions: none. -/
import Derived.Test.YthegggfpofdcdaaWi
namespace Go.Proofs.Ythegggfpofdcdaa
open Go.RowKit Go.Sig

/-- What is known of the cache behind the asks so far. -/
structure LiveI (asked : List StepM) (c : CacheM) : Prop where
  last : c.last = asked.length
  way : ∀ p ∈ c.way, ∃ k : Nat, k < asked.length ∧ p.1 = (k : Int) + 1 ∧ (asked.getD k default).token = p.2.token ∧ (asked.getD k default).now = p.2.start
  all : ∀ p ∈ c.all, ∃ k : Nat, k < asked.length ∧ (asked.getD k default).token = p.1 ∧ (asked.getD k default).now = p.2.start
  room : (c.all.length : Int) ≤ c.room

def freshB (short : Int) (s x : StepM) (k : Nat) : Bool :=
  ((decide (s.kind = 1) && decide ((k : Int) = s.n - 1)) || (decide (s.kind = 3) && decide (x.token = s.token))) && decide (x.now ≤ s.now) && decide (s.now - x.now < short)

theorem getD_app_lt {asked : List StepM} {s : StepM} {k : Nat} (h : k < asked.length) : (asked ++ [s]).getD k default = asked.getD k default := by
  simp [List.getD, List.getElem?_append_left h]
theorem getD_app_eq {asked : List StepM} {s : StepM} : (asked ++ [s]).getD asked.length default = s := by simp [List.getD]
theorem LiveI.sub {asked : List StepM} {c c' : CacheM} (h : LiveI asked c) (h1 : c'.last = c.last) (h2 : ∀ p ∈ c'.way, p ∈ c.way) (h3 : ∀ p ∈ c'.all, p ∈ c.all) (h4 : c'.all.length ≤ c.all.length) (h5 : c'.room = c.room) : LiveI asked c' :=
  ⟨h1.trans h.last, fun p hp => h.way p (h2 p hp), fun p hp => h.all p (h3 p hp), by have := h.room; omega⟩
theorem live_iff {s n k : Int} (h : liveB s n k = true) : s ≤ n ∧ n - s < k := by
  unfold liveB at h
  have := of_decide_eq_true h
  omega

theorem LiveI.keep {asked : List StepM} {c : CacheM} {n : Int} {a : Ans} {l : List ByteArray} {x : Lk} (h : LiveI asked c) (hx : aget n c.way = some x) :
    ∀ p ∈ c.keep n x a l, ∃ k : Nat, k < asked.length ∧ (asked.getD k default).token = p.1 ∧ (asked.getD k default).now = p.2.start := by
  intro p hp
  rcases mem_aset hp with rfl | hp
  · obtain ⟨k, h1, _, h3, h4⟩ := h.way _ (mem_of_aget hx)
    exact ⟨k, h1, h3, h4⟩
  · exact h.all p hp

theorem LiveI.step {w : World} {asked : List StepM} {c c' : CacheM} {s : StepM} {told act : Bool} (h : LiveI asked c) (hd : DoM w c s told act c') :
    LiveI (if s.kind = 0 then asked ++ [s] else asked) c' ∧ c'.short = c.short ∧ c'.room = c.room ∧
      (told = true → act = true → ∃ k : Nat, k < asked.length ∧ freshB c.short s (asked.getD k default) k = true) := by
  rcases hd with ⟨hk, rfl, rfl, rfl⟩ | ⟨hk, hf, ha, _⟩ | ⟨hk, rfl, rfl, rfl⟩ | ⟨hk, rfl, hg⟩ | ⟨hk, rfl, rfl, rfl⟩ | ⟨hk, rfl, rfl, rfl⟩
  · rw [if_pos hk]
    refine ⟨⟨?_, fun p hp => ?_, fun p hp => ?_, h.room⟩, rfl, rfl, fun h => by cases h⟩
    · show c.last + 1 = _
      rw [h.last]
      simp
    · rcases mem_aset hp with rfl | hp
      · exact ⟨asked.length, by simp, by show c.last + 1 = _; rw [h.last], by rw [getD_app_eq], by rw [getD_app_eq]⟩
      · obtain ⟨k, h1, h2, h3, h4⟩ := h.way p hp
        exact ⟨k, by simp; omega, h2, by rw [getD_app_lt h1]; exact h3, by rw [getD_app_lt h1]; exact h4⟩
    · obtain ⟨k, h1, h3, h4⟩ := h.all p hp
      exact ⟨k, by simp; omega, by rw [getD_app_lt h1]; exact h3, by rw [getD_app_lt h1]; exact h4⟩
  · rw [if_neg (by omega)]
    rcases hf with ⟨_, rfl, rfl⟩ | ⟨x, hx, ⟨h1, _, rfl⟩ | ⟨_, _, rfl, rfl⟩ | ⟨_, hl, _, A', k, _, hc⟩⟩
    · exact ⟨h.sub rfl (fun p hp => mem_adel hp) (fun p hp => hp) (Nat.le_refl _) rfl, rfl, rfl, fun h => by cases h⟩
    · refine ⟨h.sub rfl (fun p hp => mem_adel hp) (fun p hp => mem_adel hp) length_adel_le rfl, rfl, rfl, fun ht hact => ?_⟩
      rw [ha ht, h1] at hact
      cases hact
    · exact ⟨h.sub rfl (fun p hp => mem_adel hp) (fun p hp => hp) (Nat.le_refl _) rfl, rfl, rfl, fun h => by cases h⟩
    · have hfresh : ∃ k : Nat, k < asked.length ∧ freshB c.short s (asked.getD k default) k = true := by
        obtain ⟨k, h1, h2, _, h4⟩ := h.way _ (mem_of_aget hx)
        obtain ⟨h5, h6⟩ := live_iff hl
        simp only at h2 h4
        refine ⟨k, h1, ?_⟩
        unfold freshB
        rw [h4]
        simp only [Bool.and_eq_true, Bool.or_eq_true, decide_eq_true_eq]
        exact ⟨⟨.inl ⟨hk, by omega⟩, h5⟩, h6⟩
      rcases hc with ⟨hr, rfl⟩ | ⟨hr, t, ht, rfl⟩
      · exact ⟨⟨h.last, fun p hp => h.way p (mem_adel hp), h.keep hx, hr⟩, rfl, rfl, fun _ _ => hfresh⟩
      · refine ⟨⟨h.last, fun p hp => h.way p (mem_adel hp), fun p hp => h.keep hx p (mem_adel hp), ?_⟩, rfl, rfl, fun _ _ => hfresh⟩
        obtain ⟨f, hf, _⟩ := ht
        have h1 := length_adel_mem (List.mem_map.2 ⟨_, mem_of_aget hf, rfl⟩)
        have h2 : (c.keep s.n x (s.a.re A' k) s.sc).length ≤ c.all.length + 1 := by
          unfold CacheM.keep
          rw [length_aset]
          split <;> simp [CacheM.drop]
        have h3 := h.room
        show ((adel t _).length : Int) ≤ c.room
        simp only at h1
        omega
  · rw [if_neg (by omega)]
    exact ⟨h.sub rfl (fun p hp => mem_adel hp) (fun p hp => hp) (Nat.le_refl _) rfl, rfl, rfl, fun h => by cases h⟩
  · rw [if_neg (by omega)]
    refine ⟨h, rfl, rfl, fun ht hact => ?_⟩
    rcases hg with ⟨_, k, hg, hl, _⟩ | ⟨h1, _⟩
    · obtain ⟨j, h1, h3, h4⟩ := h.all _ (mem_of_aget hg)
      obtain ⟨h5, h6⟩ := live_iff hl
      simp only at h3 h4
      refine ⟨j, h1, ?_⟩
      unfold freshB
      rw [h4, h3]
      simp only [Bool.and_eq_true, Bool.or_eq_true, decide_eq_true_eq]
      exact ⟨⟨.inr ⟨hk, trivial⟩, h5⟩, h6⟩
    · rw [h1] at ht; cases ht
  · rw [if_neg (by omega)]
    exact ⟨h.sub rfl (fun p hp => (List.mem_filter.1 hp).1) (fun p hp => (List.mem_filter.1 hp).1) (List.length_filter_le _ _) rfl, rfl, rfl, fun h => by cases h⟩
  · rw [if_neg (by omega)]
    exact ⟨h, rfl, rfl, fun h => by cases h⟩
end Go.Proofs.Ythegggfpofdcdaa
