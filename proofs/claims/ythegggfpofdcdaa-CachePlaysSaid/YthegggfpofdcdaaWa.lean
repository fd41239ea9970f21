/- Walks: the clock's tests, Ask, Count, Open, Drop, New: each returns what the model says. Conditions: each theorem's own. -/
import Derived.Test.YthegggfpofdcdaaCm
namespace Go.Proofs.Ythegggfpofdcdaa
open Go.RowKit Go.Sig

theorem behind_t (s n k : Int) (w : World) (hs : I64 s) (hn : I64 n) (hk : I64 k) (h : s ≤ n) :
   Calls Try.prog 33 #[.int .i64 s, .int .i64 n, .int .i64 k] w fun e w' => e = .returned (.bool (behindB s n k)) ∧ w = w' := by
  obtain ⟨hs, hs'⟩ := hs
  obtain ⟨hn, hn'⟩ := hn
  obtain ⟨hk, hk'⟩ := hk
  by_cases hk0 : k ≤ 0
  · go_enter Try.func33, Try.ntmps33
    go_wp2
    go_ret
    exact ⟨ret_bool (by simp [behindB, hk0]), rfl⟩
  · have hk1 : 0 < k := by omega
    go_enter Try.func33, Try.ntmps33
    go_wp2
    go_ret
    exact ⟨ret_bool (by unfold behindB; rw [decide_eq_decide]; simp only [IntKind.wrap_u64]; omega), rfl⟩

theorem live_t (s n k : Int) (w : World) (hs : I64 s) (hn : I64 n) (hk : I64 k) :
   Calls Try.prog 24 #[.int .i64 s, .int .i64 n, .int .i64 k] w fun e w' => e = .returned (.bool (liveB s n k)) ∧ w = w' := by
  by_cases h : s ≤ n
  · have hb := fun w => behind_t s n k w hs hn hk h
    go_enter Try.func24, Try.ntmps24
    go_wp2_with (go_at_call 33; refine (hb _).mono ?_; rintro e w' ⟨rfl, rfl⟩)
    go_ret
    exact ⟨ret_bool (by unfold liveB behindB; simp [h]; by_cases h1 : k ≤ 0 <;> by_cases h2 : k ≤ n - s <;> simp [h1, h2] <;> omega), rfl⟩
  · have h' : n < s := by omega
    go_enter Try.func24, Try.ntmps24
    go_wp2_with fail
    go_ret
    exact ⟨ret_bool (by unfold liveB; simp; omega), rfl⟩

theorem apart_t (a b : Int) (w : World) (ha : I64 a) (hb : I64 b) (h : b ≤ a) :
   Calls Try.prog 34 #[.int .i64 a, .int .i64 b] w fun e w' => e = .returned (.int .u64 (a - b)) ∧ w = w' := by
  obtain ⟨hs, hs'⟩ := ha
  obtain ⟨hn, hn'⟩ := hb
  go_enter Try.func34, Try.ntmps34
  go_wp2
  go_ret
  exact ⟨ret_u64 (by simp only [IntKind.wrap_u64]; omega), rfl⟩

theorem rlive_t (s n k : Int) (w : World) (hs : I64 s) (hn : I64 n) (hk : I64 k) :
   Calls Try.prog 27 #[.int .i64 s, .int .i64 n, .int .i64 k] w fun e w' => e = .returned (.bool (liveB s n k)) ∧ w = w' := by
  by_cases h : s ≤ n
  · by_cases hk0 : 0 < k
    · have hb := fun w => apart_t n s w hn hs h
      obtain ⟨hk1, hk2⟩ := hk
      go_enter Try.func27, Try.ntmps27
      go_wp2_with (go_at_call 34; refine (hb _).mono ?_; rintro e w' ⟨rfl, rfl⟩)
      go_ret
      exact ⟨ret_bool (by unfold liveB; simp [h, hk0]), rfl⟩
    · have hk1 : k ≤ 0 := by omega
      go_enter Try.func27, Try.ntmps27
      go_wp2_with fail
      go_ret
      exact ⟨ret_bool (by unfold liveB; simp; omega), rfl⟩
  · have h' : n < s := by omega
    go_enter Try.func27, Try.ntmps27
    go_wp2_with fail
    go_ret
    exact ⟨ret_bool (by unfold liveB; simp; omega), rfl⟩

section
variable {b m1 m2 : Nat} {c : CacheM} {w : World}

theorem ask_t (tok fam : ByteArray) (now : Int) (h : CacheAt w b m1 m2 c) (hl : c.last < 4000000000) (hn : I64 now) :
   Calls Try.prog 12 #[.pointer (some ⟨b, 0, none⟩), .string tok, .string fam, .int .i64 now] w fun e w' => e = .returned (.int .i64 (c.last + 1)) ∧ CacheAt w' b m1 m2 (c.ask tok fam now) ∧ Fr [b, m1, m2] w w' := by
  have hc := h.cells
  have hl0 := h.r3.1
  go_enter Try.func12, Try.ntmps12
  go_wp2
  refine wp_tail_gen 13 (fun w1 => CacheAt w1 b m1 m2 { c with last := c.last + 1 } ∧ Fr [b, m1, m2] w w1) ⟨(h.setLast _ (by omega)).drew, ((Fr.refl _ _).setCell (by simp) _).drew⟩ (by kernel_rfl) (by kernel_rfl) ?_
  have h4 := h.r4
  clear hc h
  rintro w1 ⟨h1, f1⟩
  have hc := h1.cells
  simp only [List.take_succ_cons, List.take_zero, List.drop_succ_cons, List.drop_zero]
  repeat still_step
  refine wpStill_nil ?_
  refine wpList_map_set h1.way k3 u55 (c.last + 1) ⟨fam, now, tok⟩ rfl rfl rfl rfl rfl ?_
  intro w2 hm ht
  have h2 := h1.turnWay hm ht (by
    intro p hp
    rcases mem_aset hp with rfl | hp
    · exact hn
    · exact h4 p hp)
  have f2 := f1.andThen ht.fr (by simp)
  clear h1 f1 hm ht hc
  have hc := h2.cells
  go_wp2
  go_ret
  exact ⟨rfl, h2, f2⟩

theorem count_t (h : CacheAt w b m1 m2 c) :
   Calls Try.prog 11 #[.pointer (some ⟨b, 0, none⟩)] w fun e w' => e = .returned (.int .i64 c.all.length) ∧ w = w' := by
  have hc := h.cells
  have hl := fun ty => h.all.run_len (ty := ty) u56
  go_enter Try.func11, Try.ntmps11
  go_wp2
  go_ret
  exact ⟨rfl, rfl⟩

theorem open_t (h : CacheAt w b m1 m2 c) :
   Calls Try.prog 23 #[.pointer (some ⟨b, 0, none⟩)] w fun e w' => e = .returned (.int .i64 c.way.length) ∧ w = w' := by
  have hc := h.cells
  have hl := fun ty => h.way.run_len (ty := ty) u55
  go_enter Try.func23, Try.ntmps23
  go_wp2
  go_ret
  exact ⟨rfl, rfl⟩

theorem drop_t (n : Int) (h : CacheAt w b m1 m2 c) :
   Calls Try.prog 16 #[.pointer (some ⟨b, 0, none⟩), .int .i64 n] w fun e w' => e = .returned (.tuple #[]) ∧ CacheAt w' b m1 m2 (c.drop n) ∧ Fr [b, m1, m2] w w' := by
  have hc := h.cells
  go_enter Try.func16, Try.ntmps16
  go_wp2_with (refine wpList_map_del h.way k3 u55 n rfl rfl rfl rfl ?_; intro w2 hm ht)
  have h2 := h.turnWay hm ht (fun p hp => h.r4 p (mem_adel hp))
  have f2 := ht.fr.mono (S' := [b, m1, m2]) (by simp)
  go_end0
  exact ⟨rfl, h2, f2⟩

theorem new_good (s r : Int) (w : World) (hs : 0 ≤ s) (hs' : s ≤ 1099511627776) (hr : 1 ≤ r) (hr' : r ≤ 64) :
   Calls Try.prog 7 #[.int .i64 s, .int .i64 r] w fun e w' => ∃ b m1 m2, e = .returned (.tuple #[.pointer (some ⟨b, 0, none⟩), .int .i64 0]) ∧ CacheAt w' b m1 m2 ⟨s, r, 0, [], []⟩ ∧ Fr [] w w' ∧ w.heap.size ≤ b ∧ w.heap.size ≤ m1 ∧ w.heap.size ≤ m2 := by
  have hmm := @run_makeMap Try.prog
  go_enter Try.func7, Try.ntmps7
  go_wp2
  go_ret2
  refine ⟨w.heap.size + 1 + 1, w.heap.size, w.heap.size + 1, rfl, ⟨Blk.new' _ _ (by simp), ((IsMap.new w _ _).alloc _).alloc _, (IsMap.new' _ _ (by simp)).alloc _, by omega, by omega, by omega, by simp, ⟨hs, hs'⟩, ⟨hr, hr'⟩, by simp, by simp, by simp, by simp⟩, (((Fr.refl _ _).alloc _).alloc _).alloc _, by omega, by omega, by omega⟩
theorem new_bad (s r : Int) (w : World) (h : ¬ (0 ≤ s ∧ s ≤ 1099511627776 ∧ 1 ≤ r ∧ r ≤ 64)) :
   Calls Try.prog 7 #[.int .i64 s, .int .i64 r] w fun e w' => e = .returned (.tuple #[.pointer none, .int .i64 1]) ∧ w = w' := by
  by_cases h1 : s < 0
  · go_enter Try.func7, Try.ntmps7
    go_wp2
    go_ret2
    exact ⟨rfl, rfl⟩
  · by_cases h2 : 1099511627776 < s
    · have h1 : 0 ≤ s := by omega
      go_enter Try.func7, Try.ntmps7
      go_wp2
      go_ret2
      exact ⟨rfl, rfl⟩
    · by_cases h3 : r < 1
      · have h1 : 0 ≤ s := by omega
        have h2 : s ≤ 1099511627776 := by omega
        go_enter Try.func7, Try.ntmps7
        go_wp2
        go_ret2
        exact ⟨rfl, rfl⟩
      · have h1 : 0 ≤ s := by omega
        have h2 : s ≤ 1099511627776 := by omega
        have h4 : 64 < r := by omega
        have h3 : 1 ≤ r := by omega
        go_enter Try.func7, Try.ntmps7
        go_wp2
        go_ret2
        exact ⟨rfl, rfl⟩
end
end Go.Proofs.Ythegggfpofdcdaa
