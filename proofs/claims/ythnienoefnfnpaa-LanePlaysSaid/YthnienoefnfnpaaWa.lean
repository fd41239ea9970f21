/- Walks: node, has, Count, New, slices.Clone at bytes, own, key: each returns what the model says. Conditions: each theorem's own. -/
import Derived.Test.YthnienoefnfnpaaLm
namespace Go.Proofs.Ythnienoefnfnpaa
open Go.RowKit Go.Sig

section
variable {w : World} {b m : Nat} {v : Value} {ps : List (Pc × Pk)} {n : Int} {shut : List ((Int × Int) × Bool)}
theorem node_t (k : Int) (h : LaneIn w b m v ps n shut) (hk : I64 k) :
   Calls Try.prog 28 #[.pointer (some ⟨b, 0, none⟩), .int .i64 k] w fun e w' => e = .returned (.bool (nodeB n k)) ∧ w = w' := by
  have hc := h.cells
  by_cases h0 : 0 ≤ k
  · have h0' : decide (0 ≤ k) = true := by simpa using h0
    go_enter Try.func28, Try.ntmps28
    go_wp2
    go_ret
    exact ⟨ret_bool (by simp [nodeB, h0]), rfl⟩
  · have h0' : decide (0 ≤ k) = false := by simpa using h0
    go_enter Try.func28, Try.ntmps28
    go_wp2
    go_ret
    exact ⟨ret_bool (by unfold nodeB; rw [h0']; rfl), rfl⟩
theorem has_t (k : Int) (h : LaneIn w b m v ps n shut) (hk : I64 k) :
   Calls Try.prog 30 #[.pointer (some ⟨b, 0, none⟩), .int .i64 k] w fun e w' => e = .returned (.int .i64 (hasE ps.length k)) ∧ w = w' := by
  have hc := h.cells
  obtain ⟨A, c, rfl, -⟩ := h.own.form
  have hr := h.r2
  by_cases h0 : k < 0
  · have he : hasE ps.length k = 6 := by simp [hasE, h0]
    rw [he]
    go_enter Try.func30, Try.ntmps30
    go_wp2
    go_ret
    exact ⟨rfl, rfl⟩
  · by_cases h1 : (ps.length : Int) ≤ k
    · have he : hasE ps.length k = 6 := by simp [hasE, h1]
      rw [he]
      go_enter Try.func30, Try.ntmps30
      go_wp2
      go_ret
      exact ⟨rfl, rfl⟩
    · have he : hasE ps.length k = 0 := by simp [hasE, h0, h1]
      rw [he]
      go_enter Try.func30, Try.ntmps30
      go_wp2
      go_ret
      exact ⟨rfl, rfl⟩
theorem count_t (h : LaneIn w b m v ps n shut) :
   Calls Try.prog 11 #[.pointer (some ⟨b, 0, none⟩)] w fun e w' => e = .returned (.int .i64 ps.length) ∧ w = w' := by
  have hc := h.cells
  obtain ⟨A, c, rfl, -⟩ := h.own.form
  go_enter Try.func11, Try.ntmps11
  go_wp2
  go_ret
  exact ⟨rfl, rfl⟩
theorem new_bad (n : Int) (w : World) (h : n < 1 ∨ 32 < n) :
   Calls Try.prog 7 #[.int .i64 n] w fun e w' => e = .returned (.tuple #[.pointer none, .int .i64 1]) ∧ w = w' := by
  by_cases h0 : n < 1
  · go_enter Try.func7, Try.ntmps7
    go_wp2
    go_ret2
    exact ⟨rfl, rfl⟩
  · have h1 : 32 < n := by omega
    go_enter Try.func7, Try.ntmps7
    go_wp2
    go_ret2
    exact ⟨rfl, rfl⟩
theorem new_good (n : Int) (w : World) (h : 1 ≤ n ∧ n ≤ 32) :
   Calls Try.prog 7 #[.int .i64 n] w fun e w' => ∃ b F, e = .returned (.tuple #[.pointer (some ⟨b, 0, none⟩), .int .i64 0]) ∧ LaneAt w' b F ⟨n, [], []⟩ ∧ Fr [] w w' ∧ (∀ g ∈ F, w.heap.size ≤ g) ∧ b ∈ F := by
  obtain ⟨h1, h2⟩ := h
  have hmm := @run_makeMap Try.prog
  go_enter Try.func7, Try.ntmps7
  go_wp2
  go_ret2
  refine ⟨_, _, rfl, ⟨w.heap.size, .slice none 0 0, [], ⟨Blk.new' _ _ ?_, Own.nil _ _ _, ?_, ?_, ?_, ⟨h1, h2⟩, ?_, ?_⟩, rfl, rfl⟩, ?_, ?_, ?_⟩
  all_goals first | (simp; done) | skip
  · exact (IsMap.new w _ _).alloc _
  · simp [footOf, rowOf, Value.ownBlock, Lb]
  · exact ((Fr.refl _ _).alloc _).alloc _
  · simp [footOf, rowOf, Value.ownBlock, Lb]
  · simp [footOf, rowOf, Value.ownBlock, Lb]
end

theorem clone_t (A : Option Addr) (n c : Nat) (l : List UInt8) (w : World) (h : Byts w A n l) (hA : A = none → n = 0) (hn : n ≤ 1048576) :
   Calls Try.prog 45 #[.slice A n c] w fun e w' => ∃ A' c', e = .returned (.slice A' n c') ∧ Own w' 5 1 (.slice A' n c') n (l.map bv) ∧ Fr [] w w' ∧ (∀ g ∈ rowOf (.slice A' n c'), w.heap.size ≤ g) := by
  rcases A with _ | ad
  · obtain rfl := hA rfl
    have hl : l = [] := List.eq_nil_of_length_eq_zero h.length
    subst hl
    have hq := fun w => Lib.run_eql_slice_nil (P := Try.prog) w 22 5 none 0 c 0 0 t22.ty
    go_enter Try.func45, Try.ntmps45
    go_wp2
    go_ret
    exact ⟨none, 0, rfl, Own.nil _ _ _, Fr.refl _ _, by simp [rowOf, Value.ownBlock]⟩
  · have hq := fun w => Lib.run_eql_slice_nil (P := Try.prog) w 22 5 (some ad) n c 0 0 t22.ty
    go_enter Try.func45, Try.ntmps45
    have hown : Own (w.alloc (.cells #[] 5)) 5 1 (.slice (some ⟨w.heap.size, 0, none⟩) 0 0) 0 [] := Own.made w #[] 5 1 0 0 (by omega) (by decide) rfl
    have hr : Rd (w.alloc (.cells #[] 5)) 1 (some ad) n (l.map bv) := h.fr ((Fr.refl [] w).alloc _) (fun _ _ _ => by simp)
    go_wp2_with (refine wpList_own_append t22 hown hr (bv_one l) (by simp) (by unfold maxLen; omega) (by omega) rfl rfl rfl rfl (fun v' w2 h1 h2 h3 => ?_))
    obtain ⟨A', c', rfl, hA⟩ := h1.form
    go_ret
    refine ⟨A', c', by simp, by simpa using h1, ?_, ?_⟩
    · exact ((Fr.refl [] w).alloc _).andThen h2 (by simp [rowOf, Value.ownBlock])
    · intro g hg
      have := h3 g (by simpa using hg)
      simp [rowOf, Value.ownBlock] at this
      omega
/-- A packet in memory of its own. -/
def OwnPost (w : World) (src dst : Int) (n : Nat) (l : List UInt8) (e : Ending) (w' : World) : Prop :=
  ∃ A' c', e = .returned (.agg (Pc.arr ⟨src, dst, A', n, c'⟩)) ∧ Own w' 5 1 (Pc.val ⟨src, dst, A', n, c'⟩) n (l.map bv) ∧ Fr [] w w' ∧ (∀ g ∈ rowOf (Pc.val ⟨src, dst, A', n, c'⟩), w.heap.size ≤ g)
theorem own_t (src dst : Int) (A : Option Addr) (n c : Nat) (l : List UInt8) (w : World) (h : Byts w A n l) (hA : A = none → n = 0) (hn : n ≤ 1048576) :
   Calls Try.prog 29 #[.agg #[.int .i64 src, .int .i64 dst, .slice A n c]] w (OwnPost w src dst n l) := by
  go_enter Try.func29, Try.ntmps29
  go_wp2_with fail
  refine calls_gen (fun W => Blk W w.heap.size 37 #[.int .i64 src, .int .i64 dst, .slice A n c] ∧ Blk W (w.heap.size + 1) 37 #[.int .i64 0, .int .i64 0, .slice none 0 0] ∧ Fr [] w W) ⟨(Blk.new w 37 _).alloc _, Blk.new' _ _ (by simp), ((Fr.refl _ _).alloc _).alloc _⟩ ?_
  rintro W ⟨B1, B2, fW⟩
  refine (clone_t A n c l W (Rd.fr h fW (by simp [Off])) hA hn).mono ?_
  rintro e w2 ⟨A', c', rfl, o2, f2, g2⟩
  have b1 := B1.fr f2 (by simp)
  have b2 := B2.fr f2 (by simp)
  have hl2 := b2.lt
  have hW := B2.lt
  have c1 := b1.c3
  have c2 := b2.c3
  have z1 := b1.frozen 2
  have z2 := fun i => b2.frozen i
  have hF : Fr [] w w2 := fW.trans f2
  go_wp2
  have hlo : w.heap.size < W.heap.size := by omega
  have hgo : ∀ g ∈ rowOf (Pc.val ⟨src, dst, A', n, c'⟩), g ∉ [w.heap.size, w.heap.size + 1] := fun g hg => by
    have := g2 g hg
    simp
    omega
  refine bodyPost_ret (v := .agg (Pc.arr ⟨src, dst, A', n, c'⟩)) (by simp [results, Try.results29, go_sem, c1, c2]) rfl ⟨A', c', rfl, o2.fr (S := [w.heap.size, w.heap.size + 1]) ?_ hgo, ?_, fun g hg => by have := g2 g hg; omega⟩
  · repeat (first | with_reducible exact Fr.refl _ _ | (with_reducible refine Fr.setCell ?_ ?_ _; rotate_left; simp))
  · repeat (first | with_reducible exact hF | (with_reducible refine Fr.setCell ?_ ?_ _; rotate_left; simp))
end Go.Proofs.Ythnienoefnfnpaa
