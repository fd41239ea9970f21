/- Walks: slices.Clone at strings and Get, with the row that is made told whole. Conditions: each theorem's own. -/
import Derived.Test.YthegggfpofdcdaaWc
import Derived.Test.YthegggfpofdcdaaWi
namespace Go.Proofs.Ythegggfpofdcdaa
open Go.RowKit Go.Sig

/-- A slice of strings whose row is known whole. -/
def Row9 (w : World) (A : Option Addr) (n : Nat) : Prop := (A = none ∧ n = 0) ∨ ∃ g cur, A = some ⟨g, 0, none⟩ ∧ Blk w g 9 cur ∧ n ≤ cur.size
theorem Row9.of_own {w : World} {A : Option Addr} {n c : Nat} {xs : List Value} (h : Own w 9 1 (.slice A n c) n xs) : Row9 w A n := by
  rcases h.2 with ⟨hv, h0⟩ | ⟨g, cap, cur, hv, _, hh, h1, h2, h3, _⟩
  · injection hv with hv _ _
    exact .inl ⟨hv, h0⟩
  · injection hv with hv _ _
    exact .inr ⟨g, cur, hv, hh, by omega⟩
theorem Row9.fr {w w' : World} {A : Option Addr} {n : Nat} {S : List Nat} (h : Row9 w A n) (hf : Fr S w w') (hS : Off S A) : Row9 w' A n := by
  rcases h with h | ⟨g, cur, rfl, hb, hn⟩
  · exact .inl h
  · exact .inr ⟨g, cur, rfl, hb.fr hf (hS _ rfl), hn⟩
theorem Row9.nil {w : World} {A : Option Addr} {n : Nat} (h : Row9 w A n) (hA : A = none) : n = 0 := by
  rcases h with h | ⟨g, cur, rfl, _⟩
  · exact h.2
  · cases hA

theorem clone_row (A : Option Addr) (n c : Nat) (l : List ByteArray) (w : World) (h : Strs w A n l) (hA : A = none → n = 0) (hn : n ≤ 1048576) :
   Calls Try.prog 25 #[.slice A n c] w fun e w' => ∃ A' c', e = .returned (.slice A' n c') ∧ Strs w' A' n l ∧ Row9 w' A' n ∧ Fr [] w w' ∧ (∀ a, A' = some a → w.heap.size ≤ a.block) := by
  rcases A with _ | ad
  · obtain rfl := hA rfl
    refine (clone_nil c w).mono ?_
    rintro e w' ⟨rfl, rfl⟩
    exact ⟨none, 0, rfl, h, .inl ⟨rfl, rfl⟩, Fr.refl _ _, (fun _ h => by cases h)⟩
  · have hq := fun w => Lib.run_eql_slice_nil (P := Try.prog) w 30 9 (some ad) n c 0 0 t30.ty
    go_enter Try.func25, Try.ntmps25
    have hown : Own (w.alloc (.cells #[] 9)) 9 1 (.slice (some ⟨w.heap.size, 0, none⟩) 0 0) 0 [] := Own.made w #[] 9 1 0 0 (by omega) (by decide) rfl
    have hr : Rd (w.alloc (.cells #[] 9)) 1 (some ad) n (l.map Value.string) := h.fr ((Fr.refl [] w).alloc _) (fun _ _ _ => by simp)
    go_wp2_with (refine wpList_own_append t30 hown hr (strings_one l) (by simp) (by unfold maxLen; omega) (by omega) rfl rfl rfl rfl (fun v' w2 h1 h2 h3 => ?_))
    obtain ⟨A', c', rfl, hA⟩ := h1.form
    have h4 := h1.rd
    go_ret
    refine ⟨A', c', ?_, ?_, ?_, ?_, ?_⟩
    · simp
    · simpa [Strs] using h4
    · simpa using Row9.of_own h1
    · exact ((Fr.refl [] w).alloc _).andThen h2 (by simp [rowOf, Value.ownBlock])
    · intro a ha
      have := h3 a.block (by simp [rowOf, Value.ownBlock, ha])
      simp [rowOf, Value.ownBlock] at this
      omega

section
variable {b m1 m2 : Nat} {c : CacheM} {w : World}
theorem get_row (tok : ByteArray) (now : Int) (k : Kp) (h : CacheAt w b m1 m2 c) (hn : I64 now) (hg : aget tok c.all = some k) (hl : liveB k.start now c.short = true) :
   Calls Try.prog 18 #[.pointer (some ⟨b, 0, none⟩), .string tok, .int .i64 now] w fun e w' => ∃ A' c', e = .returned (.tuple #[.agg #[.int .i64 k.a.why, .int .i64 k.a.access, .int .i64 k.a.refresh, .slice A' k.a.sl c', .string k.a.client, .string k.a.user, .bool k.a.active, .bool k.a.wait], .bool true]) ∧ ScOk w' { k.a with sa := A', sc := c' } k.str ∧ Fr [] w w' ∧ (∀ a, A' = some a → w.heap.size ≤ a.block) ∧ Row9 w' A' k.a.sl := by
  have hc := h.cells
  have hs := h.r1
  have hks := h.r5 _ (mem_of_aget hg)
  have hst := h.str _ (mem_of_aget hg)
  have hlive := fun w => live_t k.start now c.short w hks hn ⟨by omega, by omega⟩
  rw [hl] at hlive
  go_enter Try.func18, Try.ntmps18
  go_wp2_with (refine wpList_map_get_ok (h.nilfr (Fr.alloc (Fr.refl _ _) _)).all k9 u56 z69 tok rfl rfl rfl rfl ?_; simp only [hg, Option.map_some, Option.getD_some, Option.isSome_some])
  go_quiet ((go_at_call 24; exact quiet_left (hlive _)))
  go_wp2_with fail
  refine calls_gen (fun W => Blk W w.heap.size 32 #[.int .i64 0, .int .i64 0, .int .i64 0, .slice none 0 0, .string ⟨#[]⟩, .string ⟨#[]⟩, .bool false, .bool false] ∧
    Blk W (w.heap.size + 1 + 1) 32 #[.int .i64 k.a.why, .int .i64 k.a.access, .int .i64 k.a.refresh, .slice k.a.sa k.a.sl k.a.sc, .string k.a.client, .string k.a.user, .bool k.a.active, .bool k.a.wait] ∧ Fr [] w W) ⟨?_, ?_, ?_⟩ ?_
  · repeat (first | (with_reducible refine Blk.new' _ _ ?_; simp; done) | with_reducible refine Blk.alloc ?_ _ | with_reducible refine Blk.drewN ?_ _)
  · repeat (first | (with_reducible refine Blk.new' _ _ ?_; simp; done) | with_reducible refine Blk.alloc ?_ _ | with_reducible refine Blk.drewN ?_ _)
  · repeat (first | with_reducible exact Fr.refl _ _ | with_reducible refine Fr.alloc ?_ _ | with_reducible refine Fr.drew ?_ | with_reducible refine Fr.drewN ?_ _ | (with_reducible refine Fr.setCell ?_ ?_ _; rotate_left; simp))
  clear hc
  rintro W ⟨B1, B2, fW⟩
  have hW : w.heap.size + 1 + 1 < W.heap.size := B2.lt
  refine (clone_row _ _ _ k.str W (hst.strs.fr fW (fun _ _ _ => by simp)) hst.nil (by have := hst.le; omega)).mono ?_
  rintro e w2 ⟨A', c', rfl, s2, r2, f2, g2⟩
  have c1 := (B1.fr f2 (by simp)).c8
  have c2 := (B2.fr f2 (by simp)).c8
  have hF : Fr [] w w2 := fW.trans f2
  have hw2 := (B2.fr f2 (by simp)).lt
  clear B1 B2
  go_wp2
  have hlo : w.heap.size < W.heap.size := by omega
  have hoff : Off [w.heap.size, w.heap.size + 1 + 1] A' := by
    intro a ha
    have := g2 a ha
    simp
    omega
  refine bodyPost_ret (v := .tuple #[Ans.val { k.a with sa := A', sc := c' }, .bool true]) (by simp [results, Try.results18, go_sem, Ans.val, c1, c2]) rfl ⟨A', c', rfl, ⟨s2.fr (S := [w.heap.size, w.heap.size + 1 + 1]) ?_ (fun _ => hoff), r2.nil, hst.le⟩, ?_, fun a ha => by have := g2 a ha; omega, r2.fr (S := [w.heap.size, w.heap.size + 1 + 1]) ?_ hoff⟩
  · repeat (first | with_reducible exact Fr.refl _ _ | (with_reducible refine Fr.setCell ?_ ?_ _; rotate_left; simp))
  · repeat (first | with_reducible exact hF | (with_reducible refine Fr.setCell ?_ ?_ _; rotate_left; simp; try omega))
  · repeat (first | with_reducible exact Fr.refl _ _ | (with_reducible refine Fr.setCell ?_ ?_ _; rotate_left; simp))
end
end Go.Proofs.Ythegggfpofdcdaa
