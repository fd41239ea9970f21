/- Walks: slices.Clone at strings, Get. Conditions: each theorem's own. -/
import Derived.Test.YthegggfpofdcdaaWa
namespace Go.Proofs.Ythegggfpofdcdaa
open Go.RowKit Go.Sig

theorem clone_nil (c : Nat) (w : World) :
   Calls Try.prog 25 #[.slice none 0 c] w fun e w' => e = .returned (.slice none 0 0) ∧ w = w' := by
  have hq := fun w => Lib.run_eql_slice_nil (P := Try.prog) w 30 9 none 0 c 0 0 t30.ty
  go_enter Try.func25, Try.ntmps25
  go_wp2
  go_ret
  exact ⟨rfl, rfl⟩

theorem clone_some (ad : Addr) (n c : Nat) (l : List ByteArray) (w : World) (h : Strs w (some ad) n l) (hn : n ≤ 1048576) :
   Calls Try.prog 25 #[.slice (some ad) n c] w fun e w' => ∃ A' c', e = .returned (.slice A' n c') ∧ Strs w' A' n l ∧ (A' = none → n = 0) ∧ Fr [] w w' ∧ (∀ a, A' = some a → w.heap.size ≤ a.block) ∧ Ty9 w' A' := by
  have hq := fun w => Lib.run_eql_slice_nil (P := Try.prog) w 30 9 (some ad) n c 0 0 t30.ty
  go_enter Try.func25, Try.ntmps25
  have hown : Own (w.alloc (.cells #[] 9)) 9 1 (.slice (some ⟨w.heap.size, 0, none⟩) 0 0) 0 [] := Own.made w #[] 9 1 0 0 (by omega) (by decide) rfl
  have hr : Rd (w.alloc (.cells #[] 9)) 1 (some ad) n (l.map Value.string) := h.fr ((Fr.refl [] w).alloc _) (fun _ _ _ => by simp)
  go_wp2_with (refine wpList_own_append t30 hown hr (strings_one l) (by simp) (by unfold maxLen; omega) (by omega) rfl rfl rfl rfl (fun v' w2 h1 h2 h3 => ?_))
  obtain ⟨A', c', rfl, hA⟩ := h1.form
  have h4 := h1.rd
  go_ret
  refine ⟨A', c', ?_, ?_, ?_, ?_, ?_⟩
  · simp
  · simpa [Strs] using h4
  · intro hA'
    subst hA'
    rcases h1.2 with ⟨hv, h0⟩ | ⟨g, cap, cur, hv, _⟩
    · omega
    · cases hv
  · exact ((Fr.refl [] w).alloc _).andThen h2 (by simp [rowOf, Value.ownBlock])
  · refine ⟨fun a ha => ?_, fun a ha => ?_⟩
    · have := h3 a.block (by simp [rowOf, Value.ownBlock, ha])
      simp [rowOf, Value.ownBlock] at this
      omega
    · rcases h1.2 with ⟨hv, _⟩ | ⟨g, cap, cur, hv, _, hh, _⟩
      · rw [ha] at hv; cases hv
      · rw [ha] at hv
        injection hv with hv _ _
        injection hv with hv
        subst hv
        exact ⟨cur, _, hh⟩

theorem clone_t (A : Option Addr) (n c : Nat) (l : List ByteArray) (w : World) (h : Strs w A n l) (hA : A = none → n = 0) (hn : n ≤ 1048576) :
   Calls Try.prog 25 #[.slice A n c] w fun e w' => ∃ A' c', e = .returned (.slice A' n c') ∧ Strs w' A' n l ∧ (A' = none → n = 0) ∧ Fr [] w w' ∧ (∀ a, A' = some a → w.heap.size ≤ a.block) ∧ Ty9 w' A' := by
  rcases A with _ | ad
  · obtain rfl := hA rfl
    refine (clone_nil c w).mono ?_
    rintro e w' ⟨rfl, rfl⟩
    exact ⟨none, 0, rfl, h, fun _ => rfl, Fr.refl _ _, (fun _ h => by cases h), (fun _ h => by cases h)⟩
  · exact clone_some ad n c l w h hn

def Ans.val (a : Ans) : Value := .agg #[.int .i64 a.why, .int .i64 a.access, .int .i64 a.refresh, .slice a.sa a.sl a.sc, .string a.client, .string a.user, .bool a.active, .bool a.wait]
def GetYes (w : World) (k : Kp) (e : Ending) (w' : World) : Prop :=
  ∃ A' c', e = .returned (.tuple #[Ans.val { k.a with sa := A', sc := c' }, .bool true]) ∧ ScOk w' { k.a with sa := A', sc := c' } k.str ∧ Fr [] w w' ∧ (∀ a, A' = some a → w.heap.size ≤ a.block)
def GetNo (w : World) (e : Ending) (w' : World) : Prop := e = .returned (.tuple #[Ans.val Ans.zero, .bool false]) ∧ Fr [] w w'

section
variable {b m1 m2 : Nat} {c : CacheM} {w : World}
theorem get_none (tok : ByteArray) (now : Int) (h : CacheAt w b m1 m2 c) (hg : aget tok c.all = none) :
   Calls Try.prog 18 #[.pointer (some ⟨b, 0, none⟩), .string tok, .int .i64 now] w (GetNo w) := by
  have hc := h.cells
  go_enter Try.func18, Try.ntmps18
  go_wp2_with (refine wpList_map_get_ok (h.nilfr (Fr.alloc (Fr.refl _ _) _)).all k9 u56 z69 tok rfl rfl rfl rfl ?_; simp only [hg, Option.map_none, Option.getD_none, Option.isSome_none])
  go_quiet (fail)
  go_wp2
  refine bodyPost_ret (v := .tuple #[Ans.val Ans.zero, .bool false]) (by simp [results, Try.results18, go_sem, Ans.val, Ans.zero]) rfl ⟨rfl, ?_⟩
  repeat (first | with_reducible exact Fr.refl _ _ | with_reducible refine Fr.alloc ?_ _ | with_reducible refine Fr.drew ?_ | with_reducible refine Fr.drewN ?_ _ | (with_reducible refine Fr.setCell ?_ ?_ _; rotate_left; simp))

theorem get_old (tok : ByteArray) (now : Int) (k : Kp) (h : CacheAt w b m1 m2 c) (hn : I64 now) (hg : aget tok c.all = some k) (hl : liveB k.start now c.short = false) :
   Calls Try.prog 18 #[.pointer (some ⟨b, 0, none⟩), .string tok, .int .i64 now] w (GetNo w) := by
  have hc := h.cells
  have hs := h.r1
  have hks := h.r5 _ (mem_of_aget hg)
  have hlive := fun w => live_t k.start now c.short w hks hn ⟨by omega, by omega⟩
  rw [hl] at hlive
  go_enter Try.func18, Try.ntmps18
  go_wp2_with (refine wpList_map_get_ok (h.nilfr (Fr.alloc (Fr.refl _ _) _)).all k9 u56 z69 tok rfl rfl rfl rfl ?_; simp only [hg, Option.map_some, Option.getD_some, Option.isSome_some])
  go_quiet ((go_at_call 24; exact quiet_left (hlive _)))
  go_wp2
  refine bodyPost_ret (v := .tuple #[Ans.val Ans.zero, .bool false]) (by simp [results, Try.results18, go_sem, Ans.val, Ans.zero]) rfl ⟨rfl, ?_⟩
  repeat (first | with_reducible exact Fr.refl _ _ | with_reducible refine Fr.alloc ?_ _ | with_reducible refine Fr.drew ?_ | with_reducible refine Fr.drewN ?_ _ | (with_reducible refine Fr.setCell ?_ ?_ _; rotate_left; simp))

end
end Go.Proofs.Ythegggfpofdcdaa
