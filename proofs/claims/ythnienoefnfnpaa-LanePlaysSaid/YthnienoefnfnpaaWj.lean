/- Walks: Same of two packets that are alike; plain facts on which packets come next. Conditions: each theorem's own. -/
import Derived.Test.YthnienoefnfnpaaWi
namespace Go.Proofs.Ythnienoefnfnpaa
open Go.RowKit Go.Sig

theorem byts_at {w : World} {A : Option Addr} {n i : Nat} {l : List UInt8} (h : Byts w A n l) (hi : i < n) : ∃ b o, A = some ⟨b, o, none⟩ ∧ b < w.heap.size ∧ w.cell? ⟨b, o + i, none⟩ = some (.int .u8 ((l.getD i 0).toNat : Int)) := by
  have hl := h.length
  obtain ⟨b, o, hA, hc⟩ := h.2 (by omega)
  have h1 := hc i (bv (l.getD i 0)) (by simp [List.getD, List.getElem?_map, List.getElem?_eq_getElem (show i < l.length by omega)])
  exact ⟨b, o, hA, block_lt_of_cell h1, h1⟩

theorem same_t (s d : Int) (A : Option Addr) (n c : Nat) (A2 : Option Addr) (n2 c2 : Nat) (l : List UInt8) (w : World) (h1 : Byts w A n l) (h2 : Byts w A2 n2 l) (h64 : n ≤ 9223372036854775807) :
   Calls Try.prog 17 #[.agg #[.int .i64 s, .int .i64 d, .slice A n c], .agg #[.int .i64 s, .int .i64 d, .slice A2 n2 c2]] w fun e w' => e = .returned (.bool true) ∧ Fr [] w w' := by
  have hn : l.length = n := h1.length
  have hn2 : n2 = n := by have := h2.length; omega
  subst hn2
  go_enter Try.func17, Try.ntmps17
  go_upto_region 3 with (fail)
  refine wp_gen (fun W => Blk W w.heap.size 37 #[.int .i64 s, .int .i64 d, .slice A n2 c] ∧ Blk W (w.heap.size + 1) 37 #[.int .i64 s, .int .i64 d, .slice A2 n2 c2] ∧ Fr [] w W) ⟨(Blk.new _ _ _).alloc _, Blk.new' _ _ (by simp), ((Fr.refl _ _).alloc _).alloc _⟩ ?_
  rintro W ⟨B1, B2, fW⟩
  generalize w.heap.size = g1 at *
  go_wp2_with fail
  go_loopg [5] (n2 + 1) (fun k s5 wr => ∃ i : Nat, s5 = .int .i64 i ∧ i ≤ n2 ∧ n2 - i < k ∧ Fr [] W wr)
  case atStart => exact ⟨0, rfl, by omega, by omega, Fr.refl _ _⟩
  case round =>
    obtain ⟨i, rfl, hi, hk, hF⟩ := hrel
    have b1 := (B1.fr hF (by simp)).c3
    have b2 := (B2.fr hF (by simp)).c3
    by_cases hlt : i < n2
    · obtain ⟨x1, o1, rfl, l1, e1⟩ := byts_at (Rd.fr h1 (fW.trans hF) (by simp [Off])) hlt
      obtain ⟨x2, o2, rfl, l2, e2⟩ := byts_at (Rd.fr h2 (fW.trans hF) (by simp [Off])) hlt
      generalize ((l.getD i 0).toNat : Int) = x at e1 e2
      go_wp2_with fail
      go_quiet (fail)
      go_wp2
      go_roundg (n2 - i)
      case measure => omega
      case rel => exact ⟨i + 1, by go_num, by omega, by omega, hF.drewN _⟩
    · have hin : i = n2 := by omega
      subst hin
      go_wp2
      go_ret
      exact ⟨rfl, fW.trans hF⟩

/-! ### Which packets come -/
def openS (shut : List ((Int × Int) × Bool)) (p : Pk) : Bool := !(aget (keyM p.src p.dst) shut).getD false

theorem next_none (shut : List ((Int × Int) × Bool)) : ∀ (l : List Pk) (i : Nat), l.filter (openS shut) = [] → nextL shut l i = -1
  | [], _, _ => rfl
  | p :: l, i, h => by
    unfold nextL
    have hp : (aget (keyM p.src p.dst) shut).getD false = true := by
      cases hh : (aget (keyM p.src p.dst) shut).getD false with
      | true => rfl
      | false => simp [List.filter_cons, openS, hh] at h
    rw [if_pos hp]
    refine next_none shut l (i + 1) ?_
    rw [List.filter_cons] at h
    split at h
    · cases h
    · exact h
theorem next_some (shut : List ((Int × Int) × Bool)) : ∀ (l : List Pk) (i : Nat) (p : Pk) (r : List Pk), l.filter (openS shut) = p :: r →
    ∃ j : Nat, nextL shut l i = ((i + j : Nat) : Int) ∧ j < l.length ∧ l.getD j default = p ∧ openS shut p = true ∧ (l.eraseIdx j).filter (openS shut) = r ∧ (l.eraseIdx j).filter (fun q => !openS shut q) = l.filter (fun q => !openS shut q)
  | [], _, _, _, h => by simp at h
  | q :: l, i, p, r, h => by
    unfold nextL
    cases hh : (aget (keyM q.src q.dst) shut).getD false with
    | true =>
      have hq : openS shut q = false := by simp [openS, hh]
      rw [if_pos rfl]
      simp only [List.filter_cons, hq, if_neg Bool.false_ne_true] at h
      obtain ⟨j, g1, g2, g3, g4, g5, g6⟩ := next_some shut l (i + 1) p r h
      refine ⟨j + 1, by rw [g1]; congr 1; omega, by simp; omega, by simpa using g3, g4, ?_, ?_⟩
      · simp [List.filter_cons, hq, g5]
      · simp [List.filter_cons, hq, g6]
    | false =>
      have hq : openS shut q = true := by simp [openS, hh]
      rw [if_neg Bool.false_ne_true]
      simp only [List.filter_cons, hq, if_true, List.cons.injEq] at h
      obtain ⟨rfl, rfl⟩ := h
      exact ⟨0, rfl, by simp, rfl, hq, by simp, by simp [List.filter_cons, hq]⟩
end Go.Proofs.Ythnienoefnfnpaa
