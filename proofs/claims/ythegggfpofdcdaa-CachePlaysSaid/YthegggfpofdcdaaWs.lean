/- Walks: Same of two slices of the same texts, Answers of two answers that tell the same. Conditions: each theorem's own. -/
import Derived.Test.YthegggfpofdcdaaWe
namespace Go.Proofs.Ythegggfpofdcdaa
open Go.RowKit Go.Sig

theorem rd9_at {w : World} {A : Option Addr} {n k : Nat} {fs : List ByteArray} (h : Rd w 1 A n (fs.map Value.string)) (hk : k < n) : ∃ b o, A = some ⟨b, o, none⟩ ∧ b < w.heap.size ∧ w.cell? ⟨b, o + k, none⟩ = some (.string (fs.getD k default)) := by
  have hn : fs.length = n := by have := h.1; simpa using this
  obtain ⟨b, o, hA, hc⟩ := h.2 (by omega)
  have h1 := hc k (.string (fs.getD k default)) (by simp [List.getD, List.getElem?_map, List.getElem?_eq_getElem (show k < fs.length by omega)])
  exact ⟨b, o, hA, block_lt_of_cell h1, h1⟩

theorem same_t (A : Option Addr) (n c : Nat) (A2 : Option Addr) (n2 c2 : Nat) (l : List ByteArray) (w : World) (h1 : Rd w 1 A n (l.map Value.string)) (h2 : Rd w 1 A2 n2 (l.map Value.string)) (h64 : n ≤ 9223372036854775807) :
   Calls Try.prog 32 #[.slice A n c, .slice A2 n2 c2] w fun e w' => e = .returned (.bool true) ∧ Fr [] w w' := by
  have hn : l.length = n := by have := h1.1; simpa using this
  have hn2 : n2 = n := by have := h2.1; simp at this; omega
  subst hn2
  go_enter Try.func32, Try.ntmps32
  go_wp2_with fail
  go_loopg [5] (n2 + 1) (fun k s5 wr => ∃ i : Nat, s5 = .int .i64 i ∧ i ≤ n2 ∧ n2 - i < k ∧ Fr [] w wr)
  case atStart => exact ⟨0, rfl, by omega, by omega, Fr.refl _ _⟩
  case round =>
    obtain ⟨i, rfl, hi, hk, hF⟩ := hrel
    by_cases hlt : i < n2
    · obtain ⟨b1, o1, rfl, l1, e1⟩ := rd9_at (h1.fr hF (by simp [Off])) hlt
      obtain ⟨b2, o2, rfl, l2, e2⟩ := rd9_at (h2.fr hF (by simp [Off])) hlt
      generalize l.getD i default = x at e1 e2
      go_wp2_with fail
      go_quiet (fail)
      go_wp2
      go_roundg (n2 - i)
      case measure => omega
      case rel => exact ⟨i + 1, by go_num, by omega, by omega, hF.drewN _⟩
    · have hin : i = n2 := by omega
      subst hin
      go_wp2
      go_ret
      exact ⟨rfl, hF⟩

/-- Two answers that tell the same. -/
structure AnsEq (a b : Ans) : Prop where
  why : a.why = b.why
  access : a.access = b.access
  refresh : a.refresh = b.refresh
  client : a.client = b.client
  user : a.user = b.user
  active : a.active = b.active
  wait : a.wait = b.wait

theorem answers_t (a b : Ans) (l : List ByteArray) (w : World) (h : AnsEq a b) (h1 : ScOk w a l) (h2 : ScOk w b l) :
   Calls Try.prog 22 #[.agg a.arr, .agg b.arr] w fun e w' => e = .returned (.bool true) ∧ Fr [] w w' := by
  have h64 : a.sl ≤ 9223372036854775807 := Nat.le_trans h1.le (by decide)
  obtain ⟨e1, e2, e3, e4, e5, e6, e7⟩ := h
  obtain ⟨a1, a2, a3, sa, sl, sc, a4, a5, a6, a7⟩ := a
  obtain ⟨b1, b2, b3, sb, tl, tc, b4, b5, b6, b7⟩ := b
  simp only at e1 e2 e3 e4 e5 e6 e7 h64
  subst e1 e2 e3 e4 e5 e6 e7
  have h1' : Rd w 1 _ _ (l.map Value.string) := h1.strs
  have h2' : Rd w 1 _ _ (l.map Value.string) := h2.strs
  simp only at h1' h2'
  go_enter Try.func22, Try.ntmps22
  go_wp2_with fail
  refine (same_t sa sl sc sb tl tc l _ (h1'.fr (S := []) (Fr.alloc (Fr.alloc (Fr.refl _ _) _) _) (by simp [Off])) (h2'.fr (S := []) (Fr.alloc (Fr.alloc (Fr.refl _ _) _) _) (by simp [Off])) h64).mono ?_
  rintro e w2 ⟨rfl, f2⟩
  have B1 : Blk w2 w.heap.size 32 (Ans.arr ⟨a1, a2, a3, sa, sl, sc, a4, a5, a6, a7⟩) := ((Blk.new w 32 _).alloc _).fr f2 (by simp)
  have B2 : Blk w2 (w.heap.size + 1) 32 (Ans.arr ⟨a1, a2, a3, sb, tl, tc, a4, a5, a6, a7⟩) := (Blk.new' (w := w.alloc _) 32 _ (by simp)).fr f2 (by simp)
  have hF : Fr [] w w2 := (Fr.alloc (Fr.alloc (Fr.refl _ _) _) _).trans f2
  have d := B1.c8
  have d' := B2.c8
  clear f2 B1 B2
  go_wp2
  go_ret
  exact ⟨rfl, hF⟩
end Go.Proofs.Ythegggfpofdcdaa
