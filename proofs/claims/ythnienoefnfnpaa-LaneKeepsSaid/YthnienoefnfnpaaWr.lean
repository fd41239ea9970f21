/- Plain facts for LaneKeeps: the lane that it makes, step by step; rows that lie apart. Conditions: each theorem's own. -/
import Derived.Test.YthnienoefnfnpaaWq
namespace Go.Proofs.Ythnienoefnfnpaa
open Go.RowKit Go.Sig

theorem kl_send (l : List UInt8) (hl : l.length ≤ 65544) : (LaneM.mk 2 [] []).send 0 1 l = ⟨2, [⟨0, 1, l⟩], []⟩ := by
  unfold LaneM.send
  rw [if_pos]
  · rfl
  · unfold sendE nodeB
    simp
    omega
theorem kl_twice (l : List UInt8) (hl : l.length ≤ 65544) : (LaneM.mk 2 [⟨0, 1, l⟩] []).twice 0 = ⟨2, [⟨0, 1, l⟩, ⟨0, 1, l⟩], []⟩ := by
  unfold LaneM.twice
  rw [if_pos (by simp [hasE])]
  unfold LaneM.send
  rw [if_pos]
  · rfl
  · unfold sendE nodeB
    simp
    omega
theorem kl_spoil (p q : Pk) (x : UInt8) : ∃ q', (LaneM.mk 2 [p, q] []).spoil 1 0 x = ⟨2, [p, q'], []⟩ := by
  unfold LaneM.spoil
  split
  · exact ⟨_, rfl⟩
  · exact ⟨q, rfl⟩
theorem kl_take (p q : Pk) : takeE (LaneM.mk 2 [p, q] []) 0 = 0 ∧ (LaneM.mk 2 [p, q] []).take 0 = ⟨2, [q], []⟩ := by
  have h1 : takeE (LaneM.mk 2 [p, q] []) 0 = 0 := by simp [takeE, hasE, shutB, aget]
  refine ⟨h1, ?_⟩
  unfold LaneM.take
  rw [if_pos h1]
  simp [LaneM.drop, hasE]
theorem own_row {W : World} {A : Option Addr} {n c m : Nat} {xs : List Value} (h : Own W 5 1 (.slice A n c) m xs) :
    ∃ r : Option Nat × Nat × Nat, A = adOf r ∧ n = r.2.1 ∧ c = r.2.2 ∧ RowIn W r ∧ r.2.2 ≤ 9223372036854775807 ∧ ∀ g, r.1 = some g → g ∈ rowOf (.slice A n c) := by
  rcases h.2 with ⟨hv, h0⟩ | ⟨g, cp, cur, hv, _, hg, hcp, hmx, hcs, hx⟩
  · injection hv with h1 h2 h3
    subst h1 h2 h3
    exact ⟨(none, 0, 0), rfl, rfl, rfl, fun h => absurd rfl h, by decide, fun g h => by cases h⟩
  · injection hv with h1 h2 h3
    subst h1 h2 h3
    exact ⟨(some g, n, c), rfl, rfl, rfl, fun _ => ⟨g, cur, rfl, hg, by simpa using hcs⟩, by unfold maxLen at hmx; omega, fun g' h => by cases h; simp [rowOf, Value.ownBlock]⟩
theorem all4 {P : Nat → Prop} (h0 : P 0) (h1 : P 1) (h2 : P 2) (h3 : P 3) : ∀ i, i < 4 → P i
  | 0, _ => h0
  | 1, _ => h1
  | 2, _ => h2
  | 3, _ => h3
  | _ + 4, h => absurd h (by omega)
/-- Apart of four lists in a new block. -/
theorem apart4_t (ra rb rc rd : Option Nat × Nat × Nat) (w : World)
   (a1 : RowIn w ra) (b1 : RowIn w rb) (c1 : RowIn w rc) (d1 : RowIn w rd)
   (a2 : ra.2.2 ≤ 9223372036854775807) (b2 : rb.2.2 ≤ 9223372036854775807) (c2 : rc.2.2 ≤ 9223372036854775807) (d2 : rd.2.2 ≤ 9223372036854775807)
   (a3 : ∀ x, ra.1 = some x → x < w.heap.size) (b3 : ∀ x, rb.1 = some x → x < w.heap.size) (c3 : ∀ x, rc.1 = some x → x < w.heap.size) (d3 : ∀ x, rd.1 = some x → x < w.heap.size)
   (ab : ∀ x, ra.1 = some x → rb.1 ≠ some x) (ac : ∀ x, ra.1 = some x → rc.1 ≠ some x) (ad : ∀ x, ra.1 = some x → rd.1 ≠ some x) (bc : ∀ x, rb.1 = some x → rc.1 ≠ some x) (bd : ∀ x, rb.1 = some x → rd.1 ≠ some x) (cd : ∀ x, rc.1 = some x → rd.1 ≠ some x) :
   Calls Try.prog 26 #[.slice (some ⟨w.heap.size, 0, none⟩) 4 4] (w.alloc (.cells #[.slice (adOf ra) ra.2.1 ra.2.2, .slice (adOf rb) rb.2.1 rb.2.2, .slice (adOf rc) rc.2.1 rc.2.2, .slice (adOf rd) rd.2.1 rd.2.2] 22)) fun e w' => e = .returned (.bool true) ∧ Fr (blocksOf [ra, rb, rc, rd]) w w' := by
  have fa : Fr [] w (w.alloc (.cells #[.slice (adOf ra) ra.2.1 ra.2.2, .slice (adOf rb) rb.2.1 rb.2.2, .slice (adOf rc) rc.2.1 rc.2.2, .slice (adOf rd) rd.2.1 rd.2.2] 22)) := (Fr.refl _ _).alloc _
  have hB := Blk.new w 22 #[.slice (adOf ra) ra.2.1 ra.2.2, .slice (adOf rb) rb.2.1 rb.2.2, .slice (adOf rc) rc.2.1 rc.2.2, .slice (adOf rd) rd.2.1 rd.2.2]
  refine (apart_t w.heap.size 4 [ra, rb, rc, rd] _ hB.lt (by simp) ?_ ?_ ?_ ?_ ?_).mono fun e w' ⟨he, hF⟩ => ⟨he, fa.nil.trans hF⟩
  · intro i hi
    rw [hB.cell]
    exact all4 (P := fun i => ∀ hi : i < 4, (#[Value.slice (adOf ra) ra.2.1 ra.2.2, .slice (adOf rb) rb.2.1 rb.2.2, .slice (adOf rc) rc.2.1 rc.2.2, .slice (adOf rd) rd.2.1 rd.2.2] : Array Value)[i]? = some (Value.slice (adOf ([ra, rb, rc, rd][i]'hi)) ([ra, rb, rc, rd][i]'hi).2.1 ([ra, rb, rc, rd][i]'hi).2.2)) (fun _ => rfl) (fun _ => rfl) (fun _ => rfl) (fun _ => rfl) i hi hi
  · exact fun i hi => all4 (P := fun i => ∀ hi : i < 4, RowIn _ ([ra, rb, rc, rd][i]'hi)) (fun _ => a1.fr fa (by simp)) (fun _ => b1.fr fa (by simp)) (fun _ => c1.fr fa (by simp)) (fun _ => d1.fr fa (by simp)) i hi hi
  · exact fun i hi => all4 (P := fun i => ∀ hi : i < 4, ([ra, rb, rc, rd][i]'hi).2.2 ≤ 9223372036854775807) (fun _ => a2) (fun _ => b2) (fun _ => c2) (fun _ => d2) i hi hi
  · intro i j hi hj g
    refine all4 (P := fun i => ∀ (hi : i < 4), ([ra, rb, rc, rd][i]'hi).1 = some g → ([ra, rb, rc, rd][j]'hj).1 = some g → i = j) ?_ ?_ ?_ ?_ i hi hi
    · exact fun _ e => all4 (P := fun j => ∀ (hj : j < 4), ([ra, rb, rc, rd][j]'hj).1 = some g → 0 = j) (fun _ _ => rfl) (fun _ e' => absurd e' (ab g e)) (fun _ e' => absurd e' (ac g e)) (fun _ e' => absurd e' (ad g e)) j hj hj
    · exact fun _ e => all4 (P := fun j => ∀ (hj : j < 4), ([ra, rb, rc, rd][j]'hj).1 = some g → 1 = j) (fun _ e' => absurd e (ab g e')) (fun _ _ => rfl) (fun _ e' => absurd e' (bc g e)) (fun _ e' => absurd e' (bd g e)) j hj hj
    · exact fun _ e => all4 (P := fun j => ∀ (hj : j < 4), ([ra, rb, rc, rd][j]'hj).1 = some g → 2 = j) (fun _ e' => absurd e (ac g e')) (fun _ e' => absurd e (bc g e')) (fun _ _ => rfl) (fun _ e' => absurd e' (cd g e)) j hj hj
    · exact fun _ e => all4 (P := fun j => ∀ (hj : j < 4), ([ra, rb, rc, rd][j]'hj).1 = some g → 3 = j) (fun _ e' => absurd e (ad g e')) (fun _ e' => absurd e (bd g e')) (fun _ e' => absurd e (cd g e')) (fun _ _ => rfl) j hj hj
  · intro hh
    obtain ⟨r, hr, e⟩ := List.mem_filterMap.1 hh
    simp only [List.mem_cons, List.not_mem_nil, or_false] at hr
    rcases hr with rfl | rfl | rfl | rfl
    · have := a3 _ e; omega
    · have := b3 _ e; omega
    · have := c3 _ e; omega
    · have := d3 _ e; omega
theorem mem_blocks4 {ra rb rc rd : Option Nat × Nat × Nat} {x : Nat} (h : x ∈ blocksOf [ra, rb, rc, rd]) : ra.1 = some x ∨ rb.1 = some x ∨ rc.1 = some x ∨ rd.1 = some x := by
  obtain ⟨r, hr, e⟩ := List.mem_filterMap.1 h
  simp only [List.mem_cons, List.not_mem_nil, or_false] at hr
  rcases hr with rfl | rfl | rfl | rfl
  · exact .inl e
  · exact .inr (.inl e)
  · exact .inr (.inr (.inl e))
  · exact .inr (.inr (.inr e))
end Go.Proofs.Ythnienoefnfnpaa
