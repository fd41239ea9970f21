/- Walks of the trie: all pairs of a node. Conditions: each theorem's own. -/
import Derived.Test.YtlhkkffljjbdmaaUc
namespace Go.Proofs.Ytlhkkffljjbdmaa
open Go.RowKit Go.Sig

/-- A list under way behind one that came in. -/
def AppIn (w wr : World) (v : Value) (out : List Pr) (s : Value) (m : List Pr) : Prop :=
  ∃ A c, s = .slice A (out ++ m).length c ∧ Own wr 66 2 (.slice A (out ++ m).length c) (out ++ m).length (pairCells (out ++ m)) ∧ (∀ g, g ∈ rowOf (.slice A (out ++ m).length c) → g ∈ rowOf v ∨ w.heap.size ≤ g) ∧ Fr (rowOf v) w wr
theorem allL_nil (w : World) (v : Value) (out : List Pr) (hO : Own w 66 2 v out.length (pairCells out)) : Calls Try.prog 64 #[nilP, v] w (AppPost w v out []) := by
  unfold nilP
  go_enter Try.func64, Try.ntmps64
  go_wp2_with fail
  go_ret
  exact ⟨_, [], rfl, .refl _, by simpa using hO, Fr.refl _ _, fun g hg => .inl hg⟩
theorem rd_some {w : World} {size n : Nat} {A : Option Addr} {xs : List Value} (h : Rd w size A n xs) (hA : A = none) : n = 0 := by
  rcases Nat.eq_zero_or_pos n with h0 | h0
  · exact h0
  · obtain ⟨b, o, e, _⟩ := h.2 h0
    rw [hA] at e
    cases e
set_option maxHeartbeats 1000000 in
theorem allL_leaf (w : World) (X : List Nat) (D : List UInt8) (l : List Pr) (p v : Value) (out : List Pr) (hL : LeafAt w X D l p) (hD : D.length = 32) (hO : Own w 66 2 v out.length (pairCells out)) (hv : ∀ g ∈ rowOf v, g ∈ X) (hmax : out.length + l.length ≤ 1000000) :
   Calls Try.prog 64 #[p, v] w (AppPost w v out l) := by
  obtain ⟨g, A, c, rfl, hg, hB, hR, hc, hA⟩ := hL
  have c32 := (hB.cell 32).trans (nodeCells_at hD).1
  have hql := hB.lt
  have hBf := Lib.hid (fun (w2 : World) (hF : Fr (rowOf v) w w2) => And.intro ((hB.fr hF (fun h => hg (hv g h))).lt) (((hB.fr hF (fun h => hg (hv g h))).cell 33).trans (nodeCells_at hD).2.1))
  have hvh := Lib.hid hv
  clear hB hv hA
  go_enter Try.func64, Try.ntmps64
  go_wp2_with (refine wpList_own_append tPairs hO hR (pairCells_one _) (rd_some hR) (by unfold maxLen; omega) (by omega) rfl rfl rfl rfl (fun v2 w2 p1 p2 p3 => ?_); obtain ⟨hql2, c33⟩ := hBf.out _ p2; unfold nilP at c33; obtain ⟨A3, c3, rfl, hA3⟩ := p1.form)
  go_ret
  exact ⟨_, l, rfl, .refl _, by rw [List.length_append, pairCells_append]; exact p1, p2, fun g hg => (p3 g hg).imp id (fun e => Nat.le_of_eq e.symm)⟩
set_option maxHeartbeats 2000000 in
theorem allL_branch (f : Nat) (w : World) (X : List Nat) (l : List Pr) (D : List UInt8) (hD : D.length = 32) (ps : List Value) (p v : Value) (out : List Pr) (hb : BranchAt w X D l.length ps p) (hkids : ∀ i, i < 16 → NodeAt w X f (kid f l i) (ps.getD i undef))
    (hO : Own w 66 2 v out.length (pairCells out)) (hv : ∀ g ∈ rowOf v, g ∈ X) (hmax : out.length + l.length ≤ 1000000)
    (ih : ∀ (w : World) (X : List Nat) (l : List Pr) (p v : Value) (out : List Pr), NodeAt w X f l p → Own w 66 2 v out.length (pairCells out) → (∀ g ∈ rowOf v, g ∈ X) → out.length + l.length ≤ 1000000 → Calls Try.prog 64 #[p, v] w (AppPost w v out l)) :
   Calls Try.prog 64 #[p, v] w (AppPost w v out l) := by
  obtain ⟨g, k, rfl, hg, hk, hB, hK, hps⟩ := hb
  have c32 := (hB.cell 32).trans (nodeCells_at hD).1
  have hql := hB.lt
  have hBf := Lib.hid (fun (w2 : World) (hF : Fr (rowOf v) w w2) => And.intro ((hB.fr hF (fun h => hg (hv g h))).lt) (((hB.fr hF (fun h => hg (hv g h))).cell 33).trans (nodeCells_at hD).2.1))
  have hKf := Lib.hid (fun (w2 : World) (hF : Fr (rowOf v) w w2) => hK.fr hF (fun h => hk (hv k h)))
  have hcall := Lib.hid (fun (wr : World) (s : Value) (m : List Pr) (i : Nat) (hi : i < 16) (hm : m.Perm (kidsL f l i)) (h : AppIn w wr v out s m) => show Calls Try.prog 64 #[ps.getD i undef, s] wr (AppPost wr s (out ++ m) (kid f l i)) by
    obtain ⟨A, c, rfl, h1, h2, h3⟩ := h
    refine ih wr (rowOf (.slice A (out ++ m).length c) ++ X) _ _ _ _ ?_ h1 (fun g hg => List.mem_append.2 (.inl hg)) ?_
    · exact (hkids i hi).go ⟨h3, fun s hs => .inl (hv s hs), fun y hy => (List.mem_append.1 hy).elim (fun hy => (h2 y hy).imp (hv y) id) .inl⟩
    · have e1 := hm.length_eq
      have e2 := kidsL_length_le f l (i + 1)
      rw [kidsL_succ, List.length_append] at e2
      rw [List.length_append]
      omega)
  have hstep := Lib.hid (fun (wr w2 : World) (s v2 : Value) (m m2 : List Pr) (h : AppIn w wr v out s m) (o2 : Own w2 66 2 v2 (out ++ m ++ m2).length (pairCells (out ++ m ++ m2))) (f2 : Fr (rowOf s) wr w2) (r2 : ∀ g, g ∈ rowOf v2 → g ∈ rowOf s ∨ wr.heap.size ≤ g) => show AppIn w w2 v out v2 (m ++ m2) by
    obtain ⟨A, c, rfl, h1, h2, h3⟩ := h
    obtain ⟨A3, c3, rfl, hA3⟩ := o2.form
    unfold AppIn
    rw [← List.append_assoc]
    exact ⟨A3, c3, rfl, o2, fun g hg => (r2 g hg).elim (h2 g) (fun hh => .inr (Nat.le_trans h3.size hh)), h3.andThen f2 h2⟩)
  have hR0 : Rd w 2 none 0 [] := Rd.nil _ _ _
  have hvh := Lib.hid hv
  clear hB hK hv ih hkids
  go_enter Try.func64, Try.ntmps64
  go_wp2_with (refine wpList_own_append tPairs hO hR0 (by simp) (fun _ => rfl) (by unfold maxLen; omega) (by omega) rfl rfl rfl rfl (fun v2 w2 p1 p2 p3 => ?_); obtain ⟨hql2, c33⟩ := hBf.out _ p2; obtain ⟨A3, c3, rfl, hA3⟩ := p1.form)
  have h0 : AppIn w w2 v out (.slice A3 (out.length + 0) c3) [] := by
    unfold AppIn
    rw [List.append_nil]
    exact ⟨A3, c3, rfl, by simpa using p1, fun g hg => (p3 g hg).imp id (fun e => Nat.le_of_eq e.symm), p2⟩
  clear p1 p3 hA3 hO hR0 hql c32
  go_loopg [1, 6, 25] 17 (fun gk s1 s6 s25 wr => ∃ (i : Nat) (m : List Pr), s25 = .int .i64 i ∧ i ≤ 16 ∧ 16 - i < gk ∧ m.Perm (kidsL f l i) ∧ AppIn w wr v out s1 m)
  case atStart => exact ⟨0, [], rfl, by omega, by omega, .refl _, h0⟩
  case round =>
    clear h0
    obtain ⟨i, m, rfl, hi, hkk, hm, hA⟩ := hrel
    have hmh := Lib.hid hm
    have hFw := Lib.hid (show Fr (rowOf v) w wr from by obtain ⟨A, c, rfl, h1, h2, h3⟩ := hA; exact h3)
    clear hm
    by_cases hlt : i < 16
    · have hlt' : (i : Int) < 16 := by omega
      have hlth := Lib.hid hlt
      have hKr := hKf.out _ hFw.out
      have hkl := hKr.lt
      have ci : wr.cell? ⟨k, i, none⟩ = some (ps.getD i undef) := by
        rw [hKr.cell, List.getElem?_toArray]
        exact getD_some (by omega)
      have hc := hcall.out wr u1 m i hlt hmh.out hA
      have hAh := Lib.hid hA
      obtain ⟨pi, hpi⟩ : ∃ z, Hid (ps.getD i undef = z) := ⟨_, Lib.hid rfl⟩
      rw [hpi.out] at ci hc
      clear hKr hA
      go_wp2_with fail
      refine hc.mono ?_
      rintro e w3 ⟨v3, m3, rfl, q1, q2, q3, q4⟩
      have hA3 := Lib.hid (hstep.out wr w3 u1 v3 m m3 hAh.out q2 q3 q4)
      have hq1 := Lib.hid q1
      clear q1 q2 q3 q4 hc
      go_wp2_with fail
      go_roundg (16 - i)
      case measure => omega
      case rel =>
        refine ⟨i + 1, m ++ m3, by go_num, by have := hlth.out; omega, by have := hlth.out; omega, ?_, hA3.out⟩
        rw [kidsL_succ]
        exact hmh.out.append hq1.out
    · have hin : i = 16 := by omega
      have hge : ¬ (i : Int) < 16 := by omega
      have hperm := Lib.hid ((show m.Perm (kidsL f l 16) by rw [← hin]; exact hmh.out).trans (kidsL_all f l))
      have hAh := Lib.hid hA
      clear hA hkk hlt
      go_wp2_with fail
      go_ret
      obtain ⟨A, c, hs, h1, h2, h3⟩ := hAh.out
      rw [hs]
      exact ⟨_, m, rfl, hperm.out, h1, h3, h2⟩
theorem allL_t : ∀ (f : Nat) (w : World) (X : List Nat) (l : List Pr) (p v : Value) (out : List Pr), NodeAt w X f l p → Own w 66 2 v out.length (pairCells out) → (∀ g ∈ rowOf v, g ∈ X) → out.length + l.length ≤ 1000000 →
   Calls Try.prog 64 #[p, v] w (AppPost w v out l)
  | f, w, X, [], p, v, out, hN, hO, _, _ => by
    rw [node_nil.1 hN]
    exact allL_nil w v out hO
  | f, w, X, [y], p, v, out, hN, hO, hv, hm => allL_leaf w X _ _ p v out (node_one.1 hN) rfl hO hv hm
  | 0, w, X, y :: z :: l, p, v, out, hN, hO, hv, hm => allL_leaf w X _ _ p v out ((node_leaf (by simp)).1 hN) rfl hO hv hm
  | f + 1, w, X, y :: z :: l, p, v, out, hN, hO, hv, hm => by
    obtain ⟨ps, h1, h2⟩ := (node_branch (by simp)).1 hN
    exact allL_branch f w X _ _ (dig_length _ _) ps p v out h1 h2 hO hv hm (allL_t f)

/-- What rising tells: the pairs in a row of its own. -/
def RisePost (w : World) (l : List Pr) (e : Ending) (w' : World) : Prop := ∃ v, e = .returned v ∧ Own w' 66 2 v l.length (pairCells l) ∧ Fr [] w w' ∧ ∀ g, g ∈ rowOf v → w.heap.size ≤ g
set_option maxHeartbeats 1000000 in
theorem rising_t (w : World) (X : List Nat) (f : Nat) (l : List Pr) (p : Value) (hN : NodeAt w X f l p) (hr : Rising l) (hm : l.length ≤ 100000) : Calls Try.prog 46 #[p] w (RisePost w l) := by
  have hall := allL_t f w X l p (.slice none 0 0) [] hN (Own.nil _ _ _) (by simp [rowOf, Value.ownBlock]) (by simp; omega)
  clear hN
  go_enter Try.func46, Try.ntmps46
  go_wp2_with fail
  refine hall.mono ?_
  rintro e w2 ⟨v2, m, rfl, q1, q2, q3, q4⟩
  have q5 : ∀ g, g ∈ rowOf v2 → w.heap.size ≤ g := fun g hg => (q4 g hg).elim (fun h => by simp [rowOf, Value.ownBlock] at h) id
  have q3' : Fr [] w w2 := q3.mono (fun i hi => by simp [rowOf, Value.ownBlock] at hi)
  rw [List.nil_append] at q2
  have hml := q1.length_eq
  have q1h := Lib.hid q1
  clear hall q3 q4 q1
  by_cases h0 : m.length = 0
  · have hm0 : m = [] := List.eq_nil_of_length_eq_zero h0
    have hl0 : l = [] := List.eq_nil_of_length_eq_zero (by omega)
    subst hl0
    subst hm0
    obtain ⟨A3, c3, rfl, hA3⟩ := q2.form
    have q2h := Lib.hid q2
    clear hml h0 q2
    go_wp2_with (go_at_call 50; refine (sort0_t _ _ _ _).mono ?_; rintro e w' ⟨rfl, rfl⟩)
    go_ret
    exact ⟨_, rfl, q2h.out, q3', q5⟩
  · have hs := sort_t w2 v2 m.length m q2 rfl (by omega) (by omega)
    go_wp2_with (go_at_call 50; refine hs.mono ?_; rintro e w3 ⟨rfl, l', r1, r2, r3, r4⟩)
    go_ret
    obtain rfl := sorted_perm hr (r1.trans q1h.out) r2
    exact ⟨_, rfl, by rw [← hml]; exact r3, q3'.andThen r4 (fun i hi => .inr (q5 i hi)), q5⟩
end Go.Proofs.Ytlhkkffljjbdmaa
