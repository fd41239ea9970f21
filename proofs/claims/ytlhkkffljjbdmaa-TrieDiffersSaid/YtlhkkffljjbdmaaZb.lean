/- Walks of the trie: what differs in two nodes. Conditions: each theorem's own. -/
import Derived.Test.YtlhkkffljjbdmaaUe
import Derived.Test.YtlhkkffljjbdmaaZa
namespace Go.Proofs.Ytlhkkffljjbdmaa
open Go.RowKit Go.Sig

set_option maxRecDepth 100000 in
set_option maxHeartbeats 1000000 in
theorem differ_alike (w : World) (X Y : List Nat) (f g : Nat) (l m : List Pr) (p q v : Value) (hN : NodeAt w X f l p) (hM : NodeAt w Y g m q) (hd : dig f l = dig g m) :
   Calls Try.prog 53 #[p, q, v] w fun e w' => e = .returned v ∧ Fr [] w w' := by
  have h1 := nsum_t w X f l p hN
  have h2 := fun (W : World) (hF : Fr [] w W) => nsum_t W Y g m q (hM.fr0 hF)
  have hl := dig_length g m
  rw [hd] at h1
  obtain ⟨D, HD⟩ : ∃ x, Hid (dig g m = x) := ⟨_, Lib.hid rfl⟩
  rw [HD.out] at h1 hl
  simp only [HD.out] at h2
  have heq := eql_dig D D hl hl
  rw [beq_self_eq_true] at heq
  have h2h := Lib.hid h2
  clear h2 hN hM hd
  go_enter Try.func53, Try.ntmps53
  go_wp2_with fail
  refine h1.mono ?_
  rintro e W1 ⟨rfl, F1⟩
  have h2 := h2h.out W1 F1
  unfold digCells at h2 ⊢
  clear h1
  go_wp2_with (go_at_call 45; refine h2.mono ?_; rintro e W2 ⟨rfl, F2⟩)
  go_ret
  exact ⟨rfl, F1.trans F2⟩
def strCells (ls : List ByteArray) : List Value := ls.map Value.string
theorem strCells_append (a b : List ByteArray) : strCells (a ++ b) = strCells a ++ strCells b := List.map_append
theorem strCells_one (l : List ByteArray) : ∀ u ∈ strCells l, u.oneCell' = true := strings_one l
theorem tStrs : SliceTy Try.prog 68 9 1 16 (.string ⟨#[]⟩) := ⟨by kernel_rfl, by kernel_rfl, rfl, by decide⟩
theorem uMss : Try.prog.underlying 129 = some (.map 9 9) := by kernel_rfl
theorem kStr : KeyOk Try.prog 9 (fun s : ByteArray => Value.string s) := keyOk_string (by kernel_rfl)
/-- What is told of names, when their own row, or a new one, holds them. -/
def SPost (w : World) (v : Value) (out m : List ByteArray) (e : Ending) (w' : World) : Prop :=
  ∃ v' ds, e = .returned v' ∧ ds.Perm m ∧ Own w' 9 1 v' (out ++ ds).length (strCells (out ++ ds)) ∧ Fr (rowOf v) w w' ∧ ∀ g, g ∈ rowOf v' → g ∈ rowOf v ∨ w.heap.size ≤ g
/-- Names under way behind those that came in. -/
def SApp (w wr : World) (v : Value) (out : List ByteArray) (s : Value) (m : List ByteArray) : Prop :=
  ∃ A c, s = .slice A (out ++ m).length c ∧ Own wr 9 1 (.slice A (out ++ m).length c) (out ++ m).length (strCells (out ++ m)) ∧ (∀ g, g ∈ rowOf (.slice A (out ++ m).length c) → g ∈ rowOf v ∨ w.heap.size ≤ g) ∧ Fr (rowOf v) w wr
theorem SApp.start {w wr : World} {v : Value} {out : List ByteArray} (hO : Own w 9 1 v out.length (strCells out)) (hF : Fr [] w wr) : SApp w wr v out v [] := by
  obtain ⟨A, c, rfl, _⟩ := hO.form
  unfold SApp
  rw [List.append_nil]
  exact ⟨A, c, rfl, hO.fr hF (by simp), fun g hg => .inl hg, hF.nil⟩
theorem SApp.fr0 {w wr w2 : World} {v s : Value} {out m : List ByteArray} (h : SApp w wr v out s m) (hF : Fr [] wr w2) : SApp w w2 v out s m := by
  obtain ⟨A, c, rfl, h1, h2, h3⟩ := h
  exact ⟨A, c, rfl, h1.fr hF (by simp), h2, h3.trans hF.nil⟩
theorem SApp.past {w wr w2 : World} {v s : Value} {out m : List ByteArray} {b : Nat} (h : SApp w wr v out s m) (hF : Fr [b] wr w2) (hb : w.heap.size ≤ b) (hs : b ∉ rowOf s) : SApp w w2 v out s m := by
  obtain ⟨A, c, rfl, h1, h2, h3⟩ := h
  exact ⟨A, c, rfl, h1.fr hF (fun g hg hx => hs (by simp at hx; rw [← hx]; exact hg)), h2, h3.andThen hF (fun x hx => .inr (by simp at hx; omega))⟩
theorem SApp.next {w wr w2 : World} {v s v2 : Value} {out m m2 : List ByteArray} (h : SApp w wr v out s m) (o2 : Own w2 9 1 v2 (out ++ m ++ m2).length (strCells (out ++ m ++ m2))) (f2 : Fr (rowOf s) wr w2)
    (r2 : ∀ g, g ∈ rowOf v2 → g ∈ rowOf s ∨ wr.heap.size ≤ g) : SApp w w2 v out v2 (m ++ m2) := by
  obtain ⟨A, c, rfl, h1, h2, h3⟩ := h
  obtain ⟨A3, c3, rfl, hA3⟩ := o2.form
  unfold SApp
  rw [← List.append_assoc]
  exact ⟨A3, c3, rfl, o2, fun g hg => (r2 g hg).elim (h2 g) (fun hh => .inr (Nat.le_trans h3.size hh)), h3.andThen f2 h2⟩
theorem SApp.frv {w wr : World} {v s : Value} {out m : List ByteArray} (h : SApp w wr v out s m) : Fr (rowOf v) w wr := by
  obtain ⟨A, c, _, h1, h2, h3⟩ := h
  exact h3
theorem SApp.post {w wr : World} {v s : Value} {out m m2 : List ByteArray} (h : SApp w wr v out s m) (hp : m.Perm m2) : SPost w v out m2 (.returned s) wr := by
  obtain ⟨A, c, rfl, h1, h2, h3⟩ := h
  exact ⟨_, m, rfl, hp, h1, h3, h2⟩
theorem dfN_length (l m : List Pr) : (dfN l m).length ≤ l.length + m.length := by
  unfold dfN dfA dfB
  rw [List.length_append, List.length_map, List.length_map]
  exact Nat.add_le_add (List.length_filter_le _ _) (List.length_filter_le _ _)
/-- What differs in the first i kids. -/
def kidsN (f : Nat) (l m : List Pr) (i : Nat) : List ByteArray := (List.range i).flatMap fun k => dfN (kid f l k) (kid f m k)
theorem kidsN_succ (f : Nat) (l m : List Pr) (i : Nat) : kidsN f l m (i + 1) = kidsN f l m i ++ dfN (kid f l i) (kid f m i) := dfN_snoc f l m i
theorem kidsN_length (f : Nat) (l m : List Pr) : ∀ i, (kidsN f l m i).length ≤ (kidsL f l i).length + (kidsL f m i).length
  | 0 => by simp [kidsN]
  | i + 1 => by
    have h1 := kidsN_length f l m i
    have h2 := dfN_length (kid f l i) (kid f m i)
    rw [kidsN_succ, kidsL_succ, kidsL_succ, List.length_append, List.length_append, List.length_append]
    omega
theorem kidsN_room (f : Nat) (l m : List Pr) (i : Nat) : (kidsN f l m i).length + (kid f l i).length + (kid f m i).length ≤ l.length + m.length := by
  have h1 := kidsN_length f l m i
  have h2 := kidsL_length_le f l (i + 1)
  have h3 := kidsL_length_le f m (i + 1)
  rw [kidsL_succ, List.length_append] at h2 h3
  omega
/-- What differ does to two nodes at one depth. -/
def DifferT (f : Nat) : Prop := ∀ (w : World) (X : List Nat) (l m : List Pr) (p q v : Value) (out : List ByteArray), NodeAt w X f l p → NodeAt w X f m q → Own w 9 1 v out.length (strCells out) → (∀ g ∈ rowOf v, g ∈ X) → Rising l → Rising m → alk f l m = false →
    out.length + l.length + m.length ≤ 1000000 → Calls Try.prog 53 #[p, q, v] w (SPost w v out (dfN l m))
theorem getD_cell {w : World} {k i : Nat} {ps : List Value} {ty : TypeId} (hK : Blk w k ty ps.toArray) (hi : i < ps.length) : w.cell? ⟨k, i, none⟩ = some (ps.getD i undef) := by
  rw [hK.cell, List.getElem?_toArray]
  exact getD_some hi

set_option maxRecDepth 100000 in
set_option maxHeartbeats 4000000 in
theorem differ_branch (f : Nat) (ih : DifferT f) (w : World) (X : List Nat) (l m : List Pr) (p q v : Value) (out : List ByteArray) (hN : NodeAt w X (f + 1) l p) (hM : NodeAt w X (f + 1) m q) (hO : Own w 9 1 v out.length (strCells out)) (hv : ∀ g ∈ rowOf v, g ∈ X)
    (hr : Rising l) (hr2 : Rising m) (hal : alk (f + 1) l m = false) (hne : dig (f + 1) l ≠ dig (f + 1) m) (hl2 : 2 ≤ l.length) (hm2 : 2 ≤ m.length) (hmax : out.length + l.length + m.length ≤ 1000000) :
    Calls Try.prog 53 #[p, q, v] w (SPost w v out (dfN l m)) := by
  have h1 := nsum_t w X (f + 1) l p hN
  have h2 := fun (W : World) (hF : Fr [] w W) => nsum_t W X (f + 1) m q (hM.fr0 hF)
  have hlD := dig_length (f + 1) l
  have hlE := dig_length (f + 1) m
  obtain ⟨ps, hb, hkids⟩ := (node_branch hl2).1 hN
  obtain ⟨qs, hb2, hkids2⟩ := (node_branch hm2).1 hM
  obtain ⟨D, HD⟩ : ∃ x, Hid (dig (f + 1) l = x) := ⟨_, Lib.hid rfl⟩
  obtain ⟨E, HE⟩ : ∃ x, Hid (dig (f + 1) m = x) := ⟨_, Lib.hid rfl⟩
  rw [HD.out] at h1 hlD hb hne
  rw [HE.out] at hlE hb2 hne
  simp only [HE.out] at h2
  have heq := eql_dig D E hlD hlE
  rw [show (D == E) = false by simpa using hne] at heq
  have h2h := Lib.hid h2
  obtain ⟨g, k, rfl, hg, hk, hB, hK, hps⟩ := hb
  obtain ⟨g2, k2, rfl, hg2, hk2, hB2, hK2, hqs⟩ := hb2
  have hBf := Lib.hid (fun (w2 : World) (hF : Fr (rowOf v) w w2) => And.intro ((hB.fr hF (fun h => hg (hv g h))).lt) (((hB.fr hF (fun h => hg (hv g h))).cell 33).trans (nodeCells_at hlD).2.1))
  have hBf2 := Lib.hid (fun (w2 : World) (hF : Fr (rowOf v) w w2) => And.intro ((hB2.fr hF (fun h => hg2 (hv g2 h))).lt) (((hB2.fr hF (fun h => hg2 (hv g2 h))).cell 33).trans (nodeCells_at hlE).2.1))
  have hKf := Lib.hid (fun (w2 : World) (hF : Fr (rowOf v) w w2) => hK.fr hF (fun h => hk (hv k h)))
  have hKf2 := Lib.hid (fun (w2 : World) (hF : Fr (rowOf v) w w2) => hK2.fr hF (fun h => hk2 (hv k2 h)))
  have hcall := Lib.hid (fun (wr : World) (s : Value) (mm : List ByteArray) (i : Nat) (hi : i < 16) (hm : mm.Perm (kidsN f l m i)) (h : SApp w wr v out s mm) => show Calls Try.prog 53 #[ps.getD i undef, qs.getD i undef, s] wr (SPost wr s (out ++ mm) (dfN (kid f l i) (kid f m i))) by
    obtain ⟨A, c, rfl, h1, h2, h3⟩ := h
    have hap : Apart w wr X (rowOf (.slice A (out ++ mm).length c) ++ X) (rowOf v) := ⟨h3, fun s hs => .inl (hv s hs), fun y hy => (List.mem_append.1 hy).elim (fun hy => (h2 y hy).imp (hv y) id) .inl⟩
    refine ih wr (rowOf (.slice A (out ++ mm).length c) ++ X) _ _ _ _ _ _ ((hkids i hi).go hap) ((hkids2 i hi).go hap) h1 (fun g hg => List.mem_append.2 (.inl hg)) (kid_rising hr) (kid_rising hr2) (alk_kid hal hl2 hi) ?_
    have e1 := hm.length_eq
    have e2 := kidsN_room f l m i
    rw [List.length_append]
    omega)
  have hOh := Lib.hid hO
  have hvh := Lib.hid hv
  clear hB hK hB2 hK2 hv ih hkids hkids2 hN hM h2 hne hr hr2 hal hO
  go_enter Try.func53, Try.ntmps53
  go_wp2_with fail
  refine h1.mono ?_
  rintro e W1 ⟨rfl, F1⟩
  have h2 := h2h.out W1 F1
  unfold digCells at h2 ⊢
  clear h1
  go_wp2_with fail
  refine h2.mono ?_
  rintro e W2 ⟨rfl, F2⟩
  have fW := Lib.hid (F1.trans F2)
  clear h2 F2 F1
  obtain ⟨hgl, cg⟩ := hBf.out W2 fW.out.nil
  obtain ⟨hgl2, cg2⟩ := hBf2.out W2 fW.out.nil
  go_wp2_with fail
  have hA0 : SApp w W2 v out v [] := SApp.start hOh.out fW.out
  clear hgl cg hgl2 cg2
  go_loopg [2, 7, 42] 17 (fun gk s2 s7 s42 wr => ∃ (i : Nat) (mm : List ByteArray), s42 = .int .i64 i ∧ i ≤ 16 ∧ 16 - i < gk ∧ mm.Perm (kidsN f l m i) ∧ SApp w wr v out s2 mm)
  case atStart => exact ⟨0, [], rfl, by omega, by omega, .refl _, hA0⟩
  case round =>
    clear hA0
    obtain ⟨i, mm, rfl, hi, hkk, hm, hA⟩ := hrel
    have hmh := Lib.hid hm
    have hFw := Lib.hid (show Fr (rowOf v) w wr from by obtain ⟨A, c, _, h1, h2, h3⟩ := hA; exact h3)
    have hAh := Lib.hid hA
    clear hm hA
    by_cases hlt : i < 16
    · have hlt' : (i : Int) < 16 := by omega
      have hlth := Lib.hid hlt
      have hKr := hKf.out _ hFw.out
      have hKr2 := hKf2.out _ hFw.out
      have hkl := hKr.lt
      have hkl2 := hKr2.lt
      have ci := getD_cell hKr (show i < ps.length by omega)
      have ci2 := getD_cell hKr2 (show i < qs.length by omega)
      obtain ⟨hgl, cg⟩ := hBf.out wr hFw.out
      obtain ⟨hgl2, cg2⟩ := hBf2.out wr hFw.out
      have hc := fun (W : World) (hF : Fr [] wr W) => hcall.out W u2 mm i hlt hmh.out (hAh.out.fr0 hF)
      obtain ⟨pi, hpi⟩ : ∃ z, Hid (ps.getD i undef = z) := ⟨_, Lib.hid rfl⟩
      obtain ⟨qi, hqi⟩ : ∃ z, Hid (qs.getD i undef = z) := ⟨_, Lib.hid rfl⟩
      rw [hpi.out] at ci
      rw [hqi.out] at ci2
      simp only [hpi.out, hqi.out] at hc
      clear hKr hKr2
      go_upto_region 7 with (fail)
      go_region_held3 (fun w' => w'.cell? ⟨g, 33, none⟩ = some (.pointer (some ⟨k, 0, none⟩)) ∧ w'.cell? ⟨g2, 33, none⟩ = some (.pointer (some ⟨k2, 0, none⟩)) ∧ w'.cell? ⟨k, i, none⟩ = some pi ∧ w'.cell? ⟨k2, i, none⟩ = some qi) (first | exact ⟨cg, cg2, ci, ci2⟩ | exact ⟨k1, k2, k3, k4⟩) (first
        | (go_at_call 53; refine (hc _ (Fr.refl [] wr).drew).mono ?_; rintro e w3 ⟨v3, m3, rfl, q1, q2, q3, q4⟩; have hA3 := Lib.hid ((hAh.out.fr0 (Fr.refl [] wr).drew).next q2 q3 q4); have hq1 := Lib.hid q1; have k1 := (hBf.out _ hA3.out.frv).2; have k2 := (hBf2.out _ hA3.out.frv).2; have k3 := getD_cell (hKf.out _ hA3.out.frv) (show i < ps.length by omega); have k4 := getD_cell (hKf2.out _ hA3.out.frv) (show i < qs.length by omega); rw [hpi.out] at k3; rw [hqi.out] at k4; clear q1 q2 q3 q4; dsimp only))
      clear hc cg cg2 ci ci2
      go_wp2_with fail
      go_roundg (16 - i)
      case measure => omega
      case rel =>
        refine ⟨i + 1, mm ++ m3, by go_num, by have := hlth.out; omega, by have := hlth.out; omega, ?_, hA3.out⟩
        rw [kidsN_succ]
        exact hmh.out.append hq1.out
    · have hin : i = 16 := by omega
      have hge : ¬ (i : Int) < 16 := by omega
      have hperm := Lib.hid ((show mm.Perm (kidsN f l m 16) by rw [← hin]; exact hmh.out).trans (dfN_kids f l m))
      clear hkk hlt
      go_wp2_with fail
      go_ret
      exact hAh.out.post hperm.out

/-- A node's block, and what it says of its kids. -/
def PtrAt (w : World) (p : Value) (k : Option Addr) : Prop := ∃ g, p = .pointer (some ⟨g, 0, none⟩) ∧ g < w.heap.size ∧ w.cell? ⟨g, 33, none⟩ = some (.pointer k)
theorem PtrAt.fr0 {w w2 : World} {p : Value} {k : Option Addr} (h : PtrAt w p k) (hF : Fr [] w w2) : PtrAt w2 p k := by
  obtain ⟨g, rfl, hg, hc⟩ := h
  exact ⟨g, rfl, Nat.lt_of_lt_of_le hg hF.size, (hF.cell (p := ⟨g, 33, none⟩) hg (by simp)).trans hc⟩
theorem leaf_ptr {w : World} {X : List Nat} {D : List UInt8} (hD : D.length = 32) {l : List Pr} {p : Value} (h : LeafAt w X D l p) : PtrAt w p none := by
  obtain ⟨g, A, c, rfl, hg, hB, hR, hc, hA⟩ := h
  exact ⟨g, rfl, hB.lt, (hB.cell 33).trans (nodeCells_at hD).2.1⟩
theorem node_kind {w : World} {X : List Nat} : ∀ {f : Nat} {l : List Pr} {p : Value}, NodeAt w X f l p → p = nilP ∨ PtrAt w p none ∨ ((∃ a, PtrAt w p (some a)) ∧ 2 ≤ l.length ∧ 0 < f)
  | f, [], p, h => .inl (node_nil.1 h)
  | f, [y], p, h => .inr (.inl (leaf_ptr rfl (node_one.1 h)))
  | 0, y :: z :: l, p, h => .inr (.inl (leaf_ptr rfl ((node_leaf (by simp)).1 h)))
  | f + 1, y :: z :: l, p, h => by
    obtain ⟨ps, ⟨g, k, rfl, hg, hk, hB, hK, hps⟩, h2⟩ := (node_branch (by simp)).1 h
    exact .inr (.inr ⟨⟨_, g, rfl, hB.lt, (hB.cell 33).trans (nodeCells_at (dig_length _ _)).2.1⟩, by simp, by omega⟩)
/-- Not both nodes have kids. -/
def FlatAt (w : World) (p q : Value) : Prop := p = nilP ∨ (∃ k, PtrAt w p k) ∧ (q = nilP ∨ (PtrAt w p none ∧ ∃ k, PtrAt w q k) ∨ ((∃ a, PtrAt w p (some a)) ∧ PtrAt w q none))
theorem FlatAt.fr0 {w w2 : World} {p q : Value} (h : FlatAt w p q) (hF : Fr [] w w2) : FlatAt w2 p q := by
  rcases h with h | ⟨⟨k, h⟩, h2 | ⟨h2, k2, h3⟩ | ⟨⟨a, h2⟩, h3⟩⟩
  · exact .inl h
  · exact .inr ⟨⟨k, h.fr0 hF⟩, .inl h2⟩
  · exact .inr ⟨⟨k, h.fr0 hF⟩, .inr (.inl ⟨h2.fr0 hF, k2, h3.fr0 hF⟩)⟩
  · exact .inr ⟨⟨k, h.fr0 hF⟩, .inr (.inr ⟨⟨a, h2.fr0 hF⟩, h3.fr0 hF⟩)⟩
theorem node_flat {w : World} {X : List Nat} {f : Nat} {l m : List Pr} {p q : Value} (hN : NodeAt w X f l p) (hM : NodeAt w X f m q) (h : f = 0 ∨ l.length ≤ 1 ∨ m.length ≤ 1) : FlatAt w p q := by
  rcases node_kind hN with h1 | h1 | ⟨⟨a, h1⟩, h1l, hf⟩
  · exact .inl h1
  · refine .inr ⟨⟨_, h1⟩, ?_⟩
    rcases node_kind hM with h2 | h2 | ⟨⟨a, h2⟩, _, _⟩
    · exact .inl h2
    · exact .inr (.inl ⟨h1, _, h2⟩)
    · exact .inr (.inl ⟨h1, _, h2⟩)
  · refine .inr ⟨⟨_, h1⟩, ?_⟩
    rcases node_kind hM with h2 | h2 | ⟨_, h2l, _⟩
    · exact .inl h2
    · exact .inr (.inr ⟨⟨a, h1⟩, h2⟩)
    · omega
theorem aget_adel_same {s : ByteArray} : ∀ {M : List Pr}, (M.map (·.1)).Nodup → aget s (adel s M) = none
  | [], _ => rfl
  | (a, x) :: M, h => by
    rw [List.map_cons, List.nodup_cons] at h
    rw [adel]
    by_cases e : a = s
    · rw [if_pos e]
      subst e
      exact aget_none_iff.2 h.1
    · rw [if_neg e, aget, if_neg e]
      exact aget_adel_same h.2
theorem aget_adel_other {s k : ByteArray} (hne : s ≠ k) : ∀ {M : List Pr}, aget s (adel k M) = aget s M
  | [] => rfl
  | (a, x) :: M => by
    rw [adel]
    by_cases e : a = k
    · rw [if_pos e, aget, if_neg (by rw [e]; exact fun e2 => hne e2.symm)]
    · rw [if_neg e, aget, aget, aget_adel_other hne]
theorem aget_aset {s k v : ByteArray} {M : List Pr} : aget s (aset k v M) = if k = s then some v else aget s M := by
  by_cases e : k = s
  · subst e
    rw [if_pos rfl, aget_aset_same]
  · rw [if_neg e, aget_aset_other (fun e2 => e e2.symm)]
theorem pr_new {w : World} (y1 y2 : ByteArray) : Blk (w.alloc (.cells #[.string y1, .string y2] 66)) w.heap.size 66 #[.string y1, .string y2] ∧ Fr [] w (w.alloc (.cells #[.string y1, .string y2] 66)) := ⟨Blk.new _ _ _, (Fr.refl _ _).alloc _⟩
theorem str_new (w : World) (s : ByteArray) (ty : TypeId) : Rd (w.alloc (.cells #[.string s] ty)) 1 (some ⟨w.heap.size, 0, none⟩) 1 (strCells [s]) := by
  refine ⟨rfl, fun _ => ⟨_, 0, rfl, fun j u hu => ?_⟩⟩
  rw [(Blk.new w ty #[.string s]).cell, Nat.zero_add]
  simpa [strCells] using hu

set_option maxRecDepth 100000 in
set_option maxHeartbeats 8000000 in
theorem differ_flat (f : Nat) (w : World) (X : List Nat) (l m : List Pr) (p q v : Value) (out : List ByteArray) (hN : NodeAt w X f l p) (hM : NodeAt w X f m q) (hO : Own w 9 1 v out.length (strCells out)) (hv : ∀ g ∈ rowOf v, g ∈ X)
    (hr : Rising l) (hr2 : Rising m) (hne : dig f l ≠ dig f m) (hfl : FlatAt w p q) (hmax : out.length + l.length + m.length ≤ 1000000) :
    Calls Try.prog 53 #[p, q, v] w (SPost w v out (dfN l m)) := by
  have h1 := nsum_t w X f l p hN
  have h2 := fun (W : World) (hF : Fr [] w W) => nsum_t W X f m q (hM.fr0 hF)
  have hlD := dig_length f l
  have hlE := dig_length f m
  obtain ⟨D, HD⟩ : ∃ x, Hid (dig f l = x) := ⟨_, Lib.hid rfl⟩
  obtain ⟨E, HE⟩ : ∃ x, Hid (dig f m = x) := ⟨_, Lib.hid rfl⟩
  rw [HD.out] at h1 hlD hne
  rw [HE.out] at hlE hne
  simp only [HE.out] at h2
  have heq := eql_dig D E hlD hlE
  rw [show (D == E) = false by simpa using hne] at heq
  have h2h := Lib.hid h2
  have hNh := Lib.hid hN
  have hMh := Lib.hid hM
  have hOh := Lib.hid hO
  have hvh := Lib.hid hv
  have hflh := Lib.hid hfl
  have hrh := Lib.hid hr
  have hrh2 := Lib.hid hr2
  clear hN hM hO hv hfl h2 hne hr hr2
  go_enter Try.func53, Try.ntmps53
  go_wp2_with fail
  refine h1.mono ?_
  rintro e W1 ⟨rfl, F1⟩
  have h2 := h2h.out W1 F1
  unfold digCells at h2 ⊢
  clear h1
  go_wp2_with fail
  refine h2.mono ?_
  rintro e W2 ⟨rfl, F2⟩
  have fW := Lib.hid (F1.trans F2)
  clear h2 F2 F1
  go_upto_region 3 with (fail)
  go_cut [41] from 22 to 40 (fun s41 wx => s41 = .bool false ∧ Fr [] W2 wx)
  case first =>
    rcases hflh.out.fr0 fW.out with h | ⟨⟨k, h⟩, h2 | ⟨h2, k2, h3⟩ | ⟨⟨a, h2⟩, h3⟩⟩
    · unfold nilP at h
      subst h
      go_wp2_with fail
      go_meet
      exact ⟨rfl, Fr.refl _ _⟩
    · unfold nilP at h2
      subst h2
      obtain ⟨g, rfl, hg, hc⟩ := h
      go_wp2_with fail
      go_meet
      exact ⟨rfl, Fr.refl _ _⟩
    · clear h
      obtain ⟨g, rfl, hg, hc⟩ := h2
      obtain ⟨g2, rfl, hg2, hc2⟩ := h3
      go_wp2_with fail
      go_meet
      exact ⟨rfl, Fr.refl _ _⟩
    · clear h
      obtain ⟨g, rfl, hg, hc⟩ := h2
      obtain ⟨g2, rfl, hg2, hc2⟩ := h3
      go_wp2_with fail
      go_meet
      exact ⟨rfl, Fr.refl _ _⟩
  case rest =>
    obtain ⟨rfl, hFc⟩ := hcut
    have fc := Lib.hid (fW.out.trans hFc)
    clear hFc
    have hmm := @run_makeMap Try.prog
    go_upto_region 11 with (fail)
    clear hmm
    refine wp_gen (fun W => IsMap W wc.heap.size Value.string Value.string ([] : List Pr) ∧ Fr [] wc W) ⟨IsMap.new _ _ _, (Fr.refl _ _).alloc _⟩ ?_
    rintro W3 ⟨hM3, F3⟩
    obtain ⟨gm, HGM⟩ : ∃ z, Hid (wc.heap.size = z) := ⟨_, Lib.hid rfl⟩
    rw [HGM.out] at hM3 ⊢
    have f3 := Lib.hid (fc.out.trans F3)
    have hgw : w.heap.size ≤ gm := by have := HGM.out; have := fc.out.size; omega
    have hg3 := hM3.lt
    have hall := allL_t f W3 X l p (.slice none 0 0) [] (hNh.out.fr0 f3.out) (Own.nil _ _ _) (by simp [rowOf, Value.ownBlock]) (by simp; omega)
    have hM3h := Lib.hid hM3
    clear F3 hM3
    go_wp2_with fail
    refine hall.mono ?_
    rintro e W4 ⟨v4, la, rfl, hpa, hOa, hFa, hRa⟩
    rw [List.nil_append] at hOa
    obtain ⟨A4, c4, rfl, hA4⟩ := hOa.form
    have f34 : Fr [] W3 W4 := by simpa [rowOf, Value.ownBlock] using hFa
    have hM4 := Lib.hid (hM3h.out.fr f34 (by simp))
    have hRo : Hid (∀ g ∈ rowOf (.slice A4 la.length c4), g ≠ gm) := Lib.hid (fun g hg => by
      rcases hRa g hg with h | h
      · simp [rowOf, Value.ownBlock] at h
      · omega)
    have hOa' := Lib.hid hOa
    have hpah := Lib.hid hpa
    have hlal : la.length = l.length := hpa.length_eq
    obtain ⟨n1, hn1⟩ : ∃ z, Hid (la.length = z) := ⟨_, Lib.hid rfl⟩
    rw [hn1.out] at hlal hRo ⊢
    have hOa2 := hOa'.out
    rw [hn1.out] at hOa2
    have hOah := Lib.hid hOa2
    have hnd := Lib.hid ((hpa.map (·.1)).nodup_iff.2 (rising_nodup hrh.out))
    have f4 := Lib.hid (f3.out.trans f34)
    clear hFa hRa hOa hOa' hOa2 hpa hall f34 hA4
    go_upto_block 2 with (fail)
    go_cut [10, 69] from 70 to 78 (fun s10 s69 wx => (∃ M : List Pr, IsMap wx gm Value.string Value.string M ∧ ∀ s, aget s M = aget s la) ∧ Fr [gm] W4 wx)
    case first =>
      go_wp2_with fail
      go_loopg [10, 69] (n1 + 1) (fun gk s10 s69 wr => ∃ (i : Nat) (M : List Pr), s69 = .int .i64 i ∧ i ≤ n1 ∧ n1 - i < gk ∧ IsMap wr gm Value.string Value.string M ∧ (∀ s, aget s M = aget s (la.take i)) ∧ Fr [gm] W4 wr)
      case atStart => exact ⟨0, [], rfl, by omega, by omega, hM4.out, fun s => rfl, Fr.refl _ _⟩
      case round =>
        obtain ⟨i, M, rfl, hi, hk, hMr, hag, hF⟩ := hrel
        have hagh := Lib.hid hag
        have hFh := Lib.hid hF
        have hMh := Lib.hid hMr
        clear hag hF hMr
        by_cases hlt : i < n1
        · have hlt' : (i : Int) < n1 := by omega
          have hlth := Lib.hid hlt
          have hi' : i < la.length := by have := hn1.out; omega
          have hRr := (hOah.out.fr hFh.out (fun g hg hx => hRo.out g hg (by simpa using hx))).rd
          obtain ⟨b, o, rfl, hcell⟩ := hRr.2 (by omega)
          have hp := pairCells_at hi'
          have cn := hcell _ _ hp.1
          have cv := hcell _ _ hp.2
          rw [← Nat.add_assoc] at cv
          have htk := Lib.hid (aget_take_succ hnd.out hi')
          clear hcell hp hRr
          obtain ⟨⟨y1, y2⟩, hy⟩ : ∃ z, Hid (la[i] = z) := ⟨_, Lib.hid rfl⟩
          rw [hy.out] at cn cv htk
          simp only at cn cv
          go_upto_region 14 with (fail)
          refine wp_gen (fun W5 => Blk W5 wr.heap.size 66 #[.string y1, .string y2] ∧ Fr [] wr W5) (pr_new _ _) ?_
          rintro W5 ⟨hB5, F5⟩
          obtain ⟨g5, HG5⟩ : ∃ z, Hid (wr.heap.size = z) := ⟨_, Lib.hid rfl⟩
          rw [HG5.out] at hB5 ⊢
          have e0 := hB5.cell 0
          have e1 := hB5.cell 1
          simp only [List.getElem?_toArray, List.getElem?_cons_zero, List.getElem?_cons_succ] at e0 e1
          have hgl := hB5.lt
          have hM5 := hMh.out.fr F5 (by simp)
          have f5 := Lib.hid (hFh.out.trans F5.nil)
          clear cn cv F5 hB5
          go_wp2_with (refine wpList_map_set hM5 kStr uMss y1 y2 rfl rfl rfl rfl rfl (fun w6 hM6 ht => ?_))
          go_roundg (n1 - i)
          case measure => omega
          case rel =>
            refine ⟨i + 1, aset y1 y2 M, by go_num, by have := hlth.out; omega, by have := hlth.out; omega, hM6, fun s => ?_, f5.out.trans ht.fr⟩
            rw [aget_aset, htk.out s, hagh.out s]
        · have hge : ¬ (i : Int) < n1 := by omega
          have e : la.take i = la := List.take_of_length_le (by have := hn1.out; omega)
          rw [e] at hagh
          clear hlt hk
          go_wp2_with fail
          go_meet
          exact ⟨⟨M, hMh.out, hagh.out⟩, hFh.out⟩
    case rest =>
      obtain ⟨⟨M1, hM1, hag1⟩, hF1⟩ := hcut
      have hD1 := Lib.hid (MapD.start (fun s => (hag1 s).trans (aget_perm hpah.out hnd.out s)))
      have f1c := Lib.hid (f4.out.andThen hF1 (fun x hx => .inr (by simp at hx; omega)))
      have hM1h := Lib.hid hM1
      have hgc := hM1.lt
      have hall := allL_t f wc X m q (.slice none 0 0) [] (hMh.out.fr0 f1c.out) (Own.nil _ _ _) (by simp [rowOf, Value.ownBlock]) (by simp; omega)
      clear hM1 hag1 hF1
      go_wp2_with fail
      refine hall.mono ?_
      rintro e W5 ⟨v5, lb, rfl, hpb, hOb, hFb, hRb⟩
      rw [List.nil_append] at hOb
      obtain ⟨A5, c5, rfl, hA5⟩ := hOb.form
      have f45 : Fr [] wc W5 := by simpa [rowOf, Value.ownBlock] using hFb
      have hM5 := Lib.hid (hM1h.out.fr f45 (by simp))
      have hRo2 : Hid (∀ g ∈ rowOf (.slice A5 lb.length c5), wc.heap.size ≤ g) := Lib.hid (fun g hg => by
        rcases hRb g hg with h | h
        · simp [rowOf, Value.ownBlock] at h
        · exact h)
      have hpbh := Lib.hid hpb
      have hlbl : lb.length = m.length := hpb.length_eq
      obtain ⟨n2, hn2⟩ : ∃ z, Hid (lb.length = z) := ⟨_, Lib.hid rfl⟩
      rw [hn2.out] at hlbl hRo2 hOb ⊢
      have hObh := Lib.hid hOb
      have hnd2 := Lib.hid ((hpb.map (·.1)).nodup_iff.2 (rising_nodup hrh2.out))
      have hA0 := Lib.hid (SApp.start hOh.out (f1c.out.trans f45))
      have hgch := Lib.hid hgc
      have hgv : Hid (gm ∉ rowOf v) := Lib.hid (fun h => by have := hOh.out.lt gm h; omega)
      clear hFb hRb hOb hpb hall f45 hA5 hgc
      go_upto_block 4 with (fail)
      go_cut [2, 12, 13, 14, 82] from 83 to 110 (fun s2 s12 s13 s14 s82 wx => (∃ M : List Pr, IsMap wx gm Value.string Value.string M ∧ MapD M l lb) ∧ SApp w wx v out s2 (newN l lb) ∧ gm ∉ rowOf s2)
      case first =>
        go_wp2_with fail
        go_loopg [2, 12, 13, 14, 82] (n2 + 1) (fun gk s2 s12 s13 s14 s82 wr => ∃ (i : Nat) (M : List Pr), s82 = .int .i64 i ∧ i ≤ n2 ∧ n2 - i < gk ∧ IsMap wr gm Value.string Value.string M ∧ MapD M l (lb.take i) ∧ SApp w wr v out s2 (newN l (lb.take i)) ∧ (∀ g ∈ rowOf s2, g ∈ rowOf v ∨ W5.heap.size ≤ g) ∧ Fr (gm :: rowOf v) W5 wr)
        case atStart => exact ⟨0, M1, rfl, by omega, by omega, hM5.out, hD1.out, hA0.out, fun g hg => .inl hg, Fr.refl _ _⟩
        case round =>
          obtain ⟨i, M, rfl, hi, hk, hMr, hD, hA, hro, hF⟩ := hrel
          have hDh := Lib.hid hD
          have hFh := Lib.hid hF
          have hMh := Lib.hid hMr
          have hAh := Lib.hid hA
          have hgm5 := hM5.out.lt
          have hgrh : Hid (gm ∉ rowOf u2) := Lib.hid (fun h => by
            rcases hro gm h with h | h
            · exact hgv.out h
            · omega)
          have hroh := Lib.hid hro
          have hMn := Lib.hid hMr.nodup
          clear hD hF hMr hA hro hgm5
          by_cases hlt : i < n2
          · have hlt' : (i : Int) < n2 := by omega
            have hlth := Lib.hid hlt
            have hi' : i < lb.length := by have := hn2.out; omega
            have hRr := (hObh.out.fr hFh.out (fun g hg hx => by
              have h1 := hRo2.out g hg
              rcases List.mem_cons.1 hx with h | h
              · have := hgch.out; omega
              · have := hOh.out.lt g h; have := f1c.out.size; omega)).rd
            obtain ⟨b, o, rfl, hcell⟩ := hRr.2 (by omega)
            have hp := pairCells_at hi'
            have cn := hcell _ _ hp.1
            have cv := hcell _ _ hp.2
            rw [← Nat.add_assoc] at cv
            have hhere := hDh.out.here hnd2.out hi'
            have hkeep := Lib.hid (hDh.out.keep hnd2.out hi')
            have hgone := Lib.hid (fun (N : List Pr) => hDh.out.gone (N := N) hnd2.out hi')
            have hsn := Lib.hid (newN_snoc (l := l) hi')
            have hle := newN_le (l := l) (b := lb) (i := i)
            have hfit : (newN l (lb.take i)).length + out.length + 1 ≤ 1000000 := by omega
            clear hcell hp hRr hle
            obtain ⟨⟨y1, y2⟩, hy⟩ : ∃ z, Hid (lb[i] = z) := ⟨_, Lib.hid rfl⟩
            rw [hy.out] at cn cv hhere hkeep hgone hsn
            simp only at cn cv hhere
            obtain ⟨ns, hns⟩ : ∃ z, Hid (newN l (lb.take i) = z) := ⟨_, Lib.hid rfl⟩
            rw [hns.out] at hAh hsn hfit
            go_upto_region 19 with (fail)
            refine wp_gen (fun W6 => Blk W6 wr.heap.size 66 #[.string y1, .string y2] ∧ Fr [] wr W6) (pr_new _ _) ?_
            rintro W6 ⟨hB6, F6⟩
            obtain ⟨g6, HG6⟩ : ∃ z, Hid (wr.heap.size = z) := ⟨_, Lib.hid rfl⟩
            rw [HG6.out] at hB6 ⊢
            have e0 := hB6.cell 0
            have e1 := hB6.cell 1
            simp only [List.getElem?_toArray, List.getElem?_cons_zero, List.getElem?_cons_succ] at e0 e1
            have hgl := hB6.lt
            have hM6 := hMh.out.fr F6 (by simp)
            have hA6 := Lib.hid (hAh.out.fr0 F6)
            have f6 := Lib.hid (hFh.out.trans F6.nil)
            have hw6 := F6.size
            clear cn cv F6 hB6
            cases hag : aget y1 l with
            | none =>
              rw [hag] at hhere hkeep hgone hsn
              clear hag
              obtain ⟨A7, c7, rfl, hO7, hR7, hF7⟩ := hA6.out
              obtain ⟨n7, hn7⟩ : ∃ z, Hid ((out ++ ns).length = z) := ⟨_, Lib.hid rfl⟩
              have hn7b : n7 + 1 ≤ 1000000 := by have := hn7.out; rw [List.length_append] at this; omega
              rw [hn7.out] at hO7 hgrh hroh hA6 ⊢
              go_wp2_with (first
                | (refine wpList_map_get_ok hM6 kStr uMss (z := .string ⟨#[]⟩) (fun _ => rfl) y1 rfl rfl rfl rfl ?_; simp only [hhere, Option.map_none, Option.getD_none, Option.isSome_none])
                | (refine wpList_own_append tStrs (hO7.fr ((Fr.refl [] _).alloc _) (by simp)) (str_new _ _ _) (strCells_one _) (by simp) (by unfold maxLen; omega) (by omega) rfl rfl rfl rfl (fun v2 w2 p1 p2 p3 => ?_); obtain ⟨A8, c8, rfl, hA8⟩ := p1.form))
              go_roundg (n2 - i)
              case measure => omega
              case rel =>
                have hnxt := hA6.out.next (v2 := .slice A8 (n7 + 1) c8) (m2 := [y1]) (by rw [show (out ++ ns ++ [y1]).length = n7 + 1 from by rw [← hn7.out]; simp [Nat.add_assoc], strCells_append]; exact p1) ((((Fr.refl [] _).alloc _).nil).trans p2) (fun g hg => (p3 g hg).imp id (fun e => by rw [e]; simp))
                refine ⟨i + 1, M, by go_num, by have := hlth.out; omega, by have := hlth.out; omega, (hM6.fr ((Fr.refl [] _).alloc _) (by simp)).fr p2 hgrh.out, hkeep.out (by simp), ?_, fun g hg => ?_, ?_⟩
                · rw [hsn.out]
                  simpa using hnxt
                · rcases p3 g hg with h | h
                  · exact hroh.out g h
                  · right; rw [h]; have := hFh.out.size; simp; omega
                · exact (f6.out.alloc _).andThen p2 (fun x hx => (hroh.out x hx).imp (List.mem_cons_of_mem _) id)
            | some vv =>
              rw [hag] at hhere hkeep hgone hsn
              clear hag
              have hA7 := Lib.hid (show SApp w W6 v out u2 (ns ++ (if (some vv).isNone = true then [y1] else [])) by simpa using hA6.out)
              rw [← hsn.out] at hA7
              have htb := toList_beq vv y2
              by_cases hvy : vv = y2
              · have hvh := Lib.hid hvy
                rw [decide_eq_true hvy] at htb
                clear hvy
                go_wp2_with (first
                  | (refine wpList_map_get_ok hM6 kStr uMss (z := .string ⟨#[]⟩) (fun _ => rfl) y1 rfl rfl rfl rfl ?_; simp only [hhere, Option.map_some, Option.getD_some, Option.isSome_some])
                  | (refine wpList_map_del hM6 kStr uMss y1 rfl rfl rfl rfl (fun w7 hM7 ht => ?_)))
                go_roundg (n2 - i)
                case measure => omega
                case rel =>
                  refine ⟨i + 1, _, by go_num, by have := hlth.out; omega, by have := hlth.out; omega, hM7, hgone.out _ (by rw [hvh.out]) (aget_adel_same hMn.out) (fun s hs => aget_adel_other hs), hA7.out.past ht.fr hgw hgrh.out, hroh.out, f6.out.andThen ht.fr (fun x hx => .inl (by simp at hx; simp [hx]))⟩
              · have hvh := Lib.hid hvy
                rw [decide_eq_false hvy] at htb
                clear hvy
                go_wp2_with (first
                  | (refine wpList_map_get_ok hM6 kStr uMss (z := .string ⟨#[]⟩) (fun _ => rfl) y1 rfl rfl rfl rfl ?_; simp only [hhere, Option.map_some, Option.getD_some, Option.isSome_some])
                  | fail)
                go_roundg (n2 - i)
                case measure => omega
                case rel =>
                  exact ⟨i + 1, M, by go_num, by have := hlth.out; omega, by have := hlth.out; omega, hM6, hkeep.out (fun e => hvh.out (Option.some.inj e)), hA7.out, hroh.out, f6.out⟩
          · have hge : ¬ (i : Int) < n2 := by omega
            have e : lb.take i = lb := List.take_of_length_le (by have := hn2.out; omega)
            rw [e] at hDh hAh
            clear hlt hk
            go_wp2_with fail
            go_meet
            exact ⟨⟨M, hMh.out, hDh.out⟩, hAh.out, hgrh.out⟩
      case rest =>
        obtain ⟨⟨M2, hM2, hD2⟩, hA2, hg2⟩ := hcut
        obtain ⟨lbm, clock, hBm, hlbm⟩ := hM2.stamps
        have hkeys := Lib.hid (hD2.keys hM2.nodup (rising_nodup hrh.out))
        have hlbh := Lib.hid hlbm
        have hinc := Lib.hid (hBm.inc.imp (fun {a b} (h : a < b) (e : a = b) => by omega) : (lbm.map (·.2.2)).Nodup)
        have hAh := Lib.hid hA2
        have hrun := hBm.run_range uMss
        have hgh := Lib.hid hg2
        have hlen := Lib.hid (show (newN l lb).length + lbm.length ≤ l.length + m.length by
          have h1 := hkeys.out.length_eq
          have h2 := (newN_perm (l := l) hpbh.out).length_eq
          have h3 := dfN_length l m
          have h4 : lbm.length = M2.length := by rw [← hlbm, List.length_map]
          have h5 : (dfA l lb).length = (dfA l m).length := by
            unfold dfA
            rw [List.length_map, List.length_map]
            congr 1
            apply List.filter_congr
            intro y _
            rw [aget_perm hpbh.out hnd2.out]
          unfold dfN at h3
          rw [List.length_append] at h3
          rw [List.length_map] at h1
          omega)
        have hcsz : w.heap.size ≤ wc.heap.size := by
          obtain ⟨A7, c7, _, hO7, hR7, hF7⟩ := hA2
          exact hF7.size
        clear hM2 hD2 hlbm hA2 hg2
        go_wp2_with fail
        obtain ⟨r, HR⟩ : ∃ z, Hid (wc.heap.size = z) := ⟨_, Lib.hid rfl⟩
        go_loopg [2, 15] (lbm.length + 1) (fun gk s2 s15 wr => ∃ (seen : Array Nat) (ks : List ByteArray), (todo lbm seen).length < gk ∧ It wr wc.heap.size gm clock seen ∧ IsMapB wr gm Value.string Value.string lbm clock ∧ (ks ++ (todo lbm seen).map (·.1)).Perm (lbm.map (·.1)) ∧ SApp w wr v out s2 (newN l lb ++ ks) ∧ ∀ g ∈ rowOf s2, g ≠ gm ∧ g ≠ wc.heap.size)
        case atStart =>
          refine ⟨#[], [], by have := List.length_filter_le (fun x : ByteArray × ByteArray × Nat => !(#[] : Array Nat).contains x.2.2) lbm; unfold todo; omega, It.new wc gm clock, hBm.fr ((Fr.refl [] wc).alloc _) (by simp), by rw [List.nil_append, show todo lbm #[] = lbm from List.filter_eq_self.2 fun y _ => by simp], by simpa using hAh.out.fr0 ((Fr.refl [] wc).alloc _), fun g hg => ⟨fun e => hgh.out (e ▸ hg), ?_⟩⟩
          obtain ⟨A7, c7, hs7, hO7, hR7, hF7⟩ := hAh.out
          rw [hs7] at hg
          exact Nat.ne_of_lt (hO7.lt g hg)
        case round =>
          obtain ⟨seen, ks, hk, hI, hMr, hperm, hA, hro⟩ := hrel
          have hperm' := Lib.hid hperm
          have hA' := Lib.hid hA
          have hro' := Lib.hid hro
          have hrl := hI.lt
          have hrm := hI.ne hMr
          have hrm' := Lib.hid hrm
          have hcs := Lib.hid hcsz
          obtain ⟨A7, c7, rfl, hO7, hR7, hF7⟩ := hA
          obtain ⟨n7, hn7⟩ : ∃ z, Hid ((out ++ (newN l lb ++ ks)).length = z) := ⟨_, Lib.hid rfl⟩
          have hn7b : n7 ≤ 1000000 := by
            have h1 := hn7.out
            have h2 := hperm.length_eq
            have h3 := hlen.out
            rw [List.length_append, List.length_append] at h1
            rw [List.length_append, List.length_map, List.length_map] at h2
            omega
          rw [hn7.out] at hO7 hro' hA' ⊢
          have hO7f := fun (wn : World) (hF : Fr [wc.heap.size] wr wn) => hO7.fr hF (fun g hg hx => (hro'.out g hg).2 (by simpa using hx))
          clear hperm hro hR7 hF7 hcsz hrm
          go_wp2_with (first
            | (refine wpList_map_next hMr hI rfl rfl rfl (fun h0 => ?_) (fun x wn hx hIn hMn ht => ?_))
            | (refine wpList_map_entry hMn hIn (mem_todo hx) rfl rfl rfl ?_)
            | (refine wpList_own_append tStrs ((hO7f _ ht.fr).fr ((Fr.refl [] _).alloc _) (by simp)) (str_new _ _ _) (strCells_one _) (by simp) (by unfold maxLen; omega) (by omega) rfl rfl rfl rfl (fun v2 w2 p1 p2 p3 => ?_); obtain ⟨A8, c8, rfl, hA8⟩ := p1.form))
          · go_ret
            have h1 := hperm'.out
            rw [h0, List.map_nil, List.append_nil] at h1
            have h2 : lbm.map (·.1) = M2.map (·.1) := by
              rw [← hlbh.out, List.map_map]
              rfl
            have h3 : dfA l lb = dfA l m := by
              unfold dfA
              congr 1
              apply List.filter_congr
              intro y _
              rw [aget_perm hpbh.out hnd2.out]
            have h4 := hkeys.out
            rw [h3] at h4
            rw [h2] at h1
            refine hA'.out.post ?_
            exact ((newN_perm hpbh.out).append (h1.trans h4)).trans List.perm_append_comm
          · go_roundg ((todo lbm (seen.push x.2.2)).length + 1)
            case measure => have := todo_lt hx; omega
            case rel =>
              have hrw : w.heap.size ≤ wc.heap.size := hcs.out
              have hA9 := hA'.out.past ht.fr hrw (fun h => (hro'.out _ h).2 rfl)
              have hnxt := hA9.next (v2 := .slice A8 (n7 + 1) c8) (m2 := [x.1]) (by rw [show (out ++ (newN l lb ++ ks) ++ [x.1]).length = n7 + 1 from by rw [← hn7.out]; simp [Nat.add_assoc], strCells_append]; exact p1) ((((Fr.refl [] _).alloc _).nil).trans p2) (fun g hg => (p3 g hg).imp id (fun e => by rw [e]; simp))
              have hrw2 : wc.heap.size < wn.heap.size := hIn.lt
              have hgn : gm < wn.heap.size := hMn.lt
              refine ⟨_, ks ++ [x.1], Nat.lt_succ_self _, (hIn.fr ((Fr.refl [] _).alloc _) (by simp)).fr p2 (fun h => (hro'.out _ h).2 rfl), (hMn.fr ((Fr.refl [] _).alloc _) (by simp)).fr p2 (fun h => (hro'.out _ h).1 rfl), ?_, ?_, fun g hg => ?_⟩
              · rw [List.append_assoc]
                exact (List.Perm.append_left _ (todo_perm hinc.out hx).symm).trans hperm'.out
              · rw [← List.append_assoc]
                exact hnxt
              · rcases p3 g hg with h | h
                · exact hro'.out g h
                · simp at h
                  omega
theorem differ_t : ∀ f, DifferT f
  | f, w, X, l, m, p, q, v, out, hN, hM, hO, hv, hr, hr2, hal, hmax => by
    by_cases hd : dig f l = dig f m
    · have e := alk_eq hal hd
      subst e
      refine (differ_alike w X X f f l l p q v hN hM rfl).mono ?_
      rintro e w' ⟨rfl, hF⟩
      rw [dfN_self hr]
      exact (SApp.start hO hF).post (.refl _)
    · by_cases hb : f = 0 ∨ l.length ≤ 1 ∨ m.length ≤ 1
      · exact differ_flat f w X l m p q v out hN hM hO hv hr hr2 hd (node_flat hN hM hb) hmax
      · cases f with
        | zero => omega
        | succ f => exact differ_branch f (differ_t f) w X l m p q v out hN hM hO hv hr hr2 hal hd (by omega) (by omega) hmax
end Go.Proofs.Ytlhkkffljjbdmaa
