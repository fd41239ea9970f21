/- slices.Insert of one number at a slice that the call has made, by the library's contracts. Conditions: each theorem's own. -/
import Derived.Test.YtdeoinjjphdbmaaGreatGt
import Derived.Test.YtdeoinjjphdbmaaGreatIy
namespace Go.Proofs.YtdeoinjjphdbmaaGreat
open Go.RowKit Go.Sig

theorem setCells_blk2 {g : Nat} {t : TypeId} : ∀ (vs : List Value) (o : Nat) (w : World) (cs : Array Value), Blk w g t cs → o + vs.length ≤ cs.size → Blk (w.setCells g o vs) g t (laid cs o vs)
  | [], o, w, cs, h, _ => by
    have e : laid cs o [] = cs := by simp [laid]
    rw [e]
    exact h
  | v :: vs, o, w, cs, h, hl => by
    simp only [List.length_cons] at hl
    have := setCells_blk2 vs (o + 1) (w.setCell ⟨g, o, none⟩ v) (cs.setIfInBounds o v) (h.set o v) (by simp; omega)
    have e : laid (cs.setIfInBounds o v) (o + 1) vs = laid cs o (v :: vs) := by
      apply Array.ext_getElem?
      intro k
      rw [laid_get (by simp; omega), laid_get (by simp; omega)]
      simp only [List.length_cons, Array.getElem?_setIfInBounds]
      by_cases hk : k = o
      · subst hk
        rw [if_neg (by omega), if_pos rfl, if_pos (by omega), if_pos (by omega), Nat.sub_self]
        rfl
      · by_cases hk2 : o ≤ k ∧ k < o + (vs.length + 1)
        · rw [if_pos (by omega), if_pos hk2, show k - o = (k - (o + 1)) + 1 by omega]
          rfl
        · rw [if_neg (by omega), if_neg hk2, if_neg (by omega)]
    rw [e] at this
    exact this
theorem setCells_fr2 {g : Nat} : ∀ (vs : List Value) (o : Nat) (w : World), Fr [g] w (w.setCells g o vs)
  | [], o, w => Fr.refl _ _
  | v :: vs, o, w => ((Fr.refl [g] w).setCell (p := ⟨g, o, none⟩) (by simp) v).trans (setCells_fr2 vs (o + 1) _)
/-- A row that the call has made, out of what its cells are. -/
theorem own_blk {w : World} {g n c e size : Nat} {cur : Array Value} {xs : List Value} (h : Blk w g e cur) (hn : n ≤ c) (hc : c ≤ maxLen) (hs : cur.size = c * size) (hl : xs.length = n * size) (hx : ∀ (j : Nat) (v : Value), xs[j]? = some v → cur[j]? = some v) :
    Own w e size (.slice (some ⟨g, 0, none⟩) n c) n xs := by
  refine ⟨hl, .inr ⟨g, c, cur, rfl, Nat.zero_le _, h, hn, hc, hs, ?_⟩⟩
  apply List.ext_getElem?
  intro j
  by_cases hj : j < n * size
  · rw [List.getElem?_take_of_lt hj, Array.getElem?_toList, List.getElem?_eq_getElem (by omega)]
    exact hx j _ (List.getElem?_eq_getElem (by omega))
  · rw [List.getElem?_eq_none (by rw [List.length_take]; omega), List.getElem?_eq_none (by omega)]
/-- What comes of it: a row of the call's own, the old one or a new one. -/
def InsPost (w : World) (A : Option Addr) (n : Nat) (ls : List Int) (e : Ending) (w' : World) : Prop :=
  ∃ A' c', e = .returned (.slice A' n c') ∧ Own w' 3 1 (.slice A' n c') n (intCells ls) ∧ Fr (rowOf (.slice A n 0)) w w' ∧ (A' = A ∨ From w.heap.size A')
theorem ins_t (w : World) (A : Option Addr) (n c i : Nat) (ls : List Int) (x : Int) (vb vc : Nat) (hO : Own w 3 1 (.slice A n c) n (intCells ls)) (hn : ls.length = n) (hi : i ≤ n) (hmax : n ≤ 1000) (hV : Blk w vb 3 #[.int .i64 x]) (hvb : ∀ ad, A = some ad → ad.block ≠ vb) :
    Calls Tryz.prog 71 #[.slice A n c, .int .i64 i, .slice (some ⟨vb, 0, none⟩) 1 vc] w (InsPost w A (n + 1) (ls.take i ++ x :: ls.drop i)) := by
  have hvs : ∀ j v, [Value.int .i64 x][j]? = some v → w.cell? ⟨vb, 0 + j, none⟩ = some v := fun j v hj => by
    rw [Nat.zero_add, hV.cell, List.getElem?_toArray]
    exact hj
  have hone : ∀ v ∈ [Value.int .i64 x], v.oneCell' = true := fun v hv => by
    rw [List.mem_singleton] at hv
    subst hv
    rfl
  have hcl : (intCells ls).length = n := (intCells_length ls).trans hn
  have hcells : intCells (ls.take i ++ x :: ls.drop i) = (intCells ls).take i ++ Value.int .i64 x :: (intCells ls).drop i := by
    unfold intCells
    rw [List.map_append, List.map_cons, List.map_take, List.map_drop]
  have hlen : (intCells (ls.take i ++ x :: ls.drop i)).length = (n + 1) * 1 := by
    rw [intCells_length, List.length_append, List.length_cons, List.length_take, List.length_drop]
    omega
  have hend : i = n → intCells (ls.take i ++ x :: ls.drop i) = intCells ls ++ [Value.int .i64 x] := fun e => by
    rw [hcells, List.take_of_length_le (by omega), List.drop_eq_nil_of_le (by omega)]
  rcases hO.2 with ⟨hv, h0⟩ | ⟨g, cap, cur, hv, _, hh, hnc, hcm, hcs, htk⟩
  · injection hv with hv1 hv2 hv3
    subst hv1 hv2 hv3
    obtain rfl : i = 0 := by omega
    obtain rfl := List.eq_nil_of_length_eq_zero hn
    refine (Go.Proofs.Any2.slices_Insert_int_end_grow Tryz.laysIns none 0 0 vb 0 1 vc [] [.int .i64 x] w (by omega) (by omega) (by omega) (by omega) rfl rfl (fun _ => rfl) (fun a e => by cases e) hvs hone).mono ?_
    rintro e w' ⟨rfl, rfl⟩
    refine ⟨_, _, rfl, ?_, ((Fr.refl _ _).drew).alloc _, .inr (fun ad e => by cases e; exact Nat.le_refl _)⟩
    have hge := grownCap_ge w (0 + 1) 0 3
    refine own_blk (Blk.new w.drew 3 _) hge (grownCap_le_maxLen w (0 + 1) 0 3 (by unfold maxLen; omega)) ?_ hlen ?_
    · have hz2 := size_zeroCells (Value.int .i64 0).cells (grownCap w (0 + 1) 0 3 - (0 + 1))
      have hzc : (Value.int .i64 0).cells.size = 1 := rfl
      rw [hzc, Nat.mul_one] at hz2
      show ((([] ++ [Value.int .i64 x]).toArray ++ Builtin.zeroCells (Value.int .i64 0).cells (grownCap w (0 + 1) 0 3 - (0 + 1)))).size = grownCap w (0 + 1) 0 3 * 1
      rw [Array.size_append, hz2, Nat.mul_one]
      show 1 + _ = _
      omega
    · intro j v hj
      have hj1 := (List.getElem?_eq_some_iff.1 hj).1
      rw [hlen] at hj1
      rw [hend rfl] at hj
      rw [Array.getElem?_append_left (by simp; omega), List.getElem?_toArray]
      exact hj
  · injection hv with hv1 hv2 hv3
    subst hv1 hv3
    have hB : Blk w g 3 cur := hh
    have hgv : g ≠ vb := hvb _ rfl
    have hcur : ∀ j v, (intCells ls)[j]? = some v → cur[j]? = some v := fun j v hj => by
      have hj1 := (List.getElem?_eq_some_iff.1 hj).1
      rw [← htk, List.getElem?_take_of_lt (by omega), Array.getElem?_toList] at hj
      exact hj
    have hcell : ∀ j v, (intCells ls)[j]? = some v → w.cell? ⟨g, 0 + j, none⟩ = some v := fun j v hj => by
      rw [Nat.zero_add, hB.cell]
      exact hcur j v hj
    have hspare : ∀ j, j < c → (w.cell? ⟨g, j, none⟩).isSome = true := fun j hj => by
      rw [hB.cell, Array.getElem?_eq_getElem (by omega)]
      rfl
    have hge := grownCap_ge w (n + 1) c 3
    have hgm := grownCap_le_maxLen w (n + 1) c 3 (by unfold maxLen; omega)
    rcases Nat.lt_or_ge i n with hlt | hge2
    · rcases Nat.lt_or_ge c (n + 1) with hc1 | hc1
      · refine (Go.Proofs.Any2.slices_Insert_int_grow Tryz.laysIns g 0 n c i vb 0 1 vc (intCells ls) [.int .i64 x] w hlt (by omega) hnc hc1 (by omega) hcl rfl hcell hvs (intCells_one ls) hone).mono ?_
        rintro e w' ⟨rfl, rfl⟩
        have hz1 := size_zeroCells (Value.int .i64 0).cells (n + 1 - i)
        have hz2 := size_zeroCells (Value.int .i64 0).cells (grownCap w (n + 1) c 3 - (n + 1))
        have hzc : (Value.int .i64 0).cells.size = 1 := rfl
        rw [hzc, Nat.mul_one] at hz1 hz2
        generalize hZ1 : Builtin.zeroCells (Value.int .i64 0).cells (n + 1 - i) = Z1 at hz1
        generalize hZ2 : Builtin.zeroCells (Value.int .i64 0).cells (grownCap w (n + 1) c 3 - (n + 1)) = Z2 at hz2
        have e1 : Builtin.zeroCells (Value.int .i64 0).cells (grownCap w (n + 1) c (Tryz.laysIns_ren.t 3) - (n + 1)) = Z2 := hZ2
        have hsz : (((intCells ls).take i).toArray ++ Z1 ++ Z2).size = grownCap w (n + 1) c 3 := by
          simp only [Array.size_append, List.size_toArray, List.length_take, hz1, hz2, hcl]
          omega
        have hB1 := Blk.new w 3 (((intCells ls).take i).toArray ++ Z1 ++ Z2)
        have hB2 := setCells_blk2 [.int .i64 x] i _ _ hB1.drew (by rw [hsz]; simp; omega)
        have hsz2 : (laid (((intCells ls).take i).toArray ++ Z1 ++ Z2) i [.int .i64 x]).size = grownCap w (n + 1) c 3 := by rw [laid_size (by rw [hsz]; simp; omega), hsz]
        have hdl : ((intCells ls).drop i).length = n - i := by rw [List.length_drop, hcl]
        have hB3 := setCells_blk2 ((intCells ls).drop i) (i + 1) _ _ hB2.drew (by rw [hsz2, hdl]; omega)
        have hF : Fr [] w ((((w.alloc (.cells (((intCells ls).take i).toArray ++ Z1 ++ Z2) 3)).drew.setCells w.heap.size i [.int .i64 x]).drew).setCells w.heap.size (i + 1) ((intCells ls).drop i)) :=
          (((((Fr.refl [] w).alloc _).drew).andThen (setCells_fr2 _ _ _) (fun z hz => .inr (by simp at hz; omega))).drew).andThen (setCells_fr2 _ _ _) (fun z hz => .inr (by simp at hz; omega))
        rw [e1]
        refine ⟨_, _, rfl, own_blk hB3 hge hgm ?_ hlen ?_, hF.nil, .inr (fun ad e => by cases e; exact Nat.le_refl _)⟩
        · rw [laid_size (by rw [hsz2, hdl]; omega), hsz2, Nat.mul_one]
          rfl
        · intro j v hj
          have hj1 := (List.getElem?_eq_some_iff.1 hj).1
          rw [hlen] at hj1
          rw [hcells] at hj
          rw [laid_get (by rw [hsz2, hdl]; omega), hdl]
          have htl : ((intCells ls).take i).length = i := by rw [List.length_take, hcl]; omega
          by_cases h1 : j < i
          · rw [if_neg (by omega), laid_get (by rw [hsz]; simp; omega), if_neg (by simp; omega), Array.getElem?_append_left (by simp [hz1, hcl]; omega), Array.getElem?_append_left (by simp [hcl]; omega), List.getElem?_toArray]
            rw [List.getElem?_append_left (by omega)] at hj
            exact hj
          · rw [List.getElem?_append_right (by omega), htl] at hj
            by_cases h2 : j = i
            · subst h2
              rw [Nat.sub_self] at hj
              rw [if_neg (by omega), laid_get (by rw [hsz]; simp; omega), if_pos (by simp), Nat.sub_self]
              exact hj
            · rw [if_pos (by omega)]
              rw [show j - i = (j - (i + 1)) + 1 by omega] at hj
              exact hj
      · refine (Go.Proofs.Any2.slices_Insert_int_shift Tryz.laysIns g 0 n c i vb 0 1 vc (intCells ls) [.int .i64 x] w hlt (by omega) hc1 (by unfold maxLen at hcm; omega) (fun e => hgv e.symm) hcl rfl hcell (fun j hj => by rw [Nat.zero_add]; exact hspare j (by omega)) (fun j _ => hB.frozen _) hvs (intCells_one ls) hone 3 3 1 cur.size
          (by unfold World.shape?; rw [show w.heap[vb]? = _ from hV]; rfl) (by unfold World.shape?; rw [show w.heap[g]? = _ from hB]) (by omega) (hV.frozen _) (hV.frozen _)).mono ?_
        rintro e w' ⟨rfl, rfl⟩
        have hdl : ((intCells ls).drop i).length = n - i := by rw [List.length_drop, hcl]
        have hB2 := setCells_blk2 ((intCells ls).drop i) (0 + (i + 1)) w.drew cur hB.drew (by rw [hdl]; omega)
        have hsz2 : (laid cur (0 + (i + 1)) ((intCells ls).drop i)).size = cur.size := laid_size (by rw [hdl]; omega)
        have hB3 := setCells_blk2 [.int .i64 x] (0 + i) _ _ hB2 (by rw [hsz2]; simp; omega)
        refine ⟨_, _, rfl, own_blk hB3 hc1 hcm ?_ hlen ?_, ?_, .inl rfl⟩
        · rw [laid_size (by rw [hsz2]; simp; omega), hsz2, hcs]
        · intro j v hj
          have hj1 := (List.getElem?_eq_some_iff.1 hj).1
          rw [hlen] at hj1
          rw [hcells] at hj
          have htl : ((intCells ls).take i).length = i := by rw [List.length_take, hcl]; omega
          rw [laid_get (by rw [hsz2]; simp; omega)]
          by_cases h1 : j < i
          · rw [if_neg (by simp; omega), laid_get (by rw [hdl]; omega), if_neg (by omega)]
            rw [List.getElem?_append_left (by omega), List.getElem?_take_of_lt h1] at hj
            exact hcur j v hj
          · rw [List.getElem?_append_right (by omega), htl] at hj
            by_cases h2 : j = i
            · subst h2
              rw [Nat.sub_self] at hj
              rw [if_pos (by simp), Nat.zero_add, Nat.sub_self]
              exact hj
            · rw [if_neg (by simp; omega), laid_get (by rw [hdl]; omega), if_pos (by rw [hdl]; omega)]
              rw [show j - i = (j - (0 + (i + 1))) + 1 by omega] at hj
              exact hj
        · rw [rowOf_some]
          exact ((Fr.refl [g] w).drew.trans (setCells_fr2 _ _ _)).trans (setCells_fr2 _ _ _)
    · obtain rfl : i = n := by omega
      rcases Nat.lt_or_ge c (i + 1) with hc1 | hc1
      · refine (Go.Proofs.Any2.slices_Insert_int_end_grow Tryz.laysIns (some ⟨g, 0, none⟩) i c vb 0 1 vc (intCells ls) [.int .i64 x] w (by omega) hnc hc1 (by omega) hcl rfl (fun e => by cases e) (fun a e j v hj => by cases e; rw [Addr.add_lit]; exact hcell j v hj) hvs hone).mono ?_
        rintro e w' ⟨rfl, rfl⟩
        refine ⟨_, _, rfl, own_blk (Blk.new w.drew 3 _) hge hgm ?_ hlen ?_, ((Fr.refl _ _).drew).alloc _, .inr (fun ad e => by cases e; exact Nat.le_refl _)⟩
        · have hz2 := size_zeroCells (Value.int .i64 0).cells (grownCap w (i + 1) c 3 - (i + 1))
          have hzc : (Value.int .i64 0).cells.size = 1 := rfl
          rw [hzc, Nat.mul_one] at hz2
          show (((intCells ls ++ [Value.int .i64 x]).toArray ++ Builtin.zeroCells (Value.int .i64 0).cells (grownCap w (i + 1) c 3 - (i + 1)))).size = grownCap w (i + 1) c 3 * 1
          rw [Array.size_append, hz2]
          simp [hcl]
          omega
        · intro j v hj
          have hj1 := (List.getElem?_eq_some_iff.1 hj).1
          rw [hlen] at hj1
          rw [hend rfl] at hj
          rw [Array.getElem?_append_left (by simp [hcl]; omega), List.getElem?_toArray]
          exact hj
      · refine (Go.Proofs.Any2.slices_Insert_int_end_room Tryz.laysIns g 0 i c vb 0 1 vc [.int .i64 x] w (by omega) hc1 (by unfold maxLen at hcm; omega) rfl (fun j hj => by rw [Nat.zero_add]; exact hspare _ (by omega)) (fun j _ => hB.frozen _) hvs hone).mono ?_
        rintro e w' ⟨rfl, rfl⟩
        have hB3 := setCells_blk2 [.int .i64 x] (0 + i) w cur hB (by simp; omega)
        refine ⟨_, _, rfl, own_blk hB3 hc1 hcm ?_ hlen ?_, ?_, .inl rfl⟩
        · rw [laid_size (by simp; omega), hcs]
        · intro j v hj
          have hj1 := (List.getElem?_eq_some_iff.1 hj).1
          rw [hlen] at hj1
          rw [hend rfl] at hj
          rw [laid_get (by simp; omega)]
          by_cases h1 : j < i
          · rw [if_neg (by simp; omega)]
            rw [List.getElem?_append_left (by omega)] at hj
            exact hcur j v hj
          · rw [List.getElem?_append_right (by omega), hcl] at hj
            rw [if_pos (by simp; omega), Nat.zero_add]
            exact hj
        · rw [rowOf_some]
          exact setCells_fr2 _ _ _
end Go.Proofs.YtdeoinjjphdbmaaGreat
