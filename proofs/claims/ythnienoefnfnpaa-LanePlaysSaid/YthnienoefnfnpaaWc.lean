/- Walks: Drop: it returns what the model says, and the packet is out of the lane. Conditions: each theorem's own. -/
import Derived.Test.YthnienoefnfnpaaWb
import Derived.Laws.CopyRow
namespace Go.Proofs.Ythnienoefnfnpaa
open Go.RowKit Go.Sig

/-- 'copy' into a row that is known whole, elements of any size. -/
theorem run_copy_rows {P : Program} (w : World) (dT sT ty elem : TypeId) (size g o dLen dCap : Nat) (sp : Option Addr) (sLen sCap : Nat) (cur : Array Value) (t : TypeId) (cs : List Value)
    (hu : P.underlying dT = some (.slice elem)) (hs : (P.info? elem).map (·.size) = some size) (hg : w.heap[g]? = some (.cells cur t (0, 0))) (hn : cs.length = Nat.min sLen dLen * size)
    (hsrc : 0 < Nat.min sLen dLen → ∃ a, sp = some a ∧ ∀ j v, cs[j]? = some v → w.cell? (a.add j) = some v) (hfit : o + cs.length ≤ cur.size) (h1 : ∀ v ∈ cs, v.oneCell' = true) :
    (Builtin.copy_ #[dT, sT] ty #[.slice (some ⟨g, o, none⟩) dLen dCap, .slice sp sLen sCap]).run P w =
      .ok (goInt (Nat.min sLen dLen)) (w.setRow g (cur.toList.take o ++ (cs ++ cur.toList.drop (o + cs.length))).toArray) := by
  have hst := run_storeCells_at P g o t cs 0 cur w hg (by simpa using hfit) h1
  cases hq : P.info? elem with
  | none => simp [hq] at hs
  | some i =>
    have hi : i.size = size := by simpa [hq] using hs
    have hload : (Builtin.firstCells size (Nat.min sLen dLen) (.slice sp sLen sCap)).run P w = .ok cs.toArray w := by
      rcases Nat.eq_zero_or_pos (Nat.min sLen dLen) with h0 | h0
      · have hc : cs = [] := List.eq_nil_of_length_eq_zero (by rw [hn, h0]; simp)
        subst hc
        rw [h0]
        cases sp with
        | none => simp [Builtin.firstCells]
        | some a =>
          have := run_loadCells_list (P := P) w a [] (by simp)
          simpa [Builtin.firstCells] using this
      · obtain ⟨a, rfl, ha⟩ := hsrc h0
        have := run_loadCells_list (P := P) w a cs ha
        rw [hn] at this
        simpa [Builtin.firstCells] using this
    simp [Builtin.copy_, run_underlying hu, Builtin.lenOf, sizeOf, typeInfo, hq, hi, hload, hst]
theorem wpList_copy_rows {P : Program} {w : World} {ops : Array Oper} {rest : List Oper} {op : Oper} {a : Act} {Q : Exit → Act → World → Prop} {elem dT sT t : TypeId} {size g o dLen dCap : Nat} {sp : Option Addr} {sLen sCap : Nat} {cur : Array Value} {cs : List Value}
    (hgd : op.guard = none) {d s : Operand} (ho : op.op = .call { callee := .builtin .copy, args := #[d, s], argTypes := #[dT, sT] }) (hd : a.eval d = .slice (some ⟨g, o, none⟩) dLen dCap) (hs' : a.eval s = .slice sp sLen sCap)
    (hu : P.underlying dT = some (.slice elem)) (hs : (P.info? elem).map (·.size) = some size) (hg : w.heap[g]? = some (.cells cur t (0, 0))) (hn : cs.length = Nat.min sLen dLen * size)
    (hsrc : 0 < Nat.min sLen dLen → ∃ a, sp = some a ∧ ∀ j v, cs[j]? = some v → w.cell? (a.add j) = some v) (hfit : o + cs.length ≤ cur.size) (h1 : ∀ v ∈ cs, v.oneCell' = true)
    (hK : wpList P ops Q rest (a.put op.dst (goInt (Nat.min sLen dLen))) (w.setRow g (cur.toList.take o ++ (cs ++ cur.toList.drop (o + cs.length))).toArray)) : wpList P ops Q (op :: rest) a w := by
  refine wpList_plain hgd fun K' hK' => ?_
  have hrun := run_copy_rows (P := P) w dT sT op.type elem size g o dLen dCap sp sLen sCap cur t cs hu hs hg hn hsrc hfit h1
  unfold Oper.wp
  simp [execOp, ho, resolve, invoke, builtin, hd, hs', hrun, Result.andThen]
  exact hK' _ _ hK
theorem Fr.setRow (w : World) (g : Nat) (cs : Array Value) : Fr [g] w (w.setRow g cs) :=
  ⟨rfl, rfl, rfl, by simp [World.setRow], fun i _ hi => setRow_other w g i cs (by simpa [eq_comm] using hi)⟩

theorem flat_take {α : Type} (f : α → List Value) (c : Nat) (hf : ∀ a, (f a).length = c) : ∀ (l : List α) (k : Nat), (l.flatMap f).take (k * c) = (l.take k).flatMap f
  | [], k => by simp
  | a :: l, 0 => by simp
  | a :: l, k + 1 => by
    simp only [List.flatMap_cons, List.take_succ_cons]
    rw [List.take_append, hf, Nat.add_mul, Nat.one_mul, List.take_of_length_le (by rw [hf]; omega), Nat.add_sub_cancel, flat_take f c hf l k]
theorem flat_drop {α : Type} (f : α → List Value) (c : Nat) (hf : ∀ a, (f a).length = c) : ∀ (l : List α) (k : Nat), (l.flatMap f).drop (k * c) = (l.drop k).flatMap f
  | [], k => by simp
  | a :: l, 0 => by simp
  | a :: l, k + 1 => by
    simp only [List.flatMap_cons, List.drop_succ_cons]
    rw [List.drop_append, hf, Nat.add_mul, Nat.one_mul, List.drop_of_length_le (by rw [hf]; omega), Nat.add_sub_cancel, flat_drop f c hf l k, List.nil_append]
theorem flatMap_sub {α β : Type} (f : α → List β) {l l' : List α} (h : l.Sublist l') : (l.flatMap f).Sublist (l'.flatMap f) := by
  induction h with
  | slnil => simp
  | cons a h ih => simp only [List.flatMap_cons]; exact ih.trans (List.sublist_append_right _ _)
  | cons_cons a h ih => simp only [List.flatMap_cons]; exact List.Sublist.append (List.Sublist.refl _) ih
theorem flat_len3 (ps : List (Pc × Pk)) : (ps.flatMap fun q => q.1.cells).length = ps.length * 3 := by
  induction ps with
  | nil => rfl
  | cons q ps ih => simp only [List.flatMap_cons, List.length_append, ih, List.length_cons, List.length_nil]; omega
theorem drop_row {ps : List (Pc × Pk)} {cur : Array Value} {k : Nat} (hk : k < ps.length) (hxs : List.take (ps.length * 3) cur.toList = ps.flatMap fun q => q.1.cells) :
    ((cur.toList.take (k * 3) ++ ((ps.flatMap fun q => q.1.cells).drop ((k + 1) * 3) ++ cur.toList.drop (k * 3 + (ps.length * 3 - (k + 1) * 3)))).take ((ps.eraseIdx k).length * 3)) = (ps.eraseIdx k).flatMap fun q => q.1.cells := by
  have hl : ∀ q : Pc × Pk, (q.1.cells).length = 3 := fun _ => rfl
  have h1 : cur.toList.take (k * 3) = (ps.take k).flatMap fun q => q.1.cells := by
    rw [← flat_take _ 3 hl, ← hxs, List.take_take, Nat.min_eq_left (by omega)]
  rw [h1, flat_drop _ 3 hl, ← List.append_assoc, ← List.flatMap_append, ← List.eraseIdx_eq_take_drop_succ, List.take_append_of_le_length, List.take_of_length_le]
  · rw [flat_len3]; exact Nat.le_refl _
  · rw [flat_len3]; exact Nat.le_refl _
section
variable {w : World} {b m : Nat} {v : Value} {ps : List (Pc × Pk)} {n : Int} {shut : List ((Int × Int) × Bool)}
theorem drop_no (k : Int) (h : LaneIn w b m v ps n shut) (hk : I64 k) (hn : hasE ps.length k = 6) :
   Calls Try.prog 12 #[.pointer (some ⟨b, 0, none⟩), .int .i64 k] w fun e w' => e = .returned (.int .i64 6) ∧ w = w' := by
  have hh := fun w (h : LaneIn w b m v ps n shut) => has_t k h hk
  rw [hn] at hh
  go_enter Try.func12, Try.ntmps12
  go_wp2_with fail
  refine (hh _ h).mono ?_
  rintro e w' ⟨rfl, rfl⟩
  go_wp2
  go_ret
  exact ⟨rfl, rfl⟩
set_option maxHeartbeats 2000000 in
theorem drop_ok (k : Nat) (h : LaneIn w b m v ps n shut) (hk : k < ps.length) :
   Calls Try.prog 12 #[.pointer (some ⟨b, 0, none⟩), .int .i64 k] w fun e w' => e = .returned (.int .i64 0) ∧ ∃ v', LaneIn w' b m v' (ps.eraseIdx k) n shut ∧ Went w w' (footOf b m v ps) (footOf b m v' (ps.eraseIdx k)) ∧ Fr (b :: rowOf v) w w' ∧ (∀ x ∈ rowOf v', x ∈ rowOf v) := by
  have hr2 := h.r2
  have hh := fun w (h : LaneIn w b m v ps n shut) => has_t (k : Int) h (by constructor <;> omega)
  have he : hasE ps.length (k : Int) = 0 := by
    unfold hasE
    rw [if_neg]
    omega
  rw [he] at hh
  have hc := h.cells
  rcases h.own.2 with ⟨rfl, h0⟩ | ⟨g, cap, cur, rfl, _, hg, hcap, hmx, hcs, hxs⟩
  · omega
  unfold maxLen at hmx
  have hk1 : k ≤ ps.length := by omega
  have hk2 : (k : Int) + 1 ≤ ps.length := by omega
  have hk3 : ¬ cap = k := by omega
  have hk4 : IntKind.i64.wrap ((k : Int) + 1) = (k : Int) + 1 := by rw [IntKind.wrap_i64]; omega
  have hk5 : ((k : Int) + 1).toNat = k + 1 := by omega
  have hk6 : (0 : Int) ≤ (k : Int) + 1 := by omega
  go_enter Try.func12, Try.ntmps12
  go_wp2_with fail
  refine (hh _ h).mono ?_
  rintro e w' ⟨rfl, rfl⟩
  go_upto_region 3 with (fail)
  refine wp_tail 13 (by kernel_rfl) (by kernel_rfl) ?_
  simp only [List.take_succ_cons, List.take_zero, List.drop_succ_cons, List.drop_zero]
  repeat still_step
  refine wpStill_nil ?_
  have hflat : (ps.flatMap fun q => q.1.cells).length = ps.length * 3 := h.own.length
  have hmin : Nat.min (ps.length - (k + 1)) (ps.length - k) = ps.length - (k + 1) := Nat.min_eq_left (by omega)
  refine wpList_copy_rows (elem := 37) (size := 3) (cs := (ps.flatMap fun q => q.1.cells).drop ((k + 1) * 3)) rfl rfl rfl rfl (by kernel_rfl) (by kernel_rfl) hg ?_ ?_ ?_ ?_ ?_
  · rw [hmin, List.length_drop, hflat, Nat.sub_mul]
  · rw [hmin]
    intro h0
    refine ⟨_, if_neg (by omega), fun j u hu => ?_⟩
    rw [Addr.add_lit]
    rw [List.getElem?_drop, ← hxs] at hu
    have hj : (k + 1) * 3 + j < ps.length * 3 := by
      have := (List.getElem?_eq_some_iff.1 hu).1
      simp at this
      omega
    rw [List.getElem?_take_of_lt hj] at hu
    have := cell_of_row w.drew g ((k + 1) * 3 + j) cur 37 (0, 0) hg
    rw [this]
    simpa using hu
  · rw [List.length_drop, hflat]; omega
  · intro u hu
    exact Lb_one h u (List.mem_of_mem_drop hu)
  rw [hmin, List.length_drop, hflat]
  have hdr := drop_row hk hxs
  obtain ⟨R, hR⟩ : ∃ R, List.take (k * 3) cur.toList ++ (List.drop ((k + 1) * 3) (List.flatMap (fun q => q.fst.cells) ps) ++ List.drop (k * 3 + (ps.length * 3 - (k + 1) * 3)) cur.toList) = R := ⟨_, rfl⟩
  have hRl : R.length = cap * 3 := by
    rw [← hR]
    simp only [List.length_append, List.length_take, List.length_drop, hflat, Array.length_toList, hcs]
    omega
  rw [hR] at hdr ⊢
  clear hR
  obtain ⟨d1, d2, d3, d4, d5, d6, d7⟩ := foot_nodup.1 h.dist
  have hgr : g ∈ rowOf (.slice (some ⟨g, 0, none⟩) ps.length cap) := by simp [rowOf, Value.ownBlock]
  have hbg : b ≠ g := fun e => d2 (e ▸ hgr)
  have hmg : m ≠ g := fun e => d4 (e ▸ hgr)
  have hglt := lt_of_heap hg
  refine wpList_gen (fun W => Blk W g 37 R.toArray ∧ Blk W b 62 #[.int .i64 n, .slice (some ⟨g, 0, none⟩) ps.length cap, .map (some m)] ∧ IsMap W m ek Value.bool shut ∧ (∀ q ∈ ps, PkAt W q.1 q.2) ∧ Fr [g] w W)
    ⟨setRow_heap w.drew g cur _ 37 _ hg, h.blk.fr ((Fr.refl [g] w).drew.trans (Fr.setRow _ _ _)) (by simpa using hbg), h.shut.fr ((Fr.refl [g] w).drew.trans (Fr.setRow _ _ _)) (by simpa using hmg),
      fun q hq => (h.pks q hq).fr ((Fr.refl [g] w).drew.trans (Fr.setRow _ _ _)) (fun x hx => by simp; rintro rfl; exact d7 _ hgr (mem_Lb hq hx)), (Fr.refl [g] w).drew.trans (Fr.setRow _ _ _)⟩ ?_
  clear hc hg hxs hcs hh
  rintro W ⟨Bg, Bb, Mm, Pq, fW⟩
  have hc := Bb.c3
  have hz := Bb.frozen 1
  have hk7 : IntKind.i64.wrap ((ps.length : Int) - 1) = ((ps.length - 1 : Nat) : Int) := by rw [IntKind.wrap_i64]; omega
  have hk8 : ps.length - 1 ≤ cap := by omega
  have hk9 : ps.length ≤ cap + 1 := by omega
  have hkb : ¬ cap = 0 := by omega
  have hel : (ps.eraseIdx k).length = ps.length - 1 := List.length_eraseIdx_of_lt hk
  have hsub : (ps.eraseIdx k).Sublist ps := List.eraseIdx_sublist _ _
  have hLs : (Lb (ps.eraseIdx k)).Sublist (Lb ps) := by
    exact flatMap_sub _ hsub
  have f3 : Fr [b] W (W.setCell ⟨b, 1, none⟩ (.slice (some ⟨g, 0, none⟩) (ps.length - 1) cap)) := (Fr.refl _ _).setCell (by simp) _
  have hgv : ∀ x ∈ rowOf (.slice (some ⟨g, 0, none⟩) (ps.length - 1) cap), x = g := by simp [rowOf, Value.ownBlock]
  have fin : LaneIn (W.setCell ⟨b, 1, none⟩ (.slice (some ⟨g, 0, none⟩) (ps.length - 1) cap)) b m (.slice (some ⟨g, 0, none⟩) (ps.length - 1) cap) (ps.eraseIdx k) n shut := by
    refine ⟨by simpa using Bb.set 1 (.slice (some ⟨g, 0, none⟩) (ps.length - 1) cap), ?_, Mm.fr f3 (by simpa using Ne.symm d1), ?_, ?_, h.r1, by omega, fun q hq => h.r3 q (hsub.subset hq)⟩
    · refine Own.fr (w := W) (S := [b]) ?_ f3 (fun x hx => by rw [hgv x hx]; simpa using Ne.symm hbg)
      refine ⟨flat_len3 _, .inr ⟨g, cap, R.toArray, by rw [hel], Nat.zero_le _, Bg, by omega, by unfold maxLen; omega, by simpa using hRl, hdr⟩⟩
    · intro q hq
      exact (Pq q (hsub.subset hq)).fr f3 (fun x hx => by simp; rintro rfl; exact d3 (mem_Lb (hsub.subset hq) hx))
    · rw [foot_nodup]
      exact ⟨d1, fun hh => hbg (hgv _ hh), fun hh => d3 (hLs.subset hh), fun hh => hmg (hgv _ hh), fun hh => d5 (hLs.subset hh), hLs.nodup d6, fun x hx hh => d7 x (by rw [hgv x hx]; exact hgr) (hLs.subset hh)⟩
  have went : Went w (W.setCell ⟨b, 1, none⟩ (.slice (some ⟨g, 0, none⟩) (ps.length - 1) cap)) (footOf b m (.slice (some ⟨g, 0, none⟩) ps.length cap) ps) (footOf b m (.slice (some ⟨g, 0, none⟩) (ps.length - 1) cap) (ps.eraseIdx k)) := by
    refine ⟨(fW.mono (fun x hx => by simp at hx; subst hx; simp [footOf, rowOf, Value.ownBlock])).andThen f3 (fun x hx => by simp at hx; subst hx; left; simp [footOf]), fun x hx => .inl ?_⟩
    simp only [footOf, List.mem_cons, List.mem_append] at hx ⊢
    rcases hx with hx | hx | hx | hx
    · exact .inl hx
    · exact .inr (.inl hx)
    · exact .inr (.inr (.inl (by rw [hgv x hx]; exact hgr)))
    · exact .inr (.inr (.inr (hLs.subset hx)))
  have fr' : Fr (b :: rowOf (.slice (some ⟨g, 0, none⟩) ps.length cap)) w (W.setCell ⟨b, 1, none⟩ (.slice (some ⟨g, 0, none⟩) (ps.length - 1) cap)).drew := ((fW.mono (fun x hx => by simp at hx; subst hx; simp [rowOf, Value.ownBlock])).andThen f3 (fun x hx => by simp at hx; subst hx; left; simp)).drew
  have fin' := fin.nilfr (Fr.refl [] _).drew
  have went' := went.trans (Went.quiet (Fr.refl [] _).drew)
  go_upto_region 4 with (fail)
  refine wp_tail 14 (by kernel_rfl) (by kernel_rfl) ?_
  simp only [List.take_succ_cons, List.take_zero, List.drop_succ_cons, List.drop_zero]
  repeat still_step
  refine wpStill_nil ?_
  go_wp2
  all_goals
    go_ret
    first
      | exact ⟨rfl, _, fin', went', fr', fun x hx => by rw [hgv x hx]; exact hgr⟩
      | (subst_vars; exact ⟨rfl, _, fin', went', fr', fun x hx => by rw [hgv x hx]; exact hgr⟩)
end

theorem Lb_erase {ps : List (Pc × Pk)} {j : Nat} (hj : j < ps.length) (hn : (Lb ps).Nodup) : ∀ g ∈ rowOf ps[j].1.val, g ∉ Lb (ps.eraseIdx j) := by
  intro g hg hh
  have e : ps = ps.take j ++ ps[j] :: ps.drop (j + 1) := by rw [← List.drop_eq_getElem_cons hj, List.take_append_drop]
  have e1 : Lb ps = Lb (ps.take j) ++ (rowOf ps[j].1.val ++ Lb (ps.drop (j + 1))) := by
    have := congrArg Lb e
    rw [Lb_append] at this
    exact this
  have e2 : Lb (ps.eraseIdx j) = Lb (ps.take j) ++ Lb (ps.drop (j + 1)) := by rw [List.eraseIdx_eq_take_drop_succ, Lb_append]
  rw [e1, List.nodup_append, List.nodup_append] at hn
  obtain ⟨_, ⟨_, _, h2⟩, h3⟩ := hn
  rw [e2, List.mem_append] at hh
  rcases hh with hh | hh
  · exact h3 g hh g (List.mem_append_left _ hg) rfl
  · exact h2 g hg g hh rfl

def LaneM.drop (L : LaneM) (k : Int) : LaneM := if hasE L.way.length k = 0 then { L with way := L.way.eraseIdx k.toNat } else L
theorem hasE_six {n : Nat} {k : Int} (h : hasE n k ≠ 0) : hasE n k = 6 := by
  unfold hasE at *
  split at h
  · rename_i hh; rw [if_pos hh]
  · exact absurd rfl h
theorem hasE_zero {n : Nat} {k : Int} (h : hasE n k = 0) : ∃ j : Nat, k = j ∧ j < n := by
  unfold hasE at h
  split at h
  · cases h
  · exact ⟨k.toNat, by omega, by omega⟩
theorem map_eraseIdx' {α β : Type} (f : α → β) : ∀ (l : List α) (k : Nat), (l.eraseIdx k).map f = (l.map f).eraseIdx k
  | [], _ => rfl
  | a :: l, 0 => rfl
  | a :: l, k + 1 => by simp [map_eraseIdx' f l k]
def DropPost (w : World) (b : Nat) (F : List Nat) (L : LaneM) (k : Int) (e : Ending) (w' : World) : Prop :=
  ∃ F', e = .returned (.int .i64 (hasE L.way.length k)) ∧ LaneAt w' b F' (L.drop k) ∧ Went w w' F F' ∧ b ∈ F'
theorem drop_t {w : World} {b : Nat} {F : List Nat} {L : LaneM} (k : Int) (h : LaneAt w b F L) (hk : I64 k) :
   Calls Try.prog 12 #[.pointer (some ⟨b, 0, none⟩), .int .i64 k] w (DropPost w b F L k) := by
  have hL := h
  obtain ⟨m, v, ps, h, hw, rfl⟩ := h
  have hlen : L.way.length = ps.length := by rw [hw]; simp
  by_cases h0 : hasE L.way.length k = 0
  · obtain ⟨j, rfl, hj⟩ := hasE_zero h0
    refine (drop_ok j h (by omega)).mono ?_
    rintro e w' ⟨rfl, v', g1, g2, _, _⟩
    exact ⟨_, by rw [h0], ⟨m, v', _, by simpa [LaneM.drop, h0] using g1, by unfold LaneM.drop; rw [if_pos h0]; simp [hw, map_eraseIdx'], rfl⟩, g2, by simp [footOf]⟩
  · have h6 := hasE_six h0
    refine (drop_no k h hk (by rw [← hlen]; exact h6)).mono ?_
    rintro e w' ⟨rfl, rfl⟩
    exact ⟨_, by rw [h6], by simpa [LaneM.drop, h0] using hL, Went.refl _ _, by simp [footOf]⟩
end Go.Proofs.Ythnienoefnfnpaa
