/- Walks: Kept, At, Spoil, and a nil lane. Conditions: each theorem's own. -/
import Derived.Test.YthnienoefnfnpaaWm
import Derived.Laws.BitsAllLaws
namespace Go.Proofs.Ythnienoefnfnpaa
open Go.RowKit Go.Sig

theorem RoomAt.cell {w : World} {g : Nat} {l : List UInt8} (h : RoomAt w g l) (k : Nat) (hk : k < 3) : w.cell? ⟨g, l.length + k, none⟩ = some (.int .u8 77) := by
  rw [Blk.cell h]
  simp only [List.map_append, List.getElem?_toArray]
  rw [List.getElem?_append_right (by simp)]
  have : k = 0 ∨ k = 1 ∨ k = 2 := by omega
  rcases this with e | e | e <;> subst e <;> simp [bv]
theorem RoomAt.byts {w : World} {g : Nat} {l : List UInt8} (h : RoomAt w g l) : Byts w (some ⟨g, 0, none⟩) l.length l := by
  refine ⟨by simp, fun _ => ⟨g, 0, rfl, fun j u hu => ?_⟩⟩
  have hj : j < l.length := by
    have := (List.getElem?_eq_some_iff.1 hu).1
    simpa using this
  rw [Nat.zero_add, Blk.cell h]
  simp only [List.map_append, List.getElem?_toArray]
  rw [List.getElem?_append_left (by simpa using hj)]
  exact hu
theorem kept_t (g : Nat) (A : Option Addr) (n c : Nat) (l : List UInt8) (w : World) (h : RoomAt w g l) (h2 : Byts w A n l) (hn : n ≤ 65544) :
   Calls Try.prog 22 #[.slice (some ⟨g, 0, none⟩) n (n + 3), .slice A n c] w fun e w' => e = .returned (.bool true) ∧ Fr [] w w' := by
  have hl : l.length = n := h2.length
  have hb := h.byts
  rw [hl] at hb
  have k1 : ((n : Int) + 3).toNat = n + 3 := by omega
  have k2 : (0 : Int) ≤ (n : Int) + 3 := by omega
  have k3 : ¬ n + 3 = 0 := by omega
  have w1 : IntKind.i64.wrap ((n : Int) + 3) = (n : Int) + 3 := by rw [IntKind.wrap_i64]; omega
  have w2 : IntKind.i64.wrap ((n : Int) + 1) = (n : Int) + 1 := by rw [IntKind.wrap_i64]; omega
  have w3 : IntKind.i64.wrap ((n : Int) + 2) = (n : Int) + 2 := by rw [IntKind.wrap_i64]; omega
  have t1 : ((n : Int) + 1).toNat = n + 1 := by omega
  have t2 : ((n : Int) + 2).toNat = n + 2 := by omega
  have p1 : (0 : Int) ≤ (n : Int) + 1 := by omega
  have p2 : (0 : Int) ≤ (n : Int) + 2 := by omega
  have q0 : (n : Int) < (n : Int) + 3 := by omega
  have q1 : (n : Int) + 1 < (n : Int) + 3 := by omega
  have q2 : (n : Int) + 2 < (n : Int) + 3 := by omega
  go_enter Try.func22, Try.ntmps22
  go_wp2_with fail
  refine (same1_t _ n (n + 3) A n c l w hb h2 (by omega)).mono ?_
  rintro e W ⟨rfl, fW⟩
  have hW : RoomAt W g l := Blk.fr h fW (by simp)
  have c0 := hW.cell 0 (by omega)
  have c1 := hW.cell 1 (by omega)
  have c2 := hW.cell 2 (by omega)
  rw [hl] at c0 c1 c2
  rw [Nat.add_zero] at c0
  go_wp2
  go_ret
  exact ⟨rfl, fW⟩

section
variable {w : World} {b m : Nat} {v : Value} {ps : List (Pc × Pk)} {n : Int} {shut : List ((Int × Int) × Bool)} {F : List Nat} {L : LaneM}
theorem at_t (j : Nat) (h : LaneAt w b F L) (hj : j < L.way.length) :
   Calls Try.prog 23 #[.pointer (some ⟨b, 0, none⟩), .int .i64 j] w fun e w' => ∃ pc : Pc, e = .returned (.tuple #[.agg #[.int .i64 pc.src, .int .i64 pc.dst, .slice pc.a pc.n pc.c], .int .i64 0]) ∧ PkAt w' pc (L.way.getD j default) ∧ Fr [] w w' ∧ (∀ g ∈ rowOf pc.val, w.heap.size ≤ g) := by
  have hL := h
  obtain ⟨m, v, ps, h, hw, rfl⟩ := h
  have hlen : L.way.length = ps.length := by rw [hw]; simp
  rw [hlen] at hj
  have hr2 := h.r2
  have hk : I64 (j : Int) := ⟨by omega, by omega⟩
  have h0 : hasE ps.length (j : Int) = 0 := by unfold hasE; rw [if_neg (by omega)]
  have hh := fun w (h : LaneIn w b m v ps L.n L.shut) => has_t (j : Int) h hk
  rw [h0] at hh
  have hwj : L.way.getD j default = ps[j].2 := by rw [hw]; simp [List.getD, hj]
  have fa : Fr [] w (w.alloc (.cells #[.int .i64 0, .int .i64 0, .slice none 0 0] 37)) := (Fr.refl _ _).alloc _
  have l1 := h.nilfr fa
  obtain ⟨g, cap, rfl, c0, c1, c2⟩ := l1.at hj
  have hc := l1.cells
  obtain ⟨hs, hd, hown, hle⟩ := l1.pks _ (List.getElem_mem hj)
  rw [hs] at c0
  rw [hd] at c1
  clear hs hd
  have hnil : ps[j].1.a = none → ps[j].1.n = 0 := fun ha => by
    rcases hown.2 with ⟨_, h0⟩ | ⟨_, _, _, hv, _⟩
    · exact h0
    · unfold Pc.val at hv; rw [ha] at hv; cases hv
  have hbyt : Byts (w.alloc (.cells #[.int .i64 0, .int .i64 0, .slice none 0 0] 37)) ps[j].1.a ps[j].1.n ps[j].2.bs := hown.rd
  have hB := Blk.new w 37 #[.int .i64 0, .int .i64 0, .slice none 0 0]
  go_enter Try.func23, Try.ntmps23
  go_wp2_with fail
  refine (hh _ l1).mono ?_
  rintro e w' ⟨rfl, rfl⟩
  go_wp2_with fail
  refine (own_t ps[j].2.src ps[j].2.dst ps[j].1.a ps[j].1.n ps[j].1.c ps[j].2.bs _ hbyt hnil (by omega)).mono ?_
  rintro e w2 ⟨A', c', rfl, o2, f2, g2⟩
  have B2 := hB.fr f2 (by simp)
  have b2 := B2.c3
  have z2 := fun i => B2.frozen i
  go_wp2
  have hszl : w.heap.size + 1 ≤ w2.heap.size := by have := f2.size; simpa using this
  have f3 : Fr [w.heap.size] w2 (((w2.setCell ⟨w.heap.size, 0, none⟩ (.int .i64 ps[j].2.src)).setCell ⟨w.heap.size, 1, none⟩ (.int .i64 ps[j].2.dst)).setCell ⟨w.heap.size, 2, none⟩ (.slice A' ps[j].1.n c')) := (((Fr.refl _ _).setCell (by simp) _).setCell (by simp) _).setCell (by simp) _
  have E2 : Blk (((w2.setCell ⟨w.heap.size, 0, none⟩ (.int .i64 ps[j].2.src)).setCell ⟨w.heap.size, 1, none⟩ (.int .i64 ps[j].2.dst)).setCell ⟨w.heap.size, 2, none⟩ (.slice A' ps[j].1.n c')) w.heap.size 37 #[.int .i64 ps[j].2.src, .int .i64 ps[j].2.dst, .slice A' ps[j].1.n c'] := by simpa using ((B2.set 0 (.int .i64 ps[j].2.src)).set 1 (.int .i64 ps[j].2.dst)).set 2 (.slice A' ps[j].1.n c')
  have e2 := E2.c3
  have hg : ∀ x ∈ rowOf (Pc.val ⟨ps[j].2.src, ps[j].2.dst, A', ps[j].1.n, c'⟩), w.heap.size < x := fun x hx => by
    have := g2 x hx
    simp at this
    omega
  refine bodyPost_ret (v := .tuple #[.agg #[.int .i64 ps[j].2.src, .int .i64 ps[j].2.dst, .slice A' ps[j].1.n c'], .int .i64 0]) (by simp [results, Try.results23, go_sem, e2]) rfl ⟨⟨ps[j].2.src, ps[j].2.dst, A', ps[j].1.n, c'⟩, rfl, ?_, ?_, fun x hx => Nat.le_of_lt (hg x hx)⟩
  · rw [hwj]
    exact ⟨rfl, rfl, o2.fr f3 (fun x hx => by have := hg x hx; simp; omega), hle⟩
  · exact (fa.trans f2).andThen f3 (fun x hx => by simp at hx; subst hx; exact .inr (Nat.le_refl _))


theorem Own.setAt {w : World} {e : TypeId} {g n cap j : Nat} {xs : List Value} (h : Own w e 1 (.slice (some ⟨g, 0, none⟩) n cap) n xs) (hj : j < n) (u : Value) : Own (w.setCell ⟨g, j, none⟩ u) e 1 (.slice (some ⟨g, 0, none⟩) n cap) n (xs.set j u) := by
  rcases h.2 with ⟨hv, _⟩ | ⟨g', cp, cur, hv, hz, hg, hcp, hmx, hcs, hx⟩
  · cases hv
  injection hv with hv _ hc
  injection hv with hv
  injection hv with hv _ _
  subst hv hc
  refine ⟨by simpa using h.1, .inr ⟨g, cap, cur.setIfInBounds j u, rfl, hz, Blk.set hg j u, hcp, hmx, by simpa using hcs, ?_⟩⟩
  rw [Array.toList_setIfInBounds, ← hx, List.take_set]

theorem bv_xor (x y : UInt8) : (.int .u8 (bits BinOp.xor .u8 (x.toNat : Int) (y.toNat : Int)) : Value) = bv (x ^^^ y) := by
  unfold bv
  rw [u8_xor_nat _ _ x.toNat_lt y.toNat_lt, UInt8.toNat_xor]

theorem spoil_ok (k j : Nat) (by_ : UInt8) (h : LaneIn w b m v ps n shut) (hk : k < ps.length) (hj : j < ps[k].1.n) :
   Calls Try.prog 24 #[.pointer (some ⟨b, 0, none⟩), .int .i64 k, .int .i64 j, bv by_] w fun e w' => e = .returned (.int .i64 0) ∧ ∃ g5, rowOf ps[k].1.val = [g5] ∧ w' = w.setCell ⟨g5, j, none⟩ (bv (ps[k].2.bs.getD j 0 ^^^ by_)) ∧ ps[k].1.val = .slice (some ⟨g5, 0, none⟩) ps[k].1.n ps[k].1.c := by
  have hr2 := h.r2
  have hkI : I64 (k : Int) := ⟨by omega, by omega⟩
  have h0 : hasE ps.length (k : Int) = 0 := by unfold hasE; rw [if_neg (by omega)]
  have hh := fun w (h : LaneIn w b m v ps n shut) => has_t (k : Int) h hkI
  rw [h0] at hh
  obtain ⟨g, cap, rfl, c0, c1, c2⟩ := h.at hk
  have hc := h.cells
  obtain ⟨hs, hd, hown, hle⟩ := h.pks _ (List.getElem_mem hk)
  clear hs hd c0 c1
  rcases hown.2 with ⟨_, h0⟩ | ⟨g5, cp, cur, hv0, _, hg5, hcp, _, hcs, hx⟩
  · omega
  have hv := hv0
  unfold Pc.val at hv
  injection hv with hv _ hv3
  rw [hv] at c2
  have hB5 : Blk w g5 5 cur := hg5
  have hcj : w.cell? ⟨g5, j, none⟩ = some (.int .u8 ((ps[k].2.bs.getD j 0).toNat : Int)) := by
    have hl := hown.length
    simp only [List.length_map, Nat.mul_one] at hl
    have := hown.rd.2 (by omega)
    obtain ⟨b', o, hA, hcc⟩ := this
    rw [hv] at hA
    injection hA with hA
    injection hA with e1 e2 _
    subst e1 e2
    have := hcc j (bv (ps[k].2.bs.getD j 0)) (by simp [List.getD, List.getElem?_map, List.getElem?_eq_getElem (show j < ps[k].2.bs.length by omega)])
    simpa [bv] using this
  have hz := hB5.frozen j
  have hgl := hB5.lt
  have hxr := bv_xor (ps[k].2.bs.getD j 0) by_
  have hfin : ∀ W, W = w.setCell ⟨g5, j, none⟩ (.int .u8 (bits BinOp.xor .u8 ((ps[k].2.bs.getD j 0).toNat : Int) (by_.toNat : Int))) → ∃ g5, rowOf ps[k].1.val = [g5] ∧ W = w.setCell ⟨g5, j, none⟩ (bv (ps[k].2.bs.getD j 0 ^^^ by_)) ∧ ps[k].1.val = .slice (some ⟨g5, 0, none⟩) ps[k].1.n ps[k].1.c := by
    rintro W rfl
    exact ⟨g5, by rw [hv0]; rfl, by rw [hxr], by rw [hv0, hv3]⟩
  clear hxr hv0 hx hcs hcp hB5 hown hg5
  unfold bv
  generalize ((ps[k].2.bs.getD j 0).toNat : Int) = x at *
  generalize (by_.toNat : Int) = y at *
  have hji : (j : Int) < ps[k].1.n := by omega
  go_enter Try.func24, Try.ntmps24
  go_wp2_with fail
  refine (hh _ h).mono ?_
  rintro e w' ⟨rfl, rfl⟩
  go_wp2
  go_ret
  exact ⟨rfl, hfin _ rfl⟩

theorem spoil_at (k : Nat) (j : Int) (by_ : Int) (h : LaneIn w b m v ps n shut) (hk : k < ps.length) (hj : ¬ (0 ≤ j ∧ j < ps[k].1.n)) (hjI : I64 j) :
   Calls Try.prog 24 #[.pointer (some ⟨b, 0, none⟩), .int .i64 k, .int .i64 j, .int .u8 by_] w fun e w' => e = .returned (.int .i64 6) ∧ w = w' := by
  have hr2 := h.r2
  have hkI : I64 (k : Int) := ⟨by omega, by omega⟩
  have h0 : hasE ps.length (k : Int) = 0 := by unfold hasE; rw [if_neg (by omega)]
  have hh := fun w (h : LaneIn w b m v ps n shut) => has_t (k : Int) h hkI
  rw [h0] at hh
  obtain ⟨g, cap, rfl, c0, c1, c2⟩ := h.at hk
  have hc := h.cells
  clear c0 c1
  by_cases h1 : 0 ≤ j
  · have h2 : ¬ j < ps[k].1.n := fun hh => hj ⟨h1, hh⟩
    clear hj
    go_enter Try.func24, Try.ntmps24
    go_wp2_with fail
    refine (hh _ h).mono ?_
    rintro e w' ⟨rfl, rfl⟩
    go_wp2
    go_ret
    exact ⟨rfl, rfl⟩
  · clear hj
    go_enter Try.func24, Try.ntmps24
    go_wp2_with fail
    refine (hh _ h).mono ?_
    rintro e w' ⟨rfl, rfl⟩
    go_wp2
    go_ret
    exact ⟨rfl, rfl⟩

theorem spoil_no (k j : Int) (by_ : Int) (h : LaneIn w b m v ps n shut) (hk : I64 k) (hn : hasE ps.length k = 6) :
   Calls Try.prog 24 #[.pointer (some ⟨b, 0, none⟩), .int .i64 k, .int .i64 j, .int .u8 by_] w fun e w' => e = .returned (.int .i64 6) ∧ w = w' := by
  have hh := fun w (h : LaneIn w b m v ps n shut) => has_t k h hk
  rw [hn] at hh
  go_enter Try.func24, Try.ntmps24
  go_wp2_with fail
  refine (hh _ h).mono ?_
  rintro e w' ⟨rfl, rfl⟩
  go_wp2
  go_ret
  exact ⟨rfl, rfl⟩

def spoilE (L : LaneM) (k j : Int) : Int := if hasE L.way.length k = 0 ∧ 0 ≤ j ∧ j < (L.way.getD k.toNat default).bs.length then 0 else 6
def Pk.spoil (p : Pk) (j : Nat) (x : UInt8) : Pk := { p with bs := p.bs.set j (p.bs.getD j 0 ^^^ x) }
def LaneM.spoil (L : LaneM) (k j : Int) (x : UInt8) : LaneM := if spoilE L k j = 0 then { L with way := L.way.set k.toNat ((L.way.getD k.toNat default).spoil j.toNat x) } else L
def SpoilPost (w : World) (b : Nat) (F : List Nat) (L : LaneM) (k j : Int) (x : UInt8) (e : Ending) (w' : World) : Prop :=
  ∃ F', e = .returned (.int .i64 (spoilE L k j)) ∧ LaneAt w' b F' (L.spoil k j x) ∧ Went w w' F F' ∧ b ∈ F'
theorem flat_set {α β : Type} (f : α → List β) : ∀ (l : List α) (k : Nat) (a : α) (hk : k < l.length), f a = f l[k] → (l.set k a).flatMap f = l.flatMap f
  | x :: l, 0, a, _, h => by simp at h; simp [h]
  | x :: l, k+1, a, hk, h => by
    simp only [List.set_cons_succ, List.flatMap_cons]
    rw [flat_set f l k a (by simpa using hk) (by simpa using h)]
theorem LaneIn.spoiled (h : LaneIn w b m v ps n shut) {k j : Nat} (hk : k < ps.length) (hj : j < ps[k].1.n) {g5 : Nat} {x : UInt8} (hr : rowOf ps[k].1.val = [g5]) (hv : ps[k].1.val = .slice (some ⟨g5, 0, none⟩) ps[k].1.n ps[k].1.c) :
    LaneIn (w.setCell ⟨g5, j, none⟩ (bv (ps[k].2.bs.getD j 0 ^^^ x))) b m v (ps.set k (ps[k].1, ps[k].2.spoil j x)) n shut ∧ Lb (ps.set k (ps[k].1, ps[k].2.spoil j x)) = Lb ps := by
  have hL : Lb (ps.set k (ps[k].1, ps[k].2.spoil j x)) = Lb ps := flat_set _ ps k _ hk rfl
  refine ⟨?_, hL⟩
  have hfr : Fr [g5] w (w.setCell ⟨g5, j, none⟩ (bv (ps[k].2.bs.getD j 0 ^^^ x))) := (Fr.refl _ _).setCell (.inl (by simp)) _
  have hin : g5 ∈ Lb ps := mem_Lb (List.getElem_mem hk) (by rw [hr]; simp)
  obtain ⟨d1, d2, d3, d4, d5, d6, d7⟩ := foot_nodup.1 h.dist
  refine ⟨h.blk.fr hfr (by simp; rintro rfl; exact d3 hin), ?_, h.shut.fr hfr (by simp; rintro rfl; exact d5 hin), ?_, ?_, h.r1, by rw [List.length_set]; exact h.r2, ?_⟩
  · have hO : ((ps.set k (ps[k].1, ps[k].2.spoil j x)).flatMap fun q => q.1.cells) = ps.flatMap fun q => q.1.cells := flat_set (fun q : Pc × Pk => q.1.cells) ps k (ps[k].1, ps[k].2.spoil j x) hk rfl
    rw [List.length_set, hO]
    exact h.own.fr hfr (fun x hx => by simp; rintro rfl; exact d7 _ hx hin)
  · intro q hq
    obtain ⟨i, hi, rfl⟩ := List.mem_iff_getElem.1 hq
    rw [List.length_set] at hi
    by_cases hik : k = i
    · subst hik
      rw [List.getElem_set_self]
      obtain ⟨p1, p2, p3, p4⟩ := h.pks _ (List.getElem_mem hk)
      refine ⟨p1, p2, ?_, p4⟩
      show Own _ 5 1 ps[k].1.val ps[k].1.n ((ps[k].2.bs.set j _).map bv)
      rw [hv] at p3 ⊢
      rw [List.map_set]
      exact Own.setAt p3 hj _
    · rw [List.getElem_set_ne hik]
      refine (h.pks _ (List.getElem_mem hi)).fr hfr (fun y hy => ?_)
      simp
      rintro rfl
      have e1 : y ∈ rowOf ps[k].1.val := by rw [hr]; simp
      have e2 := Lb_erase hk d6 y e1
      exact e2 (List.mem_flatMap.2 ⟨ps[i], List.mem_eraseIdx_iff_getElem.2 ⟨i, hi, Ne.symm hik, rfl⟩, hy⟩)
  · have : footOf b m v (ps.set k (ps[k].1, ps[k].2.spoil j x)) = footOf b m v ps := by unfold footOf; rw [hL]
    rw [this]
    exact h.dist
  · intro q hq
    rcases List.mem_or_eq_of_mem_set hq with hq | rfl
    · exact h.r3 q hq
    · have := h.r3 ps[k] (List.getElem_mem hk)
      exact this
end
theorem spoil_t {w : World} {b : Nat} {F : List Nat} {L : LaneM} (k j : Int) (x : UInt8) (h : LaneAt w b F L) (hk : I64 k) (hj : I64 j) :
   Calls Try.prog 24 #[.pointer (some ⟨b, 0, none⟩), .int .i64 k, .int .i64 j, bv x] w (SpoilPost w b F L k j x) := by
  have hL := h
  obtain ⟨m, v, ps, h, hw, rfl⟩ := h
  have hlen : L.way.length = ps.length := by rw [hw]; simp
  by_cases h0 : hasE L.way.length k = 0
  · obtain ⟨i, rfl, hi⟩ := hasE_zero h0
    have hi' : i < ps.length := by omega
    have hwi : L.way.getD i default = ps[i].2 := by rw [hw]; simp [List.getD, hi']
    have hpl : ps[i].2.bs.length = ps[i].1.n := by have := (h.pks _ (List.getElem_mem hi')).own.length; simpa using this
    by_cases h1 : 0 ≤ j ∧ j < ps[i].1.n
    · obtain ⟨z, rfl⟩ : ∃ z : Nat, j = z := ⟨j.toNat, by omega⟩
      have hE : spoilE L i z = 0 := by unfold spoilE; rw [Int.toNat_natCast, hwi, hpl, if_pos ⟨h0, h1⟩]
      have hz : z < ps[i].1.n := by omega
      refine (spoil_ok i z x h hi' hz).mono ?_
      rintro e w' ⟨rfl, g5, hr, rfl, hv⟩
      obtain ⟨s1, s2⟩ := h.spoiled hi' hz (x := x) hr hv
      have hin : g5 ∈ Lb ps := mem_Lb (List.getElem_mem hi') (by rw [hr]; simp)
      refine ⟨_, by rw [hE], ⟨m, v, ps.set i (ps[i].1, ps[i].2.spoil z x), ?_, ?_, rfl⟩, ⟨(Fr.refl _ _).setCell (.inl (by simp [footOf, hin])) _, ?_⟩, by simp [footOf]⟩
      · unfold LaneM.spoil
        rw [if_pos hE]
        exact s1
      · unfold LaneM.spoil
        rw [if_pos hE, Int.toNat_natCast, Int.toNat_natCast, hwi, hw]
        simp
      · intro g hg
        left
        unfold footOf at hg ⊢
        rw [s2] at hg
        exact hg
    · have hE : spoilE L i j ≠ 0 := by unfold spoilE; rw [Int.toNat_natCast, hwi, hpl, if_neg (fun hh => h1 hh.2)]; decide
      have hE6 : spoilE L i j = 6 := by unfold spoilE; rw [Int.toNat_natCast, hwi, hpl, if_neg (fun hh => h1 hh.2)]
      refine (spoil_at i j _ h hi' h1 hj).mono ?_
      rintro e w' ⟨rfl, rfl⟩
      exact ⟨_, by rw [hE6], by simpa [LaneM.spoil, hE] using hL, Went.refl _ _, by simp [footOf]⟩
  · have h6 := hasE_six h0
    have hE6 : spoilE L k j = 6 := by unfold spoilE; rw [if_neg (fun hh => h0 hh.1)]
    refine (spoil_no k j _ h hk (by rw [← hlen]; exact h6)).mono ?_
    rintro e w' ⟨rfl, rfl⟩
    exact ⟨_, by rw [hE6], by simpa [LaneM.spoil, hE6] using hL, Went.refl _ _, by simp [footOf]⟩
end Go.Proofs.Ythnienoefnfnpaa
