/- Walks: Take. Conditions: each theorem's own. -/
import Derived.Test.YthnienoefnfnpaaWf
namespace Go.Proofs.Ythnienoefnfnpaa
open Go.RowKit Go.Sig

def takeE (L : LaneM) (k : Int) : Int := if hasE L.way.length k = 0 then (if shutB L (L.way.getD k.toNat default).src (L.way.getD k.toNat default).dst then 9 else 0) else 6
def LaneM.take (L : LaneM) (k : Int) : LaneM := if takeE L k = 0 then L.drop k else L
@[reducible] def Pc.zero : Pc := ⟨0, 0, none, 0, 0⟩
def TakePost (w : World) (b : Nat) (F : List Nat) (L : LaneM) (k : Int) (e : Ending) (w' : World) : Prop :=
  ∃ F' pc, e = .returned (.tuple #[.agg #[.int .i64 pc.src, .int .i64 pc.dst, .slice pc.a pc.n pc.c], .int .i64 (takeE L k)]) ∧ LaneAt w' b F' (L.take k) ∧ Went w w' F F' ∧ b ∈ F' ∧
    (takeE L k ≠ 0 → pc = Pc.zero) ∧ (takeE L k = 0 → PkAt w' pc (L.way.getD k.toNat default) ∧ ∀ g ∈ rowOf pc.val, g ∈ F ∧ g ∉ F')

section
variable {w : World} {b m : Nat} {v : Value} {ps : List (Pc × Pk)} {n : Int} {shut : List ((Int × Int) × Bool)} {F : List Nat} {L : LaneM}
theorem take_no (k : Int) (h : LaneAt w b F L) (hk : I64 k) (h6 : hasE L.way.length k = 6) :
   Calls Try.prog 15 #[.pointer (some ⟨b, 0, none⟩), .int .i64 k] w (TakePost w b F L k) := by
  have hL := h
  obtain ⟨m, v, ps, h, hw, rfl⟩ := h
  have hlen : L.way.length = ps.length := by rw [hw]; simp
  have hh := fun w (h : LaneIn w b m v ps L.n L.shut) => has_t k h hk
  rw [← hlen, h6] at hh
  have e1 : takeE L k = 6 := by unfold takeE; rw [if_neg (by omega)]
  have e2 : L.take k = L := by unfold LaneM.take; rw [if_neg (by omega)]
  go_enter Try.func15, Try.ntmps15
  go_wp2_with fail
  refine (hh _ (h.nilfr ((Fr.refl [] w).alloc _))).mono ?_
  rintro e w' ⟨rfl, rfl⟩
  have hB := (Blk.new w 37 #[.int .i64 0, .int .i64 0, .slice none 0 0]).c3
  have hz := fun i => (Blk.new w 37 #[.int .i64 0, .int .i64 0, .slice none 0 0]).frozen i
  go_wp2
  refine bodyPost_ret (v := .tuple #[.agg #[.int .i64 0, .int .i64 0, .slice none 0 0], .int .i64 6]) (by simp [results, Try.results15, go_sem]) rfl ⟨footOf b m v ps, Pc.zero, by rw [e1], ?_, ?_, by simp [footOf], fun _ => rfl, fun h => by omega⟩
  · rw [e2]
    refine hL.nilfr ?_
    repeat (first | with_reducible exact Fr.refl _ _ | with_reducible refine Fr.alloc ?_ _ | (with_reducible refine Fr.setCell ?_ ?_ _; rotate_left; simp))
  · refine Went.quiet ?_
    repeat (first | with_reducible exact Fr.refl _ _ | with_reducible refine Fr.alloc ?_ _ | (with_reducible refine Fr.setCell ?_ ?_ _; rotate_left; simp))

theorem take_yes (j : Nat) (h : LaneAt w b F L) (hj : j < L.way.length) :
   Calls Try.prog 15 #[.pointer (some ⟨b, 0, none⟩), .int .i64 j] w (TakePost w b F L j) := by
  have hL := h
  obtain ⟨m, v, ps, h, hw, rfl⟩ := h
  have hlen : L.way.length = ps.length := by rw [hw]; simp
  rw [hlen] at hj
  have hr2 := h.r2
  have hk : I64 (j : Int) := ⟨by omega, by omega⟩
  have h0 : hasE ps.length (j : Int) = 0 := by unfold hasE; rw [if_neg (by omega)]
  have hh := fun w (h : LaneIn w b m v ps L.n L.shut) => has_t (j : Int) h hk
  rw [h0] at hh
  have hwj : L.way.getD j default = ps[j].2 := by rw [hw]; simp [List.getD, hj]
  have fa : Fr [] w (w.alloc (.cells #[.int .i64 0, .int .i64 0, .slice none 0 0] 37)) := (Fr.refl _ _).alloc _
  have l1 := h.nilfr fa
  obtain ⟨g, cap, rfl, c0, c1, c2⟩ := l1.at hj
  have hc := l1.cells
  have hq := h.pks _ (List.getElem_mem hj)
  have hrow : ∀ x ∈ rowOf ps[j].1.val, x ∈ Lb ps := fun x hx => mem_Lb (List.getElem_mem hj) hx
  obtain ⟨hs, hd, hown, hle⟩ := hq
  rw [hs] at c0
  rw [hd] at c1
  go_enter Try.func15, Try.ntmps15
  go_wp2_with fail
  refine (hh _ l1).mono ?_
  rintro e w' ⟨rfl, rfl⟩
  go_upto_region 5 with (fail)
  refine wp_gen (fun W => Blk W w.heap.size 37 #[.int .i64 0, .int .i64 0, .slice none 0 0] ∧ Blk W (w.heap.size + 1) 37 #[.int .i64 ps[j].2.src, .int .i64 ps[j].2.dst, .slice ps[j].1.a ps[j].1.n ps[j].1.c] ∧ Fr [] w W) ⟨(Blk.new _ _ _).alloc _, Blk.new' _ _ (by simp), fa.alloc _⟩ ?_
  clear c0 c1 c2 hc l1 fa
  rintro W ⟨B4, B7, fW⟩
  have l2 := h.nilfr fW
  have b7 := B7.c3
  have b4 := B4.c3
  have hk0 := And.intro l2.cells.2.2.1 (And.intro b7.1 b7.2.1)
  generalize hg4 : w.heap.size = g4 at *
  go_region_held3 (fun w' => w'.cell? ⟨b, 2, none⟩ = some (.map (some m)) ∧ w'.cell? ⟨g4 + 1, 0, none⟩ = some (.int .i64 ps[j].2.src) ∧ w'.cell? ⟨g4 + 1, 1, none⟩ = some (.int .i64 ps[j].2.dst))
    (first | exact hk0 | exact hk1)
    (first
      | (go_at_call 32; refine (key_t ps[j].2.src ps[j].2.dst _).mono ?_; rintro e w1 ⟨rfl, f1⟩; have l3 := l2.nilfr f1.of_drew; have C7 := B7.fr f1.of_drew (by simp); have c7 := C7.c3; have hk1 := And.intro l3.cells.2.2.1 (And.intro c7.1 c7.2.1); have hlk := l3.shut.run_lookup k66 u60 z4 (keyM ps[j].2.src ps[j].2.dst)))
  have C4 := B4.fr f1.of_drew (by simp)
  have c4 := C4.c3
  have z4' := fun i => C4.frozen i
  have hl4 := C4.lt
  have hl7 := C7.lt
  have fV : Fr [] w w1 := fW.trans f1.of_drew
  cases hsh : (aget (keyM ps[j].2.src ps[j].2.dst) L.shut).getD false with
  | true =>
    have e1 : takeE L j = 9 := by
      unfold takeE shutB
      rw [hlen, if_pos h0, Int.toNat_natCast, hwj, if_pos hsh]
    have e2 : L.take j = L := by unfold LaneM.take; rw [if_neg (by omega)]
    go_wp2
    refine bodyPost_ret (v := .tuple #[.agg #[.int .i64 0, .int .i64 0, .slice none 0 0], .int .i64 9]) (by simp [results, Try.results15, go_sem, c4]) rfl ⟨footOf b m (.slice (some ⟨g, 0, none⟩) ps.length cap) ps, Pc.zero, by rw [e1], ?_, ?_, by simp [footOf], fun _ => rfl, fun h => by omega⟩
    · rw [e2]
      refine hL.nilfr ?_
      repeat (first | with_reducible exact fV | with_reducible refine Fr.alloc ?_ _ | (with_reducible refine Fr.setCell ?_ ?_ _; rotate_left; simp; try omega))
    · refine Went.quiet ?_
      repeat (first | with_reducible exact fV | with_reducible refine Fr.alloc ?_ _ | (with_reducible refine Fr.setCell ?_ ?_ _; rotate_left; simp; try omega))
  | false =>
    have e1 : takeE L j = 0 := by
      unfold takeE shutB
      rw [hlen, if_pos h0, Int.toNat_natCast, hwj, if_neg (by simp [hsh])]
    have e2 : L.take j = L.drop j := by unfold LaneM.take; rw [if_pos e1]
    have l3' := l2.nilfr f1.of_drew
    have hF1 : ∀ x ∈ footOf b m (.slice (some ⟨g, 0, none⟩) ps.length cap) ps, x < g4 := fun x hx => by rw [← hg4]; exact h.lt x hx
    have hn4 : g4 ∉ footOf b m (.slice (some ⟨g, 0, none⟩) ps.length cap) ps := fun hh => absurd (hF1 _ hh) (by omega)
    have hn7 : g4 + 1 ∉ footOf b m (.slice (some ⟨g, 0, none⟩) ps.length cap) ps := fun hh => absurd (hF1 _ hh) (by omega)
    go_upto_region 7 with (fail)
    go_region_held3 (fun w' => w'.cell? ⟨g4 + 1, 0, none⟩ = some (.int .i64 ps[j].2.src) ∧ w'.cell? ⟨g4 + 1, 1, none⟩ = some (.int .i64 ps[j].2.dst) ∧ w'.cell? ⟨g4 + 1, 2, none⟩ = some (.slice ps[j].1.a ps[j].1.n ps[j].1.c))
      (first | exact c7 | exact d7 | exact e7)
      (first
        | (go_at_call 12; refine (drop_ok j (l3'.nilfr (Fr.refl [] _).drew) hj).mono ?_; rintro e w3 ⟨rfl, v', g1, g2, g3, gv⟩; have G2 := g2.fr.of_drew; have D7 := C7.fr G2 hn7; have d7 := D7.c3; have D4 := C4.fr G2 hn4; have d4 := D4.c3; have z4'' := fun i => D4.frozen i; have E4 := ((D4.set 0 (.int .i64 ps[j].2.src)).set 1 (.int .i64 ps[j].2.dst)).set 2 (.slice ps[j].1.a ps[j].1.n ps[j].1.c); have E7 := ((D7.far (p := ⟨g4, 0, none⟩) (by simp) (.int .i64 ps[j].2.src)).far (p := ⟨g4, 1, none⟩) (by simp) (.int .i64 ps[j].2.dst)).far (p := ⟨g4, 2, none⟩) (by simp) (.slice ps[j].1.a ps[j].1.n ps[j].1.c); have e7 := E7.c3; have e4 := E4.c3))
    have E4' : Blk (((w3.setCell ⟨g4, 0, none⟩ (.int .i64 ps[j].2.src)).setCell ⟨g4, 1, none⟩ (.int .i64 ps[j].2.dst)).setCell ⟨g4, 2, none⟩ (.slice ps[j].1.a ps[j].1.n ps[j].1.c)) g4 37 #[.int .i64 ps[j].2.src, .int .i64 ps[j].2.dst, .slice ps[j].1.a ps[j].1.n ps[j].1.c] := by simpa using E4
    have fs : Fr [g4] w3 (((w3.setCell ⟨g4, 0, none⟩ (.int .i64 ps[j].2.src)).setCell ⟨g4, 1, none⟩ (.int .i64 ps[j].2.dst)).setCell ⟨g4, 2, none⟩ (.slice ps[j].1.a ps[j].1.n ps[j].1.c)) := (((Fr.refl [g4] w3).setCell (by simp) _).setCell (by simp) _).setCell (by simp) _
    have hn4' : g4 ∉ footOf b m v' (ps.eraseIdx j) := g2.far hl4 hn4
    obtain ⟨d1, d2, d3, d4', d5, d6, d7'⟩ := foot_nodup.1 h.dist
    have hrF : ∀ x ∈ rowOf ps[j].1.val, x ∈ footOf b m (.slice (some ⟨g, 0, none⟩) ps.length cap) ps := fun x hx => by
      simp only [footOf, List.mem_cons, List.mem_append]
      exact .inr (.inr (.inr (hrow x hx)))
    have l5 := g1.fr fs (fun x hx => by simp; rintro rfl; exact hn4' hx)
    have p5 : PkAt (((w3.setCell ⟨g4, 0, none⟩ (.int .i64 ps[j].2.src)).setCell ⟨g4, 1, none⟩ (.int .i64 ps[j].2.dst)).setCell ⟨g4, 2, none⟩ (.slice ps[j].1.a ps[j].1.n ps[j].1.c)) ⟨ps[j].2.src, ps[j].2.dst, ps[j].1.a, ps[j].1.n, ps[j].1.c⟩ ps[j].2 :=
      ⟨rfl, rfl, ((hown.fr fV (by simp)).fr g3.of_drew (fun x hx => by
        simp only [List.mem_cons, not_or]
        exact ⟨fun e => d3 (e ▸ hrow x hx), fun e => d7' x e (hrow x hx)⟩)).fr fs (fun x hx => by simp; rintro rfl; exact hn4 (hrF _ hx)), hle⟩
    have e5 := E4'.c3
    have sz := fV.size
    have went : Went w (((w3.setCell ⟨g4, 0, none⟩ (.int .i64 ps[j].2.src)).setCell ⟨g4, 1, none⟩ (.int .i64 ps[j].2.dst)).setCell ⟨g4, 2, none⟩ (.slice ps[j].1.a ps[j].1.n ps[j].1.c)) (footOf b m (.slice (some ⟨g, 0, none⟩) ps.length cap) ps) (footOf b m v' (ps.eraseIdx j)) := by
      refine ⟨(fV.nil.trans G2).andThen fs (fun x hx => by simp at hx; subst hx; right; omega), fun x hx => ?_⟩
      rcases g2.sub x hx with h1 | h1
      · exact .inl h1
      · exact .inr (Nat.le_trans sz h1)
    have hfin : ∀ x ∈ rowOf ps[j].1.val, x ∉ footOf b m v' (ps.eraseIdx j) := fun x hx hh => by
      simp only [footOf, List.mem_cons, List.mem_append] at hh
      rcases hh with hh | hh | hh | hh
      · exact d3 (hh ▸ hrow x hx)
      · exact d5 (hh ▸ hrow x hx)
      · exact d7' x (gv x hh) (hrow x hx)
      · exact Lb_erase hj d6 x hx hh
    have hdr : LaneAt (((w3.setCell ⟨g4, 0, none⟩ (.int .i64 ps[j].2.src)).setCell ⟨g4, 1, none⟩ (.int .i64 ps[j].2.dst)).setCell ⟨g4, 2, none⟩ (.slice ps[j].1.a ps[j].1.n ps[j].1.c)) b (footOf b m v' (ps.eraseIdx j)) (L.take j) := by
      rw [e2]
      unfold LaneM.drop
      rw [if_pos (by rw [hlen]; exact h0)]
      exact ⟨m, v', _, l5, by simp [hw, map_eraseIdx'], rfl⟩
    clear E4 E7 e7 e4 D7 d7 D4 d4 z4''
    go_wp2
    refine bodyPost_ret (v := .tuple #[.agg #[.int .i64 ps[j].2.src, .int .i64 ps[j].2.dst, .slice ps[j].1.a ps[j].1.n ps[j].1.c], .int .i64 0]) (by simp [results, Try.results15, go_sem, e5]) rfl ⟨_, ⟨ps[j].2.src, ps[j].2.dst, ps[j].1.a, ps[j].1.n, ps[j].1.c⟩, by rw [e1], hdr, went, by simp [footOf], fun h => absurd e1 h, fun _ => ⟨by rw [Int.toNat_natCast, hwj]; exact p5, fun x hx => ⟨hrF x hx, hfin x hx⟩⟩⟩
end
theorem take_t {w : World} {b : Nat} {F : List Nat} {L : LaneM} (k : Int) (h : LaneAt w b F L) (hk : I64 k) :
   Calls Try.prog 15 #[.pointer (some ⟨b, 0, none⟩), .int .i64 k] w (TakePost w b F L k) := by
  by_cases h0 : hasE L.way.length k = 0
  · obtain ⟨j, rfl, hj⟩ := hasE_zero h0
    exact take_yes j h hj
  · exact take_no k h hk (hasE_six h0)
end Go.Proofs.Ythnienoefnfnpaa
