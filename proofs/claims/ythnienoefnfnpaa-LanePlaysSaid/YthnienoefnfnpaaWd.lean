/- Walks: key, link, Shut, Join, Heal, Open: each returns what the model says. Conditions: each theorem's own. -/
import Derived.Test.YthnienoefnfnpaaWb
import Derived.Test.YthnienoefnfnpaaKy
import Derived.Deep.RegionHeld3
import Derived.Deep.DeepCutAuto
namespace Go.Proofs.Ythnienoefnfnpaa
open Go.RowKit Go.Sig

def keyM (a b : Int) : Int × Int := (min a b, max a b)
theorem u60 : Try.prog.underlying 60 = some (.map 66 4) := by kernel_rfl
theorem z4 (w : World) : (zeroValue 4).run Try.prog w = .ok (.bool false) w := by kernel_rfl

theorem key_t (a b : Int) (w : World) :
   Calls Try.prog 32 #[.int .i64 a, .int .i64 b] w fun e w' => e = .returned (ek (keyM a b)) ∧ Fr [] w w' := by
  go_enter Try.func32, Try.ntmps32
  go_wp2
  all_goals
    refine bodyPost_ret (v := ek (keyM a b)) ?_ rfl ⟨rfl, (Fr.refl _ _).alloc _⟩
    simp [results, Try.results32, go_sem, ek, keyM]
    try omega

section
variable {w w1 w2 : World} {b m : Nat} {v : Value} {ps : List (Pc × Pk)} {n : Int} {shut shut' : List ((Int × Int) × Bool)}
theorem LaneIn.turn (h : LaneIn w b m v ps n shut) (hm : IsMap w2 m ek Value.bool shut') (ht : Turned m w w2) : LaneIn w2 b m v ps n shut' := by
  obtain ⟨d1, d2, d3, d4, d5, d6, d7⟩ := foot_nodup.1 h.dist
  exact ⟨h.blk.fr ht.fr (by simpa using d1), h.own.fr ht.fr (fun g hg => by simp; rintro rfl; exact d4 hg), hm, fun q hq => (h.pks q hq).fr ht.fr (fun g hg => by simp; rintro rfl; exact d5 (mem_Lb hq hg)), h.dist, h.r1, h.r2, h.r3⟩
end

section
variable {w : World} {b m : Nat} {v : Value} {ps : List (Pc × Pk)} {n : Int} {shut : List ((Int × Int) × Bool)}
theorem link_ok (x y : Int) (s : Bool) (h : LaneIn w b m v ps n shut) (hx : I64 x) (hy : I64 y) (h1 : nodeB n x = true) (h2 : nodeB n y = true) (h3 : x ≠ y) :
   Calls Try.prog 31 #[.pointer (some ⟨b, 0, none⟩), .int .i64 x, .int .i64 y, .bool s] w fun e w' => e = .returned (.int .i64 0) ∧ LaneIn w' b m v ps n (aset (keyM x y) s shut) ∧ Fr [m] w w' := by
  have hn1 := fun w (h : LaneIn w b m v ps n shut) => node_t x h hx
  have hn2 := fun w (h : LaneIn w b m v ps n shut) => node_t y h hy
  rw [h1] at hn1
  rw [h2] at hn2
  have hc := h.cells
  have hk := hc.2.2.1
  go_enter Try.func31, Try.ntmps31
  go_wp2_with fail
  refine (hn1 _ h).mono ?_
  rintro e w' ⟨rfl, rfl⟩
  go_wp2_with fail
  refine (hn2 _ h).mono ?_
  rintro e w' ⟨rfl, rfl⟩
  go_upto_region 5 with (fail)
  go_region_held3 (fun w' => w'.cell? ⟨b, 2, none⟩ = some (.map (some m))) (first | exact hk | exact hk1 | exact hk2)
    (first | (go_at_call 32; refine (key_t x y _).mono ?_; rintro e w1 ⟨rfl, f1⟩; have l1 := h.nilfr f1.of_drew; have hk1 := l1.cells.2.2.1; obtain ⟨w2, hup, r1, r2⟩ := l1.shut.run_update k66 u60 (keyM x y) s; have hk2 := (l1.blk.fr r2.fr (by simpa using (foot_nodup.1 h.dist).1)).c3.2.2))
  go_wp2
  go_ret
  exact ⟨rfl, l1.turn r1 r2, Fr.trans f1.of_drew.nil r2.fr⟩
theorem link_bad (x y : Int) (s : Bool) (h : LaneIn w b m v ps n shut) (hx : I64 x) (hy : I64 y) (hn : ¬ (nodeB n x = true ∧ nodeB n y = true ∧ x ≠ y)) :
   Calls Try.prog 31 #[.pointer (some ⟨b, 0, none⟩), .int .i64 x, .int .i64 y, .bool s] w fun e w' => e = .returned (.int .i64 6) ∧ w = w' := by
  have hn1 := fun w (h : LaneIn w b m v ps n shut) => node_t x h hx
  have hn2 := fun w (h : LaneIn w b m v ps n shut) => node_t y h hy
  cases h1 : nodeB n x with
  | false =>
    rw [h1] at hn1
    go_enter Try.func31, Try.ntmps31
    go_wp2_with fail
    refine (hn1 _ h).mono ?_
    rintro e w' ⟨rfl, rfl⟩
    go_wp2
    go_ret
    exact ⟨rfl, rfl⟩
  | true =>
    rw [h1] at hn1
    cases h2 : nodeB n y with
    | false =>
      rw [h2] at hn2
      go_enter Try.func31, Try.ntmps31
      go_wp2_with fail
      refine (hn1 _ h).mono ?_
      rintro e w' ⟨rfl, rfl⟩
      go_wp2_with fail
      refine (hn2 _ h).mono ?_
      rintro e w' ⟨rfl, rfl⟩
      go_wp2
      go_ret
      exact ⟨rfl, rfl⟩
    | true =>
      rw [h2] at hn2
      obtain rfl : x = y := by
        apply Classical.byContradiction
        intro h3
        exact hn ⟨h1, h2, h3⟩
      go_enter Try.func31, Try.ntmps31
      go_wp2_with fail
      refine (hn1 _ h).mono ?_
      rintro e w' ⟨rfl, rfl⟩
      go_wp2_with fail
      refine (hn2 _ h).mono ?_
      rintro e w' ⟨rfl, rfl⟩
      go_wp2
      go_ret
      exact ⟨rfl, rfl⟩
end
def linkE (L : LaneM) (x y : Int) : Int := if nodeB L.n x = true ∧ nodeB L.n y = true ∧ x ≠ y then 0 else 6
def LaneM.link (L : LaneM) (x y : Int) (s : Bool) : LaneM := if linkE L x y = 0 then { L with shut := aset (keyM x y) s L.shut } else L
def LinkPost (w : World) (b : Nat) (F : List Nat) (L : LaneM) (x y : Int) (s : Bool) (e : Ending) (w' : World) : Prop :=
  ∃ F', e = .returned (.int .i64 (linkE L x y)) ∧ LaneAt w' b F' (L.link x y s) ∧ Went w w' F F' ∧ b ∈ F'
section
variable {w : World} {b : Nat} {F : List Nat} {L : LaneM}
theorem link_t (x y : Int) (s : Bool) (h : LaneAt w b F L) (hx : I64 x) (hy : I64 y) :
   Calls Try.prog 31 #[.pointer (some ⟨b, 0, none⟩), .int .i64 x, .int .i64 y, .bool s] w (LinkPost w b F L x y s) := by
  have hL := h
  obtain ⟨m, v, ps, h, hw, rfl⟩ := h
  by_cases hn : nodeB L.n x = true ∧ nodeB L.n y = true ∧ x ≠ y
  · have he : linkE L x y = 0 := by simp [linkE, hn]
    refine (link_ok x y s h hx hy hn.1 hn.2.1 hn.2.2).mono ?_
    rintro e w' ⟨rfl, g1, g2⟩
    exact ⟨_, by rw [he], ⟨m, v, ps, by simpa [LaneM.link, he] using g1, by unfold LaneM.link; rw [if_pos he]; exact hw, rfl⟩, ⟨g2.mono (by simp [footOf]), fun _ h => .inl h⟩, by simp [footOf]⟩
  · have he : linkE L x y = 6 := by simp [linkE, hn]
    refine (link_bad x y s h hx hy hn).mono ?_
    rintro e w' ⟨rfl, rfl⟩
    exact ⟨_, by rw [he], by simpa [LaneM.link, he] using hL, Went.refl _ _, by simp [footOf]⟩
theorem shut_t (x y : Int) (h : LaneAt w b F L) (hx : I64 x) (hy : I64 y) :
   Calls Try.prog 13 #[.pointer (some ⟨b, 0, none⟩), .int .i64 x, .int .i64 y] w (LinkPost w b F L x y true) := by
  go_enter Try.func13, Try.ntmps13
  go_wp2_with fail
  refine (link_t x y true h hx hy).mono ?_
  rintro e w' ⟨F', rfl, r⟩
  go_wp2
  go_ret
  exact ⟨F', rfl, r⟩
theorem join_t (x y : Int) (h : LaneAt w b F L) (hx : I64 x) (hy : I64 y) :
   Calls Try.prog 27 #[.pointer (some ⟨b, 0, none⟩), .int .i64 x, .int .i64 y] w (LinkPost w b F L x y false) := by
  go_enter Try.func27, Try.ntmps27
  go_wp2_with fail
  refine (link_t x y false h hx hy).mono ?_
  rintro e w' ⟨F', rfl, r⟩
  go_wp2
  go_ret
  exact ⟨F', rfl, r⟩
end
end Go.Proofs.Ythnienoefnfnpaa
