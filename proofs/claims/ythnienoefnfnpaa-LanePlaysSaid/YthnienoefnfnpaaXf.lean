/- Walks: do the two lanes tell the same? Conditions: each theorem's own. -/
import Derived.Test.YthnienoefnfnpaaXe
namespace Go.Proofs.Ythnienoefnfnpaa
open Go.RowKit Go.Sig

section
variable {w : World} {b r : Nat} {F G : List Nat} {L : LaneM}
theorem at_no (k : Int) (h : LaneAt w b F L) (hk : I64 k) (h6 : hasE L.way.length k = 6) :
   Calls Try.prog 23 #[.pointer (some ⟨b, 0, none⟩), .int .i64 k] w fun e w' => e = .returned (.tuple #[.agg #[.int .i64 0, .int .i64 0, .slice none 0 0], .int .i64 6]) ∧ Fr [] w w' := by
  obtain ⟨m, v, ps, h, hw, rfl⟩ := h
  have hlen : L.way.length = ps.length := by rw [hw]; simp
  have hh := fun w (h : LaneIn w b m v ps L.n L.shut) => has_t k h hk
  rw [← hlen, h6] at hh
  go_enter Try.func23, Try.ntmps23
  go_wp2_with fail
  refine (hh _ (h.nilfr ((Fr.refl [] w).alloc _))).mono ?_
  rintro e w' ⟨rfl, rfl⟩
  have hB := (Blk.new w 37 #[.int .i64 0, .int .i64 0, .slice none 0 0]).c3
  have hz := fun i => (Blk.new w 37 #[.int .i64 0, .int .i64 0, .slice none 0 0]).frozen i
  go_wp2
  refine bodyPost_ret (v := .tuple #[.agg #[.int .i64 0, .int .i64 0, .slice none 0 0], .int .i64 6]) (by simp [results, Try.results23, go_sem]) rfl ⟨rfl, ?_⟩
  repeat (first | with_reducible exact Fr.refl _ _ | with_reducible refine Fr.alloc ?_ _ | (with_reducible refine Fr.setCell ?_ ?_ _; rotate_left; simp))

def AlikePost (w : World) (e : Ending) (w' : World) : Prop := e = .returned (.bool true) ∧ Fr [] w w'
set_option maxRecDepth 100000 in
set_option maxHeartbeats 1000000 in
theorem alike_t (x y : Int) (h : Both w b F r G L) (hx : I64 x) (hy : I64 y) :
   Calls Try.prog 20 #[.pointer (some ⟨b, 0, none⟩), .pointer (some ⟨r, 0, none⟩), .int .i64 x, .int .i64 y] w (AlikePost w) := by
  obtain ⟨cs, v, qs, hR, hGe⟩ := h.ref
  have hl := hR.len
  have hl4 := hR.r2
  obtain ⟨A, c, rfl, -⟩ := hR.own.form
  have hcount := fun w (h : LaneAt w b F L) => count_at h
  rw [hl] at hcount
  have hk0 := hR.cells.2.1
  have HL := Lib.hid hl
  have HG := Lib.hid hGe
  have hlane := h.lane
  clear hl hGe
  go_enter Try.func20, Try.ntmps20
  go_upto_region 1 with (fail)
  go_region_held3 (fun w' => w'.cell? ⟨r, 1, none⟩ = some (.slice A qs.length c))
    (first | exact hk0 | exact hk1 | exact hk2 | exact hk3 | exact hk4)
    (first
      | (go_at_call 11; refine (hcount _ (hlane.nilfr (Fr.refl [] w).drew)).mono ?_; rintro e w1 ⟨rfl, rfl⟩)
      | (go_at_call 16; refine (next_t (hlane.nilfr (Fr.refl [] w).drew)).mono ?_; rintro e w1 ⟨rfl, f1⟩; have hR1 := hR.nilfr f1.of_drew; have hk1 := hR1.cells.2.1)
      | (go_at_call 36; refine (next_r hR1).mono ?_; rintro e w2 ⟨rfl, f2⟩; have hR2 := hR1.nilfr f2; have hk2 := hR2.cells.2.1; have hl2 := (hlane.nilfr f1.of_drew).nilfr f2)
      | (go_at_call 14; refine (open_t x y hl2 hx hy).mono ?_; rintro e w3 ⟨rfl, f3⟩; have hR3 := hR2.nilfr f3; have hk3 := hR3.cells.2.1)
      | (go_at_call 43; refine (open_r x y hR3 hx hy).mono ?_; rintro e w4 ⟨rfl, f4⟩; have hR4 := hR3.nilfr f4; have hk4 := hR4.cells.2.1))
  have hF4 : Fr [] w w4 := ((f1.of_drew.trans f2).trans f3).trans f4
  have hB4 : Both w4 b F r G L := h.quiet hF4
  clear hR hR1 hR2 hR3 hk0 hk1 hk2 hk3 hl2 f1 f2 f3 f4 hcount hlane h
  have hl4' : (qs.length : Int) ≤ 4096 := by omega
  go_wp2_with fail
  go_loopg [9] (qs.length + 3) (fun k s9 wr => ∃ z : Int, s9 = .int .i64 z ∧ -1 ≤ z ∧ z ≤ qs.length + 1 ∧ (qs.length + 1 - z).toNat < k ∧ Fr [] w4 wr)
  case atStart => exact ⟨-1, rfl, by omega, by omega, by omega, Fr.refl _ _⟩
  case round =>
    obtain ⟨z, rfl, hz1, hz2, hk, hF⟩ := hrel
    have hB := hB4.quiet hF
    have hRr := hR4.nilfr hF
    have hkr := hRr.cells.2.1
    have hzI : I64 z := ⟨by omega, by omega⟩
    by_cases hlt : z ≤ qs.length
    · by_cases h0 : hasE L.way.length z = 0
      · obtain ⟨j, rfl, hj⟩ := hasE_zero h0
        have H0 := Lib.hid h0
        clear h0
        go_wp2_with fail
        refine (at_t j hB.lane hj).mono ?_
        rintro e w1 ⟨pc, rfl, hp, f1, -⟩
        obtain ⟨q, hq⟩ : ∃ q, Hid (L.way.getD j default = q) := ⟨_, Lib.hid rfl⟩
        rw [hq.out] at hp
        obtain ⟨hs, hd, hown, hle⟩ := hp
        rw [hs, hd]
        have b1 : Byts w1 pc.a pc.n q.bs := hown.rd
        clear hs hd hown
        have fa : Fr [] w1 (w1.alloc (.cells #[.int .i64 q.src, .int .i64 q.dst, .slice pc.a pc.n pc.c] 37)) := (Fr.refl _ _).alloc _
        have B1 := Blk.new w1 37 #[.int .i64 q.src, .int .i64 q.dst, .slice pc.a pc.n pc.c]
        go_wp2_with fail
        refine (at_r j ((hRr.nilfr f1).nilfr fa) ⟨by omega, by omega⟩).mono ?_
        rintro e w2 ⟨pd, rfl, f2, -, hy⟩
        obtain ⟨hp, -⟩ := hy H0.out
        rw [Int.toNat_natCast, hq.out] at hp
        rw [H0.out]
        obtain ⟨hs, hd, hown, -⟩ := hp
        rw [hs, hd]
        have b2 : Byts w2 pd.a pd.n q.bs := hown.rd
        clear hs hd hown hy
        have B2 := B1.fr f2 (by simp)
        have c2 := B2.c3
        have hl1 := B2.lt
        have fb : Fr [] w2 (w2.alloc (.cells #[.int .i64 q.src, .int .i64 q.dst, .slice pd.a pd.n pd.c] 37)) := (Fr.refl _ _).alloc _
        have fall := (((hF.trans f1).trans fa).trans f2).trans fb
        go_wp2_with fail
        refine (same_t q.src q.dst pc.a pc.n pc.c pd.a pd.n pd.c q.bs _ (Rd.fr b1 ((fa.trans f2).trans fb) (by simp [Off])) (Rd.fr b2 fb (by simp [Off])) (by omega)).mono ?_
        rintro e w3 ⟨rfl, f3⟩
        have hF3 := fall.trans f3
        go_wp2
        go_roundg ((qs.length : Int) + 1 - j).toNat
        case measure => omega
        case rel => exact ⟨j + 1, rfl, by omega, by omega, by omega, hF3⟩
      · have H6 := Lib.hid (hasE_six h0)
        go_wp2_with fail
        refine (at_no z hB.lane hzI H6.out).mono ?_
        rintro e w1 ⟨rfl, f1⟩
        have fa : Fr [] w1 (w1.alloc (.cells #[.int .i64 0, .int .i64 0, .slice none 0 0] 37)) := (Fr.refl _ _).alloc _
        have B1 := Blk.new w1 37 #[.int .i64 0, .int .i64 0, .slice none 0 0]
        go_wp2_with fail
        refine (at_r z ((hRr.nilfr f1).nilfr fa) hzI).mono ?_
        rintro e w2 ⟨pd, rfl, f2, hn, -⟩
        obtain rfl := hn h0
        rw [H6.out]
        clear hn
        have B2 := B1.fr f2 (by simp)
        have c2 := B2.c3
        have hl1 := B2.lt
        have fb : Fr [] w2 (w2.alloc (.cells #[.int .i64 0, .int .i64 0, .slice none 0 0] 37)) := (Fr.refl _ _).alloc _
        have fall := (((hF.trans f1).trans fa).trans f2).trans fb
        go_wp2_with fail
        refine (same_zero _).mono ?_
        rintro e w3 ⟨rfl, f3⟩
        have hF3 := fall.trans f3
        go_wp2
        go_roundg ((qs.length : Int) + 1 - z).toNat
        case measure => omega
        case rel => exact ⟨z + 1, rfl, by omega, by omega, by omega, hF3⟩
    · have hz3 : (qs.length : Int) < z := by omega
      go_wp2
      go_ret
      exact ⟨rfl, hF4.trans hF⟩
end
end Go.Proofs.Ythnienoefnfnpaa
