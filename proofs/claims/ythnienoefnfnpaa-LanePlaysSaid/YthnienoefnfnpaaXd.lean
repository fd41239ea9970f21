/- Walks: a step by both lanes. Conditions: each theorem's own. -/
import Derived.Test.YthnienoefnfnpaaXc
import Derived.Test.YthnienoefnfnpaaWg
namespace Go.Proofs.Ythnienoefnfnpaa
open Go.RowKit Go.Sig

/-- Both lanes, with one model. -/
structure Both (w : World) (b : Nat) (F : List Nat) (r : Nat) (G : List Nat) (L : LaneM) : Prop where
  lane : LaneAt w b F L
  ref : RefAt w r G L
  apart : ∀ x ∈ F, x ∉ G

section
variable {w w1 w2 : World} {b r : Nat} {F F' G G' : List Nat} {L L' : LaneM}
theorem Both.quiet (h : Both w b F r G L) (hf : Fr [] w w1) : Both w1 b F r G L := ⟨h.lane.nilfr hf, h.ref.nilfr hf, h.apart⟩
theorem Both.went (h : Both w b F r G L) (g : Went w w1 F F') : RefAt w1 r G L ∧ ∀ x ∈ F', x ∉ G :=
  ⟨h.ref.fr g.fr (fun x hx hh => h.apart x hh hx), fun x hx hh => (g.sub x hx).elim (fun h1 => h.apart x h1 hh) (fun h1 => by have := h.ref.lt x hh; omega)⟩
theorem Both.step (hl : LaneAt w1 b F' L') (hr : RefAt w1 r G L) (hd : ∀ x ∈ F', x ∉ G) (hr2 : RefAt w2 r G' L') (g : Went w1 w2 G G') : Both w2 b F' r G' L' :=
  ⟨hl.fr g.fr hd, hr2, fun x hx hh => (g.sub x hh).elim (hd x hx) (fun h1 => by have := hl.lt x hx; omega)⟩
theorem Went.both (g1 : Went w w1 F F') (g2 : Went w1 w2 G G') : Went w w2 (F ++ G) (F' ++ G') :=
  ⟨(g1.fr.mono (fun i hi => List.mem_append.2 (.inl hi))).trans (g2.fr.mono (fun i hi => List.mem_append.2 (.inr hi))), fun x hx => by
    have := g1.fr.size
    rcases List.mem_append.1 hx with h1 | h1
    · exact (g1.sub x h1).imp (fun h => List.mem_append.2 (.inl h)) id
    · exact (g2.sub x h1).imp (fun h => List.mem_append.2 (.inr h)) (fun h => by omega)⟩
def DoPost (w : World) (b : Nat) (F : List Nat) (r : Nat) (G : List Nat) (e : Ending) (w' : World) : Prop :=
  e = .returned (.bool true) ∧ ∃ F' G' L', Both w' b F' r G' L' ∧ Went w w' (F ++ G) (F' ++ G')
theorem DoPost.mk (h : Both w b F r G L) (f0 : Fr [] w w1) {w3 : World} (hB : Both w2 b F' r G' L') (g : Went w1 w2 (F ++ G) (F' ++ G')) (f3 : Fr [] w2 w3) : DoPost w b F r G (.returned (.bool true)) w3 :=
  ⟨rfl, F', G', L', hB.quiet f3, ((Went.quiet f0).trans g).trans (Went.quiet f3)⟩
theorem byts_none (w : World) : Byts w none 0 [] := Rd.nil _ _ _
theorem same_zero (w : World) : Calls Try.prog 17 #[.agg #[.int .i64 0, .int .i64 0, .slice none 0 0], .agg #[.int .i64 0, .int .i64 0, .slice none 0 0]] w fun e w' => e = .returned (.bool true) ∧ Fr [] w w' :=
  same_t 0 0 none 0 0 none 0 0 [] w (byts_none w) (byts_none w) (by omega)
theorem blk5c {w : World} {g : Nat} {t : TypeId} {v0 v1 v2 v3 v4 : Value} (h : Blk w g t #[v0, v1, v2, v3, v4]) : w.cell? ⟨g, 0, none⟩ = some v0 ∧ w.cell? ⟨g, 1, none⟩ = some v1 ∧ w.cell? ⟨g, 2, none⟩ = some v2 ∧ w.cell? ⟨g, 3, none⟩ = some v3 ∧ w.cell? ⟨g, 4, none⟩ = some v4 :=
  ⟨by rw [h.cell]; rfl, by rw [h.cell]; rfl, by rw [h.cell]; rfl, by rw [h.cell]; rfl, by rw [h.cell]; rfl⟩

set_option maxRecDepth 100000 in
set_option maxHeartbeats 1000000 in
theorem do_0 (x y z : Int) (D : Option Addr) (n c : Nat) (l : List UInt8) (h : Both w b F r G L) (hx : I64 x) (hy : I64 y) (hd : Byts w D n l) (hD : D = none → n = 0) (hO : 0 < n → Off (F ++ G) D) :
   Calls Try.prog 19 #[.pointer (some ⟨b, 0, none⟩), .pointer (some ⟨r, 0, none⟩), .agg #[.int .i64 0, .int .i64 x, .int .i64 y, .int .u8 z, .slice D n c]] w (DoPost w b F r G) := by
  go_enter Try.func19, Try.ntmps19
  go_upto_region 3 with (fail)
  refine wp_gen (fun W => Blk W w.heap.size 51 #[.int .i64 0, .int .i64 x, .int .i64 y, .int .u8 z, .slice D n c] ∧ Blk W (w.heap.size + 1) 37 #[.int .i64 0, .int .i64 0, .slice none 0 0] ∧ Blk W (w.heap.size + 2) 37 #[.int .i64 0, .int .i64 0, .slice none 0 0] ∧ Fr [] w W) ⟨((Blk.new w 51 _).alloc _).alloc _, (Blk.new' _ _ (by simp)).alloc _, Blk.new' _ _ (by simp), (((Fr.refl _ _).alloc _).alloc _).alloc _⟩ ?_
  rintro W ⟨B5, B9, B10, fW⟩
  have hB := h.quiet fW
  have hFl : ∀ g ∈ F ++ G, g < w.heap.size := fun g hg => (List.mem_append.1 hg).elim (h.lane.lt g) (h.ref.lt g)
  obtain ⟨g5, HG⟩ : ∃ g, Hid (w.heap.size = g) := ⟨_, Lib.hid rfl⟩
  rw [HG.out] at B5 B9 B10 hFl ⊢
  have n5 : ∀ i, g5 + i ∉ F ++ G := fun i hi => by have := hFl _ hi; omega
  have c5 := blk5c B5
  have hl5 := B5.lt
  go_wp2_with fail
  have hk0 := c5
  obtain ⟨cs, v, qs, hR, hGe⟩ := hB.ref
  go_region_held3 (fun w' => w'.cell? ⟨g5, 0, none⟩ = some (.int .i64 0) ∧ w'.cell? ⟨g5, 1, none⟩ = some (.int .i64 x) ∧ w'.cell? ⟨g5, 2, none⟩ = some (.int .i64 y) ∧ w'.cell? ⟨g5, 3, none⟩ = some (.int .u8 z) ∧ w'.cell? ⟨g5, 4, none⟩ = some (.slice D n c))
    (first | exact hk0 | exact hk1 | exact hk2)
    (first
      | (go_at_call 8; refine (send_t x y D n c l (hB.lane.nilfr (Fr.refl [] W).drew) hx hy (Rd.fr hd (fW.trans (Fr.refl [] W).drew) (by simp [Off])) hD).mono ?_; rintro e w1 ⟨F1, rfl, h1, g1, -⟩; have b1 := B5.fr g1.fr.of_drew (fun hh => n5 0 (List.mem_append.2 (.inl hh))); have hk1 := blk5c b1; obtain ⟨r1, d1⟩ := (hB.quiet (Fr.refl [] W).drew).went g1; obtain ⟨cs1, v1, qs1, hR1, hGe1⟩ := r1; have e1 := hGe1)
      | (go_at_call 35; refine (send_r x y D n c l hR1 hx hy (Rd.fr (Rd.fr hd (fW.trans (Fr.refl [] W).drew) (by simp [Off])) g1.fr (fun h0 ad ha hh => hO h0 ad ha (List.mem_append.2 (.inl hh)))) hD).mono ?_; rintro e w2 ⟨G2, rfl, h2, g2⟩; have b2 := b1.fr g2.fr (fun hh => n5 0 (List.mem_append.2 (.inr (hGe1 ▸ hh)))); have hk2 := blk5c b2))
  all_goals
    have hBo : Both w2 b F1 r G2 _ := Both.step h1 ⟨cs1, v1, qs1, hR1, hGe1⟩ d1 h2 (hGe1 ▸ g2)
    have gB := g1.both (hGe1 ▸ g2 : Went w1 w2 G G2)
    have b9 := (B9.fr ((Fr.refl [] W).drew) (by simp)).fr gB.fr (n5 1)
    have b10 := (B10.fr ((Fr.refl [] W).drew) (by simp)).fr gB.fr (n5 2)
    have c9 := b9.c3
    have c10 := b10.c3
    go_wp2_with fail
    refine (same_zero _).mono ?_
    rintro e w4 ⟨rfl, f4⟩
    go_wp2
    go_ret
    exact DoPost.mk h (fW.trans (Fr.refl [] W).drew) hBo gB f4

theorem RefAt.drop_t {w : World} (k : Int) (h : RefAt w r G L) (hk : I64 k) :
   Calls Try.prog 38 #[.pointer (some ⟨r, 0, none⟩), .int .i64 k] w fun e w' => ∃ G', e = .returned (.int .i64 (hasE L.way.length k)) ∧ RefAt w' r G' (L.drop k) ∧ Went w w' G G' := by
  obtain ⟨cs, v, qs, h, rfl⟩ := h
  refine (drop_r k h hk).mono ?_
  rintro e w2 ⟨cs', v', qs', rfl, h2, f2, hs⟩
  exact ⟨_, rfl, ⟨_, _, _, h2, rfl⟩, f2.mono (by simp [refFoot]), hs⟩
theorem RefAt.twice_t {w : World} (k : Int) (h : RefAt w r G L) (hk : I64 k) :
   Calls Try.prog 39 #[.pointer (some ⟨r, 0, none⟩), .int .i64 k] w fun e w' => ∃ G', e = .returned (.int .i64 (twiceE L k)) ∧ RefAt w' r G' (L.twice k) ∧ Went w w' G G' := by
  obtain ⟨cs, v, qs, h, rfl⟩ := h
  exact twice_r k h hk
theorem RefAt.spoil_t {w : World} (k j : Int) (x : UInt8) (h : RefAt w r G L) (hk : I64 k) (hj : I64 j) :
   Calls Try.prog 40 #[.pointer (some ⟨r, 0, none⟩), .int .i64 k, .int .i64 j, bv x] w fun e w' => ∃ G', e = .returned (.int .i64 (spoilE L k j)) ∧ RefAt w' r G' (L.spoil k j x) ∧ Went w w' G G' := by
  obtain ⟨cs, v, qs, h, rfl⟩ := h
  exact spoil_r k j x h hk hj
theorem RefAt.link_t {w : World} (x y : Int) (s : Bool) (h : RefAt w r G L) (hx : I64 x) (hy : I64 y) :
   Calls Try.prog 41 #[.pointer (some ⟨r, 0, none⟩), .int .i64 x, .int .i64 y, .bool s] w fun e w' => ∃ G', e = .returned (.int .i64 (linkE L x y)) ∧ RefAt w' r G' (L.link x y s) ∧ Went w w' G G' := by
  obtain ⟨cs, v, qs, h, rfl⟩ := h
  refine (link_r x y s h hx hy).mono ?_
  rintro e w2 ⟨rfl, ⟨cs', h2⟩, f2⟩
  exact ⟨_, rfl, ⟨_, _, _, h2, rfl⟩, f2.mono (by simp [refFoot]), fun g hg => .inl hg⟩
theorem RefAt.heal_t {w : World} (h : RefAt w r G L) :
   Calls Try.prog 42 #[.pointer (some ⟨r, 0, none⟩)] w fun e w' => ∃ G', e = .returned (.tuple #[]) ∧ RefAt w' r G' { L with shut := [] } ∧ Went w w' G G' := by
  obtain ⟨cs, v, qs, h, rfl⟩ := h
  refine (heal_r h).mono ?_
  rintro e w2 ⟨rfl, ⟨cs', h2⟩, f2⟩
  exact ⟨_, rfl, ⟨_, _, _, h2, rfl⟩, f2.mono (by simp [refFoot]), fun g hg => .inl hg⟩

set_option maxRecDepth 100000 in
set_option maxHeartbeats 1000000 in
theorem do_2 (x y z : Int) (D : Option Addr) (n c : Nat) (h : Both w b F r G L) (hx : I64 x) (hy : I64 y) :
   Calls Try.prog 19 #[.pointer (some ⟨b, 0, none⟩), .pointer (some ⟨r, 0, none⟩), .agg #[.int .i64 2, .int .i64 x, .int .i64 y, .int .u8 z, .slice D n c]] w (DoPost w b F r G) := by
  go_enter Try.func19, Try.ntmps19
  go_upto_region 3 with (fail)
  refine wp_gen (fun W => Blk W w.heap.size 51 #[.int .i64 2, .int .i64 x, .int .i64 y, .int .u8 z, .slice D n c] ∧ Blk W (w.heap.size + 1) 37 #[.int .i64 0, .int .i64 0, .slice none 0 0] ∧ Blk W (w.heap.size + 2) 37 #[.int .i64 0, .int .i64 0, .slice none 0 0] ∧ Fr [] w W) ⟨((Blk.new w 51 _).alloc _).alloc _, (Blk.new' _ _ (by simp)).alloc _, Blk.new' _ _ (by simp), (((Fr.refl _ _).alloc _).alloc _).alloc _⟩ ?_
  rintro W ⟨B5, B9, B10, fW⟩
  have hB := h.quiet fW
  have hFl : ∀ g ∈ F ++ G, g < w.heap.size := fun g hg => (List.mem_append.1 hg).elim (h.lane.lt g) (h.ref.lt g)
  obtain ⟨g5, HG⟩ : ∃ g, Hid (w.heap.size = g) := ⟨_, Lib.hid rfl⟩
  rw [HG.out] at B5 B9 B10 hFl ⊢
  have n5 : ∀ i, g5 + i ∉ F ++ G := fun i hi => by have := hFl _ hi; omega
  have c5 := blk5c B5
  have hl5 := B5.lt
  go_wp2_with fail
  have hk0 := c5
  obtain ⟨cs, v, qs, hR, hGe⟩ := hB.ref
  go_region_held3 (fun w' => w'.cell? ⟨g5, 0, none⟩ = some (.int .i64 2) ∧ w'.cell? ⟨g5, 1, none⟩ = some (.int .i64 x) ∧ w'.cell? ⟨g5, 2, none⟩ = some (.int .i64 y) ∧ w'.cell? ⟨g5, 3, none⟩ = some (.int .u8 z) ∧ w'.cell? ⟨g5, 4, none⟩ = some (.slice D n c))
    (first | exact hk0 | exact hk1 | exact hk2)
    (first
      | (go_at_call 12; refine (drop_t x (hB.lane.nilfr (Fr.refl [] W).drew) hx).mono ?_; rintro e w1 ⟨F1, rfl, h1, g1, -⟩; have b1 := B5.fr g1.fr.of_drew (fun hh => n5 0 (List.mem_append.2 (.inl hh))); have hk1 := blk5c b1; obtain ⟨r1, d1⟩ := (hB.quiet (Fr.refl [] W).drew).went g1; obtain ⟨cs1, v1, qs1, hR1, hGe1⟩ := r1; have e1 := hGe1)
      | (go_at_call 38; refine (RefAt.drop_t x ⟨_, _, _, hR1, rfl⟩ hx).mono ?_; rintro e w2 ⟨G2, rfl, h2, g2⟩; have b2 := b1.fr g2.fr (fun hh => n5 0 (List.mem_append.2 (.inr (hGe1 ▸ hh)))); have hk2 := blk5c b2))
  all_goals
    have hBo : Both w2 b F1 r G2 _ := Both.step h1 ⟨cs1, v1, qs1, hR1, hGe1⟩ d1 h2 (hGe1 ▸ g2)
    have gB := g1.both (hGe1 ▸ g2 : Went w1 w2 G G2)
    have b9 := (B9.fr ((Fr.refl [] W).drew) (by simp)).fr gB.fr (n5 1)
    have b10 := (B10.fr ((Fr.refl [] W).drew) (by simp)).fr gB.fr (n5 2)
    have c9 := b9.c3
    have c10 := b10.c3
    go_wp2_with fail
    refine (same_zero _).mono ?_
    rintro e w4 ⟨rfl, f4⟩
    go_wp2
    go_ret
    exact DoPost.mk h (fW.trans (Fr.refl [] W).drew) hBo gB f4

set_option maxRecDepth 100000 in
set_option maxHeartbeats 1000000 in
theorem do_3 (x y z : Int) (D : Option Addr) (n c : Nat) (h : Both w b F r G L) (hx : I64 x) (hy : I64 y) :
   Calls Try.prog 19 #[.pointer (some ⟨b, 0, none⟩), .pointer (some ⟨r, 0, none⟩), .agg #[.int .i64 3, .int .i64 x, .int .i64 y, .int .u8 z, .slice D n c]] w (DoPost w b F r G) := by
  go_enter Try.func19, Try.ntmps19
  go_upto_region 3 with (fail)
  refine wp_gen (fun W => Blk W w.heap.size 51 #[.int .i64 3, .int .i64 x, .int .i64 y, .int .u8 z, .slice D n c] ∧ Blk W (w.heap.size + 1) 37 #[.int .i64 0, .int .i64 0, .slice none 0 0] ∧ Blk W (w.heap.size + 2) 37 #[.int .i64 0, .int .i64 0, .slice none 0 0] ∧ Fr [] w W) ⟨((Blk.new w 51 _).alloc _).alloc _, (Blk.new' _ _ (by simp)).alloc _, Blk.new' _ _ (by simp), (((Fr.refl _ _).alloc _).alloc _).alloc _⟩ ?_
  rintro W ⟨B5, B9, B10, fW⟩
  have hB := h.quiet fW
  have hFl : ∀ g ∈ F ++ G, g < w.heap.size := fun g hg => (List.mem_append.1 hg).elim (h.lane.lt g) (h.ref.lt g)
  obtain ⟨g5, HG⟩ : ∃ g, Hid (w.heap.size = g) := ⟨_, Lib.hid rfl⟩
  rw [HG.out] at B5 B9 B10 hFl ⊢
  have n5 : ∀ i, g5 + i ∉ F ++ G := fun i hi => by have := hFl _ hi; omega
  have c5 := blk5c B5
  have hl5 := B5.lt
  go_wp2_with fail
  have hk0 := c5
  obtain ⟨cs, v, qs, hR, hGe⟩ := hB.ref
  go_region_held3 (fun w' => w'.cell? ⟨g5, 0, none⟩ = some (.int .i64 3) ∧ w'.cell? ⟨g5, 1, none⟩ = some (.int .i64 x) ∧ w'.cell? ⟨g5, 2, none⟩ = some (.int .i64 y) ∧ w'.cell? ⟨g5, 3, none⟩ = some (.int .u8 z) ∧ w'.cell? ⟨g5, 4, none⟩ = some (.slice D n c))
    (first | exact hk0 | exact hk1 | exact hk2)
    (first
      | (go_at_call 10; refine (twice_t x (hB.lane.nilfr (Fr.refl [] W).drew) hx).mono ?_; rintro e w1 ⟨F1, rfl, h1, g1, -⟩; have b1 := B5.fr g1.fr.of_drew (fun hh => n5 0 (List.mem_append.2 (.inl hh))); have hk1 := blk5c b1; obtain ⟨r1, d1⟩ := (hB.quiet (Fr.refl [] W).drew).went g1; obtain ⟨cs1, v1, qs1, hR1, hGe1⟩ := r1; have e1 := hGe1)
      | (go_at_call 39; refine (RefAt.twice_t x ⟨_, _, _, hR1, rfl⟩ hx).mono ?_; rintro e w2 ⟨G2, rfl, h2, g2⟩; have b2 := b1.fr g2.fr (fun hh => n5 0 (List.mem_append.2 (.inr (hGe1 ▸ hh)))); have hk2 := blk5c b2))
  all_goals
    have hBo : Both w2 b F1 r G2 _ := Both.step h1 ⟨cs1, v1, qs1, hR1, hGe1⟩ d1 h2 (hGe1 ▸ g2)
    have gB := g1.both (hGe1 ▸ g2 : Went w1 w2 G G2)
    have b9 := (B9.fr ((Fr.refl [] W).drew) (by simp)).fr gB.fr (n5 1)
    have b10 := (B10.fr ((Fr.refl [] W).drew) (by simp)).fr gB.fr (n5 2)
    have c9 := b9.c3
    have c10 := b10.c3
    go_wp2_with fail
    refine (same_zero _).mono ?_
    rintro e w4 ⟨rfl, f4⟩
    go_wp2
    go_ret
    exact DoPost.mk h (fW.trans (Fr.refl [] W).drew) hBo gB f4

set_option maxRecDepth 100000 in
set_option maxHeartbeats 1000000 in
theorem do_4 (x y : Int) (z : UInt8) (D : Option Addr) (n c : Nat) (h : Both w b F r G L) (hx : I64 x) (hy : I64 y) :
   Calls Try.prog 19 #[.pointer (some ⟨b, 0, none⟩), .pointer (some ⟨r, 0, none⟩), .agg #[.int .i64 4, .int .i64 x, .int .i64 y, bv z, .slice D n c]] w (DoPost w b F r G) := by
  go_enter Try.func19, Try.ntmps19
  go_upto_region 3 with (fail)
  refine wp_gen (fun W => Blk W w.heap.size 51 #[.int .i64 4, .int .i64 x, .int .i64 y, bv z, .slice D n c] ∧ Blk W (w.heap.size + 1) 37 #[.int .i64 0, .int .i64 0, .slice none 0 0] ∧ Blk W (w.heap.size + 2) 37 #[.int .i64 0, .int .i64 0, .slice none 0 0] ∧ Fr [] w W) ⟨((Blk.new w 51 _).alloc _).alloc _, (Blk.new' _ _ (by simp)).alloc _, Blk.new' _ _ (by simp), (((Fr.refl _ _).alloc _).alloc _).alloc _⟩ ?_
  rintro W ⟨B5, B9, B10, fW⟩
  have hB := h.quiet fW
  have hFl : ∀ g ∈ F ++ G, g < w.heap.size := fun g hg => (List.mem_append.1 hg).elim (h.lane.lt g) (h.ref.lt g)
  obtain ⟨g5, HG⟩ : ∃ g, Hid (w.heap.size = g) := ⟨_, Lib.hid rfl⟩
  rw [HG.out] at B5 B9 B10 hFl ⊢
  have n5 : ∀ i, g5 + i ∉ F ++ G := fun i hi => by have := hFl _ hi; omega
  have c5 := blk5c B5
  have hl5 := B5.lt
  go_wp2_with fail
  have hk0 := c5
  obtain ⟨cs, v, qs, hR, hGe⟩ := hB.ref
  go_region_held3 (fun w' => w'.cell? ⟨g5, 0, none⟩ = some (.int .i64 4) ∧ w'.cell? ⟨g5, 1, none⟩ = some (.int .i64 x) ∧ w'.cell? ⟨g5, 2, none⟩ = some (.int .i64 y) ∧ w'.cell? ⟨g5, 3, none⟩ = some (bv z) ∧ w'.cell? ⟨g5, 4, none⟩ = some (.slice D n c))
    (first | exact hk0 | exact hk1 | exact hk2)
    (first
      | (go_at_call 24; refine (spoil_t x y z (hB.lane.nilfr (Fr.refl [] W).drew) hx hy).mono ?_; rintro e w1 ⟨F1, rfl, h1, g1, -⟩; have b1 := B5.fr g1.fr.of_drew (fun hh => n5 0 (List.mem_append.2 (.inl hh))); have hk1 := blk5c b1; obtain ⟨r1, d1⟩ := (hB.quiet (Fr.refl [] W).drew).went g1; obtain ⟨cs1, v1, qs1, hR1, hGe1⟩ := r1; have e1 := hGe1)
      | (go_at_call 40; refine (RefAt.spoil_t x y z ⟨_, _, _, hR1, rfl⟩ hx hy).mono ?_; rintro e w2 ⟨G2, rfl, h2, g2⟩; have b2 := b1.fr g2.fr (fun hh => n5 0 (List.mem_append.2 (.inr (hGe1 ▸ hh)))); have hk2 := blk5c b2))
  all_goals
    have hBo : Both w2 b F1 r G2 _ := Both.step h1 ⟨cs1, v1, qs1, hR1, hGe1⟩ d1 h2 (hGe1 ▸ g2)
    have gB := g1.both (hGe1 ▸ g2 : Went w1 w2 G G2)
    have b9 := (B9.fr ((Fr.refl [] W).drew) (by simp)).fr gB.fr (n5 1)
    have b10 := (B10.fr ((Fr.refl [] W).drew) (by simp)).fr gB.fr (n5 2)
    have c9 := b9.c3
    have c10 := b10.c3
    go_wp2_with fail
    refine (same_zero _).mono ?_
    rintro e w4 ⟨rfl, f4⟩
    go_wp2
    go_ret
    exact DoPost.mk h (fW.trans (Fr.refl [] W).drew) hBo gB f4

set_option maxRecDepth 100000 in
set_option maxHeartbeats 1000000 in
theorem do_5 (x y z : Int) (D : Option Addr) (n c : Nat) (h : Both w b F r G L) (hx : I64 x) (hy : I64 y) :
   Calls Try.prog 19 #[.pointer (some ⟨b, 0, none⟩), .pointer (some ⟨r, 0, none⟩), .agg #[.int .i64 5, .int .i64 x, .int .i64 y, .int .u8 z, .slice D n c]] w (DoPost w b F r G) := by
  go_enter Try.func19, Try.ntmps19
  go_upto_region 3 with (fail)
  refine wp_gen (fun W => Blk W w.heap.size 51 #[.int .i64 5, .int .i64 x, .int .i64 y, .int .u8 z, .slice D n c] ∧ Blk W (w.heap.size + 1) 37 #[.int .i64 0, .int .i64 0, .slice none 0 0] ∧ Blk W (w.heap.size + 2) 37 #[.int .i64 0, .int .i64 0, .slice none 0 0] ∧ Fr [] w W) ⟨((Blk.new w 51 _).alloc _).alloc _, (Blk.new' _ _ (by simp)).alloc _, Blk.new' _ _ (by simp), (((Fr.refl _ _).alloc _).alloc _).alloc _⟩ ?_
  rintro W ⟨B5, B9, B10, fW⟩
  have hB := h.quiet fW
  have hFl : ∀ g ∈ F ++ G, g < w.heap.size := fun g hg => (List.mem_append.1 hg).elim (h.lane.lt g) (h.ref.lt g)
  obtain ⟨g5, HG⟩ : ∃ g, Hid (w.heap.size = g) := ⟨_, Lib.hid rfl⟩
  rw [HG.out] at B5 B9 B10 hFl ⊢
  have n5 : ∀ i, g5 + i ∉ F ++ G := fun i hi => by have := hFl _ hi; omega
  have c5 := blk5c B5
  have hl5 := B5.lt
  go_wp2_with fail
  have hk0 := c5
  obtain ⟨cs, v, qs, hR, hGe⟩ := hB.ref
  go_region_held3 (fun w' => w'.cell? ⟨g5, 0, none⟩ = some (.int .i64 5) ∧ w'.cell? ⟨g5, 1, none⟩ = some (.int .i64 x) ∧ w'.cell? ⟨g5, 2, none⟩ = some (.int .i64 y) ∧ w'.cell? ⟨g5, 3, none⟩ = some (.int .u8 z) ∧ w'.cell? ⟨g5, 4, none⟩ = some (.slice D n c))
    (first | exact hk0 | exact hk1 | exact hk2)
    (first
      | (go_at_call 13; refine (shut_t x y (hB.lane.nilfr (Fr.refl [] W).drew) hx hy).mono ?_; rintro e w1 ⟨F1, rfl, h1, g1, -⟩; have b1 := B5.fr g1.fr.of_drew (fun hh => n5 0 (List.mem_append.2 (.inl hh))); have hk1 := blk5c b1; obtain ⟨r1, d1⟩ := (hB.quiet (Fr.refl [] W).drew).went g1; obtain ⟨cs1, v1, qs1, hR1, hGe1⟩ := r1; have e1 := hGe1)
      | (go_at_call 41; refine (RefAt.link_t x y true ⟨_, _, _, hR1, rfl⟩ hx hy).mono ?_; rintro e w2 ⟨G2, rfl, h2, g2⟩; have b2 := b1.fr g2.fr (fun hh => n5 0 (List.mem_append.2 (.inr (hGe1 ▸ hh)))); have hk2 := blk5c b2))
  all_goals
    have hBo : Both w2 b F1 r G2 _ := Both.step h1 ⟨cs1, v1, qs1, hR1, hGe1⟩ d1 h2 (hGe1 ▸ g2)
    have gB := g1.both (hGe1 ▸ g2 : Went w1 w2 G G2)
    have b9 := (B9.fr ((Fr.refl [] W).drew) (by simp)).fr gB.fr (n5 1)
    have b10 := (B10.fr ((Fr.refl [] W).drew) (by simp)).fr gB.fr (n5 2)
    have c9 := b9.c3
    have c10 := b10.c3
    go_wp2_with fail
    refine (same_zero _).mono ?_
    rintro e w4 ⟨rfl, f4⟩
    go_wp2
    go_ret
    exact DoPost.mk h (fW.trans (Fr.refl [] W).drew) hBo gB f4

set_option maxRecDepth 100000 in
set_option maxHeartbeats 1000000 in
theorem do_6 (x y z : Int) (D : Option Addr) (n c : Nat) (h : Both w b F r G L) (hx : I64 x) (hy : I64 y) :
   Calls Try.prog 19 #[.pointer (some ⟨b, 0, none⟩), .pointer (some ⟨r, 0, none⟩), .agg #[.int .i64 6, .int .i64 x, .int .i64 y, .int .u8 z, .slice D n c]] w (DoPost w b F r G) := by
  go_enter Try.func19, Try.ntmps19
  go_upto_region 3 with (fail)
  refine wp_gen (fun W => Blk W w.heap.size 51 #[.int .i64 6, .int .i64 x, .int .i64 y, .int .u8 z, .slice D n c] ∧ Blk W (w.heap.size + 1) 37 #[.int .i64 0, .int .i64 0, .slice none 0 0] ∧ Blk W (w.heap.size + 2) 37 #[.int .i64 0, .int .i64 0, .slice none 0 0] ∧ Fr [] w W) ⟨((Blk.new w 51 _).alloc _).alloc _, (Blk.new' _ _ (by simp)).alloc _, Blk.new' _ _ (by simp), (((Fr.refl _ _).alloc _).alloc _).alloc _⟩ ?_
  rintro W ⟨B5, B9, B10, fW⟩
  have hB := h.quiet fW
  have hFl : ∀ g ∈ F ++ G, g < w.heap.size := fun g hg => (List.mem_append.1 hg).elim (h.lane.lt g) (h.ref.lt g)
  obtain ⟨g5, HG⟩ : ∃ g, Hid (w.heap.size = g) := ⟨_, Lib.hid rfl⟩
  rw [HG.out] at B5 B9 B10 hFl ⊢
  have n5 : ∀ i, g5 + i ∉ F ++ G := fun i hi => by have := hFl _ hi; omega
  have c5 := blk5c B5
  have hl5 := B5.lt
  go_wp2_with fail
  have hk0 := c5
  obtain ⟨cs, v, qs, hR, hGe⟩ := hB.ref
  go_region_held3 (fun w' => w'.cell? ⟨g5, 0, none⟩ = some (.int .i64 6) ∧ w'.cell? ⟨g5, 1, none⟩ = some (.int .i64 x) ∧ w'.cell? ⟨g5, 2, none⟩ = some (.int .i64 y) ∧ w'.cell? ⟨g5, 3, none⟩ = some (.int .u8 z) ∧ w'.cell? ⟨g5, 4, none⟩ = some (.slice D n c))
    (first | exact hk0 | exact hk1 | exact hk2)
    (first
      | (go_at_call 27; refine (join_t x y (hB.lane.nilfr (Fr.refl [] W).drew) hx hy).mono ?_; rintro e w1 ⟨F1, rfl, h1, g1, -⟩; have b1 := B5.fr g1.fr.of_drew (fun hh => n5 0 (List.mem_append.2 (.inl hh))); have hk1 := blk5c b1; obtain ⟨r1, d1⟩ := (hB.quiet (Fr.refl [] W).drew).went g1; obtain ⟨cs1, v1, qs1, hR1, hGe1⟩ := r1; have e1 := hGe1)
      | (go_at_call 41; refine (RefAt.link_t x y false ⟨_, _, _, hR1, rfl⟩ hx hy).mono ?_; rintro e w2 ⟨G2, rfl, h2, g2⟩; have b2 := b1.fr g2.fr (fun hh => n5 0 (List.mem_append.2 (.inr (hGe1 ▸ hh)))); have hk2 := blk5c b2))
  all_goals
    have hBo : Both w2 b F1 r G2 _ := Both.step h1 ⟨cs1, v1, qs1, hR1, hGe1⟩ d1 h2 (hGe1 ▸ g2)
    have gB := g1.both (hGe1 ▸ g2 : Went w1 w2 G G2)
    have b9 := (B9.fr ((Fr.refl [] W).drew) (by simp)).fr gB.fr (n5 1)
    have b10 := (B10.fr ((Fr.refl [] W).drew) (by simp)).fr gB.fr (n5 2)
    have c9 := b9.c3
    have c10 := b10.c3
    go_wp2_with fail
    refine (same_zero _).mono ?_
    rintro e w4 ⟨rfl, f4⟩
    go_wp2
    go_ret
    exact DoPost.mk h (fW.trans (Fr.refl [] W).drew) hBo gB f4

set_option maxRecDepth 100000 in
set_option maxHeartbeats 1000000 in
theorem do_7 (x y z : Int) (D : Option Addr) (n c : Nat) (h : Both w b F r G L) :
   Calls Try.prog 19 #[.pointer (some ⟨b, 0, none⟩), .pointer (some ⟨r, 0, none⟩), .agg #[.int .i64 7, .int .i64 x, .int .i64 y, .int .u8 z, .slice D n c]] w (DoPost w b F r G) := by
  go_enter Try.func19, Try.ntmps19
  go_upto_region 3 with (fail)
  refine wp_gen (fun W => Blk W w.heap.size 51 #[.int .i64 7, .int .i64 x, .int .i64 y, .int .u8 z, .slice D n c] ∧ Blk W (w.heap.size + 1) 37 #[.int .i64 0, .int .i64 0, .slice none 0 0] ∧ Blk W (w.heap.size + 2) 37 #[.int .i64 0, .int .i64 0, .slice none 0 0] ∧ Fr [] w W) ⟨((Blk.new w 51 _).alloc _).alloc _, (Blk.new' _ _ (by simp)).alloc _, Blk.new' _ _ (by simp), (((Fr.refl _ _).alloc _).alloc _).alloc _⟩ ?_
  rintro W ⟨B5, B9, B10, fW⟩
  have hB := h.quiet fW
  have hFl : ∀ g ∈ F ++ G, g < w.heap.size := fun g hg => (List.mem_append.1 hg).elim (h.lane.lt g) (h.ref.lt g)
  obtain ⟨g5, HG⟩ : ∃ g, Hid (w.heap.size = g) := ⟨_, Lib.hid rfl⟩
  rw [HG.out] at B5 B9 B10 hFl ⊢
  have n5 : ∀ i, g5 + i ∉ F ++ G := fun i hi => by have := hFl _ hi; omega
  have c5 := blk5c B5
  have hl5 := B5.lt
  go_wp2_with fail
  refine (heal_t hB.lane).mono ?_
  rintro e w1 ⟨rfl, F1, h1, g1, -⟩
  obtain ⟨r1, d1⟩ := hB.went g1
  go_wp2_with fail
  refine (RefAt.heal_t r1).mono ?_
  rintro e w2 ⟨G2, rfl, h2, g2⟩
  have hBo : Both w2 b F1 r G2 _ := Both.step h1 r1 d1 h2 g2
  have gB := g1.both g2
  have b9 := B9.fr gB.fr (n5 1)
  have b10 := B10.fr gB.fr (n5 2)
  have c9 := b9.c3
  have c10 := b10.c3
  go_wp2_with fail
  refine (same_zero _).mono ?_
  rintro e w4 ⟨rfl, f4⟩
  go_wp2
  go_ret
  exact DoPost.mk h fW hBo gB f4

set_option maxRecDepth 100000 in
set_option maxHeartbeats 1000000 in
theorem do_9 (k x y z : Int) (D : Option Addr) (n c : Nat) (h : Both w b F r G L) (h0 : (k == 0) = false) (h1 : (k == 1) = false) (h2 : (k == 2) = false) (h3 : (k == 3) = false) (h4 : (k == 4) = false) (h5 : (k == 5) = false) (h6 : (k == 6) = false) (h7 : (k == 7) = false) (h8 : (k == 8) = false) :
   Calls Try.prog 19 #[.pointer (some ⟨b, 0, none⟩), .pointer (some ⟨r, 0, none⟩), .agg #[.int .i64 k, .int .i64 x, .int .i64 y, .int .u8 z, .slice D n c]] w (DoPost w b F r G) := by
  go_enter Try.func19, Try.ntmps19
  go_upto_region 3 with (fail)
  refine wp_gen (fun W => Blk W w.heap.size 51 #[.int .i64 k, .int .i64 x, .int .i64 y, .int .u8 z, .slice D n c] ∧ Blk W (w.heap.size + 1) 37 #[.int .i64 0, .int .i64 0, .slice none 0 0] ∧ Blk W (w.heap.size + 2) 37 #[.int .i64 0, .int .i64 0, .slice none 0 0] ∧ Fr [] w W) ⟨((Blk.new w 51 _).alloc _).alloc _, (Blk.new' _ _ (by simp)).alloc _, Blk.new' _ _ (by simp), (((Fr.refl _ _).alloc _).alloc _).alloc _⟩ ?_
  rintro W ⟨B5, B9, B10, fW⟩
  have hB := h.quiet fW
  have hFl : ∀ g ∈ F ++ G, g < w.heap.size := fun g hg => (List.mem_append.1 hg).elim (h.lane.lt g) (h.ref.lt g)
  obtain ⟨g5, HG⟩ : ∃ g, Hid (w.heap.size = g) := ⟨_, Lib.hid rfl⟩
  rw [HG.out] at B5 B9 B10 hFl ⊢
  have n5 : ∀ i, g5 + i ∉ F ++ G := fun i hi => by have := hFl _ hi; omega
  have c5 := blk5c B5
  have hl5 := B5.lt
  have c9 := B9.c3
  have c10 := B10.c3
  go_wp2_with fail
  refine (same_zero _).mono ?_
  rintro e w4 ⟨rfl, f4⟩
  go_wp2
  go_ret
  exact DoPost.mk h fW hB (Went.refl _ _) f4
end
end Go.Proofs.Ythnienoefnfnpaa
