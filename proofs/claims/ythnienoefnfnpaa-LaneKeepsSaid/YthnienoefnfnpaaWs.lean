/- The walk of LaneKeeps: it returns true. Conditions: the theorem's own. -/
import Derived.Test.YthnienoefnfnpaaWr
import Derived.Test.YthnienoefnfnpaaWh
import Derived.Deep.DeepCutAuto
namespace Go.Proofs.Ythnienoefnfnpaa
open Go.RowKit Go.Sig

/-- A step's cells. -/
structure Sp where
  kind : Int
  a : Int
  b : Int
  x : Int
  d : Option Addr
  n : Nat
  c : Nat
@[reducible] def Sp.arr (s : Sp) : Array Value := #[.int .i64 s.kind, .int .i64 s.a, .int .i64 s.b, .int .u8 s.x, .slice s.d s.n s.c]
theorem blk5 {w : World} {g : Nat} {t : TypeId} {v0 v1 v2 v3 v4 : Value} (h : Blk w g t #[v0, v1, v2, v3, v4]) : w.cell? ⟨g, 1, none⟩ = some v1 ∧ w.cell? ⟨g, 2, none⟩ = some v2 :=
  ⟨by rw [h.cell]; rfl, by rw [h.cell]; rfl⟩

set_option maxRecDepth 100000 in
set_option maxHeartbeats 1000000 in
theorem keeps_walk (A : Option Addr) (n c : Nat) (l : List UInt8) (s : Sp) (w : World) (h : Byts w A n l) (hA : A = none → n = 0) (hnc : n ≤ c) :
   Calls Try.prog 6 #[.slice A n c, .agg s.arr] w fun e w' => e = .returned (.bool true) ∧ Fr [] w w' := by
  have hl := h.length
  go_enter Try.func6, Try.ntmps6
  go_wp2_with fail
  refine calls_gen (fun W => Blk W w.heap.size 51 s.arr ∧ Fr [] w W ∧ w.heap.size < W.heap.size) ⟨Blk.new w 51 s.arr, (Fr.refl _ _).alloc _, by simp⟩ ?_
  rintro W0 ⟨B0, f0, lt0⟩
  have hr0 : Byts W0 A n l := Rd.fr h f0 (by simp [Off])
  have W0s : w.heap.size < W0.heap.size := lt0
  generalize w.heap.size = gs at *
  refine (new_good 2 _ (by decide)).mono ?_
  rintro e w1 ⟨b, F, rfl, h1, f1, n1, hb1⟩
  go_upto_if 26 with (fail)
  go_cut [0] from 24 to 28 (fun s0 wx => ∃ (n' : Nat) (l' : List UInt8), s0 = .slice A n' c ∧ Byts W0 A n' l' ∧ (A = none → n' = 0) ∧ n' ≤ 65544 ∧ n' ≤ n ∧ wx = w1)
  case first =>
    by_cases h64 : 65544 < n
    · have h64' : (65544 : Int) < n := by omega
      have hc0 : ¬ c = 0 := by omega
      have hc1 : 65544 ≤ c := by omega
      go_wp2
      go_meet
      refine ⟨65544, l.take 65544, rfl, ?_, fun ha => by have := hA ha; omega, by omega, by omega, rfl⟩
      refine ⟨by simp; omega, fun _ => ?_⟩
      obtain ⟨b', o, hA', hcl⟩ := hr0.2 (by omega)
      refine ⟨b', o, hA', fun j u hu => hcl j u ?_⟩
      rw [List.getElem?_map] at hu ⊢
      obtain ⟨x, hx, rfl⟩ := Option.map_eq_some_iff.1 hu
      have hj : j < 65544 := by
        have := (List.getElem?_eq_some_iff.1 hx).1
        rw [List.length_take] at this
        omega
      rw [List.getElem?_take_of_lt hj] at hx
      rw [hx]
      rfl
    · have h64' : (n : Int) ≤ 65544 := by omega
      go_wp2
      go_meet
      exact ⟨n, l, rfl, hr0, hA, by omega, by omega, rfl⟩
  case rest =>
    obtain ⟨n', l', rfl, r2, hA', hn', hnn, rfl⟩ := hcut
    have hl' := r2.length
    subst hl'
    go_wp2_with fail
    refine (room_t A _ c l' _ (Rd.fr r2 f1 (by simp [Off])) hA' hn').mono ?_
    rintro e w2 ⟨g, rfl, hg, f2, ng⟩
    have h2 := h1.nilfr f2
    have hgF : g ∉ F := fun hh => by have := h1.lt _ hh; omega
    have s2 : gs < wc.heap.size := by have := f1.size; omega
    go_wp2_with fail
    refine (send_t 0 1 _ _ _ l' h2 (by unfold I64; omega) (by unfold I64; omega) hg.byts (by simp)).mono ?_
    rintro e w3 ⟨F3, rfl, h3, w23, hb3⟩
    rw [kl_send l' hn'] at h3
    have hgl2 : g < w2.heap.size := Blk.lt hg
    have hgF3 := w23.far hgl2 hgF
    have hg3 : RoomAt w3 g l' := Blk.fr hg w23.fr hgF
    go_wp2_with fail
    refine (twice_t 0 h3 (by unfold I64; omega)).mono ?_
    rintro e w4 ⟨F4, rfl, h4, w34, hb4⟩
    rw [kl_twice l' hn'] at h4
    have hgl3 : g < w3.heap.size := Blk.lt hg3
    have hgF4 := w34.far hgl3 hgF3
    have hg4 : RoomAt w4 g l' := Blk.fr hg3 w34.fr hgF3
    have z2 : W0.heap.size ≤ w2.heap.size := (f1.trans f2).size
    have n3 := w23.base n1 z2
    have n4 := w34.base n3 (Nat.le_trans z2 w23.fr.size)
    have q3 : Fr [] W0 w3 := (f1.trans f2).andThen w23.fr (fun i hi => .inr (n1 i hi))
    have q4 : Fr [] W0 w4 := q3.andThen w34.fr (fun i hi => .inr (n3 i hi))
    have gW : W0.heap.size ≤ g := Nat.le_trans f1.size ng
    clear hg hg3 h1 h2 h3 w23 w34 n1 n3 q3 f2 ng hgF hgF3 hb1 hb3 hgl2 hgl3 f1 z2 hr0 h
    go_wp2_with fail
    refine (kept_t g A _ c l' _ hg4 (Rd.fr r2 q4 (by simp [Off])) hn').mono ?_
    rintro e w5 ⟨rfl, f5⟩
    have h5 := h4.nilfr f5
    have hg5 : RoomAt w5 g l' := Blk.fr hg4 f5 (by simp)
    have q5 := q4.trans f5
    clear h4 hg4 q4 f5
    go_wp2_with fail
    obtain ⟨W5, hW5⟩ : ∃ W5, W5 = w5 := ⟨_, rfl⟩
    subst hW5
    go_loopg [8] (l'.length + 1) (fun k s8 wr => ∃ (i : Nat) (cu : Array Value), s8 = .int .i64 i ∧ i ≤ l'.length ∧ l'.length - i < k ∧ Blk wr g 5 cu ∧ cu.size = l'.length + 3 ∧ (∀ j, j < l'.length → ∃ x, cu[j]? = some (.int .u8 x)) ∧ Fr [g] W5 wr)
    case atStart =>
      refine ⟨0, _, rfl, by omega, by omega, hg5, by simp, fun j hj => ?_, Fr.refl _ _⟩
      refine ⟨(l'[j].toNat : Int), ?_⟩
      simp only [List.map_append, List.getElem?_toArray]
      rw [List.getElem?_append_left (by simpa using hj), List.getElem?_map, List.getElem?_eq_getElem hj]
      rfl
    case round =>
      obtain ⟨i, cu, rfl, hi, hk, hB, hsz, hcu, hF⟩ := hrel
      by_cases hil : i < l'.length
      · obtain ⟨x, hx⟩ := hcu i hil
        have hci : wr.cell? ⟨g, i, none⟩ = some (.int .u8 x) := by rw [hB.cell]; exact hx
        have hz := hB.frozen i
        have hgl := hB.lt
        clear hx
        go_wp2
        go_roundg (l'.length - i)
        case measure => omega
        case rel =>
          refine ⟨i + 1, _, by go_num, by omega, by omega, hB.set i (.int .u8 (IntKind.u8.wrap (x + 1))), by simpa using hsz, fun j hj => ?_, hF.setCell (.inl (by simp)) _⟩
          rw [Array.getElem?_setIfInBounds]
          by_cases hij : i = j
          · subst hij
            exact ⟨IntKind.u8.wrap (x + 1), by rw [if_pos rfl, if_pos (by omega)]⟩
          · rw [if_neg hij]
            exact hcu j hj
      · obtain rfl : i = l'.length := by omega
        have q6 : Fr [] W0 wr := q5.andThen hF (fun j hj => by simp at hj; subst hj; exact .inr gW)
        have h6 := h5.fr hF (fun j hj => by simp; rintro rfl; exact hgF4 hj)
        have rg : RowIn wr (some g, l'.length, l'.length + 3) := fun _ => ⟨g, cu, rfl, hB, hsz⟩
        have gl6 := hB.lt
        clear hB hsz hcu hF h5 hg5 q5
        go_wp2_with fail
        refine (at_t 0 h6 (by simp)).mono ?_
        rintro e w7 ⟨p1, rfl, hp1, f7, n7⟩
        go_upto_region 14 with (fail)
        have lt7 : ∀ x ∈ rowOf p1.val, x < w7.heap.size := fun x hx => hp1.own.lt x hx
        have ltF := h6.lt
        have hs7 := f7.size
        refine wp_gen (fun W => Blk W w7.heap.size 37 p1.arr ∧ LaneAt W b F4 ⟨2, [⟨0, 1, l'⟩, ⟨0, 1, l'⟩], []⟩ ∧ PkAt W p1 ⟨0, 1, l'⟩ ∧ Fr [] W0 W ∧ RowIn W (some g, l'.length, l'.length + 3) ∧ w7.heap.size < W.heap.size)
          ⟨Blk.new _ _ _, (h6.nilfr f7).nilfr ((Fr.refl _ _).alloc _), hp1.fr (S := []) ((Fr.refl _ _).alloc _) (by simp), (q6.trans f7).alloc _, (rg.fr (S := []) f7 (by simp)).fr (S := []) ((Fr.refl _ _).alloc _) (by simp), by simp⟩ ?_
        clear hp1 q6 rg f7 h6
        generalize w7.heap.size = g9 at *
        rintro W7 ⟨B9, h7, hp1, q7, rg, z7⟩
        have hsp : Calls Try.prog 24 #[.pointer (some ⟨b, 0, none⟩), .int .i64 1, .int .i64 0, .int .u8 255] W7 (SpoilPost W7 b F4 ⟨2, [⟨0, 1, l'⟩, ⟨0, 1, l'⟩], []⟩ 1 0 255) := spoil_t 1 0 255 h7 (by unfold I64; omega) (by unfold I64; omega)
        go_wp2_with fail
        refine hsp.mono ?_
        rintro e w8 ⟨F8, rfl, h8, w78, hb8⟩
        obtain ⟨q', e8⟩ := kl_spoil ⟨0, 1, l'⟩ ⟨0, 1, l'⟩ 255
        rw [e8] at h8
        have xF4 : ∀ x ∈ rowOf p1.val, x ∉ F4 := fun x hx hh => by
          have := n7 x hx
          have := ltF x hh
          omega
        have xF8 : ∀ x ∈ rowOf p1.val, x ∉ F8 := fun x hx => w78.far (by have := lt7 x hx; omega) (xF4 x hx)
        have gF8 : g ∉ F8 := w78.far (by omega) hgF4
        have k9F4 : g9 ∉ F4 := fun hh => by have := ltF _ hh; omega
        have k9F8 : g9 ∉ F8 := w78.far z7 k9F4
        have hp18 := hp1.fr w78.fr xF4
        have rg8 := rg.fr w78.fr (fun x hx => by cases hx; exact hgF4)
        have B98 := B9.fr w78.fr k9F4
        have q8 : Fr [] W0 w8 := q7.andThen w78.fr (fun i hi => .inr (n4 i hi))
        have n8 := w78.base n4 q7.size
        have z8 := w78.fr.size
        have ltF8 := h8.lt
        clear B9 h7 hp1 q7 rg hsp w78 xF4 k9F4 ltF hgF4 n4 hb4 e8
        obtain ⟨t1, t2⟩ := kl_take ⟨0, 1, l'⟩ q'
        go_wp2_with fail
        refine (take_t 0 h8 (by unfold I64; omega)).mono ?_
        rintro e w9 ⟨F9, p2, rfl, h9, w89, hb9, -, hp2⟩
        rw [t2] at h9
        obtain ⟨hp2, y89⟩ := hp2 t1
        rw [t1]
        clear t1 t2
        have hp19 := hp18.fr w89.fr xF8
        have rg9 := rg8.fr w89.fr (fun x hx => by cases hx; exact gF8)
        have B99 := B98.fr w89.fr k9F8
        have q9 : Fr [] W0 w9 := q8.andThen w89.fr (fun i hi => .inr (n8 i hi))
        have z9 := w89.fr.size
        clear hp18 rg8 B98 q8 h8 w89 hb8
        go_upto_region 16 with (fail)
        refine wp_gen (fun W => Blk W g9 37 p1.arr ∧ Blk W w9.heap.size 37 p2.arr ∧ LaneAt W b F9 ⟨2, [q'], []⟩ ∧ PkAt W p1 ⟨0, 1, l'⟩ ∧ PkAt W p2 ⟨0, 1, l'⟩ ∧ Fr [] W0 W ∧ RowIn W (some g, l'.length, l'.length + 3) ∧ w9.heap.size < W.heap.size)
          ⟨B99.alloc _, Blk.new _ _ _, h9.nilfr ((Fr.refl _ _).alloc _), hp19.fr (S := []) ((Fr.refl _ _).alloc _) (by simp), hp2.fr (S := []) ((Fr.refl _ _).alloc _) (by simp), q9.alloc _, rg9.fr (S := []) ((Fr.refl _ _).alloc _) (by simp), by simp⟩ ?_
        clear B99 h9 hp19 hp2 q9 rg9
        generalize w9.heap.size = g11 at *
        rintro W9 ⟨B9, B11, h9, hp1, hp2, q9, rg, z11⟩
        go_wp2_with fail
        refine (at_t 0 h9 (by simp)).mono ?_
        rintro e w10 ⟨p3, rfl, hp3, f10, n10⟩
        have z10 := f10.size
        have lt10 : ∀ x ∈ rowOf p3.val, x < w10.heap.size := fun x hx => hp3.own.lt x hx
        go_upto_region 17 with (fail)
        refine wp_gen (fun W => Blk W g9 37 p1.arr ∧ Blk W g11 37 p2.arr ∧ Blk W w10.heap.size 37 p3.arr ∧ PkAt W p1 ⟨0, 1, l'⟩ ∧ PkAt W p2 ⟨0, 1, l'⟩ ∧ PkAt W p3 q' ∧ Fr [] W0 W ∧ RowIn W (some g, l'.length, l'.length + 3))
          ⟨(B9.fr f10 (by simp)).alloc _, (B11.fr f10 (by simp)).alloc _, Blk.new _ _ _, hp1.fr (S := []) (f10.alloc _) (by simp), hp2.fr (S := []) (f10.alloc _) (by simp), hp3.fr (S := []) ((Fr.refl _ _).alloc _) (by simp), (q9.trans f10).alloc _, rg.fr (S := []) (f10.alloc _) (by simp)⟩ ?_
        clear B9 B11 h9 hp1 hp2 hp3 q9 rg f10
        generalize w10.heap.size = g13 at *
        rintro W10 ⟨B9, B11, B13, hp1, hp2, hp3, q10, rg⟩
        obtain ⟨s1, d1, a1, m1, c1⟩ := p1
        obtain ⟨s2', d2, a2, m2, c2⟩ := p2
        obtain ⟨s3, d3, a3, m3, c3⟩ := p3
        have o1 : Own W10 5 1 (.slice a1 m1 c1) m1 (l'.map bv) := hp1.own
        have o2 : Own W10 5 1 (.slice a2 m2 c2) m2 (l'.map bv) := hp2.own
        have o3 : Own W10 5 1 (.slice a3 m3 c3) m3 (q'.bs.map bv) := hp3.own
        have y1 : Byts W10 a1 m1 l' := o1.rd
        have y2 : Byts W10 a2 m2 l' := o2.rd
        have e1 : m1 ≤ 65544 := hp1.le
        have e2 : m2 ≤ 65544 := hp2.le
        obtain ⟨ra, ea1, ea2, ea3, ra1, ra2, ra3⟩ := own_row o1
        obtain ⟨rb, eb1, eb2, eb3, rb1, rb2, rb3⟩ := own_row o2
        obtain ⟨rc, ec1, ec2, ec3, rc1, rc2, rc3⟩ := own_row o3
        subst ea1 ea2 ea3 eb1 eb2 eb3 ec1 ec2 ec3
        clear hp1 hp2 hp3 o1 o2 o3
        have x9 := B9.c3.2.2
        have x11 := B11.c3.2.2
        have x13 := B13.c3.2.2
        have l13 := B13.lt
        simp only [Pc.val] at n7 lt7 xF8 y89 n10 lt10
        go_wp2_with fail
        refine (same1_t _ _ _ A _ c l' _ y1 (Rd.fr r2 q10 (by simp [Off])) (by omega)).mono ?_
        rintro e w11 ⟨rfl, f11⟩
        have B9' := (B9.fr f11 (by simp)).c3.2.2
        have B11' := (B11.fr f11 (by simp)).c3.2.2
        have B13' := (B13.fr f11 (by simp)).c3.2.2
        go_wp2_with fail
        refine (same1_t _ _ _ A _ c l' _ (Rd.fr y2 f11 (by simp [Off])) (Rd.fr r2 (q10.trans f11) (by simp [Off])) (by omega)).mono ?_
        rintro e w12 ⟨rfl, f12⟩
        have f13 := f11.trans f12
        have q12 := q10.trans f13
        have B9' := (B9.fr f13 (by simp)).c3.2.2
        have B11' := (B11.fr f13 (by simp)).c3.2.2
        have B13' := (B13.fr f13 (by simp)).c3.2.2
        have z13 := f13.size
        go_wp2_with fail
        refine (apart4_t ra rb rc (some g, l'.length, l'.length + 3) w12 (ra1.fr f13 (by simp)) (rb1.fr f13 (by simp)) (rc1.fr f13 (by simp)) (rg.fr f13 (by simp)) ra2 rb2 rc2 (by show l'.length + 3 ≤ _; omega)
          (fun x e => by have := lt7 x (ra3 x e); omega) (fun x e => by have := ltF8 x (y89 x (rb3 x e)).1; omega) (fun x e => by have := lt10 x (rc3 x e); omega) (fun x e => by cases e; omega)
          (fun x e e' => xF8 x (ra3 x e) (y89 x (rb3 x e')).1) (fun x e e' => by have := lt7 x (ra3 x e); have := n10 x (rc3 x e'); omega) (fun x e e' => by cases e'; have := n7 _ (ra3 _ e); omega)
          (fun x e e' => by have := ltF8 x (y89 x (rb3 x e)).1; have := n10 x (rc3 x e'); omega) (fun x e e' => by cases e'; exact gF8 (y89 _ (rb3 _ e)).1) (fun x e e' => by cases e'; have := n10 _ (rc3 _ e); omega)).mono ?_
        rintro e w14 ⟨rfl, f14⟩
        have q14 : Fr [] W0 w14 := q12.andThen f14 (fun x hx => by
          right
          rcases mem_blocks4 hx with e | e | e | e
          · have := n7 x (ra3 x e); omega
          · exact n8 x (y89 x (rb3 x e)).1
          · have := n10 x (rc3 x e); omega
          · cases e; exact gW)
        have b14 := blk5 (B0.fr q14 (by simp))
        have l14 := (B0.fr q14 (by simp)).lt
        clear f14 f12 f11 f13 q12 B9' B11' B13' y1 y2 ra1 ra2 ra3 rb1 rb2 rb3 rc1 rc2 rc3 rg q10 B9 B11 B13 x9 x11 x13 n10 lt10 n7 lt7 xF8 y89 n8 ltF8 gF8 k9F8
        go_wp2_with fail
        refine (heal_nil ).mono ?_
        rintro e v1 ⟨rfl, t1f⟩
        have t1 := q14.trans t1f
        have t1b := blk5 (B0.fr t1 (by simp))
        have t1l := (B0.fr t1 (by simp)).lt
        go_wp2_with fail
        refine (at_nil _).mono ?_
        rintro e v2 ⟨rfl, t2f⟩
        have t2 := t1.trans t2f
        simp only [ZeroP]
        have t2b := blk5 (B0.fr t2 (by simp))
        have t2l := (B0.fr t2 (by simp)).lt
        go_upto_region 22 with (fail)
        refine wp_gen (fun W => Fr [] W0 W) (t2.alloc _) ?_
        clear t2 t2f t2b t2l t1 t1b t1l t1f
        rintro v3 t3
        have t3b := blk5 (B0.fr t3 (by simp))
        have t3l := (B0.fr t3 (by simp)).lt
        go_wp2_with fail
        refine (take_nil _).mono ?_
        rintro e v4 ⟨rfl, t4f⟩
        have t4 := t3.trans t4f
        simp only [ZeroP]
        have t4b := blk5 (B0.fr t4 (by simp))
        have t4l := (B0.fr t4 (by simp)).lt
        go_upto_region 23 with (fail)
        refine wp_gen (fun W => Fr [] W0 W) (t4.alloc _) ?_
        clear t4 t4f t4b t4l t3 t3b t3l
        rintro v5 t5
        have t5b := blk5 (B0.fr t5 (by simp))
        have t5l := (B0.fr t5 (by simp)).lt
        go_wp2_with fail
        refine (known_t _).mono ?_
        rintro e v6 ⟨rfl, t6f⟩
        have t6 := t5.trans t6f
        have t6b := blk5 (B0.fr t6 (by simp))
        have t6l := (B0.fr t6 (by simp)).lt
        go_wp2_with fail
        refine (send_nil _ _ _ _ _).mono ?_
        rintro e v7 ⟨rfl, t7f⟩
        have t7 := t6.trans t7f
        have t7b := blk5 (B0.fr t7 (by simp))
        have t7l := (B0.fr t7 (by simp)).lt
        go_wp2_with fail
        refine (drop_nil _).mono ?_
        rintro e v8 ⟨rfl, t8f⟩
        have t8 := t7.trans t8f
        have t8b := blk5 (B0.fr t8 (by simp))
        have t8l := (B0.fr t8 (by simp)).lt
        go_wp2_with fail
        refine (twice_nil _).mono ?_
        rintro e v9 ⟨rfl, t9f⟩
        have t9 := t8.trans t9f
        have t9b := blk5 (B0.fr t9 (by simp))
        have t9l := (B0.fr t9 (by simp)).lt
        go_wp2_with fail
        refine (spoil_nil _ _ _).mono ?_
        rintro e va ⟨rfl, taf⟩
        have ta := t9.trans taf
        have tab := blk5 (B0.fr ta (by simp))
        have tal := (B0.fr ta (by simp)).lt
        go_wp2_with fail
        refine (shut_nil _ _).mono ?_
        rintro e vb ⟨rfl, tbf⟩
        have tb := ta.trans tbf
        have tbb := blk5 (B0.fr tb (by simp))
        have tbl := (B0.fr tb (by simp)).lt
        go_wp2_with fail
        refine (join_nil _ _).mono ?_
        rintro e vc ⟨rfl, tcf⟩
        have tc := tb.trans tcf
        have tcb := blk5 (B0.fr tc (by simp))
        have tcl := (B0.fr tc (by simp)).lt
        go_wp2_with fail
        refine (count_nil ).mono ?_
        rintro e vd ⟨rfl, tdf⟩
        have td := tc.trans tdf
        have tdb := blk5 (B0.fr td (by simp))
        have tdl := (B0.fr td (by simp)).lt
        go_wp2_with fail
        refine (next_nil ).mono ?_
        rintro e ve ⟨rfl, tef⟩
        have te := td.trans tef
        have teb := blk5 (B0.fr te (by simp))
        have tel := (B0.fr te (by simp)).lt
        go_wp2_with fail
        refine (open_nil _ _).mono ?_
        rintro e vf ⟨rfl, tff⟩
        have tf := te.trans tff
        have tfb := blk5 (B0.fr tf (by simp))
        have tfl := (B0.fr tf (by simp)).lt
        go_wp2
        go_ret
        exact ⟨rfl, f0.trans tf⟩
end Go.Proofs.Ythnienoefnfnpaa
