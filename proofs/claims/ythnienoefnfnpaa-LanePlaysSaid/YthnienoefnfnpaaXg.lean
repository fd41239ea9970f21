/- The walk of LanePlays: it returns true. Conditions: the theorem's own. -/
import Derived.Test.YthnienoefnfnpaaXf
import Derived.Test.YthnienoefnfnpaaWh
import Derived.Deep.DeepCutAuto
namespace Go.Proofs.Ythnienoefnfnpaa
open Go.RowKit Go.Sig

/-- A step's cells. -/
structure Sp where
  kind : Int
  a : Int
  b : Int
  x : Int
  d : Option Addr
  n : Nat
  c : Nat
@[reducible] def Sp.arr (s : Sp) : Array Value := #[.int .i64 s.kind, .int .i64 s.a, .int .i64 s.b, .int .u8 s.x, .slice s.d s.n s.c]
@[reducible] def Sp.cells (s : Sp) : List Value := [.int .i64 s.kind, .int .i64 s.a, .int .i64 s.b, .int .u8 s.x, .slice s.d s.n s.c]
/-- A step that can be read. -/
structure SpOk (w : World) (s : Sp) : Prop where
  a : I64 s.a
  b : I64 s.b
  x : 0 ≤ s.x ∧ s.x < 256
  d : ∃ l, Byts w s.d s.n l
  nil : s.d = none → s.n = 0
/-- A script that can be read. -/
structure Script (w : World) (A : Option Addr) (n : Nat) (ss : List Sp) : Prop where
  rd : Rd w 5 A n (ss.flatMap Sp.cells)
  length : ss.length = n
  ok : ∀ s ∈ ss, SpOk w s
  le : n ≤ 9223372036854775807

section
variable {w wr : World} {b r : Nat} {F G : List Nat} {L : LaneM}
theorem do_t (s : Sp) (h : Both w b F r G L) (hs : SpOk w s) (hO : 0 < s.n → Off (F ++ G) s.d) :
   Calls Try.prog 19 #[.pointer (some ⟨b, 0, none⟩), .pointer (some ⟨r, 0, none⟩), .agg s.arr] w (DoPost w b F r G) := by
  obtain ⟨k, x, y, z, D, n, c⟩ := s
  obtain ⟨hx, hy, hz, ⟨l, hl⟩, hn⟩ := hs
  simp only at hx hy hz hl hn hO
  obtain ⟨zb, rfl⟩ : ∃ zb : UInt8, z = (zb.toNat : Int) := ⟨UInt8.ofNat z.toNat, by simp; omega⟩
  by_cases h0 : k = 0
  · subst h0; exact do_0 x y _ D n c l h hx hy hl hn hO
  by_cases h1 : k = 1
  · subst h1; exact do_1 x y _ D n c h hx
  by_cases h2 : k = 2
  · subst h2; exact do_2 x y _ D n c h hx hy
  by_cases h3 : k = 3
  · subst h3; exact do_3 x y _ D n c h hx hy
  by_cases h4 : k = 4
  · subst h4; exact do_4 x y zb D n c h hx hy
  by_cases h5 : k = 5
  · subst h5; exact do_5 x y _ D n c h hx hy
  by_cases h6 : k = 6
  · subst h6; exact do_6 x y _ D n c h hx hy
  by_cases h7 : k = 7
  · subst h7; exact do_7 x y _ D n c h
  by_cases h8 : k = 8
  · subst h8; exact do_8 x y _ D n c h
  exact do_9 k x y _ D n c h (by simpa using h0) (by simpa using h1) (by simpa using h2) (by simpa using h3) (by simpa using h4) (by simpa using h5) (by simpa using h6) (by simpa using h7) (by simpa using h8)

theorem Script.at {A : Option Addr} {n k : Nat} {ss : List Sp} (h : Script w A n ss) (hf : Fr [] w wr) (hk : k < ss.length) : ∃ b o, A = some ⟨b, o, none⟩ ∧ b < w.heap.size ∧ wr.cell? ⟨b, o + k * 5, none⟩ = some (.int .i64 ss[k].kind) ∧ wr.cell? ⟨b, o + k * 5 + 1, none⟩ = some (.int .i64 ss[k].a) ∧
    wr.cell? ⟨b, o + k * 5 + 2, none⟩ = some (.int .i64 ss[k].b) ∧ wr.cell? ⟨b, o + k * 5 + 3, none⟩ = some (.int .u8 ss[k].x) ∧ wr.cell? ⟨b, o + k * 5 + 4, none⟩ = some (.slice ss[k].d ss[k].n ss[k].c) := by
  have hl := h.length
  obtain ⟨b, o, hA, hc⟩ := h.rd.2 (by omega)
  have hg := fun j hj => flat_get Sp.cells 5 (fun _ => rfl) ss k j hk hj
  have h0 := hc _ _ (hg 0 (by omega))
  refine ⟨b, o, hA, block_lt_of_cell (a := ⟨b, o + (k * 5 + 0), none⟩) h0, ?_, ?_, ?_, ?_, ?_⟩
  · exact (hf.cell (p := ⟨b, o + k * 5, none⟩) (block_lt_of_cell (a := ⟨b, o + (k * 5 + 0), none⟩) h0) (by simp)).trans h0
  · have := hc _ _ (hg 1 (by omega)); exact (hf.cell (p := ⟨b, o + k * 5 + 1, none⟩) (block_lt_of_cell (a := ⟨b, o + (k * 5 + 1), none⟩) this) (by simp)).trans this
  · have := hc _ _ (hg 2 (by omega)); exact (hf.cell (p := ⟨b, o + k * 5 + 2, none⟩) (block_lt_of_cell (a := ⟨b, o + (k * 5 + 2), none⟩) this) (by simp)).trans this
  · have := hc _ _ (hg 3 (by omega)); exact (hf.cell (p := ⟨b, o + k * 5 + 3, none⟩) (block_lt_of_cell (a := ⟨b, o + (k * 5 + 3), none⟩) this) (by simp)).trans this
  · have := hc _ _ (hg 4 (by omega)); exact (hf.cell (p := ⟨b, o + k * 5 + 4, none⟩) (block_lt_of_cell (a := ⟨b, o + (k * 5 + 4), none⟩) this) (by simp)).trans this

theorem plays_bad (N : Int) (A : Option Addr) (n c : Nat) (hN : N < 1 ∨ 32 < N) :
   Calls Try.prog 5 #[.int .i64 N, .slice A n c] w fun e w' => e = .returned (.bool true) ∧ Fr [] w w' := by
  by_cases h1 : N < 1
  · go_enter Try.func5, Try.ntmps5
    go_wp2_with fail
    refine (new_bad N w hN).mono ?_
    rintro e w1 ⟨rfl, rfl⟩
    go_wp2_with fail
    refine (known_t _).mono ?_
    rintro e w1 ⟨rfl, f1⟩
    go_wp2_with fail
    refine (known_t _).mono ?_
    rintro e w2 ⟨rfl, f2⟩
    go_wp2
    go_ret
    exact ⟨rfl, f1.trans f2⟩
  · have h2 : 32 < N := by omega
    have h1' : decide (N < 1) = false := by simpa using h1
    go_enter Try.func5, Try.ntmps5
    go_wp2_with fail
    refine (new_bad N w hN).mono ?_
    rintro e w1 ⟨rfl, rfl⟩
    go_wp2_with fail
    refine (known_t _).mono ?_
    rintro e w1 ⟨rfl, f1⟩
    go_wp2_with fail
    refine (known_t _).mono ?_
    rintro e w2 ⟨rfl, f2⟩
    go_wp2
    go_ret
    exact ⟨rfl, f1.trans f2⟩

set_option maxRecDepth 100000 in
set_option maxHeartbeats 1000000 in
theorem plays_good (N : Int) (A : Option Addr) (n c : Nat) (ss : List Sp) (h : Script w A n ss) (hN : 1 ≤ N ∧ N ≤ 32) :
   Calls Try.prog 5 #[.int .i64 N, .slice A n c] w fun e w' => e = .returned (.bool true) ∧ Fr [] w w' := by
  have hle := h.le
  have hlen := Lib.hid h.length
  have h1 : ¬ N < 1 := by omega
  have h2 : ¬ 32 < N := by omega
  go_enter Try.func5, Try.ntmps5
  go_wp2_with fail
  refine (new_good N w hN).mono ?_
  rintro e w1 ⟨b, F, rfl, hl, f1, hF, -⟩
  go_wp2_with fail
  refine (known_t _).mono ?_
  rintro e w2 ⟨rfl, f2⟩
  have hl2 := hl.nilfr f2
  have h1' : 1 ≤ N := hN.1
  have h2' : N ≤ 32 := hN.2
  go_upto_region 6 with (fail)
  go_wp2_with (refine wpList_build_as rfl 48 #[(0, .tmp 39)] rfl [(0, .int .i64 N)] ?_ (built48 N) ?_)
  have BW := Blk.new w2 48 (refInit N)
  have fW : Fr [] w2 (w2.alloc (.cells (refInit N) 48)) := (Fr.refl _ _).alloc _
  have hR : RefAt (w2.alloc (.cells (refInit N) 48)) w2.heap.size [w2.heap.size] ⟨N, [], []⟩ := ⟨_, _, _, refInit_in N _ hN BW, rfl⟩
  have hlt2 := hl2.lt
  have hB : Both (w2.alloc (.cells (refInit N) 48)) b F w2.heap.size [w2.heap.size] ⟨N, [], []⟩ := ⟨hl2.nilfr fW, hR, fun x hx => by have := hlt2 x hx; simp; omega⟩
  have hfr : Fr [] w (w2.alloc (.cells (refInit N) 48)) := (f1.trans f2).trans fW
  have hbase : ∀ g ∈ F ++ [w2.heap.size], w.heap.size ≤ g := fun g hg => by
    have := (f1.trans f2).size
    rcases List.mem_append.1 hg with h3 | h3
    · exact hF g h3
    · simp at h3; omega
  clear BW fW hR hl hl2 hlt2 hF
  obtain ⟨r, HR⟩ : ∃ r, Hid (w2.heap.size = r) := ⟨_, Lib.hid rfl⟩
  rw [HR.out] at hB hbase ⊢
  generalize w2.alloc (.cells (refInit N) 48) = W at *
  clear HR f1 f2
  go_loopg [8] (n + 1) (fun k s8 wr => ∃ (i : Nat) (F G : List Nat) (L : LaneM), s8 = .int .i64 i ∧ i ≤ n ∧ n - i < k ∧ Both wr b F r G L ∧ (∀ g ∈ F ++ G, w.heap.size ≤ g) ∧ Fr [] w wr)
  case atStart => exact ⟨0, F, [r], _, rfl, by omega, by omega, hB, hbase, hfr⟩
  case round =>
    clear hB hbase hfr
    obtain ⟨i, F, G, L, rfl, hi, hk, hB, hbase, hF⟩ := hrel
    by_cases hlt : i < n
    · by_cases h150 : i < 150
      · have hlt' : (i : Int) < n := by omega
        have h150' : (i : Int) < 150 := by omega
        obtain ⟨gb, o, rfl, hgb, c0, c1, c2, c3, c4⟩ := h.at hF (k := i) (by rw [hlen.out]; exact hlt)
        obtain ⟨⟨kk, xx, yy, zz, DD, nn, cc⟩, hs⟩ : ∃ s, Hid (ss[i]'(by rw [hlen.out]; exact hlt) = s) := ⟨_, Lib.hid rfl⟩
        have hok := h.ok _ (List.getElem_mem (by rw [hlen.out]; exact hlt : i < ss.length))
        rw [hs.out] at hok c0 c1 c2 c3 c4
        simp only at c0 c1 c2 c3 c4
        have hok2 : SpOk wr ⟨kk, xx, yy, zz, DD, nn, cc⟩ := by
          obtain ⟨l, hd⟩ := hok.d
          exact ⟨hok.a, hok.b, hok.x, ⟨l, Rd.fr hd hF (by simp [Off])⟩, hok.nil⟩
        have hoff : 0 < nn → Off (F ++ G) DD := fun h0 ad hA hh => by
          obtain ⟨l, hd⟩ := hok.d
          have h1 := Rd.lt hd (by decide) h0 ad hA
          have h2 := hbase _ hh
          omega
        have hIx := hok.a
        have hIy := hok.b
        have hgn : gb ∉ F ++ G := fun hh => by have := hbase _ hh; omega
        have hk0 := And.intro c0 (And.intro c1 (And.intro c2 (And.intro c3 c4)))
        clear c0 c1 c2 c3 c4 hok
        go_wp2_with fail
        go_region_held3 (fun w' => w'.cell? ⟨gb, o + i * 5, none⟩ = some (.int .i64 kk) ∧ w'.cell? ⟨gb, o + i * 5 + 1, none⟩ = some (.int .i64 xx) ∧ w'.cell? ⟨gb, o + i * 5 + 2, none⟩ = some (.int .i64 yy) ∧ w'.cell? ⟨gb, o + i * 5 + 3, none⟩ = some (.int .u8 zz) ∧ w'.cell? ⟨gb, o + i * 5 + 4, none⟩ = some (.slice DD nn cc))
          (first | exact hk0 | exact hk1 | exact hk2)
          (first
            | (go_at_call 19; refine (do_t ⟨kk, xx, yy, zz, DD, nn, cc⟩ (hB.quiet (Fr.refl [] wr).drew) ⟨hIx, hIy, hok2.x, hok2.d, hok2.nil⟩ hoff).mono ?_; rintro e w3 ⟨rfl, F3, G3, L3, hB3, g3⟩; have hc3 := fun (j : Nat) => g3.fr.of_drew.cell (p := ⟨gb, j, none⟩) (Nat.lt_of_lt_of_le hgb hF.size) hgn; have hk1 := And.intro ((hc3 _).trans hk0.1) (And.intro ((hc3 _).trans hk0.2.1) (And.intro ((hc3 _).trans hk0.2.2.1) (And.intro ((hc3 _).trans hk0.2.2.2.1) ((hc3 _).trans hk0.2.2.2.2)))))
            | (go_at_call 20; refine (alike_t xx yy hB3 hIx hIy).mono ?_; rintro e w4 ⟨rfl, f4⟩; have hc4 := fun (j : Nat) => f4.cell (p := ⟨gb, j, none⟩) (Nat.lt_of_lt_of_le (Nat.lt_of_lt_of_le hgb hF.size) g3.fr.size) (by simp); have hk2 := And.intro ((hc4 _).trans hk1.1) (And.intro ((hc4 _).trans hk1.2.1) (And.intro ((hc4 _).trans hk1.2.2.1) (And.intro ((hc4 _).trans hk1.2.2.2.1) ((hc4 _).trans hk1.2.2.2.2))))))
        have hsz := hF.size
        have hB4 := hB3.quiet f4
        have hF4 := (hF.andThen g3.fr.of_drew (fun x hx => .inr (hbase x hx))).trans f4
        have hb4 : ∀ g ∈ F3 ++ G3, w.heap.size ≤ g := fun g hg => (g3.sub g hg).elim (hbase g) (fun h3 => by simp at h3; omega)
        clear hk0 hk1 hk2 hc3 hc4 hB3 g3 f4 hB hbase
        go_wp2
        go_roundg (n - i)
        case measure => omega
        case rel => exact ⟨i + 1, F3, G3, L3, by go_num, by omega, by omega, hB4, hb4, hF4⟩
      · have hlt' : (i : Int) < n := by omega
        have h150' : (150 : Int) ≤ i := by omega
        go_wp2
        go_ret
        exact ⟨rfl, hF⟩
    · have hlt' : (n : Int) ≤ i := by omega
      go_wp2
      go_ret
      exact ⟨rfl, hF⟩
end
end Go.Proofs.Ythnienoefnfnpaa
