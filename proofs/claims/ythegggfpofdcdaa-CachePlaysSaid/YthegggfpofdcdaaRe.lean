/- Walks: the document's Fill where an answer is kept. Conditions: each theorem's own. -/
import Derived.Test.YthegggfpofdcdaaRd
import Derived.Test.YthegggfpofdcdaaCp
import Derived.Deep.DeepCutAuto
import Derived.Deep.RegionHeld
namespace Go.Proofs.Ythegggfpofdcdaa
open Go.RowKit Go.Sig

def kept (x : Rw) (a : Ans) (A7 : Option Addr) (k7 : Nat) (l : List ByteArray) : Rw := ⟨0, x.tok, x.fam, x.start, ⟨a.why, a.access, a.refresh, A7, a.sl, k7, a.client, a.user, true, a.wait⟩, l⟩
def RefM.keep (R : RefM) (n : Int) (y : Rw) : RefM := { (R.drop n).lose y.tok with all := ((R.drop n).lose y.tok).all ++ [y] }
def ky (l : List Rw) (j : Nat) : ByteArray × Int := ((l.getD j Rw.zero).tok, (l.getD j Rw.zero).start)
def LeastAt (l : List Rw) (k : Nat) (t : ByteArray) : Prop := k < l.length ∧ t = (ky l k).1 ∧ ∀ j, j < l.length → kl (ky l j) (ky l k) = false
def RFillKept (w : World) (r : Nat) (vw va : Value) (R : RefM) (n : Int) (a : Ans) (l : List ByteArray) (e : Ending) (w' : World) : Prop :=
  ∃ A7 k7, e = .returned (.bool true) ∧
    (((R.keep n (kept (lastN n R.way) a A7 k7 l)).all.length ≤ R.room ∧ RefPost w r vw va (R.keep n (kept (lastN n R.way) a A7 k7 l)) w') ∨
     (R.room < (R.keep n (kept (lastN n R.way) a A7 k7 l)).all.length ∧ ∃ k t, LeastAt (R.keep n (kept (lastN n R.way) a A7 k7 l)).all k t ∧ RefPost w r vw va ((R.keep n (kept (lastN n R.way) a A7 k7 l)).lose t) w'))

section
variable {w : World} {r : Nat} {vw va : Value} {R : RefM}
theorem kl_irrefl (p : ByteArray × Int) : kl p p = false := by simp [kl, bl_irrefl]
theorem s11 {w' : World} {g6 g9 : Nat} {v0 v1 v2 v3 v4 v5 v6 v7 : Value} {x : Rw} (K6 : Blk w' g6 32 #[v0, v1, v2, v3, v4, v5, v6, v7]) (K9 : Blk w' g9 64 x.arr) :
    w'.cell? ⟨g9, 1, none⟩ = some (.string x.tok) ∧ w'.cell? ⟨g9, 2, none⟩ = some (.string x.fam) ∧ w'.cell? ⟨g9, 3, none⟩ = some (.int .i64 x.start) ∧ w'.cell? ⟨g6, 0, none⟩ = some v0 ∧ w'.cell? ⟨g6, 1, none⟩ = some v1 ∧ w'.cell? ⟨g6, 2, none⟩ = some v2 ∧ w'.cell? ⟨g6, 3, none⟩ = some v3 ∧ w'.cell? ⟨g6, 4, none⟩ = some v4 ∧ w'.cell? ⟨g6, 5, none⟩ = some v5 ∧ w'.cell? ⟨g6, 6, none⟩ = some v6 ∧ w'.cell? ⟨g6, 7, none⟩ = some v7 := by
  have k := K6.c8
  have e := K9.c12.1
  exact ⟨by simpa using e.c1, by simpa using e.c2, by simpa using e.c3, k.1, k.2.1, k.2.2.1, k.2.2.2.1, k.2.2.2.2.1, k.2.2.2.2.2.1, k.2.2.2.2.2.2.1, k.2.2.2.2.2.2.2.1⟩
set_option maxHeartbeats 1600000 in
set_option maxRecDepth 100000 in
theorem rfill_kept (n : Int) (a : Ans) (l : List ByteArray) (now : Int) (h : RefIn w r vw va R) (hN : Nums R) (hnow : I64 now) (h0 : (lastN n R.way).n ≠ 0) (ha : a.active = true) (hlv : liveB (lastN n R.way).start now R.short = true)
    (hsc : ScOk w a l) (hoff : 0 < a.sl → Off (footR r vw va) a.sa) (hl999 : R.all.length < 999) :
   Calls Try.prog 15 #[.pointer (some ⟨r, 0, none⟩), .int .i64 n, .agg #[.int .i64 a.why, .int .i64 a.access, .int .i64 a.refresh, .slice a.sa a.sl a.sc, .string a.client, .string a.user, .bool a.active, .bool a.wait], .int .i64 now] w (RFillKept w r vw va R n a l) := by
  have hst := (hN.way _ (lastN_mem h0).1).2
  have hs1 := hN.s1
  have hlive := fun w => rlive_t (lastN n R.way).start now R.short w hst hnow ⟨by omega, by omega⟩
  rw [hlv] at hlive
  have hl1 := h.l1
  have Ha := Lib.hid ha
  clear ha
  obtain ⟨A, cap, rfl, -⟩ := h.ow.form
  go_enter Try.func15, Try.ntmps15
  go_wp2_with fail
  go_loopg [10] (R.way.length + 1) (fun k s10 wr => ∃ i : Nat, s10 = .int .i64 i ∧ i ≤ R.way.length ∧ R.way.length - i < k ∧ Fr [] w wr ∧ Blk wr w.heap.size 32 #[.int .i64 a.why, .int .i64 a.access, .int .i64 a.refresh, .slice a.sa a.sl a.sc, .string a.client, .string a.user, .bool a.active, .bool a.wait] ∧ Blk wr (w.heap.size + 1) 64 (lastN n (R.way.take i)).arr)
  case atStart => exact ⟨0, rfl, by omega, by omega, ((Fr.refl _ _).alloc _).alloc _, (Blk.new _ _ _).alloc _, Blk.new' _ _ (by simp)⟩
  case round =>
    obtain ⟨i, rfl, hi, hk, hF, hB6, hB9⟩ := hrel
    have hr := h.nilfr hF
    have hc := hr.blk.c5
    have hrl := h.blk.lt
    have hbl := hB9.lt
    by_cases hil : i < R.way.length
    · obtain ⟨g, cap', hv, hgl, hat⟩ := own_at12 hr.ow rfl hil
      injection hv with hv _ hv3
      subst hv hv3
      have hln := lastN_take (n := n) hil
      generalize R.way[i] = x at *
      obtain ⟨d0, d1, d2, d3, d4, d5, d6, d7, d8, d9, d10, d11⟩ := hat
      by_cases hx : x.n = n
      · have hxb : (x.n == n) = true := by simpa using hx
        rw [if_pos hx] at hln
        subst hx
        clear hxb
        obtain ⟨⟨e0, e1, e2, e3, e4, e5, e6, e7, e8, e9, e10, e11⟩, hz⟩ := hB9.c12
        have B9' := hB9.set12 x
        simp only [Nat.zero_mul, Nat.zero_add] at e0 e1 e2 e3 e4 e5 e6 e7 e8 e9 e10 e11
        have hF' : Fr [w.heap.size + 1] wr ((((((((((((wr.setCell ⟨w.heap.size + 1, 0, none⟩ (.int .i64 x.n)).setCell ⟨w.heap.size + 1, 1, none⟩ (.string x.tok)).setCell ⟨w.heap.size + 1, 2, none⟩ (.string x.fam)).setCell ⟨w.heap.size + 1, 3, none⟩ (.int .i64 x.start)).setCell ⟨w.heap.size + 1, 4, none⟩ (.int .i64 x.a.why)).setCell ⟨w.heap.size + 1, 5, none⟩ (.int .i64 x.a.access)).setCell ⟨w.heap.size + 1, 6, none⟩ (.int .i64 x.a.refresh)).setCell ⟨w.heap.size + 1, 7, none⟩ (.slice x.a.sa x.a.sl x.a.sc)).setCell ⟨w.heap.size + 1, 8, none⟩ (.string x.a.client)).setCell ⟨w.heap.size + 1, 9, none⟩ (.string x.a.user)).setCell ⟨w.heap.size + 1, 10, none⟩ (.bool x.a.active)).setCell ⟨w.heap.size + 1, 11, none⟩ (.bool x.a.wait)) := by
          repeat (first | with_reducible exact Fr.refl _ _ | (with_reducible refine Fr.setCell ?_ ?_ _; rotate_left; simp))
        go_wp2
        go_roundg (R.way.length - i)
        case measure => omega
        case rel => exact ⟨i + 1, by go_num, by omega, by omega, hF.andThen hF' (by simp), hB6.fr hF' (by simp), by rw [hln]; exact B9'⟩
      · have hxb : (x.n == n) = false := by simpa using hx
        rw [if_neg hx] at hln
        go_wp2
        go_roundg (R.way.length - i)
        case measure => omega
        case rel => exact ⟨i + 1, by go_num, by omega, by omega, hF, hB6, by rw [hln]; exact hB9⟩
    · obtain rfl : i = R.way.length := by omega
      rw [List.take_of_length_le (Nat.le_refl _)] at hB9
      have hfoot : ∀ g, w.heap.size ≤ g → g ∉ footR r (.slice A R.way.length cap) va := fun g hg hh => by have := h.lt g hh; omega
      generalize hxx : lastN n R.way = x at *
      obtain ⟨⟨e0, e1, e2, e3, e4, e5, e6, e7, e8, e9, e10, e11⟩, -⟩ := hB9.c12
      simp only [Nat.zero_mul, Nat.zero_add] at e0 e1 e2 e3 e4 e5 e6 e7 e8 e9 e10 e11
      have Hxx := Lib.hid hxx
      clear hxx
      have hxb : (x.n == 0) = false := by simpa using h0
      go_wp2_with fail
      refine (rdrop_t n hr).mono ?_
      rintro e w2 ⟨rfl, vw2, va2, h2, g2⟩
      clear e0 e1 e2 e3 e4 e5 e6 e7 e8 e9 e10 e11 hc hr
      have B6 := hB6.fr g2.fr (hfoot _ (Nat.le_refl _))
      have B9 := hB9.fr g2.fr (hfoot _ (by omega))
      have G2 : Went w w2 (footR r (.slice A R.way.length cap) va) (footR r vw2 va2) := (Went.quiet hF).trans g2
      obtain ⟨⟨e0, e1, e2, e3, e4, e5, e6, e7, e8, e9, e10, e11⟩, -⟩ := B9.c12
      simp only [Nat.zero_mul, Nat.zero_add] at e0 e1 e2 e3 e4 e5 e6 e7 e8 e9 e10 e11
      have hc := h2.blk.c5
      have b6 : w2.cell? ⟨w.heap.size, 6, none⟩ = some (.bool true) := by rw [B6.cell, ← Ha.out]; rfl
      have hls : (R.drop n).short = R.short := rfl
      rw [hls] at hc
      go_upto_region 13 with (fail)
      go_quiet ((go_at_call 27; exact quiet_left (hlive _)))
      go_wp2_with fail
      have fd : Fr [] w2 (w2.drewN nq) := (Fr.refl [] _).drewN _
      refine (rlose_t x.tok (h2.nilfr fd)).mono ?_
      rintro e w3 ⟨rfl, vw3, va3, h3, g3⟩
      have hf6 : w.heap.size ∉ footR r vw2 va2 := g2.far hB6.lt (hfoot _ (Nat.le_refl _))
      have hf9 : w.heap.size + 1 ∉ footR r vw2 va2 := g2.far hB9.lt (hfoot _ (by omega))
      have C6 := (B6.fr fd (by simp)).fr g3.fr hf6
      have C9 := (B9.fr fd (by simp)).fr g3.fr hf9
      have G3 : Went w w3 (footR r (.slice A R.way.length cap) va) (footR r vw3 va3) := G2.trans ((Went.quiet fd).trans g3)
      have hs3 : Rd w3 1 a.sa a.sl (l.map Value.string) := Rd.fr hsc.strs G3.fr hoff
      have hsle := hsc.le
      have hnil := hsc.nil
      have ht6 : w.heap.size ∉ footR r vw3 va3 := g3.far (B6.fr fd (by simp)).lt hf6
      have ht9 : w.heap.size + 1 ∉ footR r vw3 va3 := g3.far (B9.fr fd (by simp)).lt hf9
      rw [Ha.out] at C6
      have c6 := C6.c8
      have hg6 := C6.lt
      have hg9 := C9.lt
      have hl3 : ((R.drop n).lose x.tok).all.length < 999 := Nat.lt_of_le_of_lt (List.length_filter_le _ _) hl999
      have hroom3 : ((R.drop n).lose x.tok).room = R.room := rfl
      generalize hR3 : (R.drop n).lose x.tok = R3 at *
      clear e0 e1 e2 e3 e4 e5 e6 e7 e8 e9 e10 e11 hc b6 h2 g2 g3 fd hB6 hB9 B6 B9 hf6 hf9 hF G2 hlive hls
      have HR3 := Lib.hid hR3
      clear hR3
      have hown : Own (w3.alloc (.cells #[] 9)) 9 1 (.slice (some ⟨w3.heap.size, 0, none⟩) 0 0) 0 [] := Own.made w3 #[] 9 1 0 0 (by omega) (by decide) rfl
      have hrd : Rd (w3.alloc (.cells #[] 9)) 1 a.sa a.sl (l.map Value.string) := hs3.fr ((Fr.refl [] w3).alloc _) (by simp [Off])
      go_wp2_with (refine wpList_own_append t30 hown hrd (strings_one l) hnil (by unfold maxLen; omega) (by omega) rfl rfl rfl rfl (fun v' w7 q1 q2 q3 => ?_); obtain ⟨A7, k7, rfl, hA7⟩ := q1.form; have D6 := (C6.alloc (.cells #[] 9)).fr q2 (by have := C6.lt; simp [rowOf, Value.ownBlock] <;> omega); have d6 := D6.c8; have z6 := D6.frozen 3)
      simp only [Nat.zero_add, List.nil_append] at q1 hA7
      have n7 : ∀ g, g ∈ rowOf (.slice (some ⟨w3.heap.size, 0, none⟩) 0 0) → g = w3.heap.size := by simp [rowOf, Value.ownBlock]
      have F7 : Fr [] w3 w7 := ((Fr.refl [] w3).alloc (.cells #[] 9)).andThen q2 (fun g hg => .inr (by have := n7 g hg; omega))
      have a7 : ∀ g, A7 = some ⟨g, 0, none⟩ → w3.heap.size ≤ g := fun g hg => by
        have := q3 g (by simp [rowOf, Value.ownBlock, hg])
        rcases this with h | h
        · have := n7 g h; omega
        · simp at h; omega
      have hty : Ty9 w7 A7 := fun ad had => by
        rcases q1.2 with ⟨hv, _⟩ | ⟨g, cp, cur, hv, _, hh, _⟩
        · injection hv with hv _ _; rw [had] at hv; cases hv
        · injection hv with hv _ _
          rw [had] at hv
          injection hv with hv
          subst hv
          exact ⟨cur, _, hh⟩
      have n8 : A7 = none → a.sl = 0 := fun hn => by
        rcases q1.2 with ⟨hv, h0⟩ | ⟨g, cp, cur, hv, _⟩
        · exact h0
        · injection hv with hv _ _; rw [hn] at hv; cases hv
      have hsc7 : ScOk w7 ⟨a.why, a.access, a.refresh, A7, a.sl, k7, a.client, a.user, true, a.wait⟩ l := ⟨q1.rd, n8, hsle⟩
      have G7 : Fr [w.heap.size] w7 (w7.setCell ⟨w.heap.size, 3, none⟩ (.slice A7 a.sl k7)) := (Fr.refl _ _).setCell (by simp) _
      have o7 : Off [w.heap.size] A7 := fun ad had hh => by
        rcases hA7 with rfl | ⟨g, rfl, hg⟩
        · cases had
        · injection had with had
          subst had
          have := a7 g rfl
          simp at hh
          omega
      go_upto_region 17 with (fail)
      refine wp_gen (fun W => RefIn W r vw3 va3 R3 ∧ Blk W w.heap.size 32 #[.int .i64 a.why, .int .i64 a.access, .int .i64 a.refresh, .slice A7 a.sl k7, .string a.client, .string a.user, .bool true, .bool a.wait] ∧ Blk W (w.heap.size + 1) 64 x.arr ∧ Went w W (footR r (.slice A R.way.length cap) va) (footR r vw3 va3) ∧ ScOk W ⟨a.why, a.access, a.refresh, A7, a.sl, k7, a.client, a.user, true, a.wait⟩ l ∧ Ty9 W A7)
        ⟨(h3.nilfr F7).fr G7 (fun g hg => by simp; rintro rfl; exact ht6 hg) (fun p hp => ((h3.nilfr F7).str p hp).2.ne D6 (by decide)), by simpa using D6.set 3 (.slice A7 a.sl k7), (C9.fr F7 (by simp)).fr G7 (by simp), ⟨(G3.fr.trans F7.nil).andThen G7 (fun g hg => .inr (by simp at hg; omega)), G3.sub⟩, ⟨Rd.fr q1.rd G7 (fun _ => o7), n8, hsle⟩, hty.fr G7 o7⟩ ?_
      have hszW : w.heap.size < w7.heap.size := by have := F7.size; omega
      clear q1 q2 q3 hA7 n7 F7 a7 hty hsc7 G7 o7 D6 d6 z6 C6 C9 c6 G3 h3 hs3 hown hrd hg6 hg9 hoff
      rintro W ⟨hW, K6, K9, GW, scW, tyW⟩
      have k6 := K6.c8
      obtain ⟨⟨e0, e1, e2, e3, e4, e5, e6, e7, e8, e9, e10, e11⟩, -⟩ := K9.c12
      simp only [Nat.zero_mul, Nat.zero_add] at e0 e1 e2 e3 e4 e5 e6 e7 e8 e9 e10 e11
      have hc := hW.blk.c5
      have hk6 := K6.lt
      have hk9 := K9.lt
      obtain ⟨A3, cap3, rfl, -⟩ := hW.oa.form
      have hB1 := (hW.blk.alloc (.cells (Rw.arr ⟨0, x.tok, x.fam, x.start, ⟨a.why, a.access, a.refresh, A7, a.sl, k7, a.client, a.user, true, a.wait⟩, l⟩) 64)).drew
      have hc1 := hB1.c5
      have hO1 := hW.oa.fr ((Fr.refl [] W).alloc (.cells (Rw.arr ⟨0, x.tok, x.fam, x.start, ⟨a.why, a.access, a.refresh, A7, a.sl, k7, a.client, a.user, true, a.wait⟩, l⟩) 64)).drew (by simp)
      have hd := hW.da
      go_cut [] from 71 to 87 (fun wx => RefPost W r vw3 (.slice A3 R3.all.length cap3) { R3 with all := R3.all ++ [⟨0, x.tok, x.fam, x.start, ⟨a.why, a.access, a.refresh, A7, a.sl, k7, a.client, a.user, true, a.wait⟩, l⟩] } wx)
      case first =>
        have K6a := (K6.alloc (.cells (Rw.arr ⟨0, x.tok, x.fam, x.start, ⟨a.why, a.access, a.refresh, A7, a.sl, k7, a.client, a.user, true, a.wait⟩, l⟩) 64)).drew
        have K9a := (K9.alloc (.cells (Rw.arr ⟨0, x.tok, x.fam, x.start, ⟨a.why, a.access, a.refresh, A7, a.sl, k7, a.client, a.user, true, a.wait⟩, l⟩) 64)).drew
        have hr6 : w.heap.size ∉ rowOf (.slice A3 R3.all.length cap3) := fun hh => ht6 (by simp [footR, hh])
        have hr9 : w.heap.size + 1 ∉ rowOf (.slice A3 R3.all.length cap3) := fun hh => ht9 (by simp [footR, hh])
        have hrr6 : w.heap.size ≠ r := by have := h.blk.lt; omega
        have hrr9 : w.heap.size + 1 ≠ r := by have := h.blk.lt; omega
        clear k6 e0 e1 e2 e3 e4 e5 e6 e7 e8 e9 e10 e11
        refine wp_region_held_drew (S := (fun w' => w'.cell? ⟨w.heap.size + 1, 1, none⟩ = some (.string x.tok) ∧ w'.cell? ⟨w.heap.size + 1, 2, none⟩ = some (.string x.fam) ∧ w'.cell? ⟨w.heap.size + 1, 3, none⟩ = some (.int .i64 x.start) ∧ w'.cell? ⟨w.heap.size, 0, none⟩ = some (.int .i64 a.why) ∧ w'.cell? ⟨w.heap.size, 1, none⟩ = some (.int .i64 a.access) ∧ w'.cell? ⟨w.heap.size, 2, none⟩ = some (.int .i64 a.refresh) ∧ w'.cell? ⟨w.heap.size, 3, none⟩ = some (.slice A7 a.sl k7) ∧ w'.cell? ⟨w.heap.size, 4, none⟩ = some (.string a.client) ∧ w'.cell? ⟨w.heap.size, 5, none⟩ = some (.string a.user) ∧ w'.cell? ⟨w.heap.size, 6, none⟩ = some (.bool true) ∧ w'.cell? ⟨w.heap.size, 7, none⟩ = some (.bool a.wait))) (by kernel_rfl) (s11 K6 K9) (fun hHeld => ?_)
        refine wpAnyH_take (i := 0) (v := ?_) rfl (by kernel_rfl) (by kernel_rfl) (by kernel_rfl) (fun _ _ _ h => h) (Or.inl ⟨by rfl, ?_⟩) hHeld ?_
        rotate_left
        · (intro w hSw; (try dsimp only at hSw); go_simp <;> with_reducible rfl)
        try simp only [Act.put, List.setIfInBounds_toArray, List.set_cons_zero, List.set_cons_succ]
        refine wpAnyH_take (i := 1) (v := ?_) rfl (by kernel_rfl) (by kernel_rfl) (by kernel_rfl) (fun _ _ _ h => h) (Or.inl ⟨by rfl, ?_⟩) hHeld ?_
        rotate_left
        · (intro w hSw; (try dsimp only at hSw); go_simp <;> with_reducible rfl)
        try simp only [Act.put, List.setIfInBounds_toArray, List.set_cons_zero, List.set_cons_succ]
        refine wpAnyH_take (i := 2) (v := ?_) rfl (by kernel_rfl) (by kernel_rfl) (by kernel_rfl) (fun _ _ _ h => h) (Or.inl ⟨by rfl, ?_⟩) hHeld ?_
        rotate_left
        · (intro w hSw; (try dsimp only at hSw); go_simp <;> with_reducible rfl)
        try simp only [Act.put, List.setIfInBounds_toArray, List.set_cons_zero, List.set_cons_succ]
        refine wpAnyH_take (i := 3) (v := ?_) rfl (by kernel_rfl) (by kernel_rfl) (by kernel_rfl) (fun _ _ _ h => h) (Or.inl ⟨by rfl, ?_⟩) hHeld ?_
        rotate_left
        · (intro w hSw; (try dsimp only at hSw); go_simp <;> with_reducible rfl)
        try simp only [Act.put, List.setIfInBounds_toArray, List.set_cons_zero, List.set_cons_succ]
        refine wpAnyH_take (i := 5) (v := ?_) rfl (by kernel_rfl) (by kernel_rfl) (by kernel_rfl) (fun _ _ _ h => h) (Or.inl ⟨by rfl, ?_⟩) hHeld ?_
        rotate_left
        · (intro w hSw; (try dsimp only at hSw); go_simp <;> with_reducible rfl)
        try simp only [Act.put, List.setIfInBounds_toArray, List.set_cons_zero, List.set_cons_succ]
        refine wpAnyH_take (i := 6) (v := ?_) rfl (by kernel_rfl) (by kernel_rfl) (by kernel_rfl) (fun _ _ _ h => h) (Or.inl ⟨by rfl, ?_⟩) hHeld ?_
        rotate_left
        · (intro w hSw; (try dsimp only at hSw); go_simp <;> with_reducible rfl)
        try simp only [Act.put, List.setIfInBounds_toArray, List.set_cons_zero, List.set_cons_succ]
        refine wpAnyH_take (i := 7) (v := ?_) rfl (by kernel_rfl) (by kernel_rfl) (by kernel_rfl) (fun _ _ _ h => h) (Or.inl ⟨by rfl, ?_⟩) hHeld ?_
        rotate_left
        · (intro w hSw; (try dsimp only at hSw); go_simp <;> with_reducible rfl)
        try simp only [Act.put, List.setIfInBounds_toArray, List.set_cons_zero, List.set_cons_succ]
        refine wpAnyH_take (i := 8) (v := ?_) rfl (by kernel_rfl) (by kernel_rfl) (by kernel_rfl) (fun _ _ _ h => h) (Or.inl ⟨by rfl, ?_⟩) hHeld ?_
        rotate_left
        · (intro w hSw; (try dsimp only at hSw); go_simp <;> with_reducible rfl)
        try simp only [Act.put, List.setIfInBounds_toArray, List.set_cons_zero, List.set_cons_succ]
        refine wpAnyH_take (i := 9) (v := ?_) rfl (by kernel_rfl) (by kernel_rfl) (by kernel_rfl) (fun _ _ _ h => h) (Or.inl ⟨by rfl, ?_⟩) hHeld ?_
        rotate_left
        · (intro w hSw; (try dsimp only at hSw); go_simp <;> with_reducible rfl)
        try simp only [Act.put, List.setIfInBounds_toArray, List.set_cons_zero, List.set_cons_succ]
        refine wpAnyH_take (i := 10) (v := ?_) rfl (by kernel_rfl) (by kernel_rfl) (by kernel_rfl) (fun _ _ _ h => h) (Or.inl ⟨by rfl, ?_⟩) hHeld ?_
        rotate_left
        · (intro w hSw; (try dsimp only at hSw); go_simp <;> with_reducible rfl)
        try simp only [Act.put, List.setIfInBounds_toArray, List.set_cons_zero, List.set_cons_succ]
        refine wpAnyH_take (i := 11) (v := ?_) rfl (by kernel_rfl) (by kernel_rfl) (by kernel_rfl) (fun _ _ _ h => h) (Or.inl ⟨by rfl, ?_⟩) hHeld ?_
        rotate_left
        · (intro w hSw; (try dsimp only at hSw); go_simp <;> with_reducible rfl)
        try simp only [Act.put, List.setIfInBounds_toArray, List.set_cons_zero, List.set_cons_succ]
        refine wpAnyH_take (i := 12) (v := ?_) rfl (by kernel_rfl) (by kernel_rfl) (by kernel_rfl) (fun _ _ _ h => h) (Or.inl ⟨by rfl, ?_⟩) hHeld ?_
        rotate_left
        · (intro w hSw; (try dsimp only at hSw); go_simp <;> with_reducible rfl)
        try simp only [Act.put, List.setIfInBounds_toArray, List.set_cons_zero, List.set_cons_succ]
        refine wpAnyH_ready (rs := [4, 13]) (by kernel_rfl) (by simp) ?_
        refine AllReadyH.cons rfl (fun K hK => ?_) (AllReadyH.cons rfl (fun K hK => ?_) AllReadyH.nil)
        · go_simp
          refine hK.out _ _ (s11 K6 K9) (fun hHeld => ?_)
          clear hK K
          refine wpAnyH_ready (rs := [13]) (by kernel_rfl) (by simp) ?_
          refine AllReadyH.cons rfl (fun K hK => ?_) AllReadyH.nil
          go_simp
          refine hK.out _ _ (s11 K6a K9a) (fun hHeld => ?_)
          clear hK K
          refine wpAnyH_ready (rs := [14]) (by kernel_rfl) (by simp) ?_
          refine AllReadyH.cons rfl (fun K hK => ?_) AllReadyH.nil
          refine step_own_append t41 hO1 (rd_block12 (w := W) (x := ⟨0, x.tok, x.fam, x.start, ⟨a.why, a.access, a.refresh, A7, a.sl, k7, a.client, a.user, true, a.wait⟩, l⟩)).drew (cells_one12 ⟨0, x.tok, x.fam, x.start, ⟨a.why, a.access, a.refresh, A7, a.sl, k7, a.client, a.user, true, a.wait⟩, l⟩) ?_ ?_ ?_ rfl rfl rfl rfl (fun v' w2 q1 q2 q3 => ?_)
          · simp
          · (unfold maxLen; omega)
          · omega
          obtain ⟨A4, c4, rfl, hA4⟩ := q1.form
          have B2 := hB1.fr q2 hd
          have c2' := B2.c5
          have z2 := B2.frozen 1
          have K6b := K6a.fr q2 hr6
          have K9b := K9a.fr q2 hr9
          have K6c := K6b.far (p := ⟨r, 1, none⟩) hrr6 (.slice A4 (R3.all.length + 1) c4)
          have K9c := K9b.far (p := ⟨r, 1, none⟩) hrr9 (.slice A4 (R3.all.length + 1) c4)
          refine hK.out _ _ (s11 K6b K9b) (fun hHeld => ?_)
          clear hK K
          try simp only [Act.put, List.setIfInBounds_toArray, List.set_cons_zero, List.set_cons_succ]
          refine wpAnyH_take (i := 15) (v := ?_) rfl (by kernel_rfl) (by kernel_rfl) (by kernel_rfl) (fun _ _ _ h => h) (Or.inl ⟨by rfl, ?_⟩) hHeld ?_
          rotate_left
          · (intro w hSw; (try dsimp only at hSw); go_simp <;> with_reducible rfl)
          try simp only [Act.put, List.setIfInBounds_toArray, List.set_cons_zero, List.set_cons_succ]
          refine wpAnyH_take (i := 16) (v := ?_) rfl (by kernel_rfl) (by kernel_rfl) (by kernel_rfl) (fun _ _ _ h => h) (Or.inl ⟨by rfl, ?_⟩) hHeld ?_
          rotate_left
          · (intro w hSw; (try dsimp only at hSw); go_simp <;> with_reducible rfl)
          try simp only [Act.put, List.setIfInBounds_toArray, List.set_cons_zero, List.set_cons_succ]
          refine wpAnyH_ready (rs := [17]) (by kernel_rfl) (by simp) ?_
          refine AllReadyH.cons rfl (fun K hK => ?_) AllReadyH.nil
          go_simp
          refine hK.out _ _ (s11 K6c K9c) (fun hHeld => ?_)
          clear hK K
          refine wpAnyH_done (by kernel_rfl) ?_ _
          have g1 := hW.pushAll q1 q2.of_drew q3 (by omega) ⟨scW, tyW⟩
          go_wp2_with fail
          go_meet
          exact g1
        · go_simp
          refine hK.out _ _ (s11 K6a K9a) (fun hHeld => ?_)
          clear hK K
          refine wpAnyH_ready (rs := [4]) (by kernel_rfl) (by simp) ?_
          refine AllReadyH.cons rfl (fun K hK => ?_) AllReadyH.nil
          go_simp
          refine hK.out _ _ (s11 K6a K9a) (fun hHeld => ?_)
          clear hK K
          refine wpAnyH_ready (rs := [14]) (by kernel_rfl) (by simp) ?_
          refine AllReadyH.cons rfl (fun K hK => ?_) AllReadyH.nil
          refine step_own_append t41 hO1 (rd_block12 (w := W) (x := ⟨0, x.tok, x.fam, x.start, ⟨a.why, a.access, a.refresh, A7, a.sl, k7, a.client, a.user, true, a.wait⟩, l⟩)).drew (cells_one12 ⟨0, x.tok, x.fam, x.start, ⟨a.why, a.access, a.refresh, A7, a.sl, k7, a.client, a.user, true, a.wait⟩, l⟩) ?_ ?_ ?_ rfl rfl rfl rfl (fun v' w2 q1 q2 q3 => ?_)
          · simp
          · (unfold maxLen; omega)
          · omega
          obtain ⟨A4, c4, rfl, hA4⟩ := q1.form
          have B2 := hB1.fr q2 hd
          have c2' := B2.c5
          have z2 := B2.frozen 1
          have K6b := K6a.fr q2 hr6
          have K9b := K9a.fr q2 hr9
          have K6c := K6b.far (p := ⟨r, 1, none⟩) hrr6 (.slice A4 (R3.all.length + 1) c4)
          have K9c := K9b.far (p := ⟨r, 1, none⟩) hrr9 (.slice A4 (R3.all.length + 1) c4)
          refine hK.out _ _ (s11 K6b K9b) (fun hHeld => ?_)
          clear hK K
          try simp only [Act.put, List.setIfInBounds_toArray, List.set_cons_zero, List.set_cons_succ]
          refine wpAnyH_take (i := 15) (v := ?_) rfl (by kernel_rfl) (by kernel_rfl) (by kernel_rfl) (fun _ _ _ h => h) (Or.inl ⟨by rfl, ?_⟩) hHeld ?_
          rotate_left
          · (intro w hSw; (try dsimp only at hSw); go_simp <;> with_reducible rfl)
          try simp only [Act.put, List.setIfInBounds_toArray, List.set_cons_zero, List.set_cons_succ]
          refine wpAnyH_take (i := 16) (v := ?_) rfl (by kernel_rfl) (by kernel_rfl) (by kernel_rfl) (fun _ _ _ h => h) (Or.inl ⟨by rfl, ?_⟩) hHeld ?_
          rotate_left
          · (intro w hSw; (try dsimp only at hSw); go_simp <;> with_reducible rfl)
          try simp only [Act.put, List.setIfInBounds_toArray, List.set_cons_zero, List.set_cons_succ]
          refine wpAnyH_ready (rs := [17]) (by kernel_rfl) (by simp) ?_
          refine AllReadyH.cons rfl (fun K hK => ?_) AllReadyH.nil
          go_simp
          refine hK.out _ _ (s11 K6c K9c) (fun hHeld => ?_)
          clear hK K
          refine wpAnyH_done (by kernel_rfl) ?_ _
          have g1 := hW.pushAll q1 q2.of_drew q3 (by omega) ⟨scW, tyW⟩
          go_wp2_with fail
          go_meet
          exact g1
      case rest =>
        obtain ⟨vw4, va4, h4, g4⟩ := hcut
        have GW4 := GW.trans g4
        clear hW K6 K9 GW scW tyW k6 e0 e1 e2 e3 e4 e5 e6 e7 e8 e9 e10 e11 hc hk6 hk9 hB1 hc1 hO1 hd g4 ht6 ht9 h
        have hkeep : R.keep n (kept (lastN n R.way) a A7 k7 l) = { R3 with all := R3.all ++ [⟨0, x.tok, x.fam, x.start, ⟨a.why, a.access, a.refresh, A7, a.sl, k7, a.client, a.user, true, a.wait⟩, l⟩] } := by
          rw [Hxx.out, ← HR3.out]
          rfl
        generalize hR4 : ({ R3 with all := R3.all ++ [⟨0, x.tok, x.fam, x.start, ⟨a.why, a.access, a.refresh, A7, a.sl, k7, a.client, a.user, true, a.wait⟩, l⟩] } : RefM) = R4 at *
        have hroom4 : R4.room = R.room := by rw [← hR4]; exact hroom3
        have hl4 : R4.all.length ≤ 1000 := h4.l2
        have Hkeep := Lib.hid hkeep
        clear hkeep hR4 hroom3 hl3
        have hc := h4.blk.c5
        rw [hroom4] at hc
        obtain ⟨A5, cap5, rfl, -⟩ := h4.oa.form
        by_cases hroom : R.room < (R4.all.length : Int)
        · have hlen1 : 1 ≤ R4.all.length := by have := hN.s2; omega
          go_upto_region 18 with (fail)
          go_quiet (fail)
          go_wp2_with fail
          have fd : Fr [] wc (wc.drewN nq) := (Fr.refl [] _).drewN _
          go_loopg [11, 12] (R4.all.length + 1) (fun k s11 s12 wr => ∃ i kk : Nat, s12 = .int .i64 i ∧ s11 = .int .i64 kk ∧ i ≤ R4.all.length ∧ kk < i ∧ R4.all.length - i < k ∧ (∀ j, j < i → kl (ky R4.all j) (ky R4.all kk) = false) ∧ Fr [] wc wr)
          case atStart => exact ⟨1, 0, rfl, rfl, hlen1, by omega, by omega, fun j hj => (by have h0 : j = 0 := (by omega); rw [h0]; exact kl_irrefl _), fd⟩
          case round =>
            clear hc
            obtain ⟨i, kk, rfl, rfl, hi, hkk, hk, hmin, hF⟩ := hrel
            have hr := h4.nilfr hF
            have hc := hr.blk.c5
            by_cases hil : i < R4.all.length
            · obtain ⟨g, cap', hv, hgl, hat⟩ := own_at12 hr.oa rfl hil
              obtain ⟨g', cap'', hv', _, hat'⟩ := own_at12 hr.oa rfl (show kk < R4.all.length by omega)
              injection hv with hv _ hv3
              subst hv hv3
              have hgg : g = g' := by
                injection hv' with e1 _ _
                injection e1 with e1
                injection e1 with e1 _ _
              clear hv'
              subst hgg
              have hkl : kk < R4.all.length := by omega
              have hki : ky R4.all i = (R4.all[i].tok, R4.all[i].start) := by simp [ky, List.getD, hil]
              have hkk' : ky R4.all kk = (R4.all[kk].tok, R4.all[kk].start) := by simp [ky, List.getD, hkl]
              generalize R4.all[i] = x at *
              generalize R4.all[kk] = z at *
              obtain ⟨d0, d1, d2, d3, d4, d5, d6, d7, d8, d9, d10, d11⟩ := hat
              obtain ⟨b0, b1, b2, b3, b4, b5, b6, b7, b8, b9, b10, b11⟩ := hat'
              have step1 : kl (ky R4.all i) (ky R4.all kk) = true → ∀ j, j < i + 1 → kl (ky R4.all j) (ky R4.all i) = false := fun ht j hj => by
                rcases Nat.lt_succ_iff_lt_or_eq.1 hj with h1 | h1
                · cases hh : kl (ky R4.all j) (ky R4.all i) with
                  | false => rfl
                  | true => have := kl_trans hh ht; rw [hmin j h1] at this; cases this
                · rw [h1]; exact kl_irrefl _
              have step0 : kl (ky R4.all i) (ky R4.all kk) = false → ∀ j, j < i + 1 → kl (ky R4.all j) (ky R4.all kk) = false := fun ht j hj => by
                rcases Nat.lt_succ_iff_lt_or_eq.1 hj with h1 | h1
                · exact hmin j h1
                · rw [h1]; exact ht
              have S1 := Lib.hid (show kl (x.tok, x.start) (z.tok, z.start) = true → (∀ j, j < i + 1 → kl (ky R4.all j) (ky R4.all i) = false) from fun hh => step1 (by rw [hki, hkk']; exact hh))
              have S0 := Lib.hid (show kl (x.tok, x.start) (z.tok, z.start) = false → (∀ j, j < i + 1 → kl (ky R4.all j) (ky R4.all kk) = false) from fun hh => step0 (by rw [hki, hkk']; exact hh))
              clear step1 step0 hmin hki hkk'
              generalize x.start = sx at *
              generalize z.start = sz at *
              by_cases h1 : sx < sz
              · have hd1 : decide (sx < sz) = true := by simpa using h1
                have hkt : kl (x.tok, sx) (z.tok, sz) = true := by simp [kl, h1]
                go_upto_region 23 with (fail)
                go_quiet (fail)
                go_wp2
                go_roundg (R4.all.length - i)
                case measure => omega
                case rel => exact ⟨i + 1, i, by go_num, rfl, by omega, by omega, by omega, S1.out hkt, hF.drewN _⟩
              · have hd1 : decide (sx < sz) = false := by simpa using h1
                by_cases h2 : sx = sz
                · subst h2
                  have hd2 : (sx == sx) = true := by simp
                  cases h3 : Op.bytesLess x.tok.toList z.tok.toList with
                  | true =>
                    have hkt : kl (x.tok, sx) (z.tok, sx) = true := by simp [kl, bl, h3]
                    go_upto_region 23 with (fail)
                    go_quiet (fail)
                    go_wp2
                    go_roundg (R4.all.length - i)
                    case measure => omega
                    case rel => exact ⟨i + 1, i, by go_num, rfl, by omega, by omega, by omega, S1.out hkt, hF.drewN _⟩
                  | false =>
                    have hkt : kl (x.tok, sx) (z.tok, sx) = false := by simp [kl, bl, h3]
                    go_upto_region 23 with (fail)
                    go_quiet (fail)
                    go_wp2
                    go_roundg (R4.all.length - i)
                    case measure => omega
                    case rel => exact ⟨i + 1, kk, by go_num, rfl, by omega, by omega, by omega, S0.out hkt, hF.drewN _⟩
                · have hd2 : (sx == sz) = false := by simpa using h2
                  have hkt : kl (x.tok, sx) (z.tok, sz) = false := by simp [kl, h1, h2]
                  go_upto_region 23 with (fail)
                  go_quiet (fail)
                  go_wp2
                  go_roundg (R4.all.length - i)
                  case measure => omega
                  case rel => exact ⟨i + 1, kk, by go_num, rfl, by omega, by omega, by omega, S0.out hkt, hF.drewN _⟩
            · obtain rfl : i = R4.all.length := by omega
              have hkl : kk < R4.all.length := by omega
              obtain ⟨g, cap', hv, hgl, hat⟩ := own_at12 hr.oa rfl hkl
              injection hv with hv _ hv3
              subst hv hv3
              have hkk' : R4.all[kk].tok = (ky R4.all kk).1 := by simp [ky, List.getD, hkl]
              generalize R4.all[kk] = z at *
              obtain ⟨d0, d1, d2, d3, d4, d5, d6, d7, d8, d9, d10, d11⟩ := hat
              have Hmin := Lib.hid hmin
              have Hkk := Lib.hid hkk'
              clear hmin hkk'
              go_wp2_with fail
              refine (rlose_t z.tok hr).mono ?_
              rintro e w9 ⟨rfl, vw9, va9, h9, g9⟩
              go_wp2
              go_ret
              exact ⟨A7, k7, rfl, .inr ⟨by rw [Hkeep.out]; exact hroom, kk, z.tok, by rw [Hkeep.out]; exact ⟨hkl, Hkk.out, Hmin.out⟩, by rw [Hkeep.out]; exact ⟨vw9, va9, h9, GW4.trans ((Went.quiet hF).trans g9)⟩⟩⟩
        · have hroom' : (R4.all.length : Int) ≤ R.room := by omega
          go_upto_region 18 with (fail)
          go_quiet (fail)
          go_wp2
          go_ret
          exact ⟨A7, k7, rfl, .inl ⟨by rw [Hkeep.out]; exact hroom', by rw [Hkeep.out]; exact ⟨vw4, _, h4.nilfr ((Fr.refl [] _).drewN _), GW4.trans (Went.quiet ((Fr.refl [] _).drewN _))⟩⟩⟩
end
end Go.Proofs.Ythegggfpofdcdaa
