/- Walks: the document's Fill where nothing is kept, and where an answer is let go. Conditions: each theorem's own. -/
import Derived.Test.YthegggfpofdcdaaRc
namespace Go.Proofs.Ythegggfpofdcdaa
open Go.RowKit Go.Sig
theorem foldl_mem (n : Int) : ∀ (l : List Rw) (acc : Rw), l.foldl (fun acc x => if x.n = n then x else acc) acc = acc ∨ (l.foldl (fun acc x => if x.n = n then x else acc) acc ∈ l ∧ (l.foldl (fun acc x => if x.n = n then x else acc) acc).n = n)
  | [], acc => .inl rfl
  | x :: l, acc => by
    simp only [List.foldl_cons]
    by_cases hx : x.n = n
    · rw [if_pos hx]
      rcases foldl_mem n l x with h | h
      · exact .inr ⟨by rw [h]; exact List.mem_cons_self, by rw [h]; exact hx⟩
      · exact .inr ⟨List.mem_cons_of_mem _ h.1, h.2⟩
    · rw [if_neg hx]
      rcases foldl_mem n l acc with h | h
      · exact .inl h
      · exact .inr ⟨List.mem_cons_of_mem _ h.1, h.2⟩
theorem lastN_mem {n : Int} {l : List Rw} (h : (lastN n l).n ≠ 0) : lastN n l ∈ l ∧ (lastN n l).n = n := by
  rcases foldl_mem n l Rw.zero with h1 | h1
  · exfalso
    unfold lastN at h
    rw [h1] at h
    exact h rfl
  · exact h1

section
variable {w : World} {r : Nat} {vw va : Value} {R : RefM}
set_option maxHeartbeats 2000000 in
set_option maxRecDepth 100000 in
theorem rfill_off (n : Int) (a : Ans) (now : Int) (h : RefIn w r vw va R) (h0 : (lastN n R.way).n ≠ 0) (ha : a.active = false) :
   Calls Try.prog 15 #[.pointer (some ⟨r, 0, none⟩), .int .i64 n, .agg #[.int .i64 a.why, .int .i64 a.access, .int .i64 a.refresh, .slice a.sa a.sl a.sc, .string a.client, .string a.user, .bool a.active, .bool a.wait], .int .i64 now] w fun e w' => e = .returned (.bool true) ∧ RefPost w r vw va ((R.drop n).lose (lastN n R.way).tok) w' := by
  have hl1 := h.l1
  have Ha := Lib.hid ha
  clear ha
  obtain ⟨A, cap, rfl, -⟩ := h.ow.form
  go_enter Try.func15, Try.ntmps15
  go_wp2_with fail
  go_loopg [10] (R.way.length + 1) (fun k s10 wr => ∃ i : Nat, s10 = .int .i64 i ∧ i ≤ R.way.length ∧ R.way.length - i < k ∧ Fr [] w wr ∧ Blk wr w.heap.size 32 #[.int .i64 a.why, .int .i64 a.access, .int .i64 a.refresh, .slice a.sa a.sl a.sc, .string a.client, .string a.user, .bool a.active, .bool a.wait] ∧ Blk wr (w.heap.size + 1) 64 (lastN n (R.way.take i)).arr)
  case atStart => exact ⟨0, rfl, by omega, by omega, ((Fr.refl _ _).alloc _).alloc _, (Blk.new _ _ _).alloc _, Blk.new' _ _ (by simp)⟩
  case round =>
    obtain ⟨i, rfl, hi, hk, hF, hB6, hB9⟩ := hrel
    have hr := h.nilfr hF
    have hc := hr.blk.c5
    have hrl := h.blk.lt
    have hbl := hB9.lt
    by_cases hil : i < R.way.length
    · obtain ⟨g, cap', hv, hgl, hat⟩ := own_at12 hr.ow rfl hil
      injection hv with hv _ hv3
      subst hv hv3
      have hln := lastN_take (n := n) hil
      generalize R.way[i] = x at *
      obtain ⟨d0, d1, d2, d3, d4, d5, d6, d7, d8, d9, d10, d11⟩ := hat
      by_cases hx : x.n = n
      · have hxb : (x.n == n) = true := by simpa using hx
        rw [if_pos hx] at hln
        subst hx
        clear hxb
        obtain ⟨⟨e0, e1, e2, e3, e4, e5, e6, e7, e8, e9, e10, e11⟩, hz⟩ := hB9.c12
        have B9' := hB9.set12 x
        simp only [Nat.zero_mul, Nat.zero_add] at e0 e1 e2 e3 e4 e5 e6 e7 e8 e9 e10 e11
        have hF' : Fr [w.heap.size + 1] wr ((((((((((((wr.setCell ⟨w.heap.size + 1, 0, none⟩ (.int .i64 x.n)).setCell ⟨w.heap.size + 1, 1, none⟩ (.string x.tok)).setCell ⟨w.heap.size + 1, 2, none⟩ (.string x.fam)).setCell ⟨w.heap.size + 1, 3, none⟩ (.int .i64 x.start)).setCell ⟨w.heap.size + 1, 4, none⟩ (.int .i64 x.a.why)).setCell ⟨w.heap.size + 1, 5, none⟩ (.int .i64 x.a.access)).setCell ⟨w.heap.size + 1, 6, none⟩ (.int .i64 x.a.refresh)).setCell ⟨w.heap.size + 1, 7, none⟩ (.slice x.a.sa x.a.sl x.a.sc)).setCell ⟨w.heap.size + 1, 8, none⟩ (.string x.a.client)).setCell ⟨w.heap.size + 1, 9, none⟩ (.string x.a.user)).setCell ⟨w.heap.size + 1, 10, none⟩ (.bool x.a.active)).setCell ⟨w.heap.size + 1, 11, none⟩ (.bool x.a.wait)) := by
          repeat (first | with_reducible exact Fr.refl _ _ | (with_reducible refine Fr.setCell ?_ ?_ _; rotate_left; simp))
        go_wp2
        go_roundg (R.way.length - i)
        case measure => omega
        case rel => exact ⟨i + 1, by go_num, by omega, by omega, hF.andThen hF' (by simp), hB6.fr hF' (by simp), by rw [hln]; exact B9'⟩
      · have hxb : (x.n == n) = false := by simpa using hx
        rw [if_neg hx] at hln
        go_wp2
        go_roundg (R.way.length - i)
        case measure => omega
        case rel => exact ⟨i + 1, by go_num, by omega, by omega, hF, hB6, by rw [hln]; exact hB9⟩
    · obtain rfl : i = R.way.length := by omega
      rw [List.take_of_length_le (Nat.le_refl _)] at hB9
      have hfoot : ∀ g, w.heap.size ≤ g → g ∉ footR r (.slice A R.way.length cap) va := fun g hg hh => by have := h.lt g hh; omega
      generalize hxx : lastN n R.way = x at *
      obtain ⟨⟨e0, e1, e2, e3, e4, e5, e6, e7, e8, e9, e10, e11⟩, -⟩ := hB9.c12
      simp only [Nat.zero_mul, Nat.zero_add] at e0 e1 e2 e3 e4 e5 e6 e7 e8 e9 e10 e11
      have Hxx := Lib.hid hxx
      clear hxx
      have hxb : (x.n == 0) = false := by simpa using h0
      go_wp2_with fail
      refine (rdrop_t n hr).mono ?_
      rintro e w2 ⟨rfl, vw2, va2, h2, g2⟩
      clear e0 e1 e2 e3 e4 e5 e6 e7 e8 e9 e10 e11 hc hr
      have B6 := hB6.fr g2.fr (hfoot _ (Nat.le_refl _))
      have B9 := hB9.fr g2.fr (hfoot _ (by omega))
      have G2 : Went w w2 (footR r (.slice A R.way.length cap) va) (footR r vw2 va2) := (Went.quiet hF).trans g2
      obtain ⟨⟨e0, e1, e2, e3, e4, e5, e6, e7, e8, e9, e10, e11⟩, -⟩ := B9.c12
      simp only [Nat.zero_mul, Nat.zero_add] at e0 e1 e2 e3 e4 e5 e6 e7 e8 e9 e10 e11
      have hc := h2.blk.c5
      have b6 : w2.cell? ⟨w.heap.size, 6, none⟩ = some (.bool false) := by rw [B6.cell, ← Ha.out]; rfl
      go_wp2_with fail
      refine (rlose_t x.tok h2).mono ?_
      rintro e w3 ⟨rfl, vw3, va3, h3, g3⟩
      go_wp2
      go_ret
      rw [← Hxx.out] at h3
      exact ⟨rfl, vw3, va3, h3, G2.trans g3⟩
set_option maxHeartbeats 2000000 in
set_option maxRecDepth 100000 in
theorem rfill_late (n : Int) (a : Ans) (now : Int) (h : RefIn w r vw va R) (hN : Nums R) (hnow : I64 now) (h0 : (lastN n R.way).n ≠ 0) (ha : a.active = true) (hlv : liveB (lastN n R.way).start now R.short = false) :
   Calls Try.prog 15 #[.pointer (some ⟨r, 0, none⟩), .int .i64 n, .agg #[.int .i64 a.why, .int .i64 a.access, .int .i64 a.refresh, .slice a.sa a.sl a.sc, .string a.client, .string a.user, .bool a.active, .bool a.wait], .int .i64 now] w fun e w' => e = .returned (.bool false) ∧ RefPost w r vw va (R.drop n) w' := by
  have hst := (hN.way _ (lastN_mem h0).1).2
  have hs1 := hN.s1
  have hlive := fun w => rlive_t (lastN n R.way).start now R.short w hst hnow ⟨by omega, by omega⟩
  rw [hlv] at hlive
  have hl1 := h.l1
  have Ha := Lib.hid ha
  clear ha
  obtain ⟨A, cap, rfl, -⟩ := h.ow.form
  go_enter Try.func15, Try.ntmps15
  go_wp2_with fail
  go_loopg [10] (R.way.length + 1) (fun k s10 wr => ∃ i : Nat, s10 = .int .i64 i ∧ i ≤ R.way.length ∧ R.way.length - i < k ∧ Fr [] w wr ∧ Blk wr w.heap.size 32 #[.int .i64 a.why, .int .i64 a.access, .int .i64 a.refresh, .slice a.sa a.sl a.sc, .string a.client, .string a.user, .bool a.active, .bool a.wait] ∧ Blk wr (w.heap.size + 1) 64 (lastN n (R.way.take i)).arr)
  case atStart => exact ⟨0, rfl, by omega, by omega, ((Fr.refl _ _).alloc _).alloc _, (Blk.new _ _ _).alloc _, Blk.new' _ _ (by simp)⟩
  case round =>
    obtain ⟨i, rfl, hi, hk, hF, hB6, hB9⟩ := hrel
    have hr := h.nilfr hF
    have hc := hr.blk.c5
    have hrl := h.blk.lt
    have hbl := hB9.lt
    by_cases hil : i < R.way.length
    · obtain ⟨g, cap', hv, hgl, hat⟩ := own_at12 hr.ow rfl hil
      injection hv with hv _ hv3
      subst hv hv3
      have hln := lastN_take (n := n) hil
      generalize R.way[i] = x at *
      obtain ⟨d0, d1, d2, d3, d4, d5, d6, d7, d8, d9, d10, d11⟩ := hat
      by_cases hx : x.n = n
      · have hxb : (x.n == n) = true := by simpa using hx
        rw [if_pos hx] at hln
        subst hx
        clear hxb
        obtain ⟨⟨e0, e1, e2, e3, e4, e5, e6, e7, e8, e9, e10, e11⟩, hz⟩ := hB9.c12
        have B9' := hB9.set12 x
        simp only [Nat.zero_mul, Nat.zero_add] at e0 e1 e2 e3 e4 e5 e6 e7 e8 e9 e10 e11
        have hF' : Fr [w.heap.size + 1] wr ((((((((((((wr.setCell ⟨w.heap.size + 1, 0, none⟩ (.int .i64 x.n)).setCell ⟨w.heap.size + 1, 1, none⟩ (.string x.tok)).setCell ⟨w.heap.size + 1, 2, none⟩ (.string x.fam)).setCell ⟨w.heap.size + 1, 3, none⟩ (.int .i64 x.start)).setCell ⟨w.heap.size + 1, 4, none⟩ (.int .i64 x.a.why)).setCell ⟨w.heap.size + 1, 5, none⟩ (.int .i64 x.a.access)).setCell ⟨w.heap.size + 1, 6, none⟩ (.int .i64 x.a.refresh)).setCell ⟨w.heap.size + 1, 7, none⟩ (.slice x.a.sa x.a.sl x.a.sc)).setCell ⟨w.heap.size + 1, 8, none⟩ (.string x.a.client)).setCell ⟨w.heap.size + 1, 9, none⟩ (.string x.a.user)).setCell ⟨w.heap.size + 1, 10, none⟩ (.bool x.a.active)).setCell ⟨w.heap.size + 1, 11, none⟩ (.bool x.a.wait)) := by
          repeat (first | with_reducible exact Fr.refl _ _ | (with_reducible refine Fr.setCell ?_ ?_ _; rotate_left; simp))
        go_wp2
        go_roundg (R.way.length - i)
        case measure => omega
        case rel => exact ⟨i + 1, by go_num, by omega, by omega, hF.andThen hF' (by simp), hB6.fr hF' (by simp), by rw [hln]; exact B9'⟩
      · have hxb : (x.n == n) = false := by simpa using hx
        rw [if_neg hx] at hln
        go_wp2
        go_roundg (R.way.length - i)
        case measure => omega
        case rel => exact ⟨i + 1, by go_num, by omega, by omega, hF, hB6, by rw [hln]; exact hB9⟩
    · obtain rfl : i = R.way.length := by omega
      rw [List.take_of_length_le (Nat.le_refl _)] at hB9
      have hfoot : ∀ g, w.heap.size ≤ g → g ∉ footR r (.slice A R.way.length cap) va := fun g hg hh => by have := h.lt g hh; omega
      generalize hxx : lastN n R.way = x at *
      obtain ⟨⟨e0, e1, e2, e3, e4, e5, e6, e7, e8, e9, e10, e11⟩, -⟩ := hB9.c12
      simp only [Nat.zero_mul, Nat.zero_add] at e0 e1 e2 e3 e4 e5 e6 e7 e8 e9 e10 e11
      have Hxx := Lib.hid hxx
      clear hxx
      have hxb : (x.n == 0) = false := by simpa using h0
      go_wp2_with fail
      refine (rdrop_t n hr).mono ?_
      rintro e w2 ⟨rfl, vw2, va2, h2, g2⟩
      clear e0 e1 e2 e3 e4 e5 e6 e7 e8 e9 e10 e11 hc hr
      have B6 := hB6.fr g2.fr (hfoot _ (Nat.le_refl _))
      have B9 := hB9.fr g2.fr (hfoot _ (by omega))
      have G2 : Went w w2 (footR r (.slice A R.way.length cap) va) (footR r vw2 va2) := (Went.quiet hF).trans g2
      obtain ⟨⟨e0, e1, e2, e3, e4, e5, e6, e7, e8, e9, e10, e11⟩, -⟩ := B9.c12
      simp only [Nat.zero_mul, Nat.zero_add] at e0 e1 e2 e3 e4 e5 e6 e7 e8 e9 e10 e11
      have hc := h2.blk.c5
      have b6 : w2.cell? ⟨w.heap.size, 6, none⟩ = some (.bool true) := by rw [B6.cell, ← Ha.out]; rfl
      have hls : (R.drop n).short = R.short := rfl
      rw [hls] at hc
      go_upto_region 13 with (fail)
      go_quiet ((go_at_call 27; exact quiet_left (hlive _)))
      go_wp2
      go_ret
      exact ⟨rfl, vw2, va2, h2.nilfr ((Fr.refl [] _).drewN _), G2.trans (Went.quiet ((Fr.refl [] _).drewN _))⟩
end
end Go.Proofs.Ythegggfpofdcdaa
