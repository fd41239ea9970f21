/- Walks: the document's Get, and Fill where nothing is kept. Conditions: each theorem's own. -/
import Derived.Test.YthegggfpofdcdaaRb
import Derived.Test.YthegggfpofdcdaaWa
namespace Go.Proofs.Ythegggfpofdcdaa
open Go.RowKit Go.Sig

/-- What the numbers of a reference's rows are asked to be. -/
structure Nums (R : RefM) : Prop where
  s1 : 0 ≤ R.short ∧ R.short ≤ 1099511627776
  s2 : 1 ≤ R.room ∧ R.room ≤ 64
  way : ∀ p ∈ R.way, I64 p.n ∧ I64 p.start
  all : ∀ p ∈ R.all, I64 p.start

def RefM.find (R : RefM) (t : ByteArray) (now : Int) : Option Rw := R.all.find? fun x => decide (x.tok = t) && liveB x.start now R.short
def RGet (w : World) (R : RefM) (t : ByteArray) (now : Int) (e : Ending) (w' : World) : Prop :=
  ∃ (a : Ans) (is : Bool), e = .returned (.tuple #[.agg #[.int .i64 a.why, .int .i64 a.access, .int .i64 a.refresh, .slice a.sa a.sl a.sc, .string a.client, .string a.user, .bool a.active, .bool a.wait], .bool is]) ∧ Fr [] w w' ∧
    ((∃ x, R.find t now = some x ∧ a = x.a ∧ is = true) ∨ (R.find t now = none ∧ a = Ans.zero ∧ is = false))

section
variable {w : World} {r : Nat} {vw va : Value} {R : RefM}
theorem rget_t (t : ByteArray) (now : Int) (h : RefIn w r vw va R) (hN : Nums R) (hnow : I64 now) :
   Calls Try.prog 19 #[.pointer (some ⟨r, 0, none⟩), .string t, .int .i64 now] w (RGet w R t now) := by
  have hl2 := h.l2
  have hs1 := hN.s1
  obtain ⟨A, cap, rfl, -⟩ := h.oa.form
  go_enter Try.func19, Try.ntmps19
  go_wp2_with fail
  go_loopg [8] (R.all.length + 1) (fun k s8 wr => ∃ i : Nat, s8 = .int .i64 i ∧ i ≤ R.all.length ∧ R.all.length - i < k ∧ R.find t now = (R.all.drop i).find? (fun x => decide (x.tok = t) && liveB x.start now R.short) ∧ Fr [] w wr ∧ Blk wr w.heap.size 32 #[.int .i64 0, .int .i64 0, .int .i64 0, .slice none 0 0, .string ⟨#[]⟩, .string ⟨#[]⟩, .bool false, .bool false])
  case atStart => exact ⟨0, rfl, by omega, by omega, rfl, (Fr.refl _ _).alloc _, Blk.new _ _ _⟩
  case round =>
    obtain ⟨i, rfl, hi, hk, hf, hF, hB⟩ := hrel
    have hr := h.nilfr hF
    have hc := hr.blk.c5
    have hrl := h.blk.lt
    have hb := hB.c8
    have hbl := hB.lt
    by_cases hil : i < R.all.length
    · obtain ⟨g, cap', hv, hgl, hat⟩ := own_at12 hr.oa rfl hil
      injection hv with hv _ hv3
      subst hv hv3
      have hst := hN.all _ (List.getElem_mem hil)
      rw [List.drop_eq_getElem_cons hil, List.find?_cons] at hf
      have hgl' := hr.oa.lt g (by simp [rowOf, Value.ownBlock])
      have hgw := h.oa.lt g (by simp [rowOf, Value.ownBlock])
      generalize R.all[i] = x at *
      obtain ⟨d0, d1, d2, d3, d4, d5, d6, d7, d8, d9, d10, d11⟩ := hat
      by_cases hx : x.tok = t
      · have hxb : (x.tok.toList == t.toList) = true := by rw [toList_beq]; simpa using hx
        have hlive := fun w => rlive_t x.start now R.short w hst hnow ⟨by omega, by omega⟩
        cases hlv : liveB x.start now R.short with
        | false =>
          rw [hlv] at hlive hf
          simp only [Bool.and_false] at hf
          go_upto_region 4 with (fail)
          go_quiet ((go_at_call 27; exact quiet_left (hlive _)))
          go_wp2
          go_roundg (R.all.length - i)
          case measure => omega
          case rel => exact ⟨i + 1, by go_num, by omega, by omega, hf, hF.drewN _, hB.drewN _⟩
        | true =>
          rw [hlv] at hlive hf
          simp only [Bool.and_true, hx, decide_true] at hf
          have hz := fun i => hB.frozen i
          go_upto_region 4 with (fail)
          go_quiet ((go_at_call 27; exact quiet_left (hlive _)))
          go_wp2
          have cc := ((hB.drewN nq).set8 (.int .i64 x.a.why) (.int .i64 x.a.access) (.int .i64 x.a.refresh) (.slice x.a.sa x.a.sl x.a.sc) (.string x.a.client) (.string x.a.user) (.bool x.a.active) (.bool x.a.wait)).c8
          refine bodyPost_ret (v := .tuple #[.agg #[.int .i64 x.a.why, .int .i64 x.a.access, .int .i64 x.a.refresh, .slice x.a.sa x.a.sl x.a.sc, .string x.a.client, .string x.a.user, .bool x.a.active, .bool x.a.wait], .bool true]) (by simp [results, Try.results19, go_sem, cc]) rfl ⟨x.a, true, rfl, ?_, .inl ⟨x, hf, rfl, rfl⟩⟩
          repeat (first | with_reducible exact hF.drewN _ | (with_reducible refine Fr.setCell ?_ ?_ _; rotate_left; simp))
      · have hxb : (x.tok.toList == t.toList) = false := by rw [toList_beq]; simpa using hx
        simp only [hx, decide_false, Bool.false_and] at hf
        go_upto_region 4 with (fail)
        go_quiet (fail)
        go_wp2
        go_roundg (R.all.length - i)
        case measure => omega
        case rel => exact ⟨i + 1, by go_num, by omega, by omega, hf, hF.drewN _, hB.drewN _⟩
    · obtain rfl : i = R.all.length := by omega
      rw [List.drop_of_length_le (Nat.le_refl _)] at hf
      have hz := fun i => hB.frozen i
      go_wp2
      have cc := (hB.set8 (.int .i64 0) (.int .i64 0) (.int .i64 0) (.slice none 0 0) (.string ⟨#[]⟩) (.string ⟨#[]⟩) (.bool false) (.bool false)).c8
      refine bodyPost_ret (v := .tuple #[.agg #[.int .i64 0, .int .i64 0, .int .i64 0, .slice none 0 0, .string ⟨#[]⟩, .string ⟨#[]⟩, .bool false, .bool false], .bool false]) (by simp [results, Try.results19, go_sem, cc]) rfl ⟨Ans.zero, false, rfl, ?_, .inr ⟨hf, rfl, rfl⟩⟩
      repeat (first | with_reducible exact hF | (with_reducible refine Fr.setCell ?_ ?_ _; rotate_left; simp))

theorem _root_.Go.Sig.Blk.c12 {w : World} {g : Nat} {t : TypeId} {x : Rw} (h : Blk w g t x.arr) : At12 w g 0 x ∧ (∀ i, w.frozen? ⟨g, i, none⟩ = false) := by
  refine ⟨⟨?_, ?_, ?_, ?_, ?_, ?_, ?_, ?_, ?_, ?_, ?_, ?_⟩, h.frozen⟩ <;> (rw [h.cell]; rfl)
theorem _root_.Go.Sig.Blk.set12 {w : World} {g : Nat} {t : TypeId} {y : Rw} (h : Blk w g t y.arr) (x : Rw) :
    Blk ((((((((((((w.setCell ⟨g, 0, none⟩ (.int .i64 x.n)).setCell ⟨g, 1, none⟩ (.string x.tok)).setCell ⟨g, 2, none⟩ (.string x.fam)).setCell ⟨g, 3, none⟩ (.int .i64 x.start)).setCell ⟨g, 4, none⟩ (.int .i64 x.a.why)).setCell ⟨g, 5, none⟩ (.int .i64 x.a.access)).setCell ⟨g, 6, none⟩ (.int .i64 x.a.refresh)).setCell ⟨g, 7, none⟩ (.slice x.a.sa x.a.sl x.a.sc)).setCell ⟨g, 8, none⟩ (.string x.a.client)).setCell ⟨g, 9, none⟩ (.string x.a.user)).setCell ⟨g, 10, none⟩ (.bool x.a.active)).setCell ⟨g, 11, none⟩ (.bool x.a.wait)) g t x.arr := by
  simpa using (((((((((((h.set 0 (.int .i64 x.n)).set 1 (.string x.tok)).set 2 (.string x.fam)).set 3 (.int .i64 x.start)).set 4 (.int .i64 x.a.why)).set 5 (.int .i64 x.a.access)).set 6 (.int .i64 x.a.refresh)).set 7 (.slice x.a.sa x.a.sl x.a.sc)).set 8 (.string x.a.client)).set 9 (.string x.a.user)).set 10 (.bool x.a.active)).set 11 (.bool x.a.wait)
/-- The lookup of this number. -/
def Rw.zero : Rw := ⟨0, ⟨#[]⟩, ⟨#[]⟩, 0, Ans.zero, []⟩
def lastN (n : Int) (l : List Rw) : Rw := l.foldl (fun acc x => if x.n = n then x else acc) Rw.zero
theorem lastN_take {n : Int} {l : List Rw} {i : Nat} (hi : i < l.length) : lastN n (l.take (i + 1)) = if l[i].n = n then l[i] else lastN n (l.take i) := by
  unfold lastN
  rw [List.take_succ_eq_append_getElem hi, List.foldl_append]
  rfl
def arr8 (a : Ans) : Array Value := #[.int .i64 a.why, .int .i64 a.access, .int .i64 a.refresh, .slice a.sa a.sl a.sc, .string a.client, .string a.user, .bool a.active, .bool a.wait]

set_option maxHeartbeats 2000000 in
set_option maxRecDepth 100000 in
theorem rfill_none (n : Int) (a : Ans) (now : Int) (h : RefIn w r vw va R) (h0 : (lastN n R.way).n = 0) :
   Calls Try.prog 15 #[.pointer (some ⟨r, 0, none⟩), .int .i64 n, .agg #[.int .i64 a.why, .int .i64 a.access, .int .i64 a.refresh, .slice a.sa a.sl a.sc, .string a.client, .string a.user, .bool a.active, .bool a.wait], .int .i64 now] w fun e w' => e = .returned (.bool false) ∧ Fr [] w w' := by
  have hl1 := h.l1
  obtain ⟨A, cap, rfl, -⟩ := h.ow.form
  go_enter Try.func15, Try.ntmps15
  go_wp2_with fail
  go_loopg [10] (R.way.length + 1) (fun k s10 wr => ∃ i : Nat, s10 = .int .i64 i ∧ i ≤ R.way.length ∧ R.way.length - i < k ∧ Fr [] w wr ∧ Blk wr w.heap.size 32 #[.int .i64 a.why, .int .i64 a.access, .int .i64 a.refresh, .slice a.sa a.sl a.sc, .string a.client, .string a.user, .bool a.active, .bool a.wait] ∧ Blk wr (w.heap.size + 1) 64 (lastN n (R.way.take i)).arr)
  case atStart => exact ⟨0, rfl, by omega, by omega, ((Fr.refl _ _).alloc _).alloc _, (Blk.new _ _ _).alloc _, Blk.new' _ _ (by simp)⟩
  case round =>
    obtain ⟨i, rfl, hi, hk, hF, hB6, hB9⟩ := hrel
    have hr := h.nilfr hF
    have hc := hr.blk.c5
    have hrl := h.blk.lt
    have hbl := hB9.lt
    by_cases hil : i < R.way.length
    · obtain ⟨g, cap', hv, hgl, hat⟩ := own_at12 hr.ow rfl hil
      injection hv with hv _ hv3
      subst hv hv3
      have hln := lastN_take (n := n) hil
      generalize R.way[i] = x at *
      obtain ⟨d0, d1, d2, d3, d4, d5, d6, d7, d8, d9, d10, d11⟩ := hat
      by_cases hx : x.n = n
      · have hxb : (x.n == n) = true := by simpa using hx
        rw [if_pos hx] at hln
        subst hx
        clear hxb
        obtain ⟨⟨e0, e1, e2, e3, e4, e5, e6, e7, e8, e9, e10, e11⟩, hz⟩ := hB9.c12
        have B9' := hB9.set12 x
        simp only [Nat.zero_mul, Nat.zero_add] at e0 e1 e2 e3 e4 e5 e6 e7 e8 e9 e10 e11
        have hF' : Fr [w.heap.size + 1] wr ((((((((((((wr.setCell ⟨w.heap.size + 1, 0, none⟩ (.int .i64 x.n)).setCell ⟨w.heap.size + 1, 1, none⟩ (.string x.tok)).setCell ⟨w.heap.size + 1, 2, none⟩ (.string x.fam)).setCell ⟨w.heap.size + 1, 3, none⟩ (.int .i64 x.start)).setCell ⟨w.heap.size + 1, 4, none⟩ (.int .i64 x.a.why)).setCell ⟨w.heap.size + 1, 5, none⟩ (.int .i64 x.a.access)).setCell ⟨w.heap.size + 1, 6, none⟩ (.int .i64 x.a.refresh)).setCell ⟨w.heap.size + 1, 7, none⟩ (.slice x.a.sa x.a.sl x.a.sc)).setCell ⟨w.heap.size + 1, 8, none⟩ (.string x.a.client)).setCell ⟨w.heap.size + 1, 9, none⟩ (.string x.a.user)).setCell ⟨w.heap.size + 1, 10, none⟩ (.bool x.a.active)).setCell ⟨w.heap.size + 1, 11, none⟩ (.bool x.a.wait)) := by
          repeat (first | with_reducible exact Fr.refl _ _ | (with_reducible refine Fr.setCell ?_ ?_ _; rotate_left; simp))
        go_wp2
        go_roundg (R.way.length - i)
        case measure => omega
        case rel => exact ⟨i + 1, by go_num, by omega, by omega, hF.andThen hF' (by simp), hB6.fr hF' (by simp), by rw [hln]; exact B9'⟩
      · have hxb : (x.n == n) = false := by simpa using hx
        rw [if_neg hx] at hln
        go_wp2
        go_roundg (R.way.length - i)
        case measure => omega
        case rel => exact ⟨i + 1, by go_num, by omega, by omega, hF, hB6, by rw [hln]; exact hB9⟩
    · obtain rfl : i = R.way.length := by omega
      rw [List.take_of_length_le (Nat.le_refl _)] at hB9
      have hc0 : wr.cell? ⟨w.heap.size + 1, 0, none⟩ = some (.int .i64 0) := by rw [hB9.cell, ← h0]; rfl
      go_wp2
      go_ret
      exact ⟨rfl, hF⟩
end
end Go.Proofs.Ythegggfpofdcdaa
