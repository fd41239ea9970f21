/- The world of CachePlays' loop, continued: what a step leaves. Conditions: none. -/
import Derived.Test.YthegggfpofdcdaaPm
import Derived.Test.YthegggfpofdcdaaCs
namespace Go.Proofs.Ythegggfpofdcdaa
open Go.RowKit Go.Sig

structure PI (c : CacheM) (R : RefM) (N : Nat) : Prop where
  rel : Rel c R
  nums : Nums R
  lw : R.way.length ≤ N
  la : R.all.length ≤ 64
  ll : R.last ≤ N
theorem PI.up {c : CacheM} {R : RefM} {N : Nat} (h : PI c R N) : PI c R (N + 1) := ⟨h.rel, h.nums, by have := h.lw; omega, h.la, by have := h.ll; omega⟩
theorem PI.ask {c : CacheM} {R : RefM} {N : Nat} (h : PI c R N) (tok fam : ByteArray) (now : Int) (hn : I64 now) (hN : N ≤ 1000) : PI (c.ask tok fam now) { R with way := R.way ++ [⟨R.last + 1, tok, fam, now, Ans.zero, []⟩], last := R.last + 1 } (N + 1) := by
  have hl := h.ll
  have h0 := h.rel.l0
  have h1 := h.rel.last
  refine ⟨h.rel.ask tok fam now, ⟨h.nums.s1, h.nums.s2, fun p hp => ?_, h.nums.all⟩, by have := h.lw; simp; omega, h.la, by simp only; omega⟩
  rcases List.mem_append.1 hp with hp | hp
  · exact h.nums.way p hp
  · simp only [List.mem_singleton] at hp
    subst hp
    exact ⟨⟨by simp only; omega, by simp only; omega⟩, hn⟩
theorem PI.drop {c : CacheM} {R : RefM} {N : Nat} (h : PI c R N) (n : Int) : PI (c.drop n) (R.drop n) N :=
  ⟨h.rel.drop n, ⟨h.nums.s1, h.nums.s2, fun p hp => h.nums.way p (List.mem_filter.1 hp).1, h.nums.all⟩, Nat.le_trans (List.length_filter_le _ _) h.lw, h.la, h.ll⟩
theorem PI.void {c : CacheM} {R : RefM} {N : Nat} (h : PI c R N) (f : ByteArray) : PI (c.void f) (R.void f) N :=
  ⟨h.rel.void f, ⟨h.nums.s1, h.nums.s2, fun p hp => h.nums.way p (List.mem_filter.1 hp).1, fun p hp => h.nums.all p (List.mem_filter.1 hp).1⟩, Nat.le_trans (List.length_filter_le _ _) h.lw, Nat.le_trans (List.length_filter_le _ _) h.la, h.ll⟩
theorem nums_drop {R : RefM} (h : Nums R) (n : Int) : Nums (R.drop n) := ⟨h.s1, h.s2, fun p hp => h.way p (List.mem_filter.1 hp).1, h.all⟩
theorem nums_lose {R : RefM} (h : Nums R) (t : ByteArray) : Nums (R.lose t) := ⟨h.s1, h.s2, h.way, fun p hp => h.all p (List.mem_filter.1 hp).1⟩
theorem nums_keep {R : RefM} (h : Nums R) (n : Int) (y : Rw) (hy : I64 y.start) : Nums (R.keep n y) := by
  have h1 := nums_lose (nums_drop h n) y.tok
  refine ⟨h.s1, h.s2, h1.way, fun p hp => ?_⟩
  rcases List.mem_append.1 hp with hp | hp
  · exact h1.all p hp
  · simp only [List.mem_singleton] at hp
    subst hp
    exact hy
theorem rfill_inv {R R' : RefM} {n now : Int} {a : Ans} {l : List ByteArray} {told : Bool} (hR : RFillM R n a l now told R') (h : Nums R) (hl : R.all.length ≤ 64) : Nums R' ∧ R'.way.length ≤ R.way.length ∧ R'.all.length ≤ 64 ∧ R'.last = R.last := by
  have hf : ∀ n, (R.drop n).way.length ≤ R.way.length := fun n => List.length_filter_le _ _
  rcases hR with ⟨_, _, rfl⟩ | ⟨h0, ⟨_, _, rfl⟩ | ⟨_, _, _, rfl⟩ | ⟨_, _, _, A7, k7, hR⟩⟩
  · exact ⟨h, Nat.le_refl _, hl, rfl⟩
  · exact ⟨nums_lose (nums_drop h n) _, hf n, Nat.le_trans (List.length_filter_le _ _) hl, rfl⟩
  · exact ⟨nums_drop h n, hf n, hl, rfl⟩
  · have hk := nums_keep h n (kept (lastN n R.way) a A7 k7 l) (h.way _ (lastN_mem h0).1).2
    have hr := h.s2
    rcases hR with ⟨g, rfl⟩ | ⟨g, k, t, ⟨hk1, e, _⟩, rfl⟩
    · exact ⟨hk, hf n, by omega, rfl⟩
    · refine ⟨nums_lose hk t, hf n, ?_, rfl⟩
      have h65 : (R.keep n (kept (lastN n R.way) a A7 k7 l)).all.length ≤ 65 := by
        have := List.length_filter_le (fun x : Rw => !decide (x.tok = (kept (lastN n R.way) a A7 k7 l).tok)) (R.drop n).all
        have e2 : (R.keep n (kept (lastN n R.way) a A7 k7 l)).all.length = ((R.drop n).all.filter (fun x : Rw => !decide (x.tok = (kept (lastN n R.way) a A7 k7 l).tok))).length + 1 := by
          show (((R.drop n).all.filter _) ++ [_]).length = _
          simp
        have e3 : (R.drop n).all.length = R.all.length := rfl
        omega
      generalize R.keep n (kept (lastN n R.way) a A7 k7 l) = R2 at *
      have hlt : (R2.all.filter fun x => !decide (x.tok = t)).length < R2.all.length := by
        rw [List.length_filter_lt_length_iff_exists]
        refine ⟨R2.all[k], List.getElem_mem hk1, ?_⟩
        have : ky R2.all k = (R2.all[k].tok, R2.all[k].start) := by simp [ky, List.getD, hk1]
        rw [this] at e
        simp [e]
      show (R2.all.filter fun x => !decide (x.tok = t)).length ≤ 64
      omega
theorem PI.fill {w : World} {c c' : CacheM} {R R' : RefM} {N : Nat} (h : PI c R N) {n now : Int} {a : Ans} {l : List ByteArray} {told told' : Bool} (hc : FillM w c n a l now told c') (hR : RFillM R n a l now told' R') : told = told' ∧ PI c' R' N := by
  obtain ⟨e, hr⟩ := fill_rel h.rel hc hR
  obtain ⟨g1, g2, g3, g4⟩ := rfill_inv hR h.nums h.la
  exact ⟨e, hr, g1, Nat.le_trans g2 h.lw, g3, by rw [g4]; exact h.ll⟩

structure PM (w0 w : World) (b m1 m2 r : Nat) (vw va : Value) (c : CacheM) (R : RefM) : Prop where
  cache : CacheAt w b m1 m2 c
  ref : RefIn w r vw va R
  fr : Fr [] w0 w
  base : ∀ g ∈ footR r vw va, w0.heap.size ≤ g
  bb : w0.heap.size ≤ b ∧ w0.heap.size ≤ m1 ∧ w0.heap.size ≤ m2
  dis : b ∉ footR r vw va ∧ m1 ∉ footR r vw va ∧ m2 ∉ footR r vw va
section
variable {w0 w w2 : World} {b m1 m2 r : Nat} {vw va : Value} {c c2 : CacheM} {R R2 : RefM}
theorem PM.quiet (h : PM w0 w b m1 m2 r vw va c R) (hf : Fr [] w w2) : PM w0 w2 b m1 m2 r vw va c R := ⟨h.cache.nilfr hf, h.ref.nilfr hf, h.fr.trans hf, h.base, h.bb, h.dis⟩
theorem PM.cacheStep (h : PM w0 w b m1 m2 r vw va c R) (hc : CacheAt w2 b m1 m2 c2) (hf : Fr [b, m1, m2] w w2) : PM w0 w2 b m1 m2 r vw va c2 R := by
  obtain ⟨d1, d2, d3⟩ := h.dis
  obtain ⟨b1, b2, b3⟩ := h.bb
  refine ⟨hc, h.ref.fr hf (fun g hg hh => ?_) (fun p hp => h.cache.off9 (h.ref.str p hp).2), h.fr.andThen hf (fun g hg => .inr ?_), h.base, h.bb, h.dis⟩
  · simp only [List.mem_cons, List.not_mem_nil, or_false] at hh
    rcases hh with rfl | rfl | rfl
    · exact d1 hg
    · exact d2 hg
    · exact d3 hg
  · simp only [List.mem_cons, List.not_mem_nil, or_false] at hg
    rcases hg with rfl | rfl | rfl <;> assumption
theorem PM.refStep (h : PM w0 w b m1 m2 r vw va c R) (hp : RefPost w r vw va R2 w2) : ∃ vw2 va2, PM w0 w2 b m1 m2 r vw2 va2 c R2 ∧ Went w w2 (footR r vw va) (footR r vw2 va2) := by
  obtain ⟨vw2, va2, hr, g⟩ := hp
  obtain ⟨d1, d2, d3⟩ := h.dis
  refine ⟨vw2, va2, ⟨h.cache.fr g.fr d1 d2 d3 (fun p hp => h.ref.off9 (h.cache.typ p hp)), hr, h.fr.andThen g.fr (fun x hx => .inr (h.base x hx)), fun x hx => ?_, h.bb, ?_⟩, g⟩
  · exact (g.sub x hx).elim (h.base x) (fun hh => Nat.le_trans h.fr.size hh)
  · exact ⟨g.far h.cache.blk.lt d1, g.far h.cache.way.lt d2, g.far h.cache.all.lt d3⟩
end
end Go.Proofs.Ythegggfpofdcdaa
