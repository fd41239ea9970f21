/- The world of CachePlays' loop: the program's cache beside the document's. Conditions: none. -/
import Derived.Test.YthegggfpofdcdaaPl
namespace Go.Proofs.Ythegggfpofdcdaa
open Go.RowKit Go.Sig

theorem adel_none {κ ν : Type} [DecidableEq κ] {k : κ} : ∀ {l : List (κ × ν)}, aget k l = none → adel k l = l
  | [], _ => rfl
  | (a, x) :: l, h => by
    unfold aget at h
    unfold adel
    by_cases ha : a = k
    · rw [if_pos ha] at h; cases h
    · rw [if_neg ha] at h
      rw [if_neg ha, adel_none h]

/-- What the document's Fill comes to. -/
def RFillM (R : RefM) (n : Int) (a : Ans) (l : List ByteArray) (now : Int) (told : Bool) (R' : RefM) : Prop :=
  ((lastN n R.way).n = 0 ∧ told = false ∧ R' = R) ∨
  ((lastN n R.way).n ≠ 0 ∧
    ((a.active = false ∧ told = true ∧ R' = (R.drop n).lose (lastN n R.way).tok) ∨
     (a.active = true ∧ liveB (lastN n R.way).start now R.short = false ∧ told = false ∧ R' = R.drop n) ∨
     (a.active = true ∧ liveB (lastN n R.way).start now R.short = true ∧ told = true ∧ ∃ A7 k7,
       (((R.keep n (kept (lastN n R.way) a A7 k7 l)).all.length ≤ R.room ∧ R' = R.keep n (kept (lastN n R.way) a A7 k7 l)) ∨
        (R.room < (R.keep n (kept (lastN n R.way) a A7 k7 l)).all.length ∧ ∃ k t, LeastAt (R.keep n (kept (lastN n R.way) a A7 k7 l)).all k t ∧ R' = (R.keep n (kept (lastN n R.way) a A7 k7 l)).lose t)))))
theorem rfill_t {w : World} {r : Nat} {vw va : Value} {R : RefM} (n : Int) (a : Ans) (l : List ByteArray) (now : Int) (h : RefIn w r vw va R) (hN : Nums R) (hnow : I64 now) (hsc : ScOk w a l) (hoff : 0 < a.sl → Off (footR r vw va) a.sa) (hl : R.all.length < 999) :
   Calls Try.prog 15 #[.pointer (some ⟨r, 0, none⟩), .int .i64 n, .agg #[.int .i64 a.why, .int .i64 a.access, .int .i64 a.refresh, .slice a.sa a.sl a.sc, .string a.client, .string a.user, .bool a.active, .bool a.wait], .int .i64 now] w
     fun e w' => ∃ told R', e = .returned (.bool told) ∧ RefPost w r vw va R' w' ∧ RFillM R n a l now told R' := by
  by_cases h0 : (lastN n R.way).n = 0
  · exact (rfill_none n a now h h0).mono fun e w' ⟨he, hf⟩ => ⟨false, R, he, ⟨vw, va, h.nilfr hf, Went.quiet hf⟩, .inl ⟨h0, rfl, rfl⟩⟩
  · cases ha : a.active with
    | false =>
      have hh := rfill_off n a now h h0 ha
      rw [ha] at hh
      exact hh.mono fun e w' ⟨he, hp⟩ => ⟨true, _, he, hp, .inr ⟨h0, .inl ⟨ha, rfl, rfl⟩⟩⟩
    | true =>
      cases hl' : liveB (lastN n R.way).start now R.short with
      | false =>
        have hh := rfill_late n a now h hN hnow h0 ha hl'
        rw [ha] at hh
        exact hh.mono fun e w' ⟨he, hp⟩ => ⟨false, _, he, hp, .inr ⟨h0, .inr (.inl ⟨ha, hl', rfl, rfl⟩)⟩⟩
      | true =>
        have hh := rfill_kept n a l now h hN hnow h0 ha hl' hsc hoff hl
        rw [ha] at hh
        refine hh.mono fun e w' ⟨A7, k7, he, hp⟩ => ?_
        rcases hp with ⟨g1, g2⟩ | ⟨g1, k, t, g2, g3⟩
        · exact ⟨true, _, he, g2, .inr ⟨h0, .inr (.inr ⟨ha, hl', rfl, A7, k7, .inl ⟨g1, rfl⟩⟩)⟩⟩
        · exact ⟨true, _, he, g3, .inr ⟨h0, .inr (.inr ⟨ha, hl', rfl, A7, k7, .inr ⟨g1, k, t, g2, rfl⟩⟩)⟩⟩

theorem fill_rel {w : World} {c c' : CacheM} {R R' : RefM} {n now : Int} {a : Ans} {l : List ByteArray} {told told' : Bool} (h : Rel c R) (hc : FillM w c n a l now told c') (hR : RFillM R n a l now told' R') : told = told' ∧ Rel c' R' := by
  rcases hc with ⟨g1, rfl, rfl⟩ | ⟨x, g1, hc⟩
  · have h0 := last_none h g1
    rcases hR with ⟨_, rfl, rfl⟩ | ⟨h1, _⟩
    · refine ⟨rfl, ?_⟩
      have : c.drop n = c := by unfold CacheM.drop; rw [adel_none g1]
      rw [this]
      exact h
    · exact absurd h0 h1
  · obtain ⟨e1, e2⟩ := last_some h g1
    rcases hR with ⟨h0, _⟩ | ⟨_, hR⟩
    · exact absurd h0 e2
    · have es : (lastN n R.way).start = x.start := by rw [e1]; rfl
      have et : (lastN n R.way).tok = x.token := by rw [e1]; rfl
      rw [es, h.short] at hR
      rcases hc with ⟨ha, rfl, rfl⟩ | ⟨ha, hl, rfl, rfl⟩ | ⟨ha, hl, rfl, A', k', _, hc⟩
      · rcases hR with ⟨_, rfl, rfl⟩ | ⟨hb, _⟩ | ⟨hb, _⟩
        · refine ⟨rfl, ?_⟩
          rw [et]
          exact (h.drop n).lose x.token
        · rw [ha] at hb; cases hb
        · rw [ha] at hb; cases hb
      · rcases hR with ⟨hb, _⟩ | ⟨_, _, rfl, rfl⟩ | ⟨_, hb, _⟩
        · rw [ha] at hb; cases hb
        · exact ⟨rfl, h.drop n⟩
        · rw [hl] at hb; cases hb
      · rcases hR with ⟨hb, _⟩ | ⟨_, hb, _⟩ | ⟨_, _, rfl, A7, k7, hR⟩
        · rw [ha] at hb; cases hb
        · rw [hl] at hb; cases hb
        · have hk := h.keep n x a l A' A7 k' k7 ha e1
          have hlen : (R.keep n (kept (lastN n R.way) a A7 k7 l)).all.length = (c.keep n x (a.re A' k') l).length := by
            have := hk.all.length_eq
            simpa using this
          have hroom : R.room = c.room := h.room
          rcases hc with ⟨g, rfl⟩ | ⟨g, t, ho, rfl⟩
          · rcases hR with ⟨_, rfl⟩ | ⟨g', _⟩
            · exact ⟨rfl, hk⟩
            · omega
          · rcases hR with ⟨g', _⟩ | ⟨_, k, t', hl', rfl⟩
            · omega
            · have := oldest_least hk ho hl'
              subst this
              exact ⟨rfl, hk.lose t⟩
end Go.Proofs.Ythegggfpofdcdaa
