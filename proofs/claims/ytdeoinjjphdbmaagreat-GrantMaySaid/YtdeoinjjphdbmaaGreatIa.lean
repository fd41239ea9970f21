/- Which families may be: plain laws. Conditions: each theorem's own. -/
import Derived.Test.YtdeoinjjphdbmaaGreatGs
namespace Go.Sig
open Go.RowKit

def headR (f : GFam) : Bool := idM f.id && !decide (f.client.size = 0) && textsM [f.client, f.user, f.redirect, f.challenge, f.method] && setM f.scope && !decide (f.code < 0) && !decide (2 < f.code) && !decide (8 < f.tokens.length)
def bare (f : GFam) : Bool := decide (f.user.size = 0) && decide (f.redirect.size = 0) && decide (f.challenge.size = 0) && decide (f.method.size = 0)
def midR (f : GFam) : Bool := !(decide (f.code = 0) && !bare f) && shownM f.challenge f.method && (decide (f.tokens.length = 0) == decide (f.code = 1))
def tokR (f : GFam) (t : GTok) : Bool := !(!decide (t.kind = 2) && !decide (t.kind = 3)) && setM t.scope && within t.scope f.scope && !(decide (t.kind = 3) && !decide (t.scope = f.scope)) && !(decide (t.kind = 2) && t.used)
def leR (l : List Int) (i : Nat) : Bool := decide (0 ≤ l.getD i 0) && decide (l.getD i 0 < 32) && !(decide (0 < i) && decide (l.getD i 0 ≤ l.getD (i - 1) 0))
def leaR (l : List Int) : Bool := (List.range l.length).all (leR l)
/-- May a family be? -/
def rightM (f : GFam) : Bool := headR f && midR f && f.tokens.all (tokR f) && leaR f.leases
theorem tokR_ok {f : GFam} {t : GTok} : tokR f t = true ↔ TokOk f t := by
  unfold tokR
  simp only [Bool.and_eq_true, Bool.not_eq_true', Bool.and_eq_false_iff, Bool.not_eq_false', decide_eq_true_eq, decide_eq_false_iff_not]
  constructor
  · rintro ⟨⟨⟨⟨h1, h2⟩, h3⟩, h4⟩, h5⟩
    exact ⟨h1, h2, h3, fun h => h4.resolve_left (fun k => k h), fun h => h5.resolve_left (fun k => k h)⟩
  · rintro ⟨h1, h2, h3, h4, h5⟩
    refine ⟨⟨⟨⟨h1, h2⟩, h3⟩, ?_⟩, ?_⟩
    · by_cases h : t.kind = 3
      · exact .inr (h4 h)
      · exact .inl h
    · by_cases h : t.kind = 2
      · exact .inr (h5 h)
      · exact .inl h
theorem getD_lt (l : List Int) {i : Nat} (hi : i < l.length) : l.getD i 0 = l[i] := by simp [List.getD, hi]
theorem leaR_ok {l : List Int} : leaR l = true ↔ l.Pairwise (· < ·) ∧ ∀ e ∈ l, 0 ≤ e ∧ e < 32 := by
  unfold leaR
  rw [List.all_eq_true]
  constructor
  · intro h
    have hk : ∀ i (hi : i < l.length), (0 ≤ l[i] ∧ l[i] < 32) ∧ (0 < i → ∀ hj : i - 1 < l.length, l[i - 1] < l[i]) := fun i hi => by
      have h1 := h i (List.mem_range.2 hi)
      unfold leR at h1
      simp only [Bool.and_eq_true, Bool.not_eq_true', Bool.and_eq_false_iff, decide_eq_true_eq, decide_eq_false_iff_not] at h1
      rw [getD_lt l hi] at h1
      refine ⟨h1.1, fun h0 hj => ?_⟩
      rw [getD_lt l hj] at h1
      rcases h1.2 with h2 | h2
      · exact absurd h0 h2
      · omega
    refine ⟨List.pairwise_iff_getElem.2 fun i j hi hj hij => ?_, fun e he => ?_⟩
    · obtain ⟨d, rfl⟩ : ∃ d, j = i + d + 1 := ⟨j - i - 1, by omega⟩
      clear hij
      induction d with
      | zero => exact (hk (i + 0 + 1) hj).2 (by omega) hi
      | succ d ih =>
        have h1 := ih (by omega)
        have h2 := (hk (i + (d + 1) + 1) hj).2 (by omega) (by omega)
        exact Int.lt_trans h1 h2
    · obtain ⟨i, hi, rfl⟩ := List.mem_iff_getElem.1 he
      exact (hk i hi).1
  · rintro ⟨h1, h2⟩ i hi
    have hi := List.mem_range.1 hi
    have h3 := h2 _ (List.getElem_mem hi)
    unfold leR
    simp only [Bool.and_eq_true, Bool.not_eq_true', Bool.and_eq_false_iff, decide_eq_true_eq, decide_eq_false_iff_not]
    rw [getD_lt l hi]
    refine ⟨h3, ?_⟩
    by_cases h0 : 0 < i
    · right
      rw [getD_lt l (show i - 1 < l.length by omega)]
      have := List.pairwise_iff_getElem.1 h1 (i - 1) i (by omega) hi (by omega)
      omega
    · exact .inl h0
theorem bare_ok {f : GFam} : bare f = true ↔ f.user.size = 0 ∧ f.redirect.size = 0 ∧ f.challenge.size = 0 ∧ f.method.size = 0 := by
  unfold bare
  simp only [Bool.and_eq_true, decide_eq_true_eq]
  constructor
  · rintro ⟨⟨⟨h1, h2⟩, h3⟩, h4⟩
    exact ⟨h1, h2, h3, h4⟩
  · rintro ⟨h1, h2, h3, h4⟩
    exact ⟨⟨⟨h1, h2⟩, h3⟩, h4⟩
/-- A family may be just where it is right. -/
theorem rightM_ok {f : GFam} : rightM f = true ↔ FamOk f := by
  unfold rightM headR midR
  simp only [Bool.and_eq_true, Bool.not_eq_true', decide_eq_false_iff_not, List.all_eq_true, leaR_ok, tokR_ok, beq_iff_eq, Bool.and_eq_false_iff, Bool.not_eq_false', bare_ok, decide_eq_decide]
  constructor
  · rintro ⟨⟨⟨⟨⟨⟨⟨⟨⟨h1, h2⟩, h3⟩, h4⟩, h5⟩, h6⟩, h7⟩, ⟨h8, h9⟩, h10⟩, h11⟩, h12, h13⟩
    refine ⟨h1, h2, h3, h4, by omega, fun h => h8.resolve_left (fun k => k h), h9, by omega, ⟨fun h => h10.1 (by rw [h]; rfl), fun h => List.eq_nil_of_length_eq_zero (h10.2 h)⟩, h11, h12, h13⟩
  · intro h
    refine ⟨⟨⟨⟨⟨⟨⟨⟨⟨h.id, h.client⟩, h.texts⟩, h.set⟩, ?_⟩, ?_⟩, ?_⟩, ⟨?_, h.shown⟩, ?_⟩, h.each⟩, h.leases, h.edges⟩
    · rcases h.code with e | e | e <;> omega
    · rcases h.code with e | e | e <;> omega
    · have := h.tokens
      omega
    · by_cases e : f.code = 0
      · exact .inr (h.none e)
      · exact .inl e
    · exact ⟨fun e => h.many.1 (List.eq_nil_of_length_eq_zero e), fun e => by rw [h.many.2 e]; rfl⟩
end Go.Sig
