/- Get of both caches, beside one another. Conditions: each theorem's own. -/
import Derived.Test.YthegggfpofdcdaaPn
import Derived.Test.YthegggfpofdcdaaWy
import Derived.Test.YthegggfpofdcdaaWs
namespace Go.Proofs.Ythegggfpofdcdaa
open Go.RowKit Go.Sig

theorem Row9.ty {w : World} {A : Option Addr} {n : Nat} (h : Row9 w A n) : Ty9 w A := fun ad had => by
  rcases h with ⟨rfl, _⟩ | ⟨g, cur, rfl, hb, _⟩
  · cases had
  · injection had with had
    subst had
    exact ⟨cur, (0, 0), hb⟩
theorem core_eq {a b : Ans} (h : core a = core b) : AnsEq a b := by
  simp only [core, Ans.mk.injEq] at h
  obtain ⟨h1, h2, h3, _, _, _, h4, h5, h6, h7⟩ := h
  exact ⟨h1, h2, h3, h4, h5, h6, h7⟩
def GetT (w' : World) (c : CacheM) (tok : ByteArray) (now : Int) (told : Bool) (a : Ans) : Prop :=
  Ty9 w' a.sa ∧ ((told = true ∧ ∃ k, aget tok c.all = some k ∧ liveB k.start now c.short = true ∧ core a = core k.a ∧ ScOk w' a k.str) ∨
    (told = false ∧ a = Ans.zero ∧ ∀ k, aget tok c.all = some k → liveB k.start now c.short = false))
theorem get_ty {w : World} {b m1 m2 : Nat} {c : CacheM} (tok : ByteArray) (now : Int) (h : CacheAt w b m1 m2 c) (hn : I64 now) :
   Calls Try.prog 18 #[.pointer (some ⟨b, 0, none⟩), .string tok, .int .i64 now] w fun e w' => ∃ told a, e = .returned (.tuple #[.agg #[.int .i64 a.why, .int .i64 a.access, .int .i64 a.refresh, .slice a.sa a.sl a.sc, .string a.client, .string a.user, .bool a.active, .bool a.wait], .bool told]) ∧ Fr [] w w' ∧ GetT w' c tok now told a := by
  have hz : ∀ w' : World, Ty9 w' Ans.zero.sa := fun w' ad had => by cases had
  cases hg : aget tok c.all with
  | none => exact (get_none tok now h hg).mono fun e w' ⟨he, hf⟩ => ⟨false, Ans.zero, he, hf, hz _, .inr ⟨rfl, rfl, fun k hk => by rw [hg] at hk; cases hk⟩⟩
  | some k =>
    cases hl : liveB k.start now c.short with
    | false => exact (get_old tok now k h hn hg hl).mono fun e w' ⟨he, hf⟩ => ⟨false, Ans.zero, he, hf, hz _, .inr ⟨rfl, rfl, fun k' hk => by rw [hg] at hk; cases hk; exact hl⟩⟩
    | true =>
      refine (get_row tok now k h hn hg hl).mono ?_
      rintro e w' ⟨A', n, rfl, hs, hf, _, hr⟩
      exact ⟨true, { k.a with sa := A', sc := n }, rfl, hf, hr.ty, .inl ⟨rfl, k, hg, hl, rfl, hs⟩⟩
theorem get_rel {w w' : World} {c : CacheM} {R : RefM} {r : Nat} {vw va : Value} {tok : ByteArray} {now : Int} {told is : Bool} {a1 a2 : Ans} (h : Rel c R) (hR : RefIn w' r vw va R) (h1 : GetT w c tok now told a1)
    (h2 : (∃ x, R.find tok now = some x ∧ a2 = x.a ∧ is = true) ∨ (R.find tok now = none ∧ a2 = Ans.zero ∧ is = false)) :
    told = is ∧ AnsEq a1 a2 ∧ ∃ l, ScOk w a1 l ∧ ScOk w' a2 l ∧ Ty9 w' a2.sa := by
  have hzs : ∀ W, ScOk W Ans.zero [] := fun W => ⟨Rd.nil _ _ _, fun _ => rfl, by decide⟩
  obtain ⟨_, h1⟩ := h1
  rcases h2 with ⟨x, hx, rfl, rfl⟩ | ⟨hx, rfl, rfl⟩
  · obtain ⟨kp, g1, g2, g3, g4, g5⟩ := find_some h hx
    obtain ⟨s1, s2⟩ := hR.str x g5
    rcases h1 with ⟨rfl, k, e1, e2, e3, e4⟩ | ⟨_, _, e⟩
    · rw [g1] at e1
      cases e1
      exact ⟨rfl, core_eq (e3.trans g3), x.str, by rw [← g4]; exact e4, s1, s2⟩
    · have := e kp g1
      rw [g2] at this
      cases this
  · rcases h1 with ⟨_, k, e1, e2, _⟩ | ⟨rfl, rfl, _⟩
    · have := find_none h hx e1
      rw [e2] at this
      cases this
    · exact ⟨rfl, ⟨rfl, rfl, rfl, rfl, rfl, rfl, rfl⟩, [], hzs _, hzs _, fun ad had => by cases had⟩
theorem PM.box {w0 w w2 : World} {b m1 m2 r g : Nat} {vw va : Value} {c : CacheM} {R : RefM} {t : TypeId} {cs : Array Value} (h : PM w0 w b m1 m2 r vw va c R) (hf : Fr [g] w w2) (hB : Blk w g t cs) (ht : t ≠ 9) (h1 : g ∉ [b, m1, m2]) (h2 : g ∉ footR r vw va) (h3 : w0.heap.size ≤ g) :
    PM w0 w2 b m1 m2 r vw va c R := by
  simp only [List.mem_cons, List.not_mem_nil, or_false, not_or] at h1
  exact ⟨h.cache.fr hf (by simpa using Ne.symm h1.1) (by simpa using Ne.symm h1.2.1) (by simpa using Ne.symm h1.2.2) (fun p hp => (h.cache.typ p hp).ne hB ht), h.ref.fr hf (fun x hx => by simp; rintro rfl; exact h2 hx) (fun p hp => (h.ref.str p hp).2.ne hB ht),
    h.fr.andThen hf (fun x hx => by simp at hx; subst hx; exact .inr h3), h.base, h.bb, h.dis⟩
end Go.Proofs.Ythegggfpofdcdaa
