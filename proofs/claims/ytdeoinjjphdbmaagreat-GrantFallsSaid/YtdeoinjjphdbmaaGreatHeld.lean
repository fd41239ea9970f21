/- A region that draws its order and ends in stores over what it loads: a load may be taken first where a condition holds of the world till the closing operations begin, which wait for it. Conditions: each theorem's own. -/
import Derived.Test.YtdeoinjjphdbmaaGreatMem
import Derived.OrdersHeld
import Derived.Deep.RegionHeld
namespace Go.Sig
open Go

section
variable {P : Program} {ops : Array Oper} {Q : Exit → Act → World → Prop} {md : Region.Mode} {S : World → Prop} {Z : List Nat}
/-- Whatever order is picked from here on, S holding behind each operation that isn't one of Z. -/
def wpZ (P : Program) (md : Region.Mode) (ops : Array Oper) (Q : Exit → Act → World → Prop) (S : World → Prop) (Z : List Nat) : Nat → Array Bool → Act → World → Prop
  | 0, listed, a, w => Region.ready md ops listed = [] ∧ Q .normal a w
  | fuel + 1, listed, a, w =>
    (Region.ready md ops listed = [] → Q .normal a w) ∧
    ∀ i ∈ Region.ready md ops listed, wpOp P ops Q i (fun a' w' => (Z.contains i = true ∨ S w') ∧ wpZ P md ops Q S Z fuel (listed.setIfInBounds i true) a' w') a w
theorem wpZ_any : ∀ (fuel : Nat) (listed : Array Bool) (a : Act) (w : World), wpZ P md ops Q S Z fuel listed a w → wpAny P md ops Q fuel listed a w
  | 0, _, _, _, h => h
  | fuel + 1, _, _, _, h => ⟨h.1, fun i hi => wpOp_mono (fun a' w' k => wpZ_any fuel _ a' w' k.2) (h.2 i hi)⟩
/-- Each of Z that is there waits for i. -/
def waits (md : Region.Mode) (ops : Array Oper) (Z : List Nat) (i : Nat) : Bool := Z.all fun z => match ops[z]? with | none => true | some o => o.after.any fun e => Region.binds md e && e.on == i
theorem waits_spec {i : Nat} (h : waits md ops Z i = true) {j : Nat} {oj : Oper} (hj : ops[j]? = some oj) (hno : ∀ e ∈ oj.after, Region.binds md e = true → e.on ≠ i) : Z.contains j = false := by
  rw [Bool.eq_false_iff]
  intro hz
  have h1 := List.all_eq_true.1 h j (by simpa using hz)
  rw [hj] at h1
  obtain ⟨e, he, h2⟩ := Array.any_eq_true'.1 h1
  rw [Bool.and_eq_true, beq_iff_eq] at h2
  exact hno e he h2.1 h2.2
theorem wpZ_first {i : Nat} {oi : Oper} {v : Value} (hi : ops[i]? = some oi) (hsel : ∀ (j : Nat) (o : Oper) cs b, ops[j]? = some o → o.op ≠ .select cs b)
    (hQ : ∀ c a w, Q (.panic c) (a.put oi.dst v) w → Q (.panic c) a w) (hZ : waits md ops Z i = true) :
    ∀ (fuel : Nat) (listed : Array Bool) (a : Act) (w : World),
      (∀ j oj, ops[j]? = some oj → j ≠ i → listed.getD j true = false → (∀ e ∈ oj.after, Region.binds md e = true → e.on ≠ i) → oi.apart ops oj = true) →
      i ∈ Region.ready md ops listed → YieldsIf P ops S oi v a → S w →
      wpZ P md ops Q S Z fuel (listed.setIfInBounds i true) (a.put oi.dst v) w → wpZ P md ops Q S Z (fuel + 1) listed a w
  | 0, listed, a, w, _, hr, hy, hS, H => by
    refine ⟨fun h => absurd hr (by rw [h]; exact List.not_mem_nil), fun j hj => ?_⟩
    rcases Decidable.em (j = i) with e | e
    · subst e
      exact hy.wpOp hi hS ⟨.inr hS, H⟩
    · have hm := ready_mono hj e
      rw [H.1] at hm
      exact absurd hm List.not_mem_nil
  | fuel + 1, listed, a, w, hfree, hr, hy, hS, H => by
    refine ⟨fun h => absurd hr (by rw [h]; exact List.not_mem_nil), fun j hj => ?_⟩
    rcases Decidable.em (j = i) with e | e
    · subst e
      exact hy.wpOp hi hS ⟨.inr hS, H⟩
    obtain ⟨hun, oj, hoj, hall⟩ := mem_ready.1 hj
    have hil := (mem_ready.1 hr).1
    have hnot : ∀ x ∈ oj.after, Region.binds md x = true → x.on ≠ i := fun x hx hb hxi => by
      have h1 := hall x hx hb
      rw [hxi] at h1
      rcases Nat.lt_or_ge i listed.size with hl | hl
      · simp [hl] at hil h1
        rw [hil] at h1
        cases h1
      · simp [Array.getElem?_eq_none hl] at h1
    have hzj := waits_spec hZ hoj hnot
    have hstep := wpOp_putIf hoj (hfree j oj hoj e hun hnot) (fun cs b => hsel i oi cs b hi) (fun cs b => hsel j oj cs b hoj) hQ hy (H.2 j (ready_mono hj e))
    have hfree2 : ∀ k ok, ops[k]? = some ok → k ≠ i → (listed.setIfInBounds j true).getD k true = false → (∀ x ∈ ok.after, Region.binds md x = true → x.on ≠ i) → oi.apart ops ok = true := fun k ok hk hki hu hno => by
      refine hfree k ok hk hki ?_ hno
      rcases Decidable.em (j = k) with q | q
      · subst q
        exact hun
      · rwa [getD_set_ne true q] at hu
    refine wpOp_mono (fun a' w' k => ?_) hstep
    obtain ⟨k1, k2, k3⟩ := k
    have hS' : S w' := k2.resolve_left (by rw [hzj]; decide)
    refine ⟨.inr hS', wpZ_first hi hsel hQ hZ fuel _ a' w' hfree2 (ready_mono hr (Ne.symm e)) k1 hS' ?_⟩
    rw [Array.setIfInBounds_comm _ _ e]
    exact k3
/-- Number i is taken first. -/
theorem wpZ_take {i : Nat} {oi : Oper} {v : Value} {fuel : Nat} {listed : Array Bool} {a : Act} {w : World} (hi : ops[i]? = some oi)
    (hs : Region.noSelect ops = true) (hf : Region.free md ops listed i = true) (hr : (Region.ready md ops listed).contains i = true) (hZ : waits md ops Z i = true)
    (hQ : ∀ c a w, Q (.panic c) (a.put oi.dst v) w → Q (.panic c) a w) (hy : YieldsIf P ops S oi v a) (hS : S w)
    (h : wpZ P md ops Q S Z fuel (listed.setIfInBounds i true) (a.put oi.dst v) w) : wpZ P md ops Q S Z (fuel + 1) listed a w :=
  wpZ_first hi (Region.noSelect_spec hs) hQ hZ fuel listed a w (Region.free_spec hi hf) (by simpa using hr) hy hS h
/-- One alone may come up, and it isn't of Z. -/
theorem wpZ_one {i : Nat} {o : Oper} {fuel : Nat} {listed : Array Bool} {a : Act} {w : World} (hr : Region.ready md ops listed = [i]) (ho : ops[i]? = some o)
    (h : ∀ K' : Act → World → Prop, Shut (∀ a w, S w → (S w → wpZ P md ops Q S Z fuel (listed.setIfInBounds i true) a w) → K' a w) → if Region.wanted o (yielded ops a.tmps) = true then Oper.wp P o a w K' Q else K' (a.put o.dst undef) w) :
    wpZ P md ops Q S Z (fuel + 1) listed a w := by
  refine ⟨fun h0 => by (rw [hr] at h0; cases h0), fun j hj => ?_⟩
  rw [hr, List.mem_singleton] at hj
  subst hj
  exact wpOp_step ho (fun K' hK => h K' (fun a w hS hW => hK a w ⟨.inr hS, hW hS⟩))
/-- Two may come up, neither of Z. -/
theorem wpZ_two {i j : Nat} {oi oj : Oper} {fuel : Nat} {listed : Array Bool} {a : Act} {w : World} (hr : Region.ready md ops listed = [i, j]) (hi : ops[i]? = some oi) (hj : ops[j]? = some oj)
    (h1 : ∀ K' : Act → World → Prop, Shut (∀ a w, S w → (S w → wpZ P md ops Q S Z fuel (listed.setIfInBounds i true) a w) → K' a w) → if Region.wanted oi (yielded ops a.tmps) = true then Oper.wp P oi a w K' Q else K' (a.put oi.dst undef) w)
    (h2 : ∀ K' : Act → World → Prop, Shut (∀ a w, S w → (S w → wpZ P md ops Q S Z fuel (listed.setIfInBounds j true) a w) → K' a w) → if Region.wanted oj (yielded ops a.tmps) = true then Oper.wp P oj a w K' Q else K' (a.put oj.dst undef) w) :
    wpZ P md ops Q S Z (fuel + 1) listed a w := by
  refine ⟨fun h0 => by (rw [hr] at h0; cases h0), fun k hk => ?_⟩
  rw [hr, List.mem_cons, List.mem_singleton] at hk
  rcases hk with rfl | rfl
  · exact wpOp_step hi (fun K' hK => h1 K' (fun a w hS hW => hK a w ⟨.inr hS, hW hS⟩))
  · exact wpOp_step hj (fun K' hK => h2 K' (fun a w hS hW => hK a w ⟨.inr hS, hW hS⟩))
/-- One alone may come up, and it is of Z. -/
theorem wpZ_end {i : Nat} {o : Oper} {fuel : Nat} {listed : Array Bool} {a : Act} {w : World} (hr : Region.ready md ops listed = [i]) (ho : ops[i]? = some o) (hz : Z.contains i = true)
    (h : ∀ K' : Act → World → Prop, Shut (∀ a w, wpZ P md ops Q S Z fuel (listed.setIfInBounds i true) a w → K' a w) → if Region.wanted o (yielded ops a.tmps) = true then Oper.wp P o a w K' Q else K' (a.put o.dst undef) w) :
    wpZ P md ops Q S Z (fuel + 1) listed a w := by
  refine ⟨fun h0 => by (rw [hr] at h0; cases h0), fun j hj => ?_⟩
  rw [hr, List.mem_singleton] at hj
  subst hj
  exact wpOp_step ho (fun K' hK => h K' (fun a w hW => hK a w ⟨.inl hz, hW⟩))
theorem wpZ_done {listed : Array Bool} {a : Act} {w : World} (hr : Region.ready md ops listed = []) (h : Q .normal a w) : ∀ fuel, wpZ P md ops Q S Z fuel listed a w
  | 0 => ⟨hr, h⟩
  | _ + 1 => ⟨fun _ => h, by rw [hr]; simp⟩
theorem wp_region_z {id : Nat} {a : Act} {w : World} (S : World → Prop) (Z : List Nat) (hm : P.follows .mixedOrders = true) (hS : S w.drew)
    (h : S w.drew → wpZ P .any ops Q S Z ops.size (Array.replicate ops.size false) a w.drew) : (Code.region id ops true).wp P Q a w :=
  wp_region_any hm (wpZ_any _ _ _ _ (h hS))
end
end Go.Sig
