/- What a revoked family comes to: plain laws. Conditions: each theorem's own. -/
import Derived.Test.YtdeoinjjphdbmaaGreatHl
namespace Go.Sig
open Go.RowKit

section
variable {room : Int} {c : GCmd} {b : GBk} {f g : GFam}
theorem fall_same (hr : f.revoked = true) : ({ f with revoked := true } : GFam) = f := by
  cases f
  simp only at hr
  rw [hr]
theorem fall_get (hb : BkOk b) (h : aget c.family b = some f) : aget c.family (fallM f b) = some { f with revoked := true } := by
  unfold fallM
  rw [(hb.2 _ _ h).1, aget_aset_same]
/-- A revoked family stays as it is, or is gone. -/
theorem do_revoked {k : ByteArray} (hb : BkOk b) (h : aget k b = some f) (hr : f.revoked = true) : aget k (doM room c b).1 = some f ∨ (c.kind = 7 ∧ aget k (doM room c b).1 = none) := by
  by_cases hk : c.family = k
  · subst hk
    have hid := (hb.2 _ _ h).1
    unfold doM
    split
    · exact .inl h
    · rename_i hm
      have ok := mayM_ok (c := c) (by simpa using hm)
      split
      · left
        unfold beginM
        rw [h]
        exact h
      · split
        · left
          unfold redeemM
          rw [h]
          simp only
          rw [if_pos (.inl hr)]
          exact h
        · split
          · left
            unfold refreshM
            rw [h]
            simp only
            cases tokM f 3 c.serial with
            | none => exact h
            | some t =>
              simp only
              rw [if_pos (.inl hr)]
              exact h
          · split
            · left
              unfold revokeM
              rw [h]
              simp only
              split
              · exact h
              · split
                · simp only
                  rw [fall_get hb h, fall_same hr]
                · exact h
            · split
              · left
                unfold lookM
                rw [h]
                simp only
                cases tokM f c.token c.serial with
                | none => exact h
                | some t =>
                  simp only
                  rw [if_pos (.inl hr)]
                  exact h
              · right
                refine ⟨?_, ?_⟩
                · have := ok.lo
                  have := ok.hi
                  omega
                · unfold doneM
                  rw [h]
                  simp only
                  rw [if_pos hr]
                  simp only
                  rw [hid, aget_adel_same hb.1]
  · rw [do_other hb (.inl hk)]
    exact .inl h
/-- No token of a revoked family is told. -/
theorem do_silent (h : aget c.family b = some f) (hr : f.revoked = true) : (doM room c b).2.active = false ∧ (doM room c b).2.access = 0 ∧ (doM room c b).2.refresh = 0 := by
  unfold doM
  split
  · exact ⟨rfl, rfl, rfl⟩
  · split
    · unfold beginM
      rw [h]
      exact ⟨rfl, rfl, rfl⟩
    · split
      · unfold redeemM
        rw [h]
        simp only
        rw [if_pos (.inl hr)]
        exact ⟨rfl, rfl, rfl⟩
      · split
        · unfold refreshM
          rw [h]
          simp only
          cases tokM f 3 c.serial with
          | none => exact ⟨rfl, rfl, rfl⟩
          | some t =>
            simp only
            rw [if_pos (.inl hr)]
            exact ⟨rfl, rfl, rfl⟩
        · split
          · unfold revokeM
            rw [h]
            simp only
            split
            · exact ⟨rfl, rfl, rfl⟩
            · split
              · exact ⟨rfl, rfl, rfl⟩
              · exact ⟨rfl, rfl, rfl⟩
          · split
            · unfold lookM
              rw [h]
              simp only
              cases tokM f c.token c.serial with
              | none => exact ⟨rfl, rfl, rfl⟩
              | some t =>
                simp only
                rw [if_pos (.inl hr)]
                exact ⟨rfl, rfl, rfl⟩
            · unfold doneM
              rw [h]
              simp only
              rw [if_pos hr]
              exact ⟨rfl, rfl, rfl⟩
/-- Who makes a family fall: its client, by kinds 2, 3 and 5 alone. -/
theorem do_falls (hb : BkOk b) (h : aget c.family b = some f) (hr : f.revoked = false) (h2 : aget c.family (doM room c b).1 = some g) (hg : g.revoked = true) : c.client = f.client ∧ (c.kind = 2 ∨ c.kind = 3 ∨ c.kind = 5) := by
  have hid := (hb.2 _ _ h).1
  have no : ∀ {P : Prop}, aget c.family b = some g → P := fun e => by
    rw [h] at e
    obtain rfl := Option.some.inj e
    rw [hr] at hg
    cases hg
  have noset : ∀ {x : GFam} {P : Prop}, x.revoked = false → aget c.family (aset f.id x b) = some g → P := fun hx e => by
    rw [hid, aget_aset_same] at e
    obtain rfl := Option.some.inj e
    rw [hx] at hg
    cases hg
  unfold doM at h2
  split at h2
  · exact no h2
  · split at h2
    · unfold beginM at h2
      rw [h] at h2
      exact no h2
    · split at h2
      · rename_i hk
        unfold redeemM at h2
        rw [h] at h2
        simp only at h2
        split at h2
        · exact no h2
        · rename_i h1
          have hc : c.client = f.client := by
            by_cases e : f.client = c.client
            · exact e.symm
            · exact absurd (.inr (.inl e)) h1
          exact ⟨hc, .inl hk⟩
      · split at h2
        · rename_i hk
          unfold refreshM at h2
          rw [h] at h2
          simp only at h2
          cases ht : tokM f 3 c.serial with
          | none =>
            rw [ht] at h2
            exact no h2
          | some t =>
            rw [ht] at h2
            simp only at h2
            split at h2
            · exact no h2
            · rename_i h1
              have hc : c.client = f.client := by
                by_cases e : f.client = c.client
                · exact e.symm
                · exact absurd (.inr e) h1
              exact ⟨hc, .inr (.inl hk)⟩
        · split at h2
          · rename_i hk
            unfold revokeM at h2
            rw [h] at h2
            simp only at h2
            split at h2
            · exact no h2
            · rename_i h1
              exact ⟨(Classical.not_not.1 h1).symm, .inr (.inr hk)⟩
          · split at h2
            · unfold lookM at h2
              rw [h] at h2
              simp only at h2
              cases ht : tokM f c.token c.serial with
              | none =>
                rw [ht] at h2
                exact no h2
              | some t =>
                rw [ht] at h2
                simp only at h2
                split at h2
                · exact no h2
                · exact noset (x := { f with leases := insI c.edge f.leases }) hr h2
            · unfold doneM at h2
              rw [h] at h2
              simp only at h2
              rw [if_neg (by rw [hr]; decide)] at h2
              exact no h2
/-- Who is told to wait: a family's client whose family is revoked. -/
theorem do_wait (hb : BkOk b) (hw : (doM room c b).2.wait = true) : ∃ g, aget c.family (doM room c b).1 = some g ∧ g.revoked = true := by
  unfold doM at hw ⊢
  split at hw
  · simp [noA] at hw
  · rename_i hm
    rw [if_neg hm]
    split at hw
    · unfold beginM at hw
      split at hw
      · simp [noA] at hw
      · split at hw
        · simp [noA] at hw
        · split at hw
          · simp at hw
          · simp at hw
    · rename_i h1
      rw [if_neg h1]
      split at hw
      · unfold redeemM at hw
        cases hf : aget c.family b with
        | none =>
          rw [hf] at hw
          simp [noA] at hw
        | some f =>
          rw [hf] at hw
          simp only at hw
          split at hw
          · simp [noA] at hw
          · split at hw
            · simp [noA] at hw
            · split at hw
              · simp [noA] at hw
              · unfold issueM at hw
                split at hw <;> simp at hw
      · rename_i h2
        rw [if_neg h2]
        split at hw
        · unfold refreshM at hw
          cases hf : aget c.family b with
          | none =>
            rw [hf] at hw
            simp [noA] at hw
          | some f =>
            rw [hf] at hw
            simp only at hw
            cases ht : tokM f 3 c.serial with
            | none =>
              rw [ht] at hw
              simp [noA] at hw
            | some t =>
              rw [ht] at hw
              simp only at hw
              split at hw
              · simp [noA] at hw
              · split at hw
                · simp [noA] at hw
                · split at hw
                  · simp [noA] at hw
                  · split at hw
                    · simp [noA] at hw
                    · unfold issueM at hw
                      simp at hw
        · rename_i h3
          rw [if_neg h3]
          split at hw
          · rename_i h5
            rw [if_pos h5]
            unfold revokeM at hw ⊢
            cases hf : aget c.family b with
            | none =>
              rw [hf] at hw
              simp [noA] at hw
            | some f =>
              rw [hf] at hw
              simp only at hw ⊢
              split at hw
              · simp [noA] at hw
              · rename_i h6
                rw [if_neg h6]
                split at hw
                · rename_i h7
                  rw [if_pos h7]
                  exact ⟨_, fall_get hb hf, rfl⟩
                · rename_i h7
                  rw [if_neg h7]
                  exact ⟨f, hf, hw⟩
          · rename_i h5
            split at hw
            · unfold lookM at hw
              cases hf : aget c.family b with
              | none =>
                rw [hf] at hw
                simp [noA] at hw
              | some f =>
                rw [hf] at hw
                simp only at hw
                cases ht : tokM f c.token c.serial with
                | none =>
                  rw [ht] at hw
                  simp [noA] at hw
                | some t =>
                  rw [ht] at hw
                  simp only at hw
                  split at hw
                  · simp [noA] at hw
                  · simp at hw
            · unfold doneM at hw
              cases hf : aget c.family b with
              | none =>
                rw [hf] at hw
                simp [noA] at hw
              | some f =>
                rw [hf] at hw
                simp only at hw
                split at hw
                · simp [noA] at hw
                · simp [noA] at hw
end
end Go.Sig
