/- What stays true of a book's families whatever is done: plain laws. Conditions: each theorem's own. -/
import Derived.Test.YtdeoinjjphdbmaaGreatGq
namespace Go.Sig
open Go.RowKit

/-- What a token of a family is. -/
structure TokOk (f : GFam) (t : GTok) : Prop where
  kind : t.kind = 2 ∨ t.kind = 3
  set : setM t.scope = true
  within : within t.scope f.scope = true
  refresh : t.kind = 3 → t.scope = f.scope
  access : t.kind = 2 → t.used = false
/-- What a family is. -/
structure FamOk (f : GFam) : Prop where
  id : idM f.id = true
  client : f.client.size ≠ 0
  texts : textsM [f.client, f.user, f.redirect, f.challenge, f.method] = true
  set : setM f.scope = true
  code : f.code = 0 ∨ f.code = 1 ∨ f.code = 2
  none : f.code = 0 → f.user.size = 0 ∧ f.redirect.size = 0 ∧ f.challenge.size = 0 ∧ f.method.size = 0
  shown : shownM f.challenge f.method = true
  tokens : f.tokens.length ≤ 8
  many : f.tokens = [] ↔ f.code = 1
  each : ∀ t ∈ f.tokens, TokOk f t
  leases : f.leases.Pairwise (· < ·)
  edges : ∀ e ∈ f.leases, 0 ≤ e ∧ e < 32
def BkOk (b : GBk) : Prop := (b.map (·.1)).Nodup ∧ ∀ k f, aget k b = some f → f.id = k ∧ FamOk f
theorem within_self (l : List ByteArray) : within l l = true := by
  unfold within
  rw [List.all_eq_true]
  intro s hs
  rw [Bool.or_eq_true]
  exact .inr (List.any_eq_true.2 ⟨s, hs, by simp⟩)
theorem mem_insI {e x : Int} : ∀ {l : List Int}, x ∈ insI e l ↔ x = e ∨ x ∈ l
  | [] => by simp [insI]
  | y :: l => by
    unfold insI
    split
    · simp
    · split
      · rename_i h
        subst h
        simp
      · rw [List.mem_cons, mem_insI, List.mem_cons]
        constructor
        · rintro (h | h | h)
          · exact .inr (.inl h)
          · exact .inl h
          · exact .inr (.inr h)
        · rintro (h | h | h)
          · exact .inr (.inl h)
          · exact .inl h
          · exact .inr (.inr h)
theorem insI_rising {e : Int} : ∀ {l : List Int}, l.Pairwise (· < ·) → (insI e l).Pairwise (· < ·)
  | [], _ => by simp [insI]
  | x :: l, h => by
    have h' := List.pairwise_cons.1 h
    unfold insI
    split
    · rename_i e
      refine List.pairwise_cons.2 ⟨fun z hz => ?_, h⟩
      rcases List.mem_cons.1 hz with rfl | hz
      · exact e
      · exact Int.lt_trans e (h'.1 z hz)
    · split
      · exact h
      · rename_i e1 e2
        refine List.pairwise_cons.2 ⟨fun z hz => ?_, insI_rising h'.2⟩
        rcases mem_insI.1 hz with rfl | hz
        · omega
        · exact h'.1 z hz
structure MayOk (c : GCmd) : Prop where
  lo : 1 ≤ c.kind
  hi : c.kind ≤ 7
  set : setM c.scope = true
  id : idM c.family = true
  texts : textsM [c.client, c.user, c.redirect, c.challenge, c.method, c.verifier] = true
  rest : restEq (restM c) c = true
  client : c.kind ≤ 5 → c.client.size ≠ 0
  serial : 0 ≤ c.serial ∧ c.serial ≤ 1099511627776
  edge : 0 ≤ c.edge ∧ c.edge < 32
  token : c.kind = 5 ∨ c.kind = 6 → 1 ≤ c.token ∧ c.token ≤ 3
  shown : shownM c.challenge c.method = true
  noscope : c.kind ≠ 1 → c.kind ≠ 3 → c.kind ≠ 4 → c.scope = []
theorem mayM_ok {c : GCmd} (h : mayM c = true) : MayOk c := by
  unfold mayM at h
  simp only [Bool.and_eq_true, decide_eq_true_eq, Bool.not_eq_true', Bool.or_eq_false_iff, Bool.and_eq_false_iff, decide_eq_false_iff_not, Bool.not_eq_false', Bool.or_eq_true] at h
  obtain ⟨⟨⟨⟨⟨⟨h1, h2⟩, ⟨⟨h3, h4⟩, h5⟩, h6⟩, h7⟩, ⟨⟨⟨⟨h8, h9⟩, h10⟩, h11⟩, h12⟩⟩, h13⟩, h14⟩ := h
  refine ⟨h1, h2, h4, h5, h6, h7, fun hk => by omega, ⟨by omega, by omega⟩, ⟨by omega, by omega⟩, fun hk => ?_, h14, fun a1 a2 a3 => ?_⟩
  · rcases h13 with h | ⟨ha, hb⟩
    · omega
    · omega
  · rcases h3 with h | h
    · omega
    · exact List.eq_nil_of_length_eq_zero (by omega)
theorem rest4 {c : GCmd} (h : MayOk c) (hk : c.kind = 4) : c.user = nilB ∧ c.redirect = nilB ∧ c.challenge = nilB ∧ c.method = nilB := by
  have hr := h.rest
  unfold restEq restM at hr
  rw [if_neg (by omega), if_neg (by omega), if_neg (by omega), if_pos hk] at hr
  simp only [Bool.and_eq_true, decide_eq_true_eq] at hr
  obtain ⟨⟨⟨⟨⟨⟨⟨⟨⟨_, _⟩, _⟩, h4⟩, h5⟩, h6⟩, h7⟩, _⟩, _⟩, _⟩ := hr
  exact ⟨h4.symm, h5.symm, h6.symm, h7.symm⟩
theorem aset_ok {b : GBk} {k : ByteArray} {f : GFam} (hb : BkOk b) (hid : f.id = k) (hf : FamOk f) : BkOk (aset k f b) := by
  refine ⟨nodup_aset hb.1, fun j g hg => ?_⟩
  by_cases e : j = k
  · subst e
    rw [aget_aset_same] at hg
    obtain rfl := Option.some.inj hg
    exact ⟨hid, hf⟩
  · rw [aget_aset_other e] at hg
    exact hb.2 j g hg
theorem mem_useM {l : List GTok} {i : Nat} {t : GTok} (h : t ∈ useM l i) : t ∈ l ∨ ∃ t', l[i]? = some t' ∧ t = { t' with used := true } := by
  obtain ⟨j, hj, rfl⟩ := List.mem_iff_getElem.1 h
  unfold useM at hj ⊢
  rw [List.length_modify] at hj
  rw [List.getElem_modify]
  split
  · rename_i e
    subst e
    exact .inr ⟨l[i], List.getElem?_eq_getElem hj, rfl⟩
  · exact .inl (List.getElem_mem hj)
theorem useM_length {l : List GTok} {i : Nat} : (useM l i).length = l.length := List.length_modify _ _ _
theorem tokM_some {f : GFam} {k n : Int} {t : GTok} (h : tokM f k n = some t) : 1 ≤ n ∧ n ≤ f.tokens.length ∧ f.tokens[(n - 1).toNat]? = some t ∧ t.kind = k := by
  unfold tokM at h
  split at h
  · cases h
  · rename_i hn
    cases e : f.tokens[(n - 1).toNat]? with
    | none => rw [e] at h; cases h
    | some t' =>
      rw [e] at h
      simp only [Option.bind_some] at h
      split at h
      · obtain rfl := Option.some.inj h
        exact ⟨by omega, by omega, rfl, by assumption⟩
      · cases h
theorem issue_ok {f : GFam} {sc : List ByteArray} {r : Bool} (hf : FamOk f) (hn : f.code ≠ 1) (hs : setM sc = true) (hw : within sc f.scope = true) (h6 : f.tokens.length ≤ 6) : FamOk (issueM f sc r).1 := by
  have t2 : TokOk f ⟨2, sc, false⟩ := ⟨.inl rfl, hs, hw, fun h => (by cases h), fun _ => rfl⟩
  have t3 : TokOk f ⟨3, f.scope, false⟩ := ⟨.inr rfl, hf.set, within_self _, fun _ => rfl, fun h => (by cases h)⟩
  unfold issueM
  cases r with
  | true =>
    refine ⟨hf.id, hf.client, hf.texts, hf.set, hf.code, hf.none, hf.shown, (by simp; omega), ⟨fun h => by simp at h, fun h => absurd h hn⟩, fun t ht => ?_, hf.leases, hf.edges⟩
    simp only [if_true] at ht
    rcases List.mem_append.1 ht with h | h
    · exact ⟨(hf.each t h).kind, (hf.each t h).set, (hf.each t h).within, (hf.each t h).refresh, (hf.each t h).access⟩
    · simp only [List.mem_cons, List.not_mem_nil, or_false] at h
      rcases h with rfl | rfl
      · exact ⟨t2.kind, t2.set, t2.within, t2.refresh, t2.access⟩
      · exact ⟨t3.kind, t3.set, t3.within, t3.refresh, t3.access⟩
  | false =>
    refine ⟨hf.id, hf.client, hf.texts, hf.set, hf.code, hf.none, hf.shown, (by simp; omega), ⟨fun h => by simp at h, fun h => absurd h hn⟩, fun t ht => ?_, hf.leases, hf.edges⟩
    simp only [Bool.false_eq_true, if_false] at ht
    rcases List.mem_append.1 ht with h | h
    · exact ⟨(hf.each t h).kind, (hf.each t h).set, (hf.each t h).within, (hf.each t h).refresh, (hf.each t h).access⟩
    · simp only [List.mem_cons, List.not_mem_nil, or_false] at h
      subst h
      exact ⟨t2.kind, t2.set, t2.within, t2.refresh, t2.access⟩
theorem fall_ok {f : GFam} {b : GBk} {k : ByteArray} (hb : BkOk b) (hk : aget k b = some f) : BkOk (fallM f b) := by
  obtain ⟨hid, hf⟩ := hb.2 k f hk
  exact aset_ok hb rfl ⟨hf.id, hf.client, hf.texts, hf.set, hf.code, hf.none, hf.shown, hf.tokens, hf.many, fun t ht => ⟨(hf.each t ht).kind, (hf.each t ht).set, (hf.each t ht).within, (hf.each t ht).refresh, (hf.each t ht).access⟩, hf.leases, hf.edges⟩
theorem adel_ok {b : GBk} {k : ByteArray} (hb : BkOk b) : BkOk (adel k b) := by
  refine ⟨nodup_adel hb.1, fun j g hg => ?_⟩
  have hm := mem_adel (mem_of_aget hg)
  exact hb.2 j g (aget_of_mem hb.1 hm)
theorem textsM_mem {l : List ByteArray} (h : textsM l = true) {s : ByteArray} (hs : s ∈ l) : s.size ≤ 128 := by
  unfold textsM at h
  simpa using List.all_eq_true.1 h s hs
theorem texts5 {c : GCmd} (h : MayOk c) : textsM [c.client, c.user, c.redirect, c.challenge, c.method] = true := by
  have := h.texts
  unfold textsM at *
  simp only [List.all_cons, List.all_nil, Bool.and_true, Bool.and_eq_true] at *
  exact ⟨this.1, this.2.1, this.2.2.1, this.2.2.2.1, this.2.2.2.2.1⟩
theorem begin_ok {room : Int} {c : GCmd} {b : GBk} (hb : BkOk b) (h : MayOk c) (hk : c.kind = 1 ∨ c.kind = 4) : BkOk (beginM room c b).1 := by
  unfold beginM
  split
  · exact hb
  · split
    · exact hb
    · split
      · rename_i h4
        obtain ⟨e1, e2, e3, e4⟩ := rest4 h h4
        refine aset_ok hb rfl ⟨h.id, h.client (by omega), texts5 h, h.set, .inl rfl, fun _ => by simp only [e1, e2, e3, e4]; decide, h.shown, (by simp), ⟨fun h => (by cases h), fun h => (by cases h)⟩, fun t ht => ?_, List.Pairwise.nil, fun e he => (by cases he)⟩
        simp only [List.mem_cons, List.not_mem_nil, or_false] at ht
        subst ht
        exact ⟨.inl rfl, h.set, within_self _, fun h => (by cases h), fun _ => rfl⟩
      · exact aset_ok hb rfl ⟨h.id, h.client (by omega), texts5 h, h.set, .inr (.inl rfl), fun h => (by cases h), h.shown, (by simp), ⟨fun _ => rfl, fun _ => rfl⟩, fun t ht => (by cases ht), List.Pairwise.nil, fun e he => (by cases he)⟩
theorem redeem_ok {c : GCmd} {b : GBk} (hb : BkOk b) : BkOk (redeemM c b).1 := by
  unfold redeemM
  cases e : aget c.family b with
  | none => exact hb
  | some f =>
    obtain ⟨hid, hf⟩ := hb.2 _ f e
    simp only
    split
    · exact hb
    · split
      · exact fall_ok hb e
      · split
        · exact hb
        · rename_i h1 h2 _
          have hc : f.code = 1 := by rcases hf.code with h | h | h <;> simp_all
          have ht : f.tokens = [] := hf.many.2 hc
          refine aset_ok hb ?_ ?_
          · unfold issueM
            split <;> rfl
          · unfold issueM
            have t2 : TokOk f ⟨2, f.scope, false⟩ := ⟨.inl rfl, hf.set, within_self _, fun h => (by cases h), fun _ => rfl⟩
            have t3 : TokOk f ⟨3, f.scope, false⟩ := ⟨.inr rfl, hf.set, within_self _, fun _ => rfl, fun h => (by cases h)⟩
            cases c.refresh with
            | true =>
              refine ⟨hf.id, hf.client, hf.texts, hf.set, .inr (.inr rfl), fun h => (by cases h), hf.shown, (by simp [ht]), ⟨fun h => by simp at h, fun h => (by cases h)⟩, fun t htt => ?_, hf.leases, hf.edges⟩
              simp only [if_true, ht, List.nil_append, List.mem_cons, List.not_mem_nil, or_false] at htt
              rcases htt with rfl | rfl
              · exact ⟨t2.kind, t2.set, t2.within, t2.refresh, t2.access⟩
              · exact ⟨t3.kind, t3.set, t3.within, t3.refresh, t3.access⟩
            | false =>
              refine ⟨hf.id, hf.client, hf.texts, hf.set, .inr (.inr rfl), fun h => (by cases h), hf.shown, (by simp [ht]), ⟨fun h => by simp at h, fun h => (by cases h)⟩, fun t htt => ?_, hf.leases, hf.edges⟩
              simp only [Bool.false_eq_true, if_false, ht, List.nil_append, List.mem_cons, List.not_mem_nil, or_false] at htt
              subst htt
              exact ⟨t2.kind, t2.set, t2.within, t2.refresh, t2.access⟩
theorem use_ok {f : GFam} {n : Int} {t : GTok} (hf : FamOk f) (ht : tokM f 3 n = some t) : FamOk { f with tokens := useM f.tokens (n - 1).toNat } := by
  obtain ⟨h1, h2, h3, h4⟩ := tokM_some ht
  refine ⟨hf.id, hf.client, hf.texts, hf.set, hf.code, hf.none, hf.shown, by rw [useM_length]; exact hf.tokens, ⟨fun h => hf.many.1 (List.eq_nil_of_length_eq_zero (by rw [← useM_length (l := f.tokens) (i := (n - 1).toNat)]; simp only at h; rw [h]; rfl)), fun h => ?_⟩, fun s hs => ?_, hf.leases, hf.edges⟩
  · have e := hf.many.2 h
    simp only
    rw [e]
    simp [useM]
  · rcases mem_useM hs with hs | ⟨t', e1, e2⟩
    · exact ⟨(hf.each s hs).kind, (hf.each s hs).set, (hf.each s hs).within, (hf.each s hs).refresh, (hf.each s hs).access⟩
    · rw [h3] at e1
      obtain rfl := Option.some.inj e1
      have hm : t ∈ f.tokens := List.mem_of_getElem? h3
      subst e2
      exact ⟨(hf.each t hm).kind, (hf.each t hm).set, (hf.each t hm).within, (hf.each t hm).refresh, fun h => absurd h (by simp only [h4]; decide)⟩
theorem refresh_ok {c : GCmd} {b : GBk} (hb : BkOk b) (h : MayOk c) : BkOk (refreshM c b).1 := by
  unfold refreshM
  cases e : aget c.family b with
  | none => exact hb
  | some f =>
    obtain ⟨hid, hf⟩ := hb.2 _ f e
    simp only
    cases ht : tokM f 3 c.serial with
    | none => exact hb
    | some t =>
      simp only
      split
      · exact hb
      · split
        · exact fall_ok hb e
        · split
          · exact hb
          · split
            · exact hb
            · rename_i _ _ hw h6
              have hne : f.code ≠ 1 := fun hc => by
                have := hf.many.2 hc
                obtain ⟨a1, a2, _, _⟩ := tokM_some ht
                rw [this] at a2
                simp at a2
                omega
              refine aset_ok hb ?_ ?_
              · unfold issueM
                rfl
              · refine issue_ok (use_ok hf ht) hne ?_ ?_ (by simp only; rw [useM_length]; omega)
                · split
                  · exact hf.set
                  · exact h.set
                · simp only
                  split
                  · exact within_self _
                  · simpa using hw
theorem revoke_ok {c : GCmd} {b : GBk} (hb : BkOk b) : BkOk (revokeM c b).1 := by
  unfold revokeM
  cases e : aget c.family b with
  | none => exact hb
  | some f =>
    simp only
    split
    · exact hb
    · split
      · exact fall_ok hb e
      · exact hb
theorem look_ok {c : GCmd} {b : GBk} (hb : BkOk b) (h : MayOk c) : BkOk (lookM c b).1 := by
  unfold lookM
  cases e : aget c.family b with
  | none => exact hb
  | some f =>
    obtain ⟨hid, hf⟩ := hb.2 _ f e
    simp only
    cases ht : tokM f c.token c.serial with
    | none => exact hb
    | some t =>
      simp only
      split
      · exact hb
      · refine aset_ok hb rfl ⟨hf.id, hf.client, hf.texts, hf.set, hf.code, hf.none, hf.shown, hf.tokens, hf.many, fun t ht => ⟨(hf.each t ht).kind, (hf.each t ht).set, (hf.each t ht).within, (hf.each t ht).refresh, (hf.each t ht).access⟩, insI_rising hf.leases, fun x hx => ?_⟩
        rcases mem_insI.1 hx with rfl | hx
        · exact h.edge
        · exact hf.edges x hx
theorem done_ok {c : GCmd} {b : GBk} (hb : BkOk b) : BkOk (doneM c b).1 := by
  unfold doneM
  cases e : aget c.family b with
  | none => exact hb
  | some f =>
    simp only
    split
    · exact adel_ok hb
    · exact hb
theorem doM_ok {room : Int} {c : GCmd} {b : GBk} (hb : BkOk b) : BkOk (doM room c b).1 := by
  unfold doM
  split
  · exact hb
  · rename_i hm
    have h := mayM_ok (c := c) (by simpa using hm)
    split
    · exact begin_ok hb h (by assumption)
    · split
      · exact redeem_ok hb
      · split
        · exact refresh_ok hb h
        · split
          · exact revoke_ok hb
          · split
            · exact look_ok hb h
            · exact done_ok hb
end Go.Sig
