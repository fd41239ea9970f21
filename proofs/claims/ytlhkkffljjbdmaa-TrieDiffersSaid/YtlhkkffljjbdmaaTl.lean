/- Walks of the trie: Count, fits, Put, Del. Conditions: each theorem's own. -/
import Derived.Test.YtlhkkffljjbdmaaTk
namespace Go.Proofs.Ytlhkkffljjbdmaa
open Go.RowKit Go.Sig

theorem count_t (w : World) (X : List Nat) (t : Nat) (l : List Pr) (hT : TrieIn w X t l) : Calls Try.prog 14 #[.pointer (some ⟨t, 0, none⟩)] w fun e w' => e = .returned (.int .i64 l.length) ∧ w = w' := by
  obtain ⟨p, hB, hN, htX, hX⟩ := hT
  have hct := hB.cell 0
  simp only [List.getElem?_toArray, List.getElem?_cons_zero] at hct
  have htl := hB.lt
  rcases node_many hN with ⟨rfl, rfl⟩ | ⟨hne, g, D, s, k, rfl, hg, hD, hBq⟩
  · unfold nilP at hct
    go_enter Try.func14, Try.ntmps14
    go_wp2
    go_ret
    exact ⟨rfl, rfl⟩
  · have c34 := (hBq.cell 34).trans (nodeCells_at hD).2.2
    have hql := hBq.lt
    go_enter Try.func14, Try.ntmps14
    go_wp2
    go_ret
    exact ⟨rfl, rfl⟩
theorem count_nil (w : World) : Calls Try.prog 14 #[nilP] w fun e w' => e = .returned (.int .i64 0) ∧ w = w' := by
  unfold nilP
  go_enter Try.func14, Try.ntmps14
  go_wp2
  go_ret
  exact ⟨rfl, rfl⟩
/-- May a pair be? -/
def fitsE (k v : ByteArray) : Int := if k.size < 1 ∨ 64 < k.size then 1 else if 60000 < v.size then 2 else 0
theorem fits_t (k v : ByteArray) (w : World) (hk : k.size ≤ 9223372036854775807) (hv : v.size ≤ 9223372036854775807) : Calls Try.prog 34 #[.string k, .string v] w fun e w' => e = .returned (.int .i64 (fitsE k v)) ∧ w = w' := by
  by_cases h1 : k.size < 1
  · have h1i : (k.size : Int) < 1 := by omega
    have e : fitsE k v = 1 := by unfold fitsE; rw [if_pos (.inl h1)]
    rw [e]
    go_enter Try.func34, Try.ntmps34
    go_wp2
    go_ret
    exact ⟨rfl, rfl⟩
  · have h1i : ¬ (k.size : Int) < 1 := by omega
    by_cases h2 : 64 < k.size
    · have h2i : (64 : Int) < k.size := by omega
      have e : fitsE k v = 1 := by unfold fitsE; rw [if_pos (.inr h2)]
      rw [e]
      go_enter Try.func34, Try.ntmps34
      go_wp2
      go_ret
      exact ⟨rfl, rfl⟩
    · have h2i : ¬ (64 : Int) < k.size := by omega
      by_cases h3 : 60000 < v.size
      · have h3i : (60000 : Int) < v.size := by omega
        have e : fitsE k v = 2 := by unfold fitsE; rw [if_neg (by omega), if_pos h3]
        rw [e]
        go_enter Try.func34, Try.ntmps34
        go_wp2
        go_ret
        exact ⟨rfl, rfl⟩
      · have h3i : ¬ (60000 : Int) < v.size := by omega
        have e : fitsE k v = 0 := by unfold fitsE; rw [if_neg (by omega), if_neg h3]
        rw [e]
        go_enter Try.func34, Try.ntmps34
        go_wp2
        go_ret
        exact ⟨rfl, rfl⟩
/-- What Put answers, and what the table is behind it. -/
def putE (k v : ByteArray) (l : List Pr) : Int := if fitsE k v ≠ 0 then fitsE k v else if (aget k l).isSome = false ∧ 4096 ≤ l.length then 8 else 0
def putM (k v : ByteArray) (l : List Pr) : List Pr := if putE k v l = 0 then put (k, v) l else l
theorem fitsE_zero {k v : ByteArray} (h : fitsE k v = 0) : (1 ≤ k.size ∧ k.size ≤ 64) ∧ v.size ≤ 60000 := by
  unfold fitsE at h
  split at h
  · omega
  · split at h
    · omega
    · omega
theorem putM_good {k v : ByteArray} {l : List Pr} (h : Good l) : Good (putM k v l) := by
  unfold putM
  split
  · rename_i he
    unfold putE at he
    split at he
    · rename_i h1; exact absurd he h1
    · rename_i h1
      split at he
      · omega
      · rename_i h2
        refine ⟨put_rising h.rising, fun y hy => ?_, ?_⟩
        · rcases mem_put hy with e | hy
          · rw [e]
            exact fitsE_zero (by simpa using h1)
          · exact h.fits y hy
        · rw [put_length h.rising]
          have hf := h.few
          show (if (aget k l).isSome = true then _ else _) ≤ _
          split
          · exact hf
          · rename_i h3
            have : ¬ 4096 ≤ l.length := fun h4 => h2 ⟨by simpa using h3, h4⟩
            omega
  · exact h
theorem put_nil (k v : ByteArray) (w : World) : Calls Try.prog 11 #[nilP, .string k, .string v] w fun e w' => e = .returned (.int .i64 12) ∧ w = w' := by
  unfold nilP
  go_enter Try.func11, Try.ntmps11
  go_wp2
  go_ret
  exact ⟨rfl, rfl⟩
theorem TrieIn.fr {w w' : World} {X S : List Nat} {t : Nat} {l : List Pr} (h : TrieIn w X t l) (hf : Fr S w w') (hS : ∀ s ∈ S, s ∈ X ∨ w.heap.size ≤ s) (ht : t ∉ S) : TrieIn w' X t l := by
  obtain ⟨p, hB, hN, htX, hX⟩ := h
  exact ⟨p, hB.fr hf ht, hN.fr hf hS, htX, fun g hg => Nat.lt_of_lt_of_le (hX g hg) hf.size⟩
theorem TrieIn.fr0 {w w' : World} {X : List Nat} {t : Nat} {l : List Pr} (h : TrieIn w X t l) (hf : Fr [] w w') : TrieIn w' X t l := h.fr hf (by simp) (by simp)

set_option maxRecDepth 100000 in
set_option maxHeartbeats 4000000 in
theorem put_t (w : World) (X : List Nat) (t : Nat) (l : List Pr) (k v : ByteArray) (hk : k.size ≤ 150000000000000) (hv : v.size ≤ 9223372036854775807) (hT : TrieIn w X t l) (hG : Good l) :
   Calls Try.prog 11 #[.pointer (some ⟨t, 0, none⟩), .string k, .string v] w fun e w' => e = .returned (.int .i64 (putE k v l)) ∧ TrieIn w' X t (putM k v l) ∧ Fr [t] w w' := by
  have hfit := fits_t k v w (by omega) hv
  by_cases h1 : fitsE k v = 0
  · have hlim := fitsE_zero h1
    have hget := get_t w X t l k (by omega) hT hG.rising hG.small
    by_cases h2 : (aget k l).isSome = false ∧ 4096 ≤ l.length
    · have e1 : putE k v l = 8 := by unfold putE; rw [if_neg (by simpa using h1), if_pos h2]
      have e2 : putM k v l = l := by unfold putM; rw [if_neg (by rw [e1]; decide)]
      rw [e1, e2]
      rw [h1] at hfit
      have e3 : getRes (aget k l) = .tuple #[.string ((aget k l).getD ⟨#[]⟩), .int .i64 7] := by unfold getRes; rw [h2.1]; rfl
      rw [e3] at hget
      have hcnt := fun W (h : TrieIn W X t l) => count_t W X t l h
      have hcnth := Lib.hid hcnt
      have hlen : (4096 : Int) ≤ l.length := by omega
      obtain ⟨av, HAV⟩ : ∃ z, Hid ((aget k l).getD ⟨#[]⟩ = z) := ⟨_, Lib.hid rfl⟩
      rw [HAV.out] at hget
      clear hcnt h2 e1 e2 e3
      have hTh := Lib.hid hT
      clear hT
      go_enter Try.func11, Try.ntmps11
      go_wp2_with fail
      refine hfit.mono ?_
      rintro e w1 ⟨rfl, rfl⟩
      go_wp2_with fail
      refine hget.mono ?_
      rintro e w2 ⟨rfl, F2⟩
      have hT2 := hTh.out.fr0 F2
      go_wp2_with fail
      refine (hcnth.out w2 hT2).mono ?_
      rintro e w3 ⟨rfl, rfl⟩
      go_wp2
      go_ret
      exact ⟨rfl, hT2, F2.nil⟩
    · have e1 : putE k v l = 0 := by unfold putE; rw [if_neg (by simpa using h1), if_neg h2]
      have e2 : putM k v l = put (k, v) l := by unfold putM; rw [if_pos e1]
      rw [e1, e2]
      rw [h1] at hfit
      obtain ⟨p, hB, hN, htX, hX⟩ := id hT
      have hct0 := hB.cell 0
      simp only [List.getElem?_toArray, List.getElem?_cons_zero] at hct0
      have htl0 := hB.lt
      have hcnt := fun W (h : TrieIn W X t l) => count_t W X t l h
      have hcnth := Lib.hid hcnt
      have hTh := Lib.hid hT
      have hNh := Lib.hid hN
      have hget2 : ∃ (av : ByteArray) (er : Int), getRes (aget k l) = .tuple #[.string av, .int .i64 er] ∧ ((er != 0) = false ∨ (er != 0) = true ∧ (decide ((4096 : Int) ≤ l.length) = false)) := by
        cases h : aget k l with
        | none =>
          refine ⟨_, _, rfl, .inr ⟨rfl, ?_⟩⟩
          rw [h] at h2
          have : ¬ 4096 ≤ l.length := fun h4 => h2 ⟨rfl, h4⟩
          simp
          omega
        | some a => exact ⟨_, _, rfl, .inl rfl⟩
      obtain ⟨av, er, hge, hcase⟩ := hget2
      rw [hge] at hget
      obtain ⟨cW, cC, hcv, hcF, hcB, hcS, hcc⟩ := conv_any k
      obtain ⟨D, HD⟩ : ∃ z, Hid (pathOf k = z) := ⟨_, Lib.hid rfl⟩
      have hsD := Lib.hid (show sha k.data.toList = D from HD.out)
      have hwith := Lib.hid (with_t (k, v) (by constructor <;> simp <;> omega) 64 (Nat.le_refl _))
      have hcFh := Lib.hid hcF
      have hcBh := Lib.hid hcB
      have hcch := Lib.hid hcc
      have hflen := hG.few
      have hGh := Lib.hid hG
      clear hcnt h2 e1 e2 hT hN hge hcF hcB hcc hG
      go_enter Try.func11, Try.ntmps11
      go_wp2_with fail
      refine hfit.mono ?_
      rintro e w1 ⟨rfl, rfl⟩
      go_wp2_with fail
      refine hget.mono ?_
      rintro e w2 ⟨rfl, F2⟩
      have hct := cell_fr F2 hct0
      have htl := block_lt_of_cell hct
      have hcountc := hcnth.out w2 (hTh.out.fr0 F2)
      have hB2 := hB.fr F2 (by simp)
      clear hget hfit hct0 hB
      rcases hcase with h3 | ⟨h3, h4⟩
      all_goals
        go_upto_region 9 with (go_at_call 14; refine hcountc.mono ?_; rintro e w3 ⟨rfl, rfl⟩)
        have hcW : (cW w2.drew).cell? ⟨t, 0, none⟩ = some p := cell_fr (hcFh.out _) hct
        refine wp_region_held_drew (S := fun _ => True) (by kernel_rfl) trivial ?_
        intro hHeld
        refine wpAnyH_take (i := 0) (v := ?_) rfl (by kernel_rfl) (by kernel_rfl) (by kernel_rfl) (fun _ _ _ h => h) (Or.inl ⟨by rfl, ?_⟩) hHeld ?_
        rotate_left
        · (intro w hSw; (try dsimp only at hSw); go_simp <;> with_reducible rfl)
        try simp only [Act.put, List.setIfInBounds_toArray]
        refine wpAnyH_take (i := 1) (v := ?_) rfl (by kernel_rfl) (by kernel_rfl) (by kernel_rfl) (fun _ _ _ h => h) (Or.inl ⟨by rfl, ?_⟩) hHeld ?_
        rotate_left
        · (intro w hSw; (try dsimp only at hSw); go_simp <;> with_reducible rfl)
        try simp only [Act.put]
        refine wpAnyH_take (i := 2) (v := ?_) rfl (by kernel_rfl) (by kernel_rfl) (by kernel_rfl) (fun _ _ _ h => h) (Or.inl ⟨by rfl, ?_⟩) hHeld ?_
        rotate_left
        · (intro w hSw; (try dsimp only at hSw); go_simp <;> with_reducible rfl)
        try simp only [Act.put]
        refine wpAnyH_take (i := 3) (v := ?_) rfl (by kernel_rfl) (by kernel_rfl) (by kernel_rfl) (fun _ _ _ h => h) (Or.inl ⟨by rfl, ?_⟩) hHeld ?_
        rotate_left
        · (intro w hSw; (try dsimp only at hSw); go_simp <;> with_reducible rfl)
        try simp only [Act.put]
        refine wpAnyH_take (i := 5) (v := ?_) rfl (by kernel_rfl) (by kernel_rfl) (by kernel_rfl) (fun _ _ _ h => h) (Or.inl ⟨by rfl, ?_⟩) hHeld ?_
        rotate_left
        · (intro w hSw; (try dsimp only at hSw); go_simp <;> with_reducible rfl)
        try simp only [Act.put]
        refine wpAnyH_take (i := 6) (v := ?_) rfl (by kernel_rfl) (by kernel_rfl) (by kernel_rfl) (fun _ _ _ h => h) (Or.inl ⟨by rfl, ?_⟩) hHeld ?_
        rotate_left
        · (intro w hSw; (try dsimp only at hSw); go_simp <;> with_reducible rfl)
        try simp only [Act.put]
        refine wpAnyH_take (i := 7) (v := ?_) rfl (by kernel_rfl) (by kernel_rfl) (by kernel_rfl) (fun _ _ _ h => h) (Or.inl ⟨by rfl, ?_⟩) hHeld ?_
        rotate_left
        · (intro w hSw; (try dsimp only at hSw); go_simp <;> with_reducible rfl)
        try simp only [Act.put]
        refine wpAnyH_take (i := 8) (v := ?_) rfl (by kernel_rfl) (by kernel_rfl) (by kernel_rfl) (fun _ _ _ h => h) (Or.inl ⟨by rfl, ?_⟩) hHeld ?_
        rotate_left
        · (intro w hSw; (try dsimp only at hSw); go_simp <;> with_reducible rfl)
        try simp only [Act.put]
        refine wpAnyH_ready (rs := [4, 9]) (by kernel_rfl) (by simp) ?_
        refine AllReadyH.cons rfl (fun K hK => ?_) (AllReadyH.cons rfl (fun K hK => ?_) AllReadyH.nil)
        · go_simp
          refine hK.out _ _ trivial (fun hHeld => ?_)
          clear hK K
          try simp only [Act.put, List.setIfInBounds_toArray, List.set_cons_zero, List.set_cons_succ]
          refine wpAnyH_ready (rs := [9]) (by kernel_rfl) (by simp) ?_
          refine AllReadyH.cons rfl (fun K hK => ?_) AllReadyH.nil
          go_simp
          refine hK.out _ _ trivial (fun hHeld => ?_)
          clear hK K
          try simp only [Act.put, List.setIfInBounds_toArray, List.set_cons_zero, List.set_cons_succ]
          refine wpAnyH_ready (rs := [10]) (by kernel_rfl) (by simp) ?_
          refine AllReadyH.cons rfl (fun K hK => ?_) AllReadyH.nil
          go_simp
          go_wp2_with fail
          refine (sum1_t (cW w2.drew) _ _ _ _ (hcBh.out _ _ rfl) (hcch.out _) (by omega)).mono ?_
          rintro e w4 ⟨rfl, F4⟩
          rw [hsD.out]
          have m1 := cell_fr F4 hcW
          dsimp only
          refine hK.out _ _ trivial (fun hHeld => ?_)
          clear hK K
          try simp only [Act.put, List.setIfInBounds_toArray, List.set_cons_zero, List.set_cons_succ]
          refine wpAnyH_ready (rs := [11]) (by kernel_rfl) (by simp) ?_
          refine AllReadyH.cons rfl (fun K hK => ?_) AllReadyH.nil
          go_simp
          have F24 : Fr [] w2 w4 := ((Fr.refl [] w2).drew.trans (hcFh.out _)).trans F4
          have hw := hwith.out w4 X l p ((hNh.out.fr0 F2).fr0 F24) hGh.out.rising hGh.out.small (by omega) (fun g hg => Nat.lt_of_lt_of_le (hX g hg) (F2.trans F24).size)
          unfold xV at hw
          rw [HD.out] at hw
          go_wp2_with fail
          refine hw.mono ?_
          rintro e w5 ⟨p5, rfl, hN5, F5⟩
          obtain ⟨A5, rfl⟩ := node_ptr hN5
          have hB5 := (hB2.fr F24 (by simp)).fr F5 (by simp)
          have m2 := cell_fr F5 m1
          have m3 := hB5.frozen 0
          have m4 := hB5.lt
          dsimp only
          refine hK.out _ _ trivial (fun hHeld => ?_)
          clear hK K
          try simp only [Act.put, List.setIfInBounds_toArray, List.set_cons_zero, List.set_cons_succ]
          refine wpAnyH_take (i := 12) (v := ?_) rfl (by kernel_rfl) (by kernel_rfl) (by kernel_rfl) (fun _ _ _ h => h) (Or.inl ⟨by rfl, ?_⟩) hHeld ?_
          rotate_left
          · (intro w hSw; (try dsimp only at hSw); go_simp <;> with_reducible rfl)
          try simp only [Act.put, List.setIfInBounds_toArray]
          refine wpAnyH_take (i := 13) (v := ?_) rfl (by kernel_rfl) (by kernel_rfl) (by kernel_rfl) (fun _ _ _ h => h) (Or.inl ⟨by rfl, ?_⟩) hHeld ?_
          rotate_left
          · (intro w hSw; (try dsimp only at hSw); go_simp <;> with_reducible rfl)
          try simp only [Act.put]
          refine wpAnyH_ready (rs := [14]) (by kernel_rfl) (by simp) ?_
          refine AllReadyH.cons rfl (fun K hK => ?_) AllReadyH.nil
          go_simp
          refine hK.out _ _ trivial (fun hHeld => ?_)
          clear hK K
          try simp only [Act.put, List.setIfInBounds_toArray, List.set_cons_zero, List.set_cons_succ]
          refine wpAnyH_done (by kernel_rfl) ?_ _
          go_wp2
          go_ret
          have hB6 := hB5.set 0 (.pointer A5)
          have F6 : Fr [t] w5 (w5.setCell ⟨t, 0, none⟩ (.pointer A5)) := (Fr.refl [t] w5).setCell (.inl (by simp)) _
          refine ⟨rfl, ⟨_, hB6, hN5.fr F6 (fun z hz => .inl (by simp at hz; rw [hz]; exact htX)), htX, fun g hg => Nat.lt_of_lt_of_le (hX g hg) (Nat.le_trans ((F2.trans F24).trans F5).size F6.size)⟩, ((F2.trans F24).trans F5).nil.trans F6⟩
        · go_simp
          refine hK.out _ _ trivial (fun hHeld => ?_)
          clear hK K
          try simp only [Act.put, List.setIfInBounds_toArray, List.set_cons_zero, List.set_cons_succ]
          refine wpAnyH_ready (rs := [4, 10]) (by kernel_rfl) (by simp) ?_
          refine AllReadyH.cons rfl (fun K hK => ?_) (AllReadyH.cons rfl (fun K hK => ?_) AllReadyH.nil)
          · go_simp
            refine hK.out _ _ trivial (fun hHeld => ?_)
            clear hK K
            try simp only [Act.put, List.setIfInBounds_toArray, List.set_cons_zero, List.set_cons_succ]
            refine wpAnyH_ready (rs := [10]) (by kernel_rfl) (by simp) ?_
            refine AllReadyH.cons rfl (fun K hK => ?_) AllReadyH.nil
            go_simp
            go_wp2_with fail
            refine (sum1_t (cW w2.drew) _ _ _ _ (hcBh.out _ _ rfl) (hcch.out _) (by omega)).mono ?_
            rintro e w4 ⟨rfl, F4⟩
            rw [hsD.out]
            have m1 := cell_fr F4 hcW
            dsimp only
            refine hK.out _ _ trivial (fun hHeld => ?_)
            clear hK K
            try simp only [Act.put, List.setIfInBounds_toArray, List.set_cons_zero, List.set_cons_succ]
            refine wpAnyH_ready (rs := [11]) (by kernel_rfl) (by simp) ?_
            refine AllReadyH.cons rfl (fun K hK => ?_) AllReadyH.nil
            go_simp
            have F24 : Fr [] w2 w4 := ((Fr.refl [] w2).drew.trans (hcFh.out _)).trans F4
            have hw := hwith.out w4 X l p ((hNh.out.fr0 F2).fr0 F24) hGh.out.rising hGh.out.small (by omega) (fun g hg => Nat.lt_of_lt_of_le (hX g hg) (F2.trans F24).size)
            unfold xV at hw
            rw [HD.out] at hw
            go_wp2_with fail
            refine hw.mono ?_
            rintro e w5 ⟨p5, rfl, hN5, F5⟩
            obtain ⟨A5, rfl⟩ := node_ptr hN5
            have hB5 := (hB2.fr F24 (by simp)).fr F5 (by simp)
            have m2 := cell_fr F5 m1
            have m3 := hB5.frozen 0
            have m4 := hB5.lt
            dsimp only
            refine hK.out _ _ trivial (fun hHeld => ?_)
            clear hK K
            try simp only [Act.put, List.setIfInBounds_toArray, List.set_cons_zero, List.set_cons_succ]
            refine wpAnyH_take (i := 12) (v := ?_) rfl (by kernel_rfl) (by kernel_rfl) (by kernel_rfl) (fun _ _ _ h => h) (Or.inl ⟨by rfl, ?_⟩) hHeld ?_
            rotate_left
            · (intro w hSw; (try dsimp only at hSw); go_simp <;> with_reducible rfl)
            try simp only [Act.put, List.setIfInBounds_toArray]
            refine wpAnyH_take (i := 13) (v := ?_) rfl (by kernel_rfl) (by kernel_rfl) (by kernel_rfl) (fun _ _ _ h => h) (Or.inl ⟨by rfl, ?_⟩) hHeld ?_
            rotate_left
            · (intro w hSw; (try dsimp only at hSw); go_simp <;> with_reducible rfl)
            try simp only [Act.put]
            refine wpAnyH_ready (rs := [14]) (by kernel_rfl) (by simp) ?_
            refine AllReadyH.cons rfl (fun K hK => ?_) AllReadyH.nil
            go_simp
            refine hK.out _ _ trivial (fun hHeld => ?_)
            clear hK K
            try simp only [Act.put, List.setIfInBounds_toArray, List.set_cons_zero, List.set_cons_succ]
            refine wpAnyH_done (by kernel_rfl) ?_ _
            go_wp2
            go_ret
            have hB6 := hB5.set 0 (.pointer A5)
            have F6 : Fr [t] w5 (w5.setCell ⟨t, 0, none⟩ (.pointer A5)) := (Fr.refl [t] w5).setCell (.inl (by simp)) _
            refine ⟨rfl, ⟨_, hB6, hN5.fr F6 (fun z hz => .inl (by simp at hz; rw [hz]; exact htX)), htX, fun g hg => Nat.lt_of_lt_of_le (hX g hg) (Nat.le_trans ((F2.trans F24).trans F5).size F6.size)⟩, ((F2.trans F24).trans F5).nil.trans F6⟩
          · go_simp
            go_wp2_with fail
            refine (sum1_t (cW w2.drew) _ _ _ _ (hcBh.out _ _ rfl) (hcch.out _) (by omega)).mono ?_
            rintro e w4 ⟨rfl, F4⟩
            rw [hsD.out]
            have m1 := cell_fr F4 hcW
            dsimp only
            refine hK.out _ _ trivial (fun hHeld => ?_)
            clear hK K
            try simp only [Act.put, List.setIfInBounds_toArray, List.set_cons_zero, List.set_cons_succ]
            refine wpAnyH_ready (rs := [4]) (by kernel_rfl) (by simp) ?_
            refine AllReadyH.cons rfl (fun K hK => ?_) AllReadyH.nil
            go_simp
            refine hK.out _ _ trivial (fun hHeld => ?_)
            clear hK K
            try simp only [Act.put, List.setIfInBounds_toArray, List.set_cons_zero, List.set_cons_succ]
            refine wpAnyH_ready (rs := [11]) (by kernel_rfl) (by simp) ?_
            refine AllReadyH.cons rfl (fun K hK => ?_) AllReadyH.nil
            go_simp
            have F24 : Fr [] w2 w4 := ((Fr.refl [] w2).drew.trans (hcFh.out _)).trans F4
            have hw := hwith.out w4 X l p ((hNh.out.fr0 F2).fr0 F24) hGh.out.rising hGh.out.small (by omega) (fun g hg => Nat.lt_of_lt_of_le (hX g hg) (F2.trans F24).size)
            unfold xV at hw
            rw [HD.out] at hw
            go_wp2_with fail
            refine hw.mono ?_
            rintro e w5 ⟨p5, rfl, hN5, F5⟩
            obtain ⟨A5, rfl⟩ := node_ptr hN5
            have hB5 := (hB2.fr F24 (by simp)).fr F5 (by simp)
            have m2 := cell_fr F5 m1
            have m3 := hB5.frozen 0
            have m4 := hB5.lt
            dsimp only
            refine hK.out _ _ trivial (fun hHeld => ?_)
            clear hK K
            try simp only [Act.put, List.setIfInBounds_toArray, List.set_cons_zero, List.set_cons_succ]
            refine wpAnyH_take (i := 12) (v := ?_) rfl (by kernel_rfl) (by kernel_rfl) (by kernel_rfl) (fun _ _ _ h => h) (Or.inl ⟨by rfl, ?_⟩) hHeld ?_
            rotate_left
            · (intro w hSw; (try dsimp only at hSw); go_simp <;> with_reducible rfl)
            try simp only [Act.put, List.setIfInBounds_toArray]
            refine wpAnyH_take (i := 13) (v := ?_) rfl (by kernel_rfl) (by kernel_rfl) (by kernel_rfl) (fun _ _ _ h => h) (Or.inl ⟨by rfl, ?_⟩) hHeld ?_
            rotate_left
            · (intro w hSw; (try dsimp only at hSw); go_simp <;> with_reducible rfl)
            try simp only [Act.put]
            refine wpAnyH_ready (rs := [14]) (by kernel_rfl) (by simp) ?_
            refine AllReadyH.cons rfl (fun K hK => ?_) AllReadyH.nil
            go_simp
            refine hK.out _ _ trivial (fun hHeld => ?_)
            clear hK K
            try simp only [Act.put, List.setIfInBounds_toArray, List.set_cons_zero, List.set_cons_succ]
            refine wpAnyH_done (by kernel_rfl) ?_ _
            go_wp2
            go_ret
            have hB6 := hB5.set 0 (.pointer A5)
            have F6 : Fr [t] w5 (w5.setCell ⟨t, 0, none⟩ (.pointer A5)) := (Fr.refl [t] w5).setCell (.inl (by simp)) _
            refine ⟨rfl, ⟨_, hB6, hN5.fr F6 (fun z hz => .inl (by simp at hz; rw [hz]; exact htX)), htX, fun g hg => Nat.lt_of_lt_of_le (hX g hg) (Nat.le_trans ((F2.trans F24).trans F5).size F6.size)⟩, ((F2.trans F24).trans F5).nil.trans F6⟩
  · have e1 : putE k v l = fitsE k v := by unfold putE; rw [if_pos h1]
    have e2 : putM k v l = l := by unfold putM; rw [if_neg (by rw [e1]; exact h1)]
    rw [e1, e2]
    obtain ⟨fe, HFE⟩ : ∃ z, Hid (fitsE k v = z) := ⟨_, Lib.hid rfl⟩
    rw [HFE.out] at hfit h1 ⊢
    have hne : (fe == 0) = false := by simpa using h1
    have hTh := Lib.hid hT
    clear hT h1 e1 e2
    go_enter Try.func11, Try.ntmps11
    go_wp2_with fail
    refine hfit.mono ?_
    rintro e w1 ⟨rfl, rfl⟩
    go_wp2
    go_ret
    exact ⟨rfl, hTh.out, Fr.refl _ _⟩
end Go.Proofs.Ytlhkkffljjbdmaa
