/- Walks of the trie: Del. Conditions: each theorem's own. -/
import Derived.Test.YtlhkkffljjbdmaaTl
namespace Go.Proofs.Ytlhkkffljjbdmaa
open Go.RowKit Go.Sig

def errRes (o : Option ByteArray) : Int := if o.isSome then 0 else 7
theorem del_absent {s : ByteArray} {l : List Pr} (h : aget s l = none) : del s l = l := del_all fun y hy e => by
  have := aget_none_iff.1 h
  exact this (List.mem_map.2 ⟨y, hy, e⟩)
theorem del_good {s : ByteArray} {l : List Pr} (h : Good l) : Good (del s l) := ⟨del_rising h.rising, fun y hy => h.fits y (List.mem_filter.1 hy).1, Nat.le_trans (del_length_le s l) h.few⟩
theorem del_nil (k : ByteArray) (w : World) : Calls Try.prog 15 #[nilP, .string k] w fun e w' => e = .returned (.int .i64 12) ∧ w = w' := by
  have hg := get_nil k w
  unfold nilP at hg ⊢
  go_enter Try.func15, Try.ntmps15
  go_wp2_with (go_at_call 13; refine hg.mono ?_; rintro e w' ⟨rfl, rfl⟩)
  go_ret
  exact ⟨rfl, rfl⟩

set_option maxRecDepth 100000 in
set_option maxHeartbeats 4000000 in
theorem del_t (w : World) (X : List Nat) (t : Nat) (l : List Pr) (k : ByteArray) (hk : k.size ≤ 150000000000000) (hT : TrieIn w X t l) (hG : Good l) :
   Calls Try.prog 15 #[.pointer (some ⟨t, 0, none⟩), .string k] w fun e w' => e = .returned (.int .i64 (errRes (aget k l))) ∧ TrieIn w' X t (del k l) ∧ Fr [t] w w' := by
  have hget := get_t w X t l k hk hT hG.rising hG.small
  cases hag : aget k l with
  | none =>
    rw [hag] at hget
    rw [del_absent hag]
    have hTh := Lib.hid hT
    clear hT hag
    have e3 : getRes none = .tuple #[.string ⟨#[]⟩, .int .i64 7] := rfl
    rw [e3] at hget
    go_enter Try.func15, Try.ntmps15
    go_wp2_with fail
    refine hget.mono ?_
    rintro e w2 ⟨rfl, F2⟩
    go_wp2
    go_ret
    exact ⟨rfl, hTh.out.fr0 F2, F2.nil⟩
  | some a =>
    rw [hag] at hget
    have e3 : getRes (some a) = .tuple #[.string a, .int .i64 0] := rfl
    rw [e3] at hget
    obtain ⟨p, hB, hN, htX, hX⟩ := id hT
    have hct0 := hB.cell 0
    simp only [List.getElem?_toArray, List.getElem?_cons_zero] at hct0
    have htl0 := hB.lt
    have hTh := Lib.hid hT
    have hNh := Lib.hid hN
    obtain ⟨cW, cC, hcv, hcF, hcB, hcS, hcc⟩ := conv_any k
    obtain ⟨D, HD⟩ : ∃ z, Hid (pathOf k = z) := ⟨_, Lib.hid rfl⟩
    have hsD := Lib.hid (show sha k.data.toList = D from HD.out)
    have hwith := Lib.hid (without_t k 64 (Nat.le_refl _))
    have hcFh := Lib.hid hcF
    have hcBh := Lib.hid hcB
    have hcch := Lib.hid hcc
    have hflen := hG.few
    have hGh := Lib.hid hG
    clear hT hN e3 hag hcF hcB hcc hG
    go_enter Try.func15, Try.ntmps15
    go_wp2_with fail
    refine hget.mono ?_
    rintro e w2 ⟨rfl, F2⟩
    have hct := cell_fr F2 hct0
    have htl := block_lt_of_cell hct
    have hB2 := hB.fr F2 (by simp)
    clear hget hct0 hB
    go_upto_region 4 with (fail)
    have hcW : (cW w2.drew).cell? ⟨t, 0, none⟩ = some p := cell_fr (hcFh.out _) hct
    refine wp_region_held_drew (S := fun _ => True) (by kernel_rfl) trivial ?_
    intro hHeld
    refine wpAnyH_take (i := 0) (v := ?_) rfl (by kernel_rfl) (by kernel_rfl) (by kernel_rfl) (fun _ _ _ h => h) (Or.inl ⟨by rfl, ?_⟩) hHeld ?_
    rotate_left
    · (intro w hSw; (try dsimp only at hSw); go_simp <;> with_reducible rfl)
    try simp only [Act.put, List.setIfInBounds_toArray]
    refine wpAnyH_take (i := 1) (v := ?_) rfl (by kernel_rfl) (by kernel_rfl) (by kernel_rfl) (fun _ _ _ h => h) (Or.inl ⟨by rfl, ?_⟩) hHeld ?_
    rotate_left
    · (intro w hSw; (try dsimp only at hSw); go_simp <;> with_reducible rfl)
    try simp only [Act.put]
    refine wpAnyH_take (i := 2) (v := ?_) rfl (by kernel_rfl) (by kernel_rfl) (by kernel_rfl) (fun _ _ _ h => h) (Or.inl ⟨by rfl, ?_⟩) hHeld ?_
    rotate_left
    · (intro w hSw; (try dsimp only at hSw); go_simp <;> with_reducible rfl)
    try simp only [Act.put]
    refine wpAnyH_take (i := 3) (v := ?_) rfl (by kernel_rfl) (by kernel_rfl) (by kernel_rfl) (fun _ _ _ h => h) (Or.inl ⟨by rfl, ?_⟩) hHeld ?_
    rotate_left
    · (intro w hSw; (try dsimp only at hSw); go_simp <;> with_reducible rfl)
    try simp only [Act.put]
    refine wpAnyH_take (i := 5) (v := ?_) rfl (by kernel_rfl) (by kernel_rfl) (by kernel_rfl) (fun _ _ _ h => h) (Or.inl ⟨by rfl, ?_⟩) hHeld ?_
    rotate_left
    · (intro w hSw; (try dsimp only at hSw); go_simp <;> with_reducible rfl)
    try simp only [Act.put]
    refine wpAnyH_take (i := 6) (v := ?_) rfl (by kernel_rfl) (by kernel_rfl) (by kernel_rfl) (fun _ _ _ h => h) (Or.inl ⟨by rfl, ?_⟩) hHeld ?_
    rotate_left
    · (intro w hSw; (try dsimp only at hSw); go_simp <;> with_reducible rfl)
    try simp only [Act.put]
    refine wpAnyH_ready (rs := [4, 7]) (by kernel_rfl) (by simp) ?_
    refine AllReadyH.cons rfl (fun K hK => ?_) (AllReadyH.cons rfl (fun K hK => ?_) AllReadyH.nil)
    · go_simp
      refine hK.out _ _ trivial (fun hHeld => ?_)
      clear hK K
      try simp only [Act.put, List.setIfInBounds_toArray, List.set_cons_zero, List.set_cons_succ]
      refine wpAnyH_ready (rs := [7]) (by kernel_rfl) (by simp) ?_
      refine AllReadyH.cons rfl (fun K hK => ?_) AllReadyH.nil
      go_simp
      refine hK.out _ _ trivial (fun hHeld => ?_)
      clear hK K
      try simp only [Act.put, List.setIfInBounds_toArray, List.set_cons_zero, List.set_cons_succ]
      refine wpAnyH_ready (rs := [8]) (by kernel_rfl) (by simp) ?_
      refine AllReadyH.cons rfl (fun K hK => ?_) AllReadyH.nil
      go_simp
      go_wp2_with fail
      refine (sum1_t (cW w2.drew) _ _ _ _ (hcBh.out _ _ rfl) (hcch.out _) (by omega)).mono ?_
      rintro e w4 ⟨rfl, F4⟩
      rw [hsD.out]
      have m1 := cell_fr F4 hcW
      dsimp only
      refine hK.out _ _ trivial (fun hHeld => ?_)
      clear hK K
      try simp only [Act.put, List.setIfInBounds_toArray, List.set_cons_zero, List.set_cons_succ]
      refine wpAnyH_ready (rs := [9]) (by kernel_rfl) (by simp) ?_
      refine AllReadyH.cons rfl (fun K hK => ?_) AllReadyH.nil
      go_simp
      have F24 : Fr [] w2 w4 := ((Fr.refl [] w2).drew.trans (hcFh.out _)).trans F4
      have hw := hwith.out w4 X l p ((hNh.out.fr0 F2).fr0 F24) hGh.out.rising hGh.out.small (by omega) (fun g hg => Nat.lt_of_lt_of_le (hX g hg) (F2.trans F24).size)
      rw [HD.out] at hw
      go_wp2_with fail
      refine hw.mono ?_
      rintro e w5 ⟨p5, rfl, hN5, F5⟩
      obtain ⟨A5, rfl⟩ := node_ptr hN5
      have hB5 := (hB2.fr F24 (by simp)).fr F5 (by simp)
      have m2 := cell_fr F5 m1
      have m3 := hB5.frozen 0
      have m4 := hB5.lt
      dsimp only
      refine hK.out _ _ trivial (fun hHeld => ?_)
      clear hK K
      try simp only [Act.put, List.setIfInBounds_toArray, List.set_cons_zero, List.set_cons_succ]
      refine wpAnyH_take (i := 10) (v := ?_) rfl (by kernel_rfl) (by kernel_rfl) (by kernel_rfl) (fun _ _ _ h => h) (Or.inl ⟨by rfl, ?_⟩) hHeld ?_
      rotate_left
      · (intro w hSw; (try dsimp only at hSw); go_simp <;> with_reducible rfl)
      try simp only [Act.put, List.setIfInBounds_toArray]
      refine wpAnyH_take (i := 11) (v := ?_) rfl (by kernel_rfl) (by kernel_rfl) (by kernel_rfl) (fun _ _ _ h => h) (Or.inl ⟨by rfl, ?_⟩) hHeld ?_
      rotate_left
      · (intro w hSw; (try dsimp only at hSw); go_simp <;> with_reducible rfl)
      try simp only [Act.put]
      refine wpAnyH_ready (rs := [12]) (by kernel_rfl) (by simp) ?_
      refine AllReadyH.cons rfl (fun K hK => ?_) AllReadyH.nil
      go_simp
      refine hK.out _ _ trivial (fun hHeld => ?_)
      clear hK K
      try simp only [Act.put, List.setIfInBounds_toArray, List.set_cons_zero, List.set_cons_succ]
      refine wpAnyH_done (by kernel_rfl) ?_ _
      go_wp2
      go_ret
      have hB6 := hB5.set 0 (.pointer A5)
      have F6 : Fr [t] w5 (w5.setCell ⟨t, 0, none⟩ (.pointer A5)) := (Fr.refl [t] w5).setCell (.inl (by simp)) _
      refine ⟨rfl, ⟨_, hB6, hN5.fr F6 (fun z hz => .inl (by simp at hz; rw [hz]; exact htX)), htX, fun g hg => Nat.lt_of_lt_of_le (hX g hg) (Nat.le_trans ((F2.trans F24).trans F5).size F6.size)⟩, ((F2.trans F24).trans F5).nil.trans F6⟩
    · go_simp
      refine hK.out _ _ trivial (fun hHeld => ?_)
      clear hK K
      try simp only [Act.put, List.setIfInBounds_toArray, List.set_cons_zero, List.set_cons_succ]
      refine wpAnyH_ready (rs := [4, 8]) (by kernel_rfl) (by simp) ?_
      refine AllReadyH.cons rfl (fun K hK => ?_) (AllReadyH.cons rfl (fun K hK => ?_) AllReadyH.nil)
      · go_simp
        refine hK.out _ _ trivial (fun hHeld => ?_)
        clear hK K
        try simp only [Act.put, List.setIfInBounds_toArray, List.set_cons_zero, List.set_cons_succ]
        refine wpAnyH_ready (rs := [8]) (by kernel_rfl) (by simp) ?_
        refine AllReadyH.cons rfl (fun K hK => ?_) AllReadyH.nil
        go_simp
        go_wp2_with fail
        refine (sum1_t (cW w2.drew) _ _ _ _ (hcBh.out _ _ rfl) (hcch.out _) (by omega)).mono ?_
        rintro e w4 ⟨rfl, F4⟩
        rw [hsD.out]
        have m1 := cell_fr F4 hcW
        dsimp only
        refine hK.out _ _ trivial (fun hHeld => ?_)
        clear hK K
        try simp only [Act.put, List.setIfInBounds_toArray, List.set_cons_zero, List.set_cons_succ]
        refine wpAnyH_ready (rs := [9]) (by kernel_rfl) (by simp) ?_
        refine AllReadyH.cons rfl (fun K hK => ?_) AllReadyH.nil
        go_simp
        have F24 : Fr [] w2 w4 := ((Fr.refl [] w2).drew.trans (hcFh.out _)).trans F4
        have hw := hwith.out w4 X l p ((hNh.out.fr0 F2).fr0 F24) hGh.out.rising hGh.out.small (by omega) (fun g hg => Nat.lt_of_lt_of_le (hX g hg) (F2.trans F24).size)
        rw [HD.out] at hw
        go_wp2_with fail
        refine hw.mono ?_
        rintro e w5 ⟨p5, rfl, hN5, F5⟩
        obtain ⟨A5, rfl⟩ := node_ptr hN5
        have hB5 := (hB2.fr F24 (by simp)).fr F5 (by simp)
        have m2 := cell_fr F5 m1
        have m3 := hB5.frozen 0
        have m4 := hB5.lt
        dsimp only
        refine hK.out _ _ trivial (fun hHeld => ?_)
        clear hK K
        try simp only [Act.put, List.setIfInBounds_toArray, List.set_cons_zero, List.set_cons_succ]
        refine wpAnyH_take (i := 10) (v := ?_) rfl (by kernel_rfl) (by kernel_rfl) (by kernel_rfl) (fun _ _ _ h => h) (Or.inl ⟨by rfl, ?_⟩) hHeld ?_
        rotate_left
        · (intro w hSw; (try dsimp only at hSw); go_simp <;> with_reducible rfl)
        try simp only [Act.put, List.setIfInBounds_toArray]
        refine wpAnyH_take (i := 11) (v := ?_) rfl (by kernel_rfl) (by kernel_rfl) (by kernel_rfl) (fun _ _ _ h => h) (Or.inl ⟨by rfl, ?_⟩) hHeld ?_
        rotate_left
        · (intro w hSw; (try dsimp only at hSw); go_simp <;> with_reducible rfl)
        try simp only [Act.put]
        refine wpAnyH_ready (rs := [12]) (by kernel_rfl) (by simp) ?_
        refine AllReadyH.cons rfl (fun K hK => ?_) AllReadyH.nil
        go_simp
        refine hK.out _ _ trivial (fun hHeld => ?_)
        clear hK K
        try simp only [Act.put, List.setIfInBounds_toArray, List.set_cons_zero, List.set_cons_succ]
        refine wpAnyH_done (by kernel_rfl) ?_ _
        go_wp2
        go_ret
        have hB6 := hB5.set 0 (.pointer A5)
        have F6 : Fr [t] w5 (w5.setCell ⟨t, 0, none⟩ (.pointer A5)) := (Fr.refl [t] w5).setCell (.inl (by simp)) _
        refine ⟨rfl, ⟨_, hB6, hN5.fr F6 (fun z hz => .inl (by simp at hz; rw [hz]; exact htX)), htX, fun g hg => Nat.lt_of_lt_of_le (hX g hg) (Nat.le_trans ((F2.trans F24).trans F5).size F6.size)⟩, ((F2.trans F24).trans F5).nil.trans F6⟩
      · go_simp
        go_wp2_with fail
        refine (sum1_t (cW w2.drew) _ _ _ _ (hcBh.out _ _ rfl) (hcch.out _) (by omega)).mono ?_
        rintro e w4 ⟨rfl, F4⟩
        rw [hsD.out]
        have m1 := cell_fr F4 hcW
        dsimp only
        refine hK.out _ _ trivial (fun hHeld => ?_)
        clear hK K
        try simp only [Act.put, List.setIfInBounds_toArray, List.set_cons_zero, List.set_cons_succ]
        refine wpAnyH_ready (rs := [4]) (by kernel_rfl) (by simp) ?_
        refine AllReadyH.cons rfl (fun K hK => ?_) AllReadyH.nil
        go_simp
        refine hK.out _ _ trivial (fun hHeld => ?_)
        clear hK K
        try simp only [Act.put, List.setIfInBounds_toArray, List.set_cons_zero, List.set_cons_succ]
        refine wpAnyH_ready (rs := [9]) (by kernel_rfl) (by simp) ?_
        refine AllReadyH.cons rfl (fun K hK => ?_) AllReadyH.nil
        go_simp
        have F24 : Fr [] w2 w4 := ((Fr.refl [] w2).drew.trans (hcFh.out _)).trans F4
        have hw := hwith.out w4 X l p ((hNh.out.fr0 F2).fr0 F24) hGh.out.rising hGh.out.small (by omega) (fun g hg => Nat.lt_of_lt_of_le (hX g hg) (F2.trans F24).size)
        rw [HD.out] at hw
        go_wp2_with fail
        refine hw.mono ?_
        rintro e w5 ⟨p5, rfl, hN5, F5⟩
        obtain ⟨A5, rfl⟩ := node_ptr hN5
        have hB5 := (hB2.fr F24 (by simp)).fr F5 (by simp)
        have m2 := cell_fr F5 m1
        have m3 := hB5.frozen 0
        have m4 := hB5.lt
        dsimp only
        refine hK.out _ _ trivial (fun hHeld => ?_)
        clear hK K
        try simp only [Act.put, List.setIfInBounds_toArray, List.set_cons_zero, List.set_cons_succ]
        refine wpAnyH_take (i := 10) (v := ?_) rfl (by kernel_rfl) (by kernel_rfl) (by kernel_rfl) (fun _ _ _ h => h) (Or.inl ⟨by rfl, ?_⟩) hHeld ?_
        rotate_left
        · (intro w hSw; (try dsimp only at hSw); go_simp <;> with_reducible rfl)
        try simp only [Act.put, List.setIfInBounds_toArray]
        refine wpAnyH_take (i := 11) (v := ?_) rfl (by kernel_rfl) (by kernel_rfl) (by kernel_rfl) (fun _ _ _ h => h) (Or.inl ⟨by rfl, ?_⟩) hHeld ?_
        rotate_left
        · (intro w hSw; (try dsimp only at hSw); go_simp <;> with_reducible rfl)
        try simp only [Act.put]
        refine wpAnyH_ready (rs := [12]) (by kernel_rfl) (by simp) ?_
        refine AllReadyH.cons rfl (fun K hK => ?_) AllReadyH.nil
        go_simp
        refine hK.out _ _ trivial (fun hHeld => ?_)
        clear hK K
        try simp only [Act.put, List.setIfInBounds_toArray, List.set_cons_zero, List.set_cons_succ]
        refine wpAnyH_done (by kernel_rfl) ?_ _
        go_wp2
        go_ret
        have hB6 := hB5.set 0 (.pointer A5)
        have F6 : Fr [t] w5 (w5.setCell ⟨t, 0, none⟩ (.pointer A5)) := (Fr.refl [t] w5).setCell (.inl (by simp)) _
        refine ⟨rfl, ⟨_, hB6, hN5.fr F6 (fun z hz => .inl (by simp at hz; rw [hz]; exact htX)), htX, fun g hg => Nat.lt_of_lt_of_le (hX g hg) (Nat.le_trans ((F2.trans F24).trans F5).size F6.size)⟩, ((F2.trans F24).trans F5).nil.trans F6⟩
end Go.Proofs.Ytlhkkffljjbdmaa
