/- Walks of the trie: a key's value. Conditions: each theorem's own. -/
import Derived.Test.YtlhkkffljjbdmaaTj
namespace Go.Proofs.Ytlhkkffljjbdmaa
open Go.RowKit Go.Sig

theorem cell_row {w : World} {b o : Nat} {v : Value} {g : Nat} {cs : Array Value} (hne : b ≠ g) (h : w.cell? ⟨b, o, none⟩ = some v) : (w.setRow g cs).cell? ⟨b, o, none⟩ = some v := (((Fr.refl [g] w).setRow (.inl (by simp)) cs).cell (block_lt_of_cell h) (by simpa using hne)).trans h
/-- A trie that holds these pairs; X: what may be written, the trie's own block among it. -/
def TrieIn (w : World) (X : List Nat) (t : Nat) (l : List Pr) : Prop := ∃ p, Blk w t 78 #[p] ∧ NodeAt w X 64 l p ∧ t ∈ X ∧ ∀ g ∈ X, g < w.heap.size
/-- A table as the program lets it be. -/
structure Good (l : List Pr) : Prop where
  rising : Rising l
  fits : ∀ y ∈ l, (1 ≤ y.1.size ∧ y.1.size ≤ 64) ∧ y.2.size ≤ 60000
  few : l.length ≤ 4096
theorem Good.small {l : List Pr} (h : Good l) : Small l := ⟨fun y hy => by have := h.fits y hy; omega, by have := h.few; omega⟩
theorem get_nil (s : ByteArray) (w : World) : Calls Try.prog 13 #[nilP, .string s] w fun e w' => e = .returned (.tuple #[.string ⟨#[]⟩, .int .i64 12]) ∧ w = w' := by
  unfold nilP
  go_enter Try.func13, Try.ntmps13
  go_wp2
  go_ret2
  exact ⟨rfl, rfl⟩

/-- What Get tells. -/
def getRes (o : Option ByteArray) : Value := .tuple #[.string (o.getD ⟨#[]⟩), .int .i64 (if o.isSome then 0 else 7)]
set_option maxRecDepth 100000 in
set_option maxHeartbeats 4000000 in
theorem get_t (w : World) (X : List Nat) (t : Nat) (l : List Pr) (s : ByteArray) (hs : s.size ≤ 150000000000000) (hT : TrieIn w X t l) (_hr : Rising l) (hsm : Small l) :
   Calls Try.prog 13 #[.pointer (some ⟨t, 0, none⟩), .string s] w fun e w' => e = .returned (getRes (aget s l)) ∧ Fr [] w w' := by
  obtain ⟨p, hB, hN, htX, hX⟩ := hT
  have hct := hB.cell 0
  simp only [List.getElem?_toArray, List.getElem?_cons_zero] at hct
  have htl := hB.lt
  obtain ⟨cW, cC, hcv, hcF, hcB, hcS, hcc⟩ := conv_any s
  obtain ⟨D, HD⟩ : ∃ z, Hid (pathOf s = z) := ⟨_, Lib.hid rfl⟩
  have hsD := Lib.hid (show sha s.data.toList = D from HD.out)
  have hDl : D.length = 32 := by rw [← HD.out]; rfl
  go_enter Try.func13, Try.ntmps13
  go_upto_region 3 with (fail)
  go_cut [6, 7] from 13 to 19 (fun s6 s7 wx => s6 = p ∧ ∃ gp, s7 = .pointer (some ⟨gp, 0, none⟩) ∧ Blk wx gp 80 (digCells D) ∧ Fr [] w wx)
  case first =>
    refine wp_region_held_drew (S := fun w' => w'.cell? ⟨t, 0, none⟩ = some p) (by kernel_rfl) (show w.drew.cell? _ = _ from hct) ?_
    intro hHeld
    refine wpAnyH_take (i := 0) (v := ?_) rfl (by kernel_rfl) (by kernel_rfl) (by kernel_rfl) (fun _ _ _ h => h) (Or.inl ⟨by rfl, ?_⟩) hHeld ?_
    rotate_left
    · (intro w hSw; (try dsimp only at hSw); go_simp <;> with_reducible rfl)
    try simp only [Act.put, List.setIfInBounds_toArray]
    refine wpAnyH_take (i := 1) (v := ?_) rfl (by kernel_rfl) (by kernel_rfl) (by kernel_rfl) (fun _ _ _ h => h) (Or.inl ⟨by rfl, ?_⟩) hHeld ?_
    rotate_left
    · (intro w hSw; (try dsimp only at hSw); go_simp <;> with_reducible rfl)
    try simp only [Act.put]
    refine wpAnyH_take (i := 2) (v := ?_) rfl (by kernel_rfl) (by kernel_rfl) (by kernel_rfl) (fun _ _ _ h => h) (Or.inl ⟨by rfl, ?_⟩) hHeld ?_
    rotate_left
    · (intro w hSw; (try dsimp only at hSw); go_simp <;> with_reducible rfl)
    try simp only [Act.put]
    refine wpAnyH_take (i := 3) (v := ?_) rfl (by kernel_rfl) (by kernel_rfl) (by kernel_rfl) (fun _ _ _ h => h) (Or.inl ⟨by rfl, ?_⟩) hHeld ?_
    rotate_left
    · (intro w hSw; (try dsimp only at hSw); go_simp <;> with_reducible rfl)
    try simp only [Act.put]
    refine wpAnyH_take (i := 4) (v := ?_) rfl (by kernel_rfl) (by kernel_rfl) (by kernel_rfl) (fun _ _ _ h => h) (Or.inl ⟨by rfl, ?_⟩) hHeld ?_
    rotate_left
    · (intro w hSw; (try dsimp only at hSw); go_simp <;> with_reducible rfl)
    try simp only [Act.put]
    refine wpAnyH_ready (rs := [5, 7]) (by kernel_rfl) (by simp) ?_
    refine AllReadyH.cons rfl (fun K hK => ?_) (AllReadyH.cons rfl (fun K hK => ?_) AllReadyH.nil)
    · go_simp
      refine hK.out _ _ (cell_fr (hcF _) hct) (fun hHeld => ?_)
      clear hK K
      try simp only [Act.put, List.setIfInBounds_toArray, List.set_cons_zero, List.set_cons_succ]
      refine wpAnyH_ready (rs := [6, 7]) (by kernel_rfl) (by simp) ?_
      refine AllReadyH.cons rfl (fun K hK => ?_) (AllReadyH.cons rfl (fun K hK => ?_) AllReadyH.nil)
      · go_simp
        go_wp2_with fail
        refine (sum1_t (cW w.drew) _ _ _ _ (hcB _ _ rfl) (hcc _) (by omega)).mono ?_
        rintro e W2 ⟨rfl, F2⟩
        rw [hsD.out]
        dsimp only
        refine hK.out _ _ (cell_fr F2 (cell_fr (hcF _) hct)) (fun hHeld => ?_)
        clear hK K
        try simp only [Act.put, List.setIfInBounds_toArray, List.set_cons_zero, List.set_cons_succ]
        refine wpAnyH_ready (rs := [7]) (by kernel_rfl) (by simp) ?_
        refine AllReadyH.cons rfl (fun K hK => ?_) AllReadyH.nil
        go_simp
        refine hK.out _ _ (cell_al (cell_fr F2 (cell_fr (hcF _) hct))) (fun hHeld => ?_)
        clear hK K
        try simp only [Act.put, List.setIfInBounds_toArray, List.set_cons_zero, List.set_cons_succ]
        refine wpAnyH_take (i := 8) (v := ?_) rfl (by kernel_rfl) (by kernel_rfl) (by kernel_rfl) (fun _ _ _ h => h) (Or.inl ⟨by rfl, ?_⟩) hHeld ?_
        rotate_left
        · (intro w hSw; (try dsimp only at hSw); go_simp <;> with_reducible rfl)
        try simp only [Act.put, List.setIfInBounds_toArray]
        simp only [List.getElem_toArray, List.getElem_cons_succ, List.getElem_cons_zero, List.set_cons_zero, List.set_cons_succ]
        refine wpAnyH_ready (rs := [9]) (by kernel_rfl) (by simp) ?_
        refine AllReadyH.cons rfl (fun K hK => ?_) AllReadyH.nil
        rw [if_pos (by rfl)]
        refine wp_store_row 80 _ _ rfl W2.heap.size (digCells D) rfl rfl 80 _ (Blk.new W2 80 _) (by rw [digCells_size hDl]; kernel_rfl) (by rw [digCells_size hDl]; rfl) (digCells_one D) ?_
        refine hK.out _ _ (cell_row (by have := block_lt_of_cell hct; have := ((hcF w.drew).trans F2).size; simp at this; omega) (cell_al (cell_fr F2 (cell_fr (hcF _) hct)))) (fun hHeld => ?_)
        clear hK K
        try simp only [Act.put, List.setIfInBounds_toArray]
        refine wpAnyH_done (by kernel_rfl) ?_ _
        go_wp2_with fail
        go_meet
        exact ⟨rfl, W2.heap.size, rfl, Blk.setRow (Blk.new W2 80 _) _, ((((Fr.refl [] w).drew.trans (hcF _)).trans F2).alloc _).setRow (.inr (by have := ((hcF w.drew).trans F2).size; simp at this; omega)) _⟩
      · go_simp
        refine hK.out _ _ (cell_al (cell_fr (hcF _) hct)) (fun hHeld => ?_)
        clear hK K
        try simp only [Act.put, List.setIfInBounds_toArray, List.set_cons_zero, List.set_cons_succ]
        refine wpAnyH_ready (rs := [6]) (by kernel_rfl) (by simp) ?_
        refine AllReadyH.cons rfl (fun K hK => ?_) AllReadyH.nil
        go_simp
        go_wp2_with fail
        refine (sum1_t ((cW w.drew).alloc _) _ _ _ _ (byts_alloc (hcB _ _ rfl)) (hcc _) (by omega)).mono ?_
        rintro e W2 ⟨rfl, F2⟩
        rw [hsD.out]
        dsimp only
        refine hK.out _ _ (cell_fr F2 (cell_al (cell_fr (hcF _) hct))) (fun hHeld => ?_)
        clear hK K
        try simp only [Act.put, List.setIfInBounds_toArray, List.set_cons_zero, List.set_cons_succ]
        refine wpAnyH_take (i := 8) (v := ?_) rfl (by kernel_rfl) (by kernel_rfl) (by kernel_rfl) (fun _ _ _ h => h) (Or.inl ⟨by rfl, ?_⟩) hHeld ?_
        rotate_left
        · (intro w hSw; (try dsimp only at hSw); go_simp <;> with_reducible rfl)
        try simp only [Act.put, List.setIfInBounds_toArray]
        simp only [List.getElem_toArray, List.getElem_cons_succ, List.getElem_cons_zero, List.set_cons_zero, List.set_cons_succ]
        refine wpAnyH_ready (rs := [9]) (by kernel_rfl) (by simp) ?_
        refine AllReadyH.cons rfl (fun K hK => ?_) AllReadyH.nil
        rw [if_pos (by rfl)]
        refine wp_store_row 80 _ _ rfl _ (digCells D) rfl rfl 80 _ ((Blk.new' (w := cW w.drew) (g := w.heap.size + 1) 80 _ (by simp [hcS])).fr F2 (by simp)) (by rw [digCells_size hDl]; kernel_rfl) (by rw [digCells_size hDl]; rfl) (digCells_one D) ?_
        refine hK.out _ _ (cell_row (by have := block_lt_of_cell hct; omega) (cell_fr F2 (cell_al (cell_fr (hcF _) hct)))) (fun hHeld => ?_)
        clear hK K
        try simp only [Act.put, List.setIfInBounds_toArray]
        refine wpAnyH_done (by kernel_rfl) ?_ _
        go_wp2_with fail
        go_meet
        exact ⟨rfl, _, rfl, Blk.setRow ((Blk.new' (w := cW w.drew) (g := w.heap.size + 1) 80 _ (by simp [hcS])).fr F2 (by simp)) _, (((((Fr.refl [] w).drew.trans (hcF _))).alloc _).trans F2).setRow (.inr (by omega)) _⟩
    · go_simp
      refine hK.out _ _ (cell_al (cell_dr hct)) (fun hHeld => ?_)
      clear hK K
      try simp only [Act.put, List.setIfInBounds_toArray, List.set_cons_zero, List.set_cons_succ]
      refine wpAnyH_ready (rs := [5]) (by kernel_rfl) (by simp) ?_
      refine AllReadyH.cons rfl (fun K hK => ?_) AllReadyH.nil
      go_simp
      refine hK.out _ _ (cell_fr (hcF _) (cell_al (cell_dr hct))) (fun hHeld => ?_)
      clear hK K
      try simp only [Act.put, List.setIfInBounds_toArray, List.set_cons_zero, List.set_cons_succ]
      refine wpAnyH_ready (rs := [6]) (by kernel_rfl) (by simp) ?_
      refine AllReadyH.cons rfl (fun K hK => ?_) AllReadyH.nil
      go_simp
      go_wp2_with fail
      refine (sum1_t (cW (w.drew.alloc _)) _ _ _ _ (hcB _ _ (by simp)) (hcc _) (by omega)).mono ?_
      rintro e W2 ⟨rfl, F2⟩
      rw [hsD.out]
      dsimp only
      refine hK.out _ _ (cell_fr F2 (cell_fr (hcF _) (cell_al (cell_dr hct)))) (fun hHeld => ?_)
      clear hK K
      try simp only [Act.put, List.setIfInBounds_toArray, List.set_cons_zero, List.set_cons_succ]
      refine wpAnyH_take (i := 8) (v := ?_) rfl (by kernel_rfl) (by kernel_rfl) (by kernel_rfl) (fun _ _ _ h => h) (Or.inl ⟨by rfl, ?_⟩) hHeld ?_
      rotate_left
      · (intro w hSw; (try dsimp only at hSw); go_simp <;> with_reducible rfl)
      try simp only [Act.put, List.setIfInBounds_toArray]
      simp only [List.getElem_toArray, List.getElem_cons_succ, List.getElem_cons_zero, List.set_cons_zero, List.set_cons_succ]
      refine wpAnyH_ready (rs := [9]) (by kernel_rfl) (by simp) ?_
      refine AllReadyH.cons rfl (fun K hK => ?_) AllReadyH.nil
      rw [if_pos (by rfl)]
      refine wp_store_row 80 _ _ rfl _ (digCells D) rfl rfl 80 _ (((Blk.new w.drew 80 _).fr (hcF _) (by simp)).fr F2 (by simp)) (by rw [digCells_size hDl]; kernel_rfl) (by rw [digCells_size hDl]; rfl) (digCells_one D) ?_
      refine hK.out _ _ (cell_row (by have := block_lt_of_cell hct; simp; omega) (cell_fr F2 (cell_fr (hcF _) (cell_al (cell_dr hct))))) (fun hHeld => ?_)
      clear hK K
      try simp only [Act.put, List.setIfInBounds_toArray]
      refine wpAnyH_done (by kernel_rfl) ?_ _
      go_wp2_with fail
      go_meet
      exact ⟨rfl, _, rfl, Blk.setRow (((Blk.new w.drew 80 _).fr (hcF _) (by simp)).fr F2 (by simp)) _, (((((Fr.refl [] w).drew.alloc _).trans (hcF _))).trans F2).setRow (.inr (Nat.le_refl _)) _⟩
  case rest =>
    obtain ⟨rfl, gp, rfl, hBp, fW⟩ := hcut
    have hk0 : w.heap.size ≤ wc.heap.size := fW.size
    have hBp0 := hBp
    have hNc : NodeAt wc X 64 l u6 := hN.fr0 fW
    have hgpl := hBp.lt
    clear hB hN hct hcv hcF hcB hcS hcc hBp
    go_upto_block 0 with (fail)
    go_cut [6, 8] from 20 to 40 (fun s6 s8 wx => ∃ l', (l' = [] ∧ s6 = nilP ∨ l' ≠ [] ∧ ∃ D', D'.length = 32 ∧ LeafAt wx X D' l' s6) ∧ aget s l' = aget s l ∧ l'.length ≤ 10000 ∧ Fr [] wc wx)
    case first =>
      go_wp2_with fail
      go_loopg [6, 8] 65 (fun gk s6 s8 wr => ∃ (f : Nat) (l' : List Pr), s8 = .int .i64 ((64 - f : Nat) : Int) ∧ f ≤ 64 ∧ f < gk ∧ NodeAt wr X f l' s6 ∧ aget s l' = aget s l ∧ l'.length ≤ 10000 ∧ Fr [] wc wr)
      case atStart => exact ⟨64, l, rfl, by omega, by omega, hNc, rfl, hsm.2, Fr.refl _ _⟩
      case round =>
        clear hNc
        obtain ⟨f, l', rfl, hf, hk, hN', hag, hlen, hF⟩ := hrel
        have hcase : (l' = [] ∧ u6 = nilP) ∨ (l' ≠ [] ∧ ∃ D', D'.length = 32 ∧ LeafAt wr X D' l' u6) ∨ ∃ f', f = f' + 1 ∧ ∃ ps D', D'.length = 32 ∧ BranchAt wr X D' l'.length ps u6 ∧ ∀ i, i < 16 → NodeAt wr X f' (kid f' l' i) (ps.getD i undef) := by
          match f, l', hN' with
          | f, [], hN' => exact .inl ⟨rfl, node_nil.1 hN'⟩
          | f, [y], hN' => exact .inr (.inl ⟨by simp, _, rfl, node_one.1 hN'⟩)
          | 0, y :: z :: l', hN' => exact .inr (.inl ⟨by simp, _, rfl, (node_leaf (by simp)).1 hN'⟩)
          | f + 1, y :: z :: l', hN' =>
            obtain ⟨ps, h1, h2⟩ := (node_branch (by simp)).1 hN'
            exact .inr (.inr ⟨f, rfl, ps, _, dig_length _ _, h1, h2⟩)
        have hagh := Lib.hid hag
        clear hag hN'
        rcases hcase with ⟨hl0, rfl⟩ | ⟨hl0, D', hD', hL⟩ | ⟨f', rfl, ps, D', hD', ⟨gq, kq, rfl, hgq, hkq, hBq, hKq, hps⟩, hkids⟩
        · unfold nilP
          go_wp2
          go_meet
          exact ⟨l', .inl ⟨hl0, rfl⟩, hagh.out, hlen, hF⟩
        · obtain ⟨gq, A, c, rfl, hgq, hBq, hR, hc, hA⟩ := hL
          have c33 := (hBq.cell 33).trans (nodeCells_at hD').2.1
          have hql := hBq.lt
          unfold nilP at c33
          go_wp2
          go_meet
          exact ⟨l', .inr ⟨hl0, D', hD', ⟨gq, A, c, rfl, hgq, hBq, hR, hc, hA⟩⟩, hagh.out, hlen, hF⟩
        · have c33 := (hBq.cell 33).trans (nodeCells_at hD').2.1
          have hql := hBq.lt
          have hkl := hKq.lt
          have hBp := hBp0.fr hF (by simp)
          obtain ⟨dp, HDP⟩ : ∃ z, Hid (63 - f' = z) := ⟨_, Lib.hid rfl⟩
          have hdp : dp < 64 := by have := HDP.out; omega
          have hdeq : 64 - (f' + 1) = dp := by have := HDP.out; omega
          rw [hdeq]
          have hdn : (64 - f' : Nat) = dp + 1 := by have := HDP.out; omega
          have hnl := nib_lt D dp
          obtain ⟨q, HQ⟩ : ∃ z, Hid (nib D dp = z) := ⟨_, Lib.hid rfl⟩
          rw [HQ.out] at hnl
          have hq16 : (q : Int) < 16 := by omega
          have ckq : wr.cell? ⟨kq, q, none⟩ = some (ps.getD q undef) := by
            rw [hKq.cell, List.getElem?_toArray]
            exact getD_some (by omega)
          have hNq := Lib.hid (hkids q hnl)
          obtain ⟨pq, HPQ⟩ : ∃ z, Hid (ps.getD q undef = z) := ⟨_, Lib.hid rfl⟩
          rw [HPQ.out] at ckq hNq
          have hkag := Lib.hid (aget_kid (f := f') (s := s) (l := l'))
          have hklen := kid_length_le f' l' q
          have hrg := range_blk hBp
          have hu := uPath
          have hi := infoPathL hDl
          have hdnh := Lib.hid hdn
          have hgpl := hBp.lt
          clear hkids hKq hBq hps hdn hdeq
          go_upto_region 7 with (fail)
          go_region_held_law (fun w' => w'.cell? ⟨gq, 33, none⟩ = some (.pointer (some ⟨kq, 0, none⟩)) ∧ w'.cell? ⟨kq, q, none⟩ = some pq ∧ w'.rangeAt gp 0 (D.map bv)) ((first | exact ⟨c33, ckq, hrg⟩ | exact ⟨m1, m2, m3⟩))
            (first
              | (try go_simp
                 go_at_call 37
                 refine (at_t _ D dp hDl hdp).mono ?_
                 rintro e w' ⟨rfl, F2⟩
                 rw [HQ.out]
                 have F3 : Fr [] wr w' := F2.of_drew
                 have m1 := cell_fr F3 c33
                 have m2 := cell_fr F3 ckq
                 have m3 := range_fr0 F3 hrg
                 dsimp only))
          go_wp2
          go_roundg (f' + 1)
          case measure => omega
          case rel =>
            refine ⟨f', kid f' l' q, ?_, by omega, by omega, hNq.out.fr0 F3, ?_, Nat.le_trans hklen hlen, hF.trans F3⟩
            · rw [hdnh.out]
              go_num
            · have := hkag.out
              rw [HD.out, HDP.out, HQ.out] at this
              rw [this]
              exact hagh.out
    case rest =>
      obtain ⟨l', hcase, hag, hlen, hF⟩ := hcut
      have f2 := fW.trans hF
      clear hNc hBp0
      have hagh := Lib.hid hag
      clear hag
      rcases hcase with ⟨rfl, rfl⟩ | ⟨hl0, D', hD', ⟨gq, A, c, rfl, hgq, hBq, hR, hc, hA⟩⟩
      · unfold nilP
        go_wp2
        go_ret2
        rw [← hagh.out]
        exact ⟨rfl, f2⟩
      · have c32 := (hBq.cell 32).trans (nodeCells_at hD').1
        have hql := hBq.lt
        obtain ⟨n, hn⟩ : ∃ n, l'.length = n := ⟨_, rfl⟩
        rw [hn] at c32 hR hc hA hlen
        go_wp2_with fail
        go_loopg [10, 48] (n + 1) (fun gk s10 s48 wr => ∃ (i : Nat), s48 = .int .i64 i ∧ i ≤ n ∧ n - i < gk ∧ aget s (l'.drop i) = aget s l' ∧ Fr [] wc wr)
        case atStart => exact ⟨0, rfl, by omega, by omega, by simp, Fr.refl _ _⟩
        case round =>
          obtain ⟨i, rfl, hi, hk, hag2, hF2⟩ := hrel
          have hag2h := Lib.hid hag2
          clear hag2
          by_cases hlt : i < n
          · have hlt' : (i : Int) < n := by omega
            have hlth := Lib.hid hlt
            have hi' : i < l'.length := by omega
            have hRr := Rd.fr hR hF2 (by simp [Off])
            obtain ⟨b, o, rfl, hcell⟩ := hRr.2 (by omega)
            have hp := pairCells_at hi'
            have cn := hcell _ _ hp.1
            have cv := hcell _ _ hp.2
            rw [← Nat.add_assoc] at cv
            have hdr := Lib.hid (List.drop_eq_getElem_cons hi')
            clear hp hcell hRr
            obtain ⟨⟨y1, y2⟩, hy⟩ : ∃ z, Hid (l'[i] = z) := ⟨_, Lib.hid rfl⟩
            rw [hy.out] at cn cv hdr
            simp only at cn cv
            have htb := toList_beq y1 s
            by_cases hyk : y1 = s
            · have hyh := Lib.hid hyk
              rw [show decide (y1 = s) = true by simpa using hyk] at htb
              clear hyk
              go_wp2
              go_ret2
              have e : aget s l' = some y2 := by
                rw [← hag2h.out, hdr.out]
                simp [aget, hyh.out]
              refine ⟨?_, (f2.trans hF2).alloc _⟩
              rw [← hagh.out, e]
              rfl
            · have hyh := Lib.hid hyk
              rw [show decide (y1 = s) = false by simpa using hyk] at htb
              clear hyk
              go_wp2
              go_roundg (n - i)
              case measure => omega
              case rel =>
                refine ⟨i + 1, by go_num, by have := hlth.out; omega, by have := hlth.out; omega, ?_, hF2.alloc _⟩
                rw [← hag2h.out, hdr.out]
                simp [aget, hyh.out]
          · have hin : i = n := by omega
            have hge : ¬ (i : Int) < n := by omega
            have e : aget s l' = none := by
              rw [← hag2h.out, List.drop_of_length_le (by omega)]
              rfl
            clear hlt hk
            go_wp2
            go_ret2
            rw [← hagh.out, e]
            exact ⟨rfl, f2.trans hF2⟩
end Go.Proofs.Ytlhkkffljjbdmaa
