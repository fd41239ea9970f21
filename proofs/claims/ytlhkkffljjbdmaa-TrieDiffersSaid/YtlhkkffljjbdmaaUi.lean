/- Walks of the law: the document's digest of many pairs at the last depth. Conditions: each theorem's own. -/
import Derived.Test.YtlhkkffljjbdmaaUh
import Derived.Test.YtlhkkffljjbdmaaTc
import Derived.Test.YtlhkkffljjbdmaaUe
namespace Go.Proofs.Ytlhkkffljjbdmaa
open Go.RowKit Go.Sig

/-- Bytes under way, in a row of its own. -/
def BIn (w wr : World) (s : Value) (bs : List UInt8) : Prop :=
  ∃ A c, s = .slice A bs.length c ∧ Own wr 5 1 (.slice A bs.length c) bs.length (bs.map bv) ∧ (∀ g, g ∈ rowOf (.slice A bs.length c) → w.heap.size ≤ g) ∧ Fr [] w wr
theorem BIn.base {w wr : World} {s : Value} {bs : List UInt8} (h : BIn w wr s bs) : Fr [] w wr := by
  obtain ⟨A, c, rfl, h1, h2, h3⟩ := h
  exact h3
theorem BIn.fr0 {w wr w2 : World} {s : Value} {bs : List UInt8} (h : BIn w wr s bs) (hF : Fr [] wr w2) : BIn w w2 s bs := by
  obtain ⟨A, c, rfl, h1, h2, h3⟩ := h
  exact ⟨A, c, rfl, h1.fr hF (by simp), h2, h3.trans hF⟩
theorem BIn.off {w wr : World} {s : Value} {bs : List UInt8} {A : Option Addr} (h : BIn w wr s bs) (hA : ∀ ad, A = some ad → wr.heap.size ≤ ad.block) : Off (rowOf s) A := by
  obtain ⟨A1, c, rfl, h1, h2, h3⟩ := h
  intro ad e hx
  have := h1.lt _ hx
  have := hA ad e
  omega
theorem BIn.byts {w wr : World} {A : Option Addr} {n c : Nat} {bs : List UInt8} (h : BIn w wr (.slice A n c) bs) : Byts wr A n bs := by
  obtain ⟨A1, c1, hs, h1, h2, h3⟩ := h
  injection hs with e1 e2 e3
  subst e1 e2 e3
  exact h1.rd
theorem BIn.push {w wr w2 : World} {A A2 : Option Addr} {c c2 : Nat} {bs L : List UInt8} (hR : ∀ g, g ∈ rowOf (.slice A bs.length c) → w.heap.size ≤ g) (hF : Fr [] w wr)
    (p1 : Own w2 5 1 (.slice A2 (bs ++ L).length c2) (bs ++ L).length ((bs ++ L).map bv)) (p2 : Fr (rowOf (.slice A bs.length c)) wr w2)
    (p3 : ∀ g, g ∈ rowOf (.slice A2 (bs ++ L).length c2) → g ∈ rowOf (.slice A bs.length c) ∨ g = wr.heap.size) : BIn w w2 (.slice A2 (bs ++ L).length c2) (bs ++ L) :=
  ⟨A2, c2, rfl, p1, fun g hg => (p3 g hg).elim (hR g) (fun e => by rw [e]; exact hF.size), hF.andThen p2 (fun x hx => .inr (hR x hx))⟩
theorem bytsOne (l : List UInt8) : ∀ u ∈ l.map bv, u.oneCell' = true := by
  intro u hu
  obtain ⟨_, _, rfl⟩ := List.mem_map.1 hu
  rfl
theorem wp_bin_append {w W : World} {v : Value} {bs L : List UInt8} {A : Option Addr} {m c : Nat} {o : Oper} {a : Act} {K : Act → World → Prop} {Q : Exit → Act → World → Prop} (h : BIn w W v bs) (hb : Byts W A m L) (hmax : bs.length + m ≤ 100000000000)
    {s x : Operand} (hop : o.op = .call { callee := .builtin .append, args := #[s, x], argTypes := #[27, 27] }) (hs : a.eval s = v) (hx : a.eval x = .slice A m c)
    (hK : ∀ A' N' c' W', BIn w W' (.slice A' N' c') (bs ++ L) → Fr (rowOf v) W W' → K (a.put o.dst (.slice A' N' c')) W') : Oper.wp Try.prog o a W K Q := by
  obtain ⟨A1, c1, rfl, h1, h2, h3⟩ := h
  have hL := hb.length
  have hl : (bs ++ L).length = bs.length + m := by rw [List.length_append, hL]
  refine wp_own_append tByt h1 hb (bytsOne L) (rd_some hb) (by unfold maxLen; omega) (by omega) hop hs hx (fun v' w' p1 p2 p3 => ?_)
  obtain ⟨A3, c3, rfl, hA3⟩ := p1.form
  rw [← hl, ← List.map_append] at p1
  rw [← hl] at p3 ⊢
  exact hK A3 _ c3 w' (BIn.push h2 h3 p1 p2 p3) p2
theorem wpList_bin_append {w W : World} {v : Value} {bs L : List UInt8} {A : Option Addr} {m c : Nat} {o : Oper} {a : Act} {ops : Array Oper} {rest : List Oper} {Q : Exit → Act → World → Prop} (h : BIn w W v bs) (hb : Byts W A m L) (hmax : bs.length + m ≤ 100000000000) (hg : o.guard = none)
    {s x : Operand} (hop : o.op = .call { callee := .builtin .append, args := #[s, x], argTypes := #[27, 27] }) (hs : a.eval s = v) (hx : a.eval x = .slice A m c)
    (hK : ∀ A' N' c' W', BIn w W' (.slice A' N' c') (bs ++ L) → Fr (rowOf v) W W' → wpList Try.prog ops Q rest (a.put o.dst (.slice A' N' c')) W') : wpList Try.prog ops Q (o :: rest) a W :=
  wpList_plain hg fun _ hK' => wp_bin_append h hb hmax hop hs hx (fun A' N' c' W' h1 h2 => hK' _ _ (hK A' N' c' W' h1 h2))
theorem bin_new {w0 w : World} (x : UInt8) (hw : Fr [] w0 w) : BIn w0 (w.alloc (.cells #[.int .u8 (x.toNat : Int)] 5)) (.slice (some ⟨w.heap.size, 0, none⟩) 1 1) [x] :=
  ⟨_, 1, rfl, Own.made w _ _ _ 1 1 (by omega) (by decide) rfl, by simp [rowOf, Value.ownBlock]; exact hw.size, hw.alloc _⟩

set_option maxRecDepth 100000 in
set_option maxHeartbeats 4000000 in
theorem digestL_t (w : World) (A : Option Addr) (n c : Nat) (l : List Pr) (hR : Rd w 2 A n (pairCells l)) (hn : l.length = n) (h2 : 2 ≤ n) (hs : Small l) :
   Calls Try.prog 23 #[.slice A n c, .int .i64 64] w fun e w' => e = .returned (.agg (digCells (leafN l))) ∧ Fr [] w w' := by
  have hflat := flatN_length hs.1
  have hl4 := hs.2
  have hd0 : ((n : Int) == 0) = false := by simp; omega
  have hd1 : ((n : Int) == 1) = false := by simp; omega
  have hsmall := Lib.hid hs.1
  go_enter Try.func23, Try.ntmps23
  go_upto_region 1 with (fail)
  refine wp_gen (fun W => (∃ zs, Blk W w.heap.size 42 zs ∧ zs.size = 32) ∧ Fr [] w W) ⟨⟨_, Blk.new _ _ _, rfl⟩, (Fr.refl _ _).alloc _⟩ ?_
  rintro W ⟨⟨zs, hB, hz⟩, fW⟩
  obtain ⟨g, HG⟩ : ∃ x, Hid (w.heap.size = x) := ⟨_, Lib.hid rfl⟩
  have hRW := Rd.fr hR fW (by simp [Off])
  rw [HG.out] at hB ⊢
  clear hR
  go_upto_region 6 with (fail)
  refine wp_gen (fun W2 => BIn W W2 (.slice (some ⟨W.heap.size, 0, none⟩) 1 1) ([2] ++ flatN [])) (bin_new 2 (Fr.refl _ _)) ?_
  intro W2 hb2
  obtain ⟨gb, HGB⟩ : ∃ x, Hid (W.heap.size = x) := ⟨_, Lib.hid rfl⟩
  rw [HGB.out] at hb2 ⊢
  go_wp2_with fail
  go_loopg [5, 6] (n + 1) (fun gk s5 s6 wr => ∃ (i : Nat), s6 = .int .i64 i ∧ i ≤ n ∧ n - i < gk ∧ BIn W wr s5 ([2] ++ flatN (l.take i)))
  case atStart => exact ⟨0, rfl, by omega, by omega, by rw [List.take_zero]; exact hb2⟩
  case round =>
    clear hb2
    obtain ⟨i, rfl, hi, hk, B0⟩ := hrel
    by_cases hlt : i < n
    · have hlt' : (i : Int) < n := by omega
      have hlth := Lib.hid hlt
      have hi' : i < l.length := by omega
      obtain ⟨b, o, rfl, hcell⟩ := hRW.2 (by omega)
      have hp := pairCells_at hi'
      have cn0 := Lib.hid (hcell _ _ hp.1)
      have cv0 := hcell _ _ hp.2
      rw [← Nat.add_assoc] at cv0
      have cv0 := Lib.hid cv0
      have hys := hsmall.out l[i] (List.getElem_mem hi')
      have hft := Lib.hid (flatN_take hi')
      have hfl := flatN_length (l := l.take i) (fun y hy => hsmall.out y (List.mem_of_mem_take hy))
      have hfl2 : ([2] ++ flatN (l.take i)).length ≤ 3000000000 := by
        have e1 : (l.take i).length ≤ 10000 := by rw [List.length_take]; omega
        have e2 : (l.take i).length * 200008 ≤ 10000 * 200008 := Nat.mul_le_mul_right _ e1
        simp only [List.length_append, List.length_cons, List.length_nil]
        omega
      have hRWh := Lib.hid hRW
      clear hcell hp hRW hfl
      obtain ⟨⟨y1, y2⟩, hy⟩ : ∃ z, Hid (l[i] = z) := ⟨_, Lib.hid rfl⟩
      rw [hy.out] at cn0 cv0 hys hft
      simp only at cn0 cv0 hys hft
      have hszN := fun W' => lsized_t W' y1 (by omega)
      have hszV := fun W' => lsized_t W' y2 (by omega)
      have hLN : (szd y1).length ≤ 200000 := by rw [szd_length]; omega
      have hLV : (szd y2).length ≤ 200000 := by rw [szd_length]; omega
      obtain ⟨LN, HLN⟩ : ∃ x, Hid (szd y1 = x) := ⟨_, Lib.hid rfl⟩
      obtain ⟨LV, HLV⟩ : ∃ x, Hid (szd y2 = x) := ⟨_, Lib.hid rfl⟩
      obtain ⟨NN, HNN⟩ : ∃ x, Hid (4 + y1.size = x) := ⟨_, Lib.hid rfl⟩
      obtain ⟨NV, HNV⟩ : ∃ x, Hid (4 + y2.size = x) := ⟨_, Lib.hid rfl⟩
      have hNN : NN ≤ 200000 := by have := HNN.out; omega
      have hNV : NV ≤ 200000 := by have := HNV.out; omega
      rw [HLN.out, HNN.out] at hszN
      rw [HLV.out, HNV.out] at hszV
      rw [HLN.out, HLV.out] at hft
      rw [HLN.out] at hLN
      rw [HLV.out] at hLV
      have hsN := Lib.hid hszN
      have hsV := Lib.hid hszV
      obtain ⟨bs, HBS⟩ : ∃ x, Hid ([2] ++ flatN (l.take i) = x) := ⟨_, Lib.hid rfl⟩
      rw [← List.append_assoc] at hft
      have hft2 : Hid ([2] ++ flatN (l.take (i + 1)) = bs ++ LN ++ LV) := Lib.hid (by rw [hft.out, ← HBS.out]; simp)
      have hft := hft2
      clear hft2 hszN hszV
      rw [HBS.out] at B0 hfl2
      have cn := cell_fr B0.base cn0.out
      have cv := cell_fr B0.base cv0.out
      have hbl := block_lt_of_cell cn
      go_upto_region 10 with (fail)
      refine wp_region_held_drew (S := fun w' => w'.cell? ⟨b, o + i * 2, none⟩ = some (.string y1) ∧ w'.cell? ⟨b, o + i * 2 + 1, none⟩ = some (.string y2)) (by kernel_rfl) ⟨cn, cv⟩ ?_
      intro hHeld
      have B0 := B0.fr0 ((Fr.refl [] _).drew)
      refine wpAnyH_take (i := 0) (v := ?_) rfl (by kernel_rfl) (by kernel_rfl) (by kernel_rfl) (fun _ _ _ h => h) (Or.inl ⟨by rfl, ?_⟩) hHeld ?_
      rotate_left
      · (intro w hSw; (try dsimp only at hSw); go_simp <;> with_reducible rfl)
      try simp only [Act.put, List.setIfInBounds_toArray]
      refine wpAnyH_take (i := 1) (v := ?_) rfl (by kernel_rfl) (by kernel_rfl) (by kernel_rfl) (fun _ _ _ h => h) (Or.inl ⟨by rfl, ?_⟩) hHeld ?_
      rotate_left
      · (intro w hSw; (try dsimp only at hSw); go_simp <;> with_reducible rfl)
      try simp only [Act.put]
      refine wpAnyH_take (i := 2) (v := ?_) rfl (by kernel_rfl) (by kernel_rfl) (by kernel_rfl) (fun _ _ _ h => h) (Or.inl ⟨by rfl, ?_⟩) hHeld ?_
      rotate_left
      · (intro w hSw; (try dsimp only at hSw); go_simp <;> with_reducible rfl)
      try simp only [Act.put]
      refine wpAnyH_take (i := 3) (v := ?_) rfl (by kernel_rfl) (by kernel_rfl) (by kernel_rfl) (fun _ _ _ h => h) (Or.inl ⟨by rfl, ?_⟩) hHeld ?_
      rotate_left
      · (intro w hSw; (try dsimp only at hSw); go_simp <;> with_reducible rfl)
      try simp only [Act.put]
      refine wpAnyH_take (i := 4) (v := ?_) rfl (by kernel_rfl) (by kernel_rfl) (by kernel_rfl) (fun _ _ _ h => h) (Or.inl ⟨by rfl, ?_⟩) hHeld ?_
      rotate_left
      · (intro w hSw; (try dsimp only at hSw); go_simp <;> with_reducible rfl)
      try simp only [Act.put]
      refine wpAnyH_take (i := 5) (v := ?_) rfl (by kernel_rfl) (by kernel_rfl) (by kernel_rfl) (fun _ _ _ h => h) (Or.inl ⟨by rfl, ?_⟩) hHeld ?_
      rotate_left
      · (intro w hSw; (try dsimp only at hSw); go_simp <;> with_reducible rfl)
      try simp only [Act.put]
      refine wpAnyH_take (i := 8) (v := ?_) rfl (by kernel_rfl) (by kernel_rfl) (by kernel_rfl) (fun _ _ _ h => h) (Or.inl ⟨by rfl, ?_⟩) hHeld ?_
      rotate_left
      · (intro w hSw; (try dsimp only at hSw); go_simp <;> with_reducible rfl)
      try simp only [Act.put]
      refine wpAnyH_take (i := 9) (v := ?_) rfl (by kernel_rfl) (by kernel_rfl) (by kernel_rfl) (fun _ _ _ h => h) (Or.inl ⟨by rfl, ?_⟩) hHeld ?_
      rotate_left
      · (intro w hSw; (try dsimp only at hSw); go_simp <;> with_reducible rfl)
      try simp only [Act.put]
      refine wpAnyH_take (i := 10) (v := ?_) rfl (by kernel_rfl) (by kernel_rfl) (by kernel_rfl) (fun _ _ _ h => h) (Or.inl ⟨by rfl, ?_⟩) hHeld ?_
      rotate_left
      · (intro w hSw; (try dsimp only at hSw); go_simp <;> with_reducible rfl)
      try simp only [Act.put]
      refine wpAnyH_take (i := 11) (v := ?_) rfl (by kernel_rfl) (by kernel_rfl) (by kernel_rfl) (fun _ _ _ h => h) (Or.inl ⟨by rfl, ?_⟩) hHeld ?_
      rotate_left
      · (intro w hSw; (try dsimp only at hSw); go_simp <;> with_reducible rfl)
      try simp only [Act.put]
      refine wpAnyH_take (i := 12) (v := ?_) rfl (by kernel_rfl) (by kernel_rfl) (by kernel_rfl) (fun _ _ _ h => h) (Or.inl ⟨by rfl, ?_⟩) hHeld ?_
      rotate_left
      · (intro w hSw; (try dsimp only at hSw); go_simp <;> with_reducible rfl)
      try simp only [Act.put]
      refine wpAnyH_ready (rs := [6]) (by kernel_rfl) (by simp) ?_
      refine AllReadyH.cons rfl (fun K hK => ?_) AllReadyH.nil
      go_simp
      go_wp2_with fail
      refine (hsN.out _).mono ?_
      rintro e X1 ⟨A1, c1, rfl, hb1, hc1, hA1, F1⟩
      have B1 := B0.fr0 F1
      dsimp only
      refine hK.out _ _ ⟨cell_fr B1.base cn0.out, cell_fr B1.base cv0.out⟩ (fun hHeld => ?_)
      clear hK K
      try simp only [Act.put, List.setIfInBounds_toArray, List.set_cons_zero, List.set_cons_succ]
      refine wpAnyH_ready (rs := [7]) (by kernel_rfl) (by simp) ?_
      refine AllReadyH.cons rfl (fun K hK => ?_) AllReadyH.nil
      rw [if_pos (by rfl)]
      refine wp_bin_append B1 hb1 (by omega) rfl rfl rfl ?_
      intro A2 N2 c2 X2 B2 P2
      refine hK.out _ _ ⟨cell_fr B2.base cn0.out, cell_fr B2.base cv0.out⟩ (fun hHeld => ?_)
      clear hK K
      try simp only [Act.put, List.setIfInBounds_toArray]
      refine wpAnyH_ready (rs := [13]) (by kernel_rfl) (by simp) ?_
      refine AllReadyH.cons rfl (fun K hK => ?_) AllReadyH.nil
      go_simp
      go_wp2_with fail
      refine (hsV.out _).mono ?_
      rintro e X3 ⟨A3, c3, rfl, hb3, hc3, hA3, F3⟩
      have B3 := B2.fr0 F3
      dsimp only
      refine hK.out _ _ ⟨cell_fr B3.base cn0.out, cell_fr B3.base cv0.out⟩ (fun hHeld => ?_)
      clear hK K
      try simp only [Act.put, List.setIfInBounds_toArray, List.set_cons_zero, List.set_cons_succ]
      refine wpAnyH_ready (rs := [14]) (by kernel_rfl) (by simp) ?_
      refine AllReadyH.cons rfl (fun K hK => ?_) AllReadyH.nil
      rw [if_pos (by rfl)]
      refine wp_bin_append B3 hb3 (by simp only [List.length_append]; omega) rfl rfl rfl ?_
      intro A4 N4 c4 X4 B4 P4
      refine hK.out _ _ ⟨cell_fr B4.base cn0.out, cell_fr B4.base cv0.out⟩ (fun hHeld => ?_)
      clear hK K
      try simp only [Act.put, List.setIfInBounds_toArray]
      refine wpAnyH_take (i := 15) (v := ?_) rfl (by kernel_rfl) (by kernel_rfl) (by kernel_rfl) (fun _ _ _ h => h) (Or.inl ⟨by rfl, ?_⟩) hHeld ?_
      rotate_left
      · (intro w hSw; (try dsimp only at hSw); go_simp <;> with_reducible rfl)
      try simp only [Act.put]
      simp only [List.getElem_toArray, List.getElem_cons_succ, List.getElem_cons_zero, List.setIfInBounds_toArray, List.set_cons_zero, List.set_cons_succ]
      refine wpAnyH_done (by kernel_rfl) ?_ _
      have Bh := Lib.hid B4
      clear B0 B1 B2 B3 B4
      go_wp2_with fail
      go_roundg (n - i)
      case measure => omega
      case rel =>
        refine ⟨i + 1, by go_num, by have := hlth.out; omega, by have := hlth.out; omega, ?_⟩
        rw [hft.out]
        exact Bh.out
    · have hin : i = n := by omega
      have hge : ¬ (i : Int) < n := by omega
      have e : l.take i = l := List.take_of_length_le (by omega)
      rw [e] at B0
      have hlen : ([2] ++ flatN l).length ≤ 150000000000000 := by
        have e2 : l.length * 200008 ≤ 10000 * 200008 := Nat.mul_le_mul_right _ hl4
        simp only [List.length_append, List.length_cons, List.length_nil]
        omega
      have hshl := sha_len ([2] ++ flatN l)
      have hsh := Lib.hid (show leafN l = sha ([2] ++ flatN l) from rfl)
      obtain ⟨BS, HBS⟩ : ∃ x, Hid ([2] ++ flatN l = x) := ⟨_, Lib.hid rfl⟩
      obtain ⟨D, HDD⟩ : ∃ x, Hid (sha ([2] ++ flatN l) = x) := ⟨_, Lib.hid rfl⟩
      rw [HDD.out] at hshl hsh
      have hd : sha BS = D := by rw [← HBS.out]; exact HDD.out
      rw [HBS.out] at B0 hlen
      obtain ⟨A5, c5, rfl, O5, R5, F5⟩ := B0
      have hB5 := hB.fr F5 (by simp)
      have hsum := sum1_t wr A5 BS.length c5 BS O5.rd O5.cap hlen
      rw [hd] at hsum
      have hF := Lib.hid (fW.trans F5)
      clear hd hlt hk hflat hl4 e O5 R5 F5 hRW hB
      go_wp2_with (first
        | (go_at_call 36; refine hsum.mono ?_; rintro e W9 ⟨rfl, F9⟩)
        | refine wpList_store_row rfl 42 _ _ rfl g (digCells D) rfl rfl 42 zs (hB5.fr F9 (by simp)) (infoDigA hshl) (by rw [hz, digCells_size hshl]) (digCells_one D) ?_)
      rw [hsh.out]
      exact bodyPost_ret (v := .agg (digCells D)) (results_cell_row rfl _ _ g 42 (digCells D) (0, 0) _ rfl (Blk.setRow (hB5.fr F9 (by simp)) _) uDig rfl (infoDigA hshl)) rfl ⟨rfl, (hF.out.trans F9).setRow (.inr (by have := HG.out; omega)) _⟩
end Go.Proofs.Ytlhkkffljjbdmaa
