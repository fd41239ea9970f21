/- Walk of the law TriePatches. Conditions: each theorem's own. -/
import Derived.Test.YtlhkkffljjbdmaaVc
namespace Go.Proofs.Ytlhkkffljjbdmaa
open Go.RowKit Go.Sig

theorem patchV_set {pl : List Bool} {s s2 : Value} (h : pl.length = 16) : (patchV pl s).setIfInBounds 16 s2 = patchV pl s2 := by
  unfold patchV
  rw [List.setIfInBounds_toArray, List.set_append]
  simp [h]
theorem uPatch : Try.prog.underlying 53 = some (.struct (Try.prog.fieldsOf 53)) := by kernel_rfl
theorem infoPatch {pl : List Bool} {s : Value} (h : pl.length = 16) : (Try.prog.info? 53).map (·.size) = some (patchV pl s).toList.length := by rw [Array.length_toList, patchV_size h]; kernel_rfl
theorem rd_less {w : World} {size n m : Nat} {A : Option Addr} {xs : List Value} (h : Rd w size A n xs) (hm : m ≤ n) : Rd w size A m (xs.take (m * size)) := by
  refine ⟨by rw [List.length_take, h.1]; exact Nat.min_eq_left (Nat.mul_le_mul_right _ hm), fun h0 => ?_⟩
  obtain ⟨b, o, rfl, hc⟩ := h.2 (by omega)
  exact ⟨b, o, rfl, fun j v hv => hc j v (by
    have hj := (List.getElem?_eq_some_iff.1 hv).1
    rw [List.length_take] at hj
    rwa [List.getElem?_take_of_lt (by omega)] at hv)⟩
theorem pairCells_take (l : List Pr) (m : Nat) : (pairCells l).take (m * 2) = pairCells (l.take m) := by
  induction m generalizing l with
  | zero => simp [pairCells]
  | succ m ih =>
    cases l with
    | nil => simp [pairCells]
    | cons y l =>
      rw [show (m + 1) * 2 = m * 2 + 2 by omega]
      show (Value.string y.1 :: Value.string y.2 :: pairCells l).take (m * 2 + 2) = Value.string y.1 :: Value.string y.2 :: pairCells (l.take m)
      rw [List.take_succ_cons, List.take_succ_cons, ih]

set_option maxRecDepth 100000 in
set_option maxHeartbeats 4000000 in
theorem patches_t (w : World) (A : Option Addr) (n c : Nat) (ss : List St) (hR : Rd w 3 A n (stepCells ss)) (hn : ss.length = n) (hmax : n ≤ 150000000000000)
   (hs : ∀ s ∈ ss, s.2.1.size ≤ 150000000000000 ∧ s.2.2.size ≤ 150000000000000) (pl : List Bool) (hpl : pl.length = 16) (B : Option Addr) (m d : Nat) (ps : List Pr) (hB : Rd w 2 B m (pairCells ps)) (hm : ps.length = m) (hmm : m ≤ 150000000000000) (hmd : m ≤ d) (hd : d ≤ maxLen)
   (hps : ∀ y ∈ ps, y.1.size ≤ 150000000000000 ∧ y.2.size ≤ 150000000000000) :
   Calls Try.prog 5 #[.slice A n c, .agg (patchV pl (.slice B m d))] w fun e w' => e = .returned (.bool true) ∧ Fr [] w w' := by
  unfold maxLen at hd
  have hG := Lib.hid (playM_good (ss.take 40))
  have hplay := Lib.hid (fun (W : World) (g : Nat) (hg : g < W.heap.size) (hF : Fr [] w W) => play_t W [g] (by simpa using hg) A n c ss (Rd.fr hR hF (by simp [Off])) hn hmax hs)
  obtain ⟨l, hl⟩ : ∃ z, Hid (playM (ss.take 40) = z) := ⟨_, Lib.hid rfl⟩
  rw [hl.out] at hplay hG
  have hpsz := patchV_size (s := .slice B m d) hpl
  have hBh := Lib.hid hB
  have hpsh := Lib.hid hps
  clear hR hs hB hps
  go_enter Try.func5, Try.ntmps5
  go_upto_region 1 with (fail)
  refine wp_gen (fun W => Blk W w.heap.size 53 (patchV pl (.slice B m d)) ∧ Fr [] w W) ⟨Blk.new _ _ _, (Fr.refl _ _).alloc _⟩ ?_
  rintro W ⟨hPB, fW⟩
  obtain ⟨gp, HGP⟩ : ∃ z, Hid (w.heap.size = z) := ⟨_, Lib.hid rfl⟩
  rw [HGP.out] at hPB ⊢
  go_wp2_with fail
  refine (hplay.out W gp hPB.lt fW).mono ?_
  rintro e W1 ⟨t, A1, n1, c1, rfl, hP⟩
  have hn1 := hP.rd.2
  have hlen := hG.out.few
  have f1' : Fr [] W W1 := by obtain ⟨_, A, c, _, h1, h2, h3, h4⟩ := hP; exact h3
  have hWt : W.heap.size ≤ t := by obtain ⟨_, A, c, _, h1, h2, h3, h4⟩ := hP; exact h4
  have f1 := Lib.hid (fW.trans f1')
  have hB1 := Lib.hid (hPB.fr f1' (by simp))
  have hgpW : gp < W.heap.size := hPB.lt
  have hgpt : gp < t := Nat.lt_of_lt_of_le hPB.lt hWt
  have hPh := Lib.hid hP
  clear hplay hP f1' hPB
  go_wp2_with fail
  refine (known_t _).mono ?_
  rintro e W2 ⟨rfl, F2⟩
  have hP2 := Lib.hid (hPh.out.fr0 F2)
  have f2 := Lib.hid (f1.out.trans F2)
  have hB2 := Lib.hid (hB1.out.fr F2 (by simp))
  have cs16 := (hB2.out.cell 16).trans (patchV_last hpl)
  have hgl := hB2.out.lt
  have hfz := hB2.out.frozen 16
  clear F2
  obtain ⟨m2, hm2⟩ : ∃ z, z = min m 60 := ⟨_, rfl⟩
  go_upto_if 26 with (fail)
  go_cut [] from 27 to 30 (fun wx => Blk wx gp 53 (patchV pl (.slice B m2 d)) ∧ Fr [gp] W2 wx)
  case first =>
    by_cases h60 : 60 < m
    · have h60i : (60 : Int) < m := by omega
      have h60d : (60 : Int) ≤ d := by omega
      obtain rfl : m2 = 60 := by omega
      clear hm2
      go_wp2_with fail
      go_meet
      have := hB2.out.set 16 (.slice B 60 d)
      rw [patchV_set hpl] at this
      exact ⟨this, (Fr.refl _ _).setCell (.inl (by simp)) _⟩
    · have h60i : ¬ (60 : Int) < m := by omega
      obtain rfl : m2 = m := by omega
      clear hm2
      go_wp2_with fail
      go_meet
      exact ⟨hB2.out, Fr.refl _ _⟩
  case rest =>
    obtain ⟨hBc, hFc⟩ := hcut
    have hm260 : m2 ≤ 60 := by omega
    have hm2m : m2 ≤ m := by omega
    have hpst : ps.take m2 = ps.take 60 := by
      rcases Nat.le_total m 60 with h | h
      · rw [List.take_of_length_le (by omega), List.take_of_length_le (by omega)]
      · rw [show m2 = 60 by omega]
    obtain ⟨qs, hqs⟩ : ∃ z, Hid (ps.take m2 = z) := ⟨_, Lib.hid rfl⟩
    have hqR : Hid (Rd w 2 B m2 (pairCells qs)) := Lib.hid (by
      have := rd_less hBh.out hm2m
      rwa [pairCells_take, hqs.out] at this)
    have hql : qs.length = m2 := by rw [← hqs.out, List.length_take]; omega
    have hqz := Lib.hid (show ∀ y ∈ qs, y.1.size ≤ 150000000000000 ∧ y.2.size ≤ 150000000000000 from fun y hy => hpsh.out y (List.mem_of_mem_take (hqs.out ▸ hy)))
    have hgpw : w.heap.size ≤ gp := Nat.le_of_eq HGP.out
    have fc : Hid (Fr [] w wc) := Lib.hid (f2.out.andThen hFc (fun x hx => .inr (by simp at hx; omega)))
    have hTc := Lib.hid (hP2.out.1.fr hFc (fun s hs => .inl (by simp at hs; simp [hs])) (by simp; omega))
    have hOc : Hid (Own wc 66 2 (.slice A1 n1 c1) l.length (pairCells l)) := Lib.hid (by
      obtain ⟨_, A4, c4, hs4, h1, h2, h3, h4⟩ := hP2.out
      rw [hs4]
      exact h1.fr hFc (fun g hg hx => by have := (h2 g hg).1; simp at hx; omega))
    have hrow : Hid (∀ g, g ∈ rowOf (.slice A1 n1 c1) → g ≠ t) := Lib.hid (by
      obtain ⟨_, A4, c4, hs4, h1, h2, h3, h4⟩ := hP2.out
      rw [hs4]
      exact fun g hg => (h2 g hg).2)
    have hmd2 := mend_t wc [t, gp] t l hTc.out hG.out pl hpl B m2 d qs (Rd.fr hqR.out fc.out (by simp [Off])) hql (by omega) hqz.out
    have hMG := Lib.hid (mendR_good (pl := pl) (ps := qs) hG.out)
    obtain ⟨M, HM⟩ : ∃ z, Hid (mendR pl qs l = z) := ⟨_, Lib.hid rfl⟩
    have hrm := Lib.hid (fun (W' : World) (h1 : Own W' 66 2 (.slice A1 n1 c1) l.length (pairCells l)) (h2 : Fr [] w W') => rmend_t W' (.slice A1 n1 c1) l h1 hG.out pl hpl B m2 d qs (Rd.fr hqR.out h2 (by simp [Off])) hql (by omega) hqz.out)
    rw [HM.out] at hmd2 hMG hrm
    obtain ⟨M1, M2⟩ := M
    simp only at hmd2 hMG hrm
    have hM4 := hMG.out.few
    have hBch := Lib.hid hBc
    have hgcl := hBc.lt
    clear cs16 hgl hfz hFc hm2 hpst
    go_wp2_with (first
      | (refine wpList_load_at rfl 53 _ rfl rfl hBc (sub_self _) uPatch rfl (infoPatch hpl) ?_; rw [Array.toArray_toList])
      | fail)
    refine hmd2.mono ?_
    rintro e W3 ⟨rfl, hT3, F3⟩
    have hT3h := Lib.hid hT3
    have f3 : Hid (Fr [] w W3) := Lib.hid (fc.out.andThen F3 (fun x hx => .inr (by simp at hx; have := fW.size; omega)))
    have hO3 := Lib.hid (hOc.out.fr F3 (fun g hg hx => hrow.out g hg (by simpa using hx)))
    have hB3 := hBch.out.fr F3 (by simp; omega)
    have cs16 := (hB3.cell 16).trans (patchV_last hpl)
    have hgl := hB3.lt
    clear hBc hgcl hT3 F3 hmd2
    go_wp2_with (first
      | (refine wpList_load_at rfl 51 _ rfl rfl hB3 patch_sub uB16 rfl (infoB16 hpl) ?_)
      | fail)
    refine (hrm.out W3 hO3.out f3.out).mono ?_
    rintro e W4 ⟨v4, rfl, O4, F4, R4⟩
    obtain ⟨A4, c4, rfl, hA4⟩ := O4.form
    have hT4 := Lib.hid (hT3h.out.fr0 F4)
    have hpairs := pairs_t W4 [t, gp] t M2 hT4.out hMG.out.rising hMG.out.small
    have hR4 := Lib.hid O4.rd
    have f4 := Lib.hid (f3.out.trans F4)
    obtain ⟨m4, hm4⟩ : ∃ z, Hid (M2.length = z) := ⟨_, Lib.hid rfl⟩
    rw [hm4.out] at hM4 hR4 ⊢
    clear hB3 cs16 hgl O4 F4 R4 hA4
    go_wp2_with fail
    refine hpairs.mono ?_
    rintro e W5 ⟨v5, rfl, O5, F5, R5⟩
    obtain ⟨A5, c5, rfl, hA5⟩ := O5.form
    have hR5 := O5.rd
    rw [hm4.out] at hR5 ⊢
    have hsame := rsame_t W5 A5 A4 m4 m4 c5 c4 M2 M2 hR5 hm4.out (Rd.fr hR4.out F5 (by simp [Off])) hm4.out (by omega) (by omega)
    rw [decide_eq_true rfl] at hsame
    have f5 := Lib.hid (f4.out.trans F5)
    clear O5 F5 R5 hA5 hR5 hpairs
    go_wp2_with (go_at_call 17; refine hsame.mono ?_; rintro e W6 ⟨rfl, F6⟩)
    go_ret
    exact ⟨rfl, f5.out.trans F6⟩
end Go.Proofs.Ytlhkkffljjbdmaa
