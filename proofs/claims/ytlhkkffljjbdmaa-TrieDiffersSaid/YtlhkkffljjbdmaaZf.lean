/- Walk of the law TrieDiffers. Conditions: each theorem's own. -/
import Derived.Test.YtlhkkffljjbdmaaZd
import Derived.Test.YtlhkkffljjbdmaaZe
import Derived.Test.YtlhkkffljjbdmaaUk
namespace Go.Proofs.Ytlhkkffljjbdmaa
open Go.RowKit Go.Sig

theorem tSteps : SliceTy Try.prog 34 75 3 40 (.agg #[.int .i64 0, .string ⟨#[]⟩, .string ⟨#[]⟩]) := ⟨by kernel_rfl, by kernel_rfl, rfl, by decide⟩
theorem stepCells_append (a b : List St) : stepCells (a ++ b) = stepCells a ++ stepCells b := List.flatMap_append
theorem stepCells_length (a : List St) : (stepCells a).length = a.length * 3 := by
  induction a with
  | nil => rfl
  | cons s a ih =>
    show (stepCells a).length + 1 + 1 + 1 = _
    rw [ih, List.length_cons]
    omega
theorem stepCells_take (l : List St) (m : Nat) : (stepCells l).take (m * 3) = stepCells (l.take m) := by
  induction m generalizing l with
  | zero => simp [stepCells]
  | succ m ih =>
    cases l with
    | nil => simp [stepCells]
    | cons y l =>
      rw [show (m + 1) * 3 = m * 3 + 3 by omega]
      show (Value.int .i64 y.1 :: Value.string y.2.1 :: Value.string y.2.2 :: stepCells l).take (m * 3 + 3) = Value.int .i64 y.1 :: Value.string y.2.1 :: Value.string y.2.2 :: stepCells (l.take m)
      rw [List.take_succ_cons, List.take_succ_cons, List.take_succ_cons, ih]
theorem stepCells_one (l : List St) : ∀ u ∈ stepCells l, u.oneCell' = true := by
  intro u hu
  obtain ⟨s, _, hs⟩ := List.mem_flatMap.1 hu
  simp at hs
  rcases hs with rfl | rfl | rfl <;> rfl
theorem rd_less3 {w : World} {n m : Nat} {A : Option Addr} {ss : List St} (h : Rd w 3 A n (stepCells ss)) (hm : m ≤ n) (hn : ss.length = n) : Rd w 3 A m (stepCells (ss.take m)) := by
  refine ⟨by rw [stepCells_length, List.length_take]; omega, fun h0 => ?_⟩
  obtain ⟨b, o, rfl, hc⟩ := h.2 (by omega)
  exact ⟨b, o, rfl, fun j v hv => hc j v (by
    rw [← stepCells_take] at hv
    have hj := (List.getElem?_eq_some_iff.1 hv).1
    rw [List.length_take] at hj
    rwa [List.getElem?_take_of_lt (by omega)] at hv)⟩
theorem fr_row0 {W1 w2 : World} {o : Obj} (p2 : Fr (rowOf (.slice (some ⟨W1.heap.size, 0, none⟩) 0 0)) (W1.alloc o) w2) : Hid (Fr [] W1 w2) := Lib.hid (((Fr.refl [] W1).alloc _).andThen p2 (fun x hx => .inr (by simp [rowOf, Value.ownBlock] at hx; omega)))
theorem own_row0 {w2 : World} {A3 : Option Addr} {n20 c3 : Nat} {qs : List St} (p1 : Own w2 75 3 (.slice A3 (0 + n20) c3) (0 + n20) (List.take (0 * 3) (#[] : Array Value).toList ++ stepCells qs)) : Own w2 75 3 (.slice A3 n20 c3) n20 (stepCells qs) := by simpa using p1
theorem row_row0 {W1 : World} {A3 : Option Addr} {n20 c3 : Nat} {o : Obj} (p3 : ∀ g, g ∈ rowOf (.slice A3 (0 + n20) c3) → g ∈ rowOf (.slice (some ⟨W1.heap.size, 0, none⟩) 0 0) ∨ g = (W1.alloc o).heap.size) : Hid (∀ g, g ∈ rowOf (.slice A3 n20 c3) → W1.heap.size ≤ g) := Lib.hid (fun g hg => (p3 g (by rw [Nat.zero_add]; exact hg)).elim (fun h => by simp [rowOf, Value.ownBlock] at h; omega) (fun h => by rw [h]; simp))

set_option maxRecDepth 100000 in
set_option maxHeartbeats 8000000 in
theorem differs_t (w : World) (A : Option Addr) (n c : Nat) (ss : List St) (hR : Rd w 3 A n (stepCells ss)) (hn : ss.length = n) (hmax : n ≤ 150000000000000) (hnc : n ≤ c) (hcm : c ≤ maxLen)
   (hs : ∀ s ∈ ss, s.2.1.size ≤ 150000000000000 ∧ s.2.2.size ≤ 150000000000000) (B : Option Addr) (m d : Nat) (ts : List St) (hB : Rd w 3 B m (stepCells ts)) (hm : ts.length = m) (hmm : m * 40 ≤ 140737488351232)
   (hs2 : ∀ s ∈ ts, s.2.1.size ≤ 150000000000000 ∧ s.2.2.size ≤ 150000000000000) :
   Calls Try.prog 7 #[.slice A n c, .slice B m d] w fun e w' => e = .returned (.bool true) ∧ Fr [] w w' := by
  unfold maxLen at hcm
  have hG := Lib.hid (playM_good (ss.take 40))
  have hplay := Lib.hid (play_t w [] (by simp) A n c ss hR hn hmax hs)
  obtain ⟨l, hl⟩ : ∃ z, Hid (playM (ss.take 40) = z) := ⟨_, Lib.hid rfl⟩
  rw [hl.out] at hplay hG
  obtain ⟨n20, hn20⟩ : ∃ z, Hid (min n 20 = z) := ⟨_, Lib.hid rfl⟩
  have hR20 := Lib.hid (rd_less3 hR (show n20 ≤ n by have := hn20.out; omega) hn)
  have hlen20 : (ss.take n20).length = n20 := by rw [List.length_take]; have := hn20.out; omega
  have hs20 := Lib.hid (show ∀ s ∈ ss.take n20 ++ ts, s.2.1.size ≤ 150000000000000 ∧ s.2.2.size ≤ 150000000000000 from fun s hh => (List.mem_append.1 hh).elim (fun h => hs s (List.mem_of_mem_take h)) (hs2 s))
  obtain ⟨qs, hqs⟩ : ∃ z, Hid (ss.take n20 = z) := ⟨_, Lib.hid rfl⟩
  rw [hqs.out] at hR20 hlen20 hs20
  have hRh := Lib.hid hR
  have hBh := Lib.hid hB
  have hm20 : n20 ≤ 20 := by have := hn20.out; omega
  have hmn20 : n20 ≤ n := by have := hn20.out; omega
  clear hR hs hB hs2
  go_enter Try.func7, Try.ntmps7
  go_wp2_with fail
  refine hplay.out.mono ?_
  rintro e W1 ⟨t, A1, n1, c1, rfl, hP⟩
  have hn1 := hP.rd.2
  have hlen := hG.out.few
  have f1' : Fr [] w W1 := by obtain ⟨_, A, c, _, h1, h2, h3, h4⟩ := hP; exact h3
  have f1 := Lib.hid f1'
  have hPh := Lib.hid hP
  clear hplay hP f1'
  have hmin : min (n : Int) 20 = (n20 : Int) := by have := hn20.out; omega
  have h20c : (n20 : Int) ≤ c := by omega
  have h200 : (0 : Int) ≤ n20 := by omega
  have hA0 : A = none → n20 = 0 := fun h => by
    rcases Nat.eq_zero_or_pos n20 with h0 | h0
    · exact h0
    · obtain ⟨b, o, e, _⟩ := hR20.out.2 h0
      rw [h] at e
      cases e
  have hB0 : B = none → m = 0 := fun h => by
    rcases Nat.eq_zero_or_pos m with h0 | h0
    · exact h0
    · obtain ⟨b, o, e, _⟩ := hBh.out.2 h0
      rw [h] at e
      cases e
  have hA0h := Lib.hid hA0
  have hB0h := Lib.hid hB0
  clear hA0 hB0
  go_wp2_with (first
    | (refine wpList_own_append tSteps (Own.made W1 #[] 75 3 0 0 (by decide) (by decide) rfl) (Rd.fr hR20.out (f1.out.alloc _) (by simp [Off])) (stepCells_one _) hA0h.out (by unfold maxLen; omega) (by omega) rfl rfl rfl rfl (fun v2 w2 p1 p2 p3 => ?_); obtain ⟨A3, c3, rfl, hA3⟩ := p1.form; have f12 := fr_row0 p2; have o2 := own_row0 p1; have r2 := row_row0 p3)
    | (refine wpList_own_append tSteps o2 (Rd.fr hBh.out (f1.out.trans f12.out) (by simp [Off])) (stepCells_one _) hB0h.out (by unfold maxLen; omega) (by omega) rfl rfl rfl rfl (fun v3 w3 q1 q2 q3 => ?_); obtain ⟨A4, c4, rfl, hA4⟩ := q1.form)
    | fail)
  rw [← stepCells_append] at q1
  have f13 := Lib.hid (f12.out.andThen q2 (fun x hx => .inr (r2.out x hx)))
  have hG2 := Lib.hid (playM_good ((qs ++ ts).take 40))
  have hplay2 := play_t w3 [] (by simp) A4 (n20 + m) c4 (qs ++ ts) q1.rd (by rw [List.length_append]; omega) (by omega) hs20.out
  obtain ⟨l2, hl2⟩ : ∃ z, Hid (playM ((qs ++ ts).take 40) = z) := ⟨_, Lib.hid rfl⟩
  rw [hl2.out] at hplay2 hG2
  clear p1 p2 p3 hA3 o2 q1 q2 q3 hA4
  refine hplay2.mono ?_
  rintro e W3 ⟨u, A5, n5, c5, rfl, hU⟩
  have hn5 := hU.rd.2
  have hlen2 := hG2.out.few
  have f23 : Fr [] w3 W3 := by obtain ⟨_, A, c, _, h1, h2, h3, h4⟩ := hU; exact h3
  have hP3 := Lib.hid (hPh.out.fr0 (f13.out.trans f23))
  have f3 := Lib.hid (f1.out.trans (f13.out.trans f23))
  have hUh := Lib.hid hU
  clear hplay2 hU f23
  go_wp2_with fail
  refine (known_t _).mono ?_
  rintro e W4 ⟨rfl, F4⟩
  have hP4 := Lib.hid (hP3.out.fr0 F4)
  have hU4 := Lib.hid (hUh.out.fr0 F4)
  have f4 := Lib.hid (f3.out.trans F4)
  clear F4
  have halk := alike_t 64 (by omega) W4 A1 A5 n1 n5 c1 c5 l l2 hP4.out.rd.1 hn1 hG.out.small hU4.out.rd.1 hn5 hG2.out.small
  rw [show ((64 - 64 : Nat) : Int) = 0 from rfl] at halk
  obtain ⟨r, hr⟩ : ∃ z, Hid (alk 64 l l2 = z) := ⟨_, Lib.hid rfl⟩
  rw [hr.out] at halk
  go_wp2_with fail
  refine halk.mono ?_
  rintro e W5 ⟨rfl, F5⟩
  have hP5 := Lib.hid (hP4.out.fr0 F5)
  have hU5 := Lib.hid (hU4.out.fr0 F5)
  have f5 := Lib.hid (f4.out.trans F5)
  clear halk F5
  cases r with
  | true =>
    go_wp2_with fail
    go_ret
    exact ⟨rfl, f5.out⟩
  | false =>
    have hdf := diff_t W5 _ _ t u l l2 hP5.out.1 hU5.out.1 hG.out hG2.out hr.out
    go_wp2_with fail
    refine hdf.mono ?_
    rintro e W6 ⟨v6, rfl, O6, F6, R6⟩
    obtain ⟨A6, c6, rfl, hA6⟩ := O6.form
    have hml := (mrg_perm hG.out.rising hG2.out.rising).length_eq
    have hml2 := dfN_length l l2
    have hcomm := Lib.hid (risingN_ext (mrg_rising hG.out.rising hG2.out.rising) (mrg_rising hG2.out.rising hG.out.rising) ((mrg_perm hG.out.rising hG2.out.rising).trans ((dfN_comm hG.out.rising hG2.out.rising).trans (mrg_perm hG2.out.rising hG.out.rising).symm)))
    have hP6 := Lib.hid (hP5.out.fr0 F6)
    have hU6 := Lib.hid (hU5.out.fr0 F6)
    have f6 := Lib.hid (f5.out.trans F6)
    have hrdf := rdiffer_t W6 A1 A5 n1 n5 c1 c5 l l2 hP6.out.rd.1 hn1 hU6.out.rd.1 hn5 (by omega) (by omega)
    obtain ⟨ms, hms⟩ : ∃ z, Hid (mrg l l2 = z) := ⟨_, Lib.hid rfl⟩
    rw [hms.out] at O6 hml hcomm hrdf ⊢
    obtain ⟨q, hq⟩ : ∃ z, Hid (ms.length = z) := ⟨_, Lib.hid rfl⟩
    rw [hq.out] at O6 hml ⊢
    have O6h := Lib.hid O6
    have hqmax : q ≤ 1048576 := by omega
    clear hdf F6 R6 hA6 O6 hml hml2
    go_wp2_with fail
    refine hrdf.mono ?_
    rintro e W7 ⟨v7, rfl, O7, F7, R7⟩
    obtain ⟨A7, c7, rfl, hA7⟩ := O7.form
    rw [hq.out] at O7 ⊢
    have hP7 := Lib.hid (hP6.out.fr0 F7)
    have hU7 := Lib.hid (hU6.out.fr0 F7)
    have O67 := Lib.hid (O6h.out.fr F7 (by simp))
    have f7 := Lib.hid (f6.out.trans F7)
    have hsm := rsames_t W7 A6 A7 q c6 c7 ms O67.out.rd hq.out O7.rd hqmax
    clear hrdf F7 R7 hA7 O7
    go_wp2_with fail
    refine hsm.mono ?_
    rintro e W8 ⟨rfl, F8⟩
    have hP8 := Lib.hid (hP7.out.fr0 F8)
    have hU8 := Lib.hid (hU7.out.fr0 F8)
    have O68 := Lib.hid (O67.out.fr F8 (by simp))
    have f8 := Lib.hid (f7.out.trans F8)
    have hdf2 := diff_t W8 _ _ u t l2 l hU8.out.1 hP8.out.1 hG2.out hG.out (by rw [alk_symm]; exact hr.out)
    rw [← hcomm.out] at hdf2
    clear hsm F8
    go_wp2_with fail
    refine hdf2.mono ?_
    rintro e W9 ⟨v9, rfl, O9, F9, R9⟩
    obtain ⟨A9, c9, rfl, hA9⟩ := O9.form
    rw [hq.out] at O9 ⊢
    have O69 := Lib.hid (O68.out.fr F9 (by simp))
    have f9 := Lib.hid (f8.out.trans F9)
    have hsm := rsames_t W9 A9 A6 q c9 c6 ms O9.rd hq.out O69.out.rd hqmax
    clear hdf2 F9 R9 hA9 O9
    go_wp2_with (go_at_call 31; refine hsm.mono ?_; rintro e WA ⟨rfl, FA⟩)
    go_ret
    exact ⟨rfl, f9.out.trans FA⟩
end Go.Proofs.Ytlhkkffljjbdmaa
