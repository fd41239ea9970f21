/- Walks of the trie: what differs in tables with one digest; the sort of no names. Conditions: each theorem's own. -/
import Derived.Test.YtlhkkffljjbdmaaWa
namespace Go.Proofs.Ytlhkkffljjbdmaa
open Go.RowKit Go.Sig

set_option maxRecDepth 100000 in
theorem insertS0_t (w : World) (A : Option Addr) (c : Nat) : Calls Try.prog 97 #[.slice A 0 c, .int .i64 0, .int .i64 0] w fun e w' => e = .returned (.tuple #[]) ∧ w' = w := by
  go_enter Try.func97, Try.ntmps97
  go_wp2_with fail
  refine wp_loop_rounds 1 ?_
  rw [rounds_succ]
  go_wp2
  go_end0
  exact ⟨rfl, rfl⟩
set_option maxRecDepth 100000 in
theorem pdqS0_t (w : World) (A : Option Addr) (c : Nat) (b : Int) : Calls Try.prog 74 #[.slice A 0 c, .int .i64 0, .int .i64 0, .int .i64 b] w fun e w' => e = .returned (.tuple #[]) ∧ w' = w := by
  go_enter Try.func74, Try.ntmps74
  go_wp2_with fail
  refine wp_loop_rounds 1 ?_
  rw [rounds_succ]
  go_wp2_with (go_at_call 97; refine (insertS0_t _ _ _).mono ?_; rintro e w' ⟨rfl, rfl⟩)
  (try simp only [Exit.inBlock, Exit.then]); refine bodyPost_ret (results_none rfl _ _ _) rfl ?_
  exact ⟨rfl, rfl⟩
set_option maxRecDepth 100000 in
set_option maxHeartbeats 400000 in
theorem sortS0_t (w : World) (A : Option Addr) (c : Nat) : Calls Try.prog 54 #[.slice A 0 c] w fun e w' => e = .returned (.tuple #[]) ∧ w' = w := by
  go_enter Try.func54, Try.ntmps54
  go_wp2_with (first | (go_at_call 69; refine (len0_t _).mono ?_; rintro e w' ⟨rfl, rfl⟩) | (go_at_call 74; refine (pdqS0_t _ _ _ _).mono ?_; rintro e w' ⟨rfl, rfl⟩))
  go_end0
  exact ⟨rfl, rfl⟩
set_option maxRecDepth 100000 in
set_option maxHeartbeats 1000000 in
theorem differ_same (w : World) (X Y : List Nat) (f g : Nat) (l m : List Pr) (p q v : Value) (hN : NodeAt w X f l p) (hM : NodeAt w Y g m q) (hd : dig f l = dig g m) :
   Calls Try.prog 53 #[p, q, v] w fun e w' => e = .returned v ∧ Fr [] w w' := by
  have h1 := nsum_t w X f l p hN
  have h2 := fun (W : World) (hF : Fr [] w W) => nsum_t W Y g m q (hM.fr0 hF)
  have hl := dig_length g m
  rw [hd] at h1
  obtain ⟨D, HD⟩ : ∃ x, Hid (dig g m = x) := ⟨_, Lib.hid rfl⟩
  rw [HD.out] at h1 hl
  simp only [HD.out] at h2
  have heq := eql_dig D D hl hl
  rw [beq_self_eq_true] at heq
  have h2h := Lib.hid h2
  clear h2 hN hM hd
  go_enter Try.func53, Try.ntmps53
  go_wp2_with fail
  refine h1.mono ?_
  rintro e W1 ⟨rfl, F1⟩
  have h2 := h2h.out W1 F1
  unfold digCells at h2 ⊢
  clear h1
  go_wp2_with (go_at_call 45; refine h2.mono ?_; rintro e W2 ⟨rfl, F2⟩)
  go_ret
  exact ⟨rfl, F1.trans F2⟩
set_option maxRecDepth 100000 in
set_option maxHeartbeats 1000000 in
theorem diff_same (w : World) (X Y : List Nat) (t u : Nat) (l : List Pr) (hT : TrieIn w X t l) (hU : TrieIn w Y u l) :
   Calls Try.prog 30 #[.pointer (some ⟨t, 0, none⟩), .pointer (some ⟨u, 0, none⟩)] w fun e w' => e = .returned (.slice none 0 0) ∧ Fr [] w w' := by
  obtain ⟨p, hBt, hNt, _, _⟩ := hT
  obtain ⟨q, hBu, hNu, _, _⟩ := hU
  have ct := hBt.cell 0
  have cu := hBu.cell 0
  simp only [List.getElem?_toArray, List.getElem?_cons_zero] at ct cu
  have htl := hBt.lt
  have hul := hBu.lt
  have hdf := differ_same w X Y 64 64 l l p q (.slice none 0 0) hNt hNu rfl
  clear hNt hNu hBt hBu
  go_enter Try.func30, Try.ntmps30
  go_wp2_with fail
  refine hdf.mono ?_
  rintro e W1 ⟨rfl, F1⟩
  go_wp2_with (go_at_call 54; refine (sortS0_t _ _ _).mono ?_; rintro e w' ⟨rfl, rfl⟩)
  go_ret
  exact ⟨rfl, F1⟩
end Go.Proofs.Ytlhkkffljjbdmaa
