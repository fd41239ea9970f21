/- Walk: the document's: may a command be?, all kinds. Conditions: each theorem's own. -/
import Derived.Test.YtdeoinjjphdbmaaGreatJo
import Derived.Test.YtdeoinjjphdbmaaGreatJp
import Derived.Test.YtdeoinjjphdbmaaGreatJq
namespace Go.Proofs.YtdeoinjjphdbmaaGreat
open Go.RowKit Go.Sig

set_option maxRecDepth 100000 in
set_option maxHeartbeats 2000000 in
theorem rmay_out (w : World) (c : GCmd) (A : Option Addr) (n d : Nat) (hk : c.kind < 1 ∨ 7 < c.kind) : Calls Tryz.prog 23 #[.agg (cmdV c A n d)] w fun e w' => e = .returned (.bool (mayM c)) ∧ Fr [] w w' := by
  have hv := Lib.hid (show mayM c = false from mayM_no (fun r => by have := r.lo; have := r.hi; omega))
  obtain ⟨k, hkd⟩ : ∃ z, Hid (c.kind = z) := ⟨_, Lib.hid rfl⟩
  rw [hkd.out] at hk
  have hkh := Lib.hid hk
  clear hk
  unfold cmdV
  go_enter Tryz.func23, Tryz.ntmps23
  go_upto_region 1 with (fail)
  refine wp_gen (fun W => Blk W w.heap.size 30 (cmdV c A n d) ∧ Fr [] w W) ⟨Blk.new _ _ _, (Fr.refl _ _).alloc _⟩ ?_
  rintro W0 ⟨hC, f0⟩
  obtain ⟨gc, HGC⟩ : ∃ z, Hid (w.heap.size = z) := ⟨_, Lib.hid rfl⟩
  rw [HGC.out] at hC ⊢
  have F0 := Lib.hid f0
  obtain ⟨c0, c1, c2, c3, c4, c5, c6, c7, c8, c9, c10, c11, c12, hgl⟩ := cmdV_cells hC
  rw [hkd.out] at c0
  clear hC f0
  by_cases h1 : k < 1
  · have d1 : decide (k < 1) = true := decide_eq_true h1
    clear h1
    go_wp2_with fail
    go_ret
    exact ⟨ret_eq hv.out.symm, F0.out⟩
  · have d1 : decide (k < 1) = false := decide_eq_false h1
    have d2 : decide (7 < k) = true := decide_eq_true (by have := hkh.out; omega)
    clear h1
    go_wp2_with fail
    go_ret
    exact ⟨ret_eq hv.out.symm, F0.out⟩
/-- The document's May. -/
theorem rmay17_t (w : World) (c : GCmd) (A : Option Addr) (n d : Nat) (hS : Rd w 1 A n (strCells c.scope)) (hn : c.scope.length = n) (hl : n ≤ 150000000000000) (hs : ∀ s ∈ c.scope, s.size ≤ 150000000000000) (hfam : c.family.size ≤ 150000000000000) :
    Calls Tryz.prog 23 #[.agg (cmdV c A n d)] w fun e w' => e = .returned (.bool (mayM c)) ∧ Fr [] w w' := by
  by_cases ho : c.kind < 1 ∨ 7 < c.kind
  · exact rmay_out w c A n d ho
  · have hk : c.kind = 1 ∨ c.kind = 2 ∨ c.kind = 3 ∨ c.kind = 4 ∨ c.kind = 5 ∨ c.kind = 6 ∨ c.kind = 7 := by omega
    rcases hk with h | h | h | h | h | h | h
    · exact rmay_1 w c A n d hS hn hl hs hfam h
    · exact rmay_2 w c A n d hS hn hl hs hfam h
    · exact rmay_3 w c A n d hS hn hl hs hfam h
    · exact rmay_4 w c A n d hS hn hl hs hfam h
    · exact rmay_5 w c A n d hS hn hl hs hfam h
    · exact rmay_6 w c A n d hS hn hl hs hfam h
    · exact rmay_7 w c A n d hS hn hl hs hfam h
end Go.Proofs.YtdeoinjjphdbmaaGreat
