/- Walks: sets, their texts, what is within; texts alike; sets that aren't too great. Conditions: each theorem's own. -/
import Derived.Test.YtdeoinjjphdbmaaGreatGj
namespace Go.Proofs.YtdeoinjjphdbmaaGreat
open Go.RowKit Go.Sig

theorem sset_t (w : World) (B : Option Addr) (m d : Nat) (ls : List ByteArray) (hB : Rd w 1 B m (strCells ls)) (hm : ls.length = m) (hmax : m ≤ 1000000) (hs : ∀ s ∈ ls, s.size ≤ 150000000000000) :
    Calls Tryz.prog 74 #[.slice B m d] w (SRow w (setOf ls)) := by
  have hF : Fr [] w (w.alloc (.cells #[.slice B m d] 28)) := (Fr.refl _ _).alloc _
  have hb := both_t (w.alloc (.cells #[.slice B m d] 28)) w.heap.size B m d ls (by rw [(Blk.new w 28 #[.slice B m d]).cell]; rfl) (Rd.fr hB hF (by simp [Off])) hm hmax hs
  have hFh := Lib.hid hF
  clear hB hs hF
  go_enter Tryz.func74, Tryz.ntmps74
  go_wp2_with (go_at_call 98; refine hb.mono ?_; rintro e W1 ⟨v, rfl, O1, F1, R1⟩)
  go_ret
  exact ⟨v, rfl, O1, hFh.out.trans F1, fun g hg => Nat.le_trans hFh.out.size (R1 g hg)⟩
theorem tail_len : ∀ (r : List ByteArray), (Lib.joinTail [32] (r.map (·.data.toList))).length = (r.map fun s => s.size).sum + r.length
  | [] => rfl
  | x :: r => by
    have ih := tail_len r
    unfold Lib.joinTail at ih ⊢
    simp only [List.map_cons, List.flatten_cons, List.length_append, List.sum_cons, List.length_cons, ih]
    have : x.data.toList.length = x.size := Array.length_toList
    simp only [List.length_nil]
    omega
theorem join_len (xs : List ByteArray) : (Lib.join (xs.map (·.data.toList)) [32]).length = (xs.map fun s => s.size).sum + (xs.length - 1) := by
  cases xs with
  | nil => rfl
  | cons x r =>
    rw [List.map_cons, Lib.join_cons, List.length_append, tail_len, List.map_cons, List.sum_cons, List.length_cons]
    have : x.data.toList.length = x.size := Array.length_toList
    omega
theorem sum_le : ∀ (xs : List ByteArray) (k : Nat), (∀ x ∈ xs, x.size ≤ k) → (xs.map fun s => s.size).sum ≤ xs.length * k
  | [], k, _ => by simp
  | x :: xs, k, h => by
    rw [List.map_cons, List.sum_cons, List.length_cons, Nat.add_mul, Nat.one_mul]
    have h1 := sum_le xs k (fun y hy => h y (List.mem_cons_of_mem _ hy))
    have h2 := h x (by simp)
    omega
theorem isWord_size {s : ByteArray} (h : isWord s = true) : 1 ≤ s.size ∧ s.size ≤ 64 := by
  unfold isWord at h
  simp only [Bool.and_eq_true, decide_eq_true_eq] at h
  exact ⟨h.1.2, h.2⟩
theorem setOf_length (ls : List ByteArray) : (setOf ls).length ≤ ls.length := (risN_nodup (setOf_rising ls)).length_le_of_subset (fun _x hx => (mem_setOf.1 hx).1)
theorem print_le (ls : List ByteArray) : printLen ls ≤ ls.length * 65 := by
  unfold printLen
  have h1 := sum_le (setOf ls) 64 (fun x hx => (isWord_size (mem_setOf.1 hx).2).2)
  have h2 := setOf_length ls
  have h3 : (setOf ls).length * 64 ≤ ls.length * 64 := Nat.mul_le_mul_right _ h2
  omega
theorem sprint_t (w : World) (B : Option Addr) (m d : Nat) (ls : List ByteArray) (hB : Rd w 1 B m (strCells ls)) (hm : ls.length = m) (hmax : m ≤ 1000000) (hs : ∀ s ∈ ls, s.size ≤ 150000000000000) :
    Calls Tryz.prog 75 #[.slice B m d] w fun e w' => ∃ s : ByteArray, e = .returned (.string s) ∧ s.size = printLen ls ∧ Fr [] w w' := by
  have hF : Fr [] w (w.alloc (.cells #[.slice B m d] 28)) := (Fr.refl _ _).alloc _
  have hb := both_t (w.alloc (.cells #[.slice B m d] 28)) w.heap.size B m d ls (by rw [(Blk.new w 28 #[.slice B m d]).cell]; rfl) (Rd.fr hB hF (by simp [Off])) hm hmax hs
  have hFh := Lib.hid hF
  have hpl := Lib.hid (show (Lib.join ((setOf ls).map (·.data.toList)) [32]).length = printLen ls from join_len (setOf ls))
  have hple := print_le ls
  have hsl := setOf_length ls
  obtain ⟨q, hq⟩ : ∃ z, Hid (setOf ls = z) := ⟨_, Lib.hid rfl⟩
  rw [hq.out] at hb hpl hsl
  clear hB hs hF
  go_enter Tryz.func75, Tryz.ntmps75
  go_wp2_with fail
  refine hb.mono ?_
  rintro e W1 ⟨v, rfl, O1, F1, R1⟩
  rcases O1.2 with ⟨rfl, h0⟩ | ⟨g, cap, cur, rfl, hbs, hh, hnc, hcm, hcs, htk⟩
  · have e0 : q = [] := List.eq_nil_of_length_eq_zero h0
    rw [e0] at hpl
    have hj := Tryz.strings_Join_none none 0 ⟨#[32]⟩ W1
    clear hb
    go_wp2_with (go_at_call 99; refine hj.mono ?_; rintro e w' ⟨rfl, rfl⟩)
    go_ret
    exact ⟨_, rfl, hpl.out, hFh.out.trans F1⟩
  · have hgl : g < W1.heap.size := lt_of_heap hh
    have hcells := O1.rd
    have hj := Tryz.strings_Join g 0 cap q ⟨#[32]⟩ W1 (fun j x hx => by
      obtain ⟨b, o, e, hc⟩ := hcells.2 (by
        have := (List.getElem?_eq_some_iff.1 hx).1
        omega)
      injection e with e
      injection e with e1 e2
      subst e1 e2
      exact hc j _ (by unfold strCells; rw [List.getElem?_map, hx]; rfl)) hgl (by omega) hnc (by
        rw [show ((⟨#[32]⟩ : ByteArray).data.toList) = [32] from rfl, hpl.out]
        omega)
    clear hb
    go_wp2_with (go_at_call 99; refine hj.mono ?_; rintro e w' ⟨rfl, hbel⟩)
    go_ret
    refine ⟨_, rfl, ?_, hFh.out.trans (F1.trans (Fr.of_below hbel))⟩
    show (Lib.join _ _).toArray.size = _
    rw [List.size_toArray]
    exact hpl.out
end Go.Proofs.YtdeoinjjphdbmaaGreat
