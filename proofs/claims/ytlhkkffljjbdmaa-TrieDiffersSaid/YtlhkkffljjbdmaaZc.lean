/- Walks: the library's sort at names; Diff; names alike. Conditions: each theorem's own. -/
import Derived.Test.YtlhkkffljjbdmaaZb
import Derived.Test.YtlhkkffljjbdmaaWb
import Derived.Test.YtlhkkffljjbdmaaSy
import Derived.Shelf.Sort.Plain
import Derived.Sort.OwnSorted
namespace Go.Proofs.Ytlhkkffljjbdmaa
open Go.RowKit Go.Sig

def lst (s : ByteArray) : List UInt8 := s.data.toList
theorem encStr_lst (s : ByteArray) : encStr (lst s) = .string s := by
  unfold lst
  simp [encStr]
theorem map_lst (l : List ByteArray) : (l.map lst).map encStr = strCells l := by
  rw [List.map_map]
  unfold strCells
  exact List.map_congr_left fun s _ => encStr_lst s
theorem bl_lst (a b : ByteArray) : bl a b = decide (lst a < lst b) := by
  unfold bl lst
  rw [bytesLess_eq, Lib.toList_data, Lib.toList_data]
theorem sorted_names {ls ms : List ByteArray} (hp : ls.Perm ms) (h : RisingN ms) : (ls.map lst).mergeSort (fun x y => decide (x ≤ y)) = ms.map lst := by
  have tr : ∀ a b c : List UInt8, decide (a ≤ b) = true → decide (b ≤ c) = true → decide (a ≤ c) = true := fun a b c h1 h2 => by
    simp only [decide_eq_true_eq] at *
    exact List.le_trans h1 h2
  have tt : ∀ a b : List UInt8, (decide (a ≤ b) || decide (b ≤ a)) = true := fun a b => by
    simp only [Bool.or_eq_true, decide_eq_true_eq]
    exact List.le_total a b
  refine List.Perm.eq_of_pairwise (le := fun (a b : List UInt8) => decide (a ≤ b) = true) (fun a b _ _ h1 h2 => ?_) (List.pairwise_mergeSort tr tt _) (List.pairwise_map.2 (h.imp ?_)) ((List.mergeSort_perm _ _).trans (hp.map lst))
  · simp only [decide_eq_true_eq] at h1 h2
    exact List.le_antisymm h1 h2
  · intro a b hab
    rw [bl_lst] at hab
    simp only [decide_eq_true_eq] at *
    exact List.le_of_lt hab
theorem sortS_t (w : World) (v : Value) (n : Nat) (ls ms : List ByteArray) (hO : Own w 9 1 v n (strCells ls)) (hn : ls.length = n) (hp : ls.Perm ms) (hms : RisingN ms) (hmax : n ≤ 1048576) :
    Calls Try.prog 54 #[v] w fun e w' => e = .returned (.tuple #[]) ∧ Own w' 9 1 v n (strCells ms) ∧ Fr (rowOf v) w w' := by
  rcases hO.2 with ⟨rfl, rfl⟩ | ⟨g, cap, cur, rfl, hbs, hh, hnc, hcm, hcs, htk⟩
  · have e : ls = [] := List.eq_nil_of_length_eq_zero hn
    subst e
    have e : ms = [] := List.eq_nil_of_length_eq_zero hp.length_eq.symm
    subst e
    exact (sortS0_t w none 0).mono fun e w' ⟨he, hw⟩ => ⟨he, by rw [hw]; exact hO, by rw [hw]; exact Fr.refl _ _⟩
  · have hB : Blk w g 9 cur := hh
    have hcell : ∀ t, t < n → cur[t]? = (strCells ls)[t]? := fun t ht => by
      rw [← htk, List.getElem?_take_of_lt (by omega), Array.getElem?_toList]
    have hH : Go.Sort.Holds encStr w g 0 (ls.map lst).toArray := by
      intro t ht
      have ht' : t < ls.length := by simpa using ht
      refine ⟨?_, hB.frozen _⟩
      rw [Nat.zero_add, hB.cell, hcell t (by omega)]
      unfold strCells
      rw [List.getElem?_map, List.getElem?_eq_getElem ht', getElem!_pos (ls.map lst).toArray t ht]
      simp [encStr_lst]
    have hcon := Any.slices_Sort_string Try.sortStrs g 0 cap (ls.map lst) w hH hB.lt (by simp; omega)
    have e : (ls.map lst).length = n := by simpa using hn
    rw [e, sorted_names hp hms] at hcon
    refine Calls.mono (show Calls Try.prog 54 _ _ _ from hcon) ?_
    rintro e' w' ⟨rfl, q, os, rfl⟩
    refine ⟨rfl, ?_, ?_⟩
    · have := Go.ownsRow_sorted (w := w) (base := 0) (g := g) (cap := cap) (n := q) (e := 9) (os := os) (cur := cur) (ss := ls.map lst) (ts := ms.map lst) (by simp [hp.length_eq]) (Nat.zero_le _) hh (by simp; omega) hcm hcs
      rw [e, map_lst] at this
      exact this
    · have hgl := hB.lt
      refine ⟨rfl, rfl, rfl, ?_, fun i hi hn => ?_⟩
      · show w.heap.size ≤ (w.heap.modify g _ ++ os).size
        simp
      · show (w.heap.modify g _ ++ os)[i]? = _
        rw [Array.getElem?_append_left (by simpa using hi), Array.getElem?_modify, if_neg]
        rintro rfl
        exact hn (by simp [rowOf, Value.ownBlock])

/-- Names in a row of their own. -/
def SRow (w : World) (ms : List ByteArray) (e : Ending) (w' : World) : Prop := ∃ v, e = .returned v ∧ Own w' 9 1 v ms.length (strCells ms) ∧ Fr [] w w' ∧ ∀ g, g ∈ rowOf v → w.heap.size ≤ g
set_option maxRecDepth 100000 in
set_option maxHeartbeats 1000000 in
theorem diff_t (w : World) (X Y : List Nat) (t u : Nat) (l m : List Pr) (hT : TrieIn w X t l) (hU : TrieIn w Y u m) (hG : Good l) (hG2 : Good m) (hal : alk 64 l m = false) :
    Calls Try.prog 30 #[.pointer (some ⟨t, 0, none⟩), .pointer (some ⟨u, 0, none⟩)] w (SRow w (mrg l m)) := by
  obtain ⟨p, hBt, hNt, _, _⟩ := hT
  obtain ⟨q, hBu, hNu, _, _⟩ := hU
  have ct := hBt.cell 0
  have cu := hBu.cell 0
  simp only [List.getElem?_toArray, List.getElem?_cons_zero] at ct cu
  have htl := hBt.lt
  have hul := hBu.lt
  have h1 := hG.few
  have h2 := hG2.few
  have hdf := differ_t 64 w [] l m p q (.slice none 0 0) [] (hNt.go (S := []) ⟨Fr.refl _ _, by simp, by simp⟩) (hNu.go (S := []) ⟨Fr.refl _ _, by simp, by simp⟩) (Own.nil _ _ _) (by simp [rowOf, Value.ownBlock]) hG.rising hG2.rising hal (by simp; omega)
  have hmp := Lib.hid (mrg_perm hG.rising hG2.rising)
  have hmr := Lib.hid (mrg_rising hG.rising hG2.rising)
  have hml := dfN_length l m
  clear hNt hNu hBt hBu
  go_enter Try.func30, Try.ntmps30
  go_wp2_with fail
  refine hdf.mono ?_
  rintro e W1 ⟨v1, ds, rfl, hds, O1, F1, R1⟩
  rw [List.nil_append] at O1
  have f1 : Fr [] w W1 := by simpa [rowOf, Value.ownBlock] using F1
  have hrow : Hid (∀ g, g ∈ rowOf v1 → w.heap.size ≤ g) := Lib.hid (fun g hg => by
    rcases R1 g hg with h | h
    · simp [rowOf, Value.ownBlock] at h
    · exact h)
  have hlen : ds.length = (mrg l m).length := by rw [hds.length_eq, hmp.out.length_eq]
  have hsort := sortS_t W1 v1 ds.length ds (mrg l m) O1 rfl (hds.trans hmp.out.symm) hmr.out (by rw [hds.length_eq]; omega)
  rw [hlen] at hsort
  have f1h := Lib.hid f1
  clear hdf F1 R1 O1 f1 hds ct cu
  go_wp2_with (go_at_call 54; refine hsort.mono ?_; rintro e W2 ⟨rfl, O2, F2⟩)
  go_ret
  exact ⟨v1, rfl, O2, f1h.out.andThen F2 (fun x hx => .inr (hrow.out x hx)), hrow.out⟩

set_option maxRecDepth 100000 in
set_option maxHeartbeats 2000000 in
theorem rsames_t (w : World) (A B : Option Addr) (n c d : Nat) (a : List ByteArray) (hA : Rd w 1 A n (strCells a)) (hn : a.length = n) (hB : Rd w 1 B n (strCells a)) (hmax : n ≤ 1048576) :
   Calls Try.prog 31 #[.slice A n c, .slice B n d] w fun e w' => e = .returned (.bool true) ∧ Fr [] w w' := by
  go_enter Try.func31, Try.ntmps31
  go_wp2_with fail
  go_loopg [5] (n + 1) (fun gk s5 wr => ∃ (i : Nat), s5 = .int .i64 i ∧ i ≤ n ∧ n - i < gk ∧ Fr [] w wr)
  case atStart => exact ⟨0, rfl, by omega, by omega, Fr.refl _ _⟩
  case round =>
    obtain ⟨i, rfl, hi, hk, hF⟩ := hrel
    have hFh := Lib.hid hF
    by_cases hlt : i < n
    · have hlt' : (i : Int) < n := by omega
      have hlth := Lib.hid hlt
      have ha' : i < a.length := by omega
      have hAr := Rd.fr hA hF (by simp [Off])
      have hBr := Rd.fr hB hF (by simp [Off])
      obtain ⟨ba, oa, rfl, hcella⟩ := hAr.2 (by omega)
      obtain ⟨bb, ob, rfl, hcellb⟩ := hBr.2 (by omega)
      have hpa : (strCells a)[i]? = some (.string a[i]) := by unfold strCells; rw [List.getElem?_map, List.getElem?_eq_getElem ha']; rfl
      have cn := hcella _ _ hpa
      have dn := hcellb _ _ hpa
      clear hpa hcella hcellb hA hB hAr hBr hF
      obtain ⟨y, hy⟩ : ∃ z, Hid (a[i] = z) := ⟨_, Lib.hid rfl⟩
      rw [hy.out] at cn dn
      have h1 := toList_beq y y
      rw [decide_eq_true rfl] at h1
      go_upto_region 6 with (fail)
      go_quiet (fail)
      go_wp2
      go_roundg (n - i)
      case measure => omega
      case rel => exact ⟨i + 1, by go_num, by have := hlth.out; omega, by have := hlth.out; omega, hFh.out.drewN _⟩
    · have hin : i = n := by omega
      have hge : ¬ (i : Int) < n := by omega
      clear hlt hk hF
      go_wp2
      go_ret
      exact ⟨rfl, hFh.out⟩
end Go.Proofs.Ytlhkkffljjbdmaa
