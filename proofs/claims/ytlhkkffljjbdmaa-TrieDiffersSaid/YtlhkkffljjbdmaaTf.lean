/- Walks of the library's sort at pairs. Conditions: each theorem's own. -/
import Derived.Test.YtlhkkffljjbdmaaTe
import Derived.Test.YtlhkkffljjbdmaaLy
import Derived.Shelf.SlSortCmp.WholeK
namespace Go.Proofs.Ytlhkkffljjbdmaa
open Go.RowKit Go.Sig

def encP (y : Pr) : List Value := [.string y.1, .string y.2]
def cfP (x y : Pr) : Int := cmpB x.1 y.1
theorem ltP (x y : Pr) : Go.Proofs.ltOf cfP x y = bl x.1 y.1 := cmpB_lt x.1 y.1
theorem swoP : Go.Sort.SWO (Go.Proofs.ltOf cfP) where
  irrefl x := by rw [ltP]; exact bl_irrefl _
  trans x y z h1 h2 := by rw [ltP] at *; exact bl_trans h1 h2
  ntrans x y z h1 h2 := by
    rw [ltP] at *
    cases h : bl x.1 z.1 with
    | false => rfl
    | true =>
      by_cases e : x.1 = y.1
      · rw [e, h2] at h; cases h
      · have h3 := (bl_total e).resolve_left (by rw [h1]; simp)
        have h4 := bl_trans h3 h
        rw [h2] at h4
        cases h4
theorem cmpLaysP (blk off size : Nat) (w : World) : Go.Proofs.CmpLays Try.prog 51 #[] encP 2 cfP blk off size w := fun _ _ _ _ x y =>
  (byName_t x y _).mono fun e w' ⟨he, o1, o2, hw⟩ => ⟨he, 0, #[o1, o2], by rw [hw, Go.Sort.alloc_eq_grow, Go.Sort.alloc_eq_grow, Go.Sort.grow_grow]; rfl⟩
/-- A list as the sort leaves it. -/
def Sorted (l : List Pr) : Prop := l.Pairwise fun a b => bl b.1 a.1 = false
theorem flatK_pairs (d : Array Pr) (t : Nat) (ht : t < d.size * 2) : (Go.Sort.flatK encP 2 d)[t]? = (pairCells d.toList)[t]? := by
  have h1 : t / 2 < d.toList.length := by simp; omega
  have hp := pairCells_at h1
  have e : (Go.Sort.flatK encP 2 d)[t]? = some ((encP d[t / 2]!)[t % 2]!) := by
    rw [← Go.Sort.get_flatK encP 2 d t ht, Array.getElem?_eq_getElem (by simpa using ht)]
    rw [getElem!_pos]
  rw [e, getElem!_pos d (t / 2) (by simpa using h1)]
  have hm : t % 2 = 0 ∨ t % 2 = 1 := by omega
  rcases hm with hm | hm
  · have et : t = t / 2 * 2 := by omega
    rw [hm, show (pairCells d.toList)[t]? = (pairCells d.toList)[t / 2 * 2]? by rw [← et], hp.1]
    simp [encP]
  · have et : t = t / 2 * 2 + 1 := by omega
    rw [hm, show (pairCells d.toList)[t]? = (pairCells d.toList)[t / 2 * 2 + 1]? by rw [← et], hp.2]
    simp [encP]
theorem sort_t (w : World) (v : Value) (n : Nat) (l : List Pr) (hO : Own w 66 2 v n (pairCells l)) (hn : l.length = n) (h0 : 0 < n) (hmax : n ≤ 1048576) :
    Calls Try.prog 50 #[v, .func (.func 51) #[] #[]] w fun e w' => e = .returned (.tuple #[]) ∧ ∃ l', l'.Perm l ∧ Sorted l' ∧ Own w' 66 2 v n (pairCells l') ∧ Fr (rowOf v) w w' := by
  rcases hO.2 with ⟨hv, hz⟩ | ⟨g, cap, cur, rfl, hbs, hh, hnc, hcm, hcs, htk⟩
  · omega
  have eg : ∀ args w, (callFunc 51 args).run Try.prog w = .ok (.enter 51 args) w := enters_of Try.func51 (by kernel_rfl) rfl
  have hB : Blk w g 66 cur := hh
  have hcell : ∀ t, t < n * 2 → cur[t]? = (pairCells l)[t]? := fun t ht => by
    rw [← htk, List.getElem?_take_of_lt ht, Array.getElem?_toList]
  have hH : Go.Sort.HoldsK encP 2 w g 0 l.toArray := by
    intro t ht
    simp only [Go.Sort.size_flatK, List.size_toArray] at ht
    refine ⟨?_, hB.frozen _⟩
    rw [Nat.zero_add, hB.cell, hcell t (by omega)]
    have := flatK_pairs l.toArray t (by simpa using ht)
    rw [← this, Array.getElem?_eq_getElem (by simpa using ht), getElem!_pos]
    rfl
  have hcon := AnyQ.slices_SortFunc Try.sortPairs 2 Try.isAgg66 Try.sizeOf66 encP (fun _ => rfl) (fun x u hu => by simp [encP] at hu; rcases hu with rfl | rfl <;> rfl) cfP swoP 51 #[] g 0 cap l.toArray w eg (cmpLaysP g 0 l.toArray.size w) hH hB.lt (by simp; omega)
  have e : l.toArray.size = n := by simpa using hn
  rw [e] at hcon
  refine Calls.mono (show Calls Try.prog 50 _ _ _ from hcon) ?_
  rintro e' w' ⟨rfl, d', m, os, hp, hs, rfl⟩
  refine ⟨rfl, d'.toList, ?_, ?_, ?_, ?_⟩
  · have := hp.2.2
    rw [show d'.extract 0 n = d' by rw [← e, ← hp.1]; simp, show l.toArray.extract 0 n = l.toArray by rw [← e]; simp] at this
    exact this
  · refine List.pairwise_iff_getElem.2 fun i j hi hj hij => ?_
    have hsz := hp.1
    simp only [Array.length_toList] at hi hj
    have := hs i j (Nat.zero_le _) hij (by omega)
    rw [ltP, getElem!_pos d' j hj, getElem!_pos d' i hi] at this
    simpa using this
  · have hsz : d'.size = n := by rw [hp.1, e]
    have hF : (Go.Sort.flatK encP 2 d').size = n * 2 := by rw [Go.Sort.size_flatK, hsz]
    refine ⟨by rw [pairCells_length, Array.length_toList, hsz], .inr ⟨g, cap, Go.Sort.putCells id 0 (Go.Sort.flatK encP 2 d') cur, rfl, hbs, ?_, hnc, hcm, by simp [Go.Sort.putCells, hcs], ?_⟩⟩
    · have hgl := hB.lt
      show (w.heap.modify g (Go.Sort.onCells (Go.Sort.putCells id 0 (Go.Sort.flatK encP 2 d'))) ++ os)[g]? = _
      rw [Array.getElem?_append_left (by simpa using hgl), Array.getElem?_modify, if_pos rfl, hh]
      rfl
    · apply List.ext_getElem?
      intro t
      by_cases ht : t < n * 2
      · rw [List.getElem?_take_of_lt ht, Array.getElem?_toList, ← flatK_pairs d' t (by rw [hsz]; exact ht)]
        have htc : t < cur.size := by
          have : n * 2 ≤ cap * 2 := Nat.mul_le_mul_right _ hnc
          omega
        simp only [Go.Sort.putCells, Array.getElem?_mapIdx, Array.getElem?_eq_getElem htc, Option.map_some, Nat.zero_le, true_and, Nat.zero_add, Nat.sub_zero, id]
        rw [if_pos (by omega), Array.getElem?_eq_getElem (by omega), getElem!_pos]
      · rw [List.getElem?_eq_none (by rw [List.length_take]; omega), List.getElem?_eq_none (by rw [pairCells_length, Array.length_toList, hsz]; omega)]
  · have hgl := hB.lt
    refine ⟨rfl, rfl, rfl, ?_, fun i hi hn => ?_⟩
    · show w.heap.size ≤ (w.heap.modify g _ ++ os).size
      simp
    · show (w.heap.modify g _ ++ os)[i]? = _
      rw [Array.getElem?_append_left (by simpa using hi), Array.getElem?_modify, if_neg]
      rintro rfl
      exact hn (by simp [rowOf, Value.ownBlock])
end Go.Proofs.Ytlhkkffljjbdmaa
