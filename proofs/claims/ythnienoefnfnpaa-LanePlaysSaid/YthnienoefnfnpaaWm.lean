/- Walks: Same of two slices of the same bytes, Room, Kept. Conditions: each theorem's own. -/
import Derived.Test.YthnienoefnfnpaaWj
namespace Go.Proofs.Ythnienoefnfnpaa
open Go.RowKit Go.Sig

theorem same1_t (A : Option Addr) (n c : Nat) (A2 : Option Addr) (n2 c2 : Nat) (l : List UInt8) (w : World) (h1 : Byts w A n l) (h2 : Byts w A2 n2 l) (h64 : n ≤ 9223372036854775807) :
   Calls Try.prog 25 #[.slice A n c, .slice A2 n2 c2] w fun e w' => e = .returned (.bool true) ∧ Fr [] w w' := by
  have hn : l.length = n := h1.length
  have hn2 : n2 = n := by have := h2.length; omega
  subst hn2
  go_enter Try.func25, Try.ntmps25
  go_wp2_with fail
  go_loopg [5] (n2 + 1) (fun k s5 wr => ∃ i : Nat, s5 = .int .i64 i ∧ i ≤ n2 ∧ n2 - i < k ∧ Fr [] w wr)
  case atStart => exact ⟨0, rfl, by omega, by omega, Fr.refl _ _⟩
  case round =>
    obtain ⟨i, rfl, hi, hk, hF⟩ := hrel
    by_cases hlt : i < n2
    · obtain ⟨x1, o1, rfl, l1, e1⟩ := byts_at (Rd.fr h1 hF (by simp [Off])) hlt
      obtain ⟨x2, o2, rfl, l2, e2⟩ := byts_at (Rd.fr h2 hF (by simp [Off])) hlt
      generalize ((l.getD i 0).toNat : Int) = x at e1 e2
      go_wp2_with fail
      go_quiet (fail)
      go_wp2
      go_roundg (n2 - i)
      case measure => omega
      case rel => exact ⟨i + 1, by go_num, by omega, by omega, hF.drewN _⟩
    · have hin : i = n2 := by omega
      subst hin
      go_wp2
      go_ret
      exact ⟨rfl, hF⟩

/-- A slice of bytes whose row is known: the bytes, and three of 77 behind. -/
def RoomAt (w : World) (g : Nat) (l : List UInt8) : Prop := Blk w g 5 ((l ++ [77, 77, 77]).map bv).toArray

theorem room_t (A : Option Addr) (n c : Nat) (l : List UInt8) (w : World) (h : Byts w A n l) (hA : A = none → n = 0) (hn : n ≤ 65544) :
   Calls Try.prog 21 #[.slice A n c] w fun e w' => ∃ g, e = .returned (.slice (some ⟨g, 0, none⟩) n (n + 3)) ∧ RoomAt w' g l ∧ Fr [] w w' ∧ w.heap.size ≤ g := by
  have hl := h.length
  obtain ⟨ti, hti, htz, hts, htb⟩ := info_parts t22.info
  obtain ⟨w1, hmk, ho, hg1⟩ := run_makeSlice_full (P := Try.prog) w 0 22 5 ti (.int .u8 0) 1 t22.ty hti htz hts .i64 .i64 (n + 3) (by omega) (by rw [htb]; omega) (by unfold maxLen; omega) (Nat.zero_le _)
  have hmk' : (Instr.makeSlice 22 (.int .i64 ((n : Int) + 3)) (.int .i64 ((n : Int) + 3))).run Try.prog w = .ok (.slice (some ⟨w.heap.size, 0, none⟩) (n + 3) (n + 3)) w1 := by simpa using hmk
  clear hmk
  have f1 : Fr [] w w1 := (Fr.refl _ _).grown hg1 (fun k hk => by cases hk)
  rcases ho.2 with ⟨hv, _⟩ | ⟨g, cp, cur, hv, _, hb, _, _, hcs, _⟩
  · cases hv
  injection hv with hv _ hcp
  injection hv with hv
  injection hv with hv _ _
  subst hv hcp
  have hcs' : cur.size = n + 3 := by omega
  have hglt := lt_of_heap hb
  have hr1 : Byts w1 A n l := Rd.fr h f1 (by simp [Off])
  clear ho hg1
  have hmin : Nat.min n (n + 3) = n := Nat.min_eq_left (by omega)
  have hcl : (l.map bv).length = Nat.min n (n + 3) * 1 := by rw [List.length_map, hl, hmin, Nat.mul_one]
  have hsrc : 0 < Nat.min n (n + 3) → ∃ a, A = some a ∧ ∀ j v, (l.map bv)[j]? = some v → w1.cell? (a.add j) = some v := by
    rw [hmin]
    intro hn0
    obtain ⟨b', o, hA', hc⟩ := hr1.2 hn0
    exact ⟨_, hA', fun j u hu => by rw [Addr.add_lit]; exact hc j u hu⟩
  have hfit : 0 + (l.map bv).length ≤ cur.size := by simp; omega
  go_enter Try.func21, Try.ntmps21
  go_wp2_with (refine wpList_copy_rows (elem := 5) (size := 1) (cs := l.map bv) rfl rfl rfl rfl t22.ty (by kernel_rfl) hb hcl hsrc hfit (bv_one l) ?_)
  refine wp_gen (fun W => ∃ cur1 : Array Value, Blk W w.heap.size 5 cur1 ∧ cur1.size = n + 3 ∧ (∀ j, j < n → cur1[j]? = some (bv (l.getD j 0))) ∧ Fr [] w W) ⟨_, setRow_heap w1 _ cur _ 5 _ hb, ?_, ?_, f1.andThen (Fr.setRow w1 w.heap.size _) (fun x hx => .inr (by simp at hx; omega))⟩ ?_
  · simp; omega
  · intro j hj
    simp [List.getElem?_append, hl, hj, List.getD, List.getElem?_eq_getElem (show j < l.length by omega)]
  clear hb hcl hsrc hfit hr1 hmk' hcs hcs' f1
  generalize hgw : w.heap.size = g at *
  rintro W ⟨cur1, hB, hsz, hpre, fW⟩
  go_loopg [4] (4) (fun k s4 wr => ∃ (i : Nat) (cu : Array Value), s4 = .int .i64 i ∧ n ≤ i ∧ i ≤ n + 3 ∧ n + 3 - i < k ∧ Blk wr g 5 cu ∧ cu.size = n + 3 ∧ (∀ j, j < n → cu[j]? = some (bv (l.getD j 0))) ∧ (∀ j, n ≤ j → j < i → cu[j]? = some (bv 77)) ∧ Fr [] w wr)
  case atStart => exact ⟨n, cur1, rfl, Nat.le_refl _, by omega, by omega, hB, hsz, hpre, fun j h1 h2 => by omega, fW⟩
  case round =>
    clear hB hsz hpre fW
    obtain ⟨i, cu, rfl, h1, h2, hk, hB, hsz, hpre, hpost, hF⟩ := hrel
    by_cases hil : i < n + 3
    · have hil' : (i : Int) < (n : Int) + 3 := by omega
      have hci : wr.cell? ⟨g, i, none⟩ = some cu[i] := by rw [hB.cell]; exact Array.getElem?_eq_getElem (by omega)
      have hz := hB.frozen i
      have hgl := hB.lt
      go_wp2
      go_roundg (n + 3 - i)
      case measure => omega
      case rel =>
        refine ⟨i + 1, _, by go_num, by omega, by omega, by omega, hB.set i (.int .u8 77), by simpa using hsz, fun j hj => ?_, fun j hj1 hj2 => ?_, hF.setCell (.inr (Nat.le_of_eq hgw)) _⟩
        · rw [Array.getElem?_setIfInBounds, if_neg (by omega)]
          exact hpre j hj
        · rw [Array.getElem?_setIfInBounds]
          by_cases hij : i = j
          · subst hij
            rw [if_pos rfl, if_pos (by omega)]
            rfl
          · rw [if_neg hij]
            exact hpost j hj1 (by omega)
    · obtain rfl : i = n + 3 := by omega
      have hd : ¬ n + 3 = 0 := by omega
      go_wp2
      go_ret
      refine ⟨g, rfl, ?_, hF, Nat.le_of_eq hgw⟩
      have : cu = ((l ++ [77, 77, 77]).map bv).toArray := by
        apply Array.ext_getElem?
        intro j
        by_cases hjn : j < n
        · rw [hpre j hjn]
          simp [List.getElem?_append, hl, hjn, List.getD, List.getElem?_eq_getElem (show j < l.length by omega)]
        · by_cases hj3 : j < n + 3
          · rw [hpost j (by omega) hj3]
            have : j - n = 0 ∨ j - n = 1 ∨ j - n = 2 := by omega
            simp only [List.map_append, List.getElem?_toArray]
            rw [List.getElem?_append_right (by simp; omega)]
            simp only [List.length_map, hl]
            rcases this with e | e | e <;> rw [e] <;> rfl
          · rw [Array.getElem?_eq_none (by omega), Array.getElem?_eq_none (by simp; omega)]
      unfold RoomAt
      rw [← this]
      exact hB
end Go.Proofs.Ythnienoefnfnpaa
