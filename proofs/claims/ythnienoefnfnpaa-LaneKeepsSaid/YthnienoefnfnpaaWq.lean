/- The walk of Apart: lists whose rows lie apart (each of one array, whole) are found to. Conditions: the theorem's own. -/
import Derived.Test.YthnienoefnfnpaaWp
import Derived.Lib.Hide
namespace Go.Proofs.Ythnienoefnfnpaa
open Go.RowKit Go.Sig

def adOf (r : Option Nat × Nat × Nat) : Option Addr := r.1.map fun g => ⟨g, 0, none⟩
def RowIn (w : World) (r : Option Nat × Nat × Nat) : Prop := r.2.2 ≠ 0 → ∃ g cur, r.1 = some g ∧ Blk w g 5 cur ∧ cur.size = r.2.2
def Filled (w : World) (r : Option Nat × Nat × Nat) (x : Nat) : Prop := r.2.2 ≠ 0 → ∃ g cur, r.1 = some g ∧ Blk w g 5 cur ∧ cur.size = r.2.2 ∧ ∀ k, k < r.2.2 → cur[k]? = some (.int .u8 x)
def blocksOf (rs : List (Option Nat × Nat × Nat)) : List Nat := rs.filterMap (·.1)
theorem RowIn.fr {w w' : World} {S : List Nat} {r : Option Nat × Nat × Nat} (h : RowIn w r) (hf : Fr S w w') (hS : ∀ g, r.1 = some g → g ∉ S) : RowIn w' r := fun hc => by
  obtain ⟨g, cur, e, hB, hs⟩ := h hc
  exact ⟨g, cur, e, hB.fr hf (hS g e), hs⟩
theorem Filled.fr {w w' : World} {S : List Nat} {r : Option Nat × Nat × Nat} {x : Nat} (h : Filled w r x) (hf : Fr S w w') (hS : ∀ g, r.1 = some g → g ∉ S) : Filled w' r x := fun hc => by
  obtain ⟨g, cur, e, hB, hs, hx⟩ := h hc
  exact ⟨g, cur, e, hB.fr hf (hS g e), hs, hx⟩
theorem mem_blocks {rs : List (Option Nat × Nat × Nat)} {i g : Nat} (hi : i < rs.length) (e : rs[i].1 = some g) : g ∈ blocksOf rs := List.mem_filterMap.2 ⟨rs[i], List.getElem_mem hi, e⟩

theorem apart_t (ga cc : Nat) (rs : List (Option Nat × Nat × Nat)) (w : World) (hga : ga < w.heap.size) (hN : rs.length < 200)
   (hv : ∀ i (hi : i < rs.length), w.cell? ⟨ga, i, none⟩ = some (.slice (adOf rs[i]) rs[i].2.1 rs[i].2.2))
   (hR : ∀ i (hi : i < rs.length), RowIn w rs[i]) (hc : ∀ i (hi : i < rs.length), rs[i].2.2 ≤ 9223372036854775807)
   (hd : ∀ i j (hi : i < rs.length) (hj : j < rs.length) g, rs[i].1 = some g → rs[j].1 = some g → i = j) (hn : ga ∉ blocksOf rs) :
   Calls Try.prog 26 #[.slice (some ⟨ga, 0, none⟩) rs.length cc] w fun e w' => e = .returned (.bool true) ∧ Fr (blocksOf rs) w w' := by
  have cellOf : ∀ wr : World, Fr (blocksOf rs) w wr → ∀ i (hi : i < rs.length), wr.cell? ⟨ga, i, none⟩ = some (.slice (adOf rs[i]) rs[i].2.1 rs[i].2.2) := fun wr hF i hi => (hF.cell (p := ⟨ga, i, none⟩) hga hn).trans (hv i hi)
  clear hv
  have HC := Lib.hid cellOf
  clear cellOf
  go_enter Try.func26, Try.ntmps26
  go_wp2_with fail
  go_loopg [3] (rs.length + 1) (fun k s3 wr => ∃ i : Nat, s3 = .int .i64 i ∧ i ≤ rs.length ∧ rs.length - i < k ∧ Fr (blocksOf rs) w wr ∧ (∀ j (hj : j < rs.length), RowIn wr rs[j]) ∧ (∀ j (hj : j < rs.length), j < i → Filled wr rs[j] (j + 1)))
  case atStart => exact ⟨0, rfl, by omega, by omega, Fr.refl _ _, hR, fun j _ h => absurd h (by omega)⟩
  case round =>
    obtain ⟨i, rfl, hi, hk, hF, hRi, hFi⟩ := hrel
    by_cases hil : i < rs.length
    · have hcell := HC.out _ hF i hil
      have hwr : IntKind.u8.wrap ((i : Int) + 1) = (i : Int) + 1 := by rw [IntKind.wrap_u8']; omega
      by_cases hc0 : rs[i].2.2 = 0
      · rw [hc0] at hcell
        generalize hA : adOf rs[i] = A at hcell
        clear hA
        generalize hn0 : rs[i].2.1 = n0 at hcell
        clear hn0
        go_wp2_with fail
        go_quiet (fail)
        go_wp2_with fail
        go_loopg [5] 1 (fun k s5 wi => s5 = .int .i64 0 ∧ Fr [] wr wi ∧ 0 < k)
        case atStart => exact ⟨rfl, (Fr.refl _ _).drewN _, by omega⟩
        case round =>
          obtain ⟨rfl, hFw, _⟩ := hrel
          go_wp2
          go_roundg (rs.length - i)
          case measure => omega
          case rel =>
            refine ⟨i + 1, by go_num, by omega, by omega, hF.trans hFw.nil, fun j hj => (hRi j hj).fr hFw (by simp), fun j hj hji => ?_⟩
            by_cases hij : j = i
            · subst hij
              exact fun h => absurd hc0 h
            · exact (hFi j hj (by omega)).fr hFw (by simp)
      · obtain ⟨g, cur, hg, hB, hsz⟩ := hRi i hil hc0
        have hci := hc i hil
        have had : adOf rs[i] = some ⟨g, 0, none⟩ := by unfold adOf; rw [hg]; rfl
        rw [had] at hcell
        have hgm := mem_blocks hil hg
        generalize hcc : rs[i].2.2 = c at hcell hsz hc0 hci
        generalize hn0 : rs[i].2.1 = n0 at hcell
        clear hn0 had
        go_wp2_with fail
        go_quiet (fail)
        go_wp2_with fail
        go_loopg [5] (c + 1) (fun k s5 wi => ∃ (q : Nat) (cu : Array Value), s5 = .int .i64 q ∧ q ≤ c ∧ c - q < k ∧ Blk wi g 5 cu ∧ cu.size = c ∧ (∀ m, m < q → cu[m]? = some (.int .u8 ((i + 1 : Nat) : Int))) ∧ Fr [g] wr wi)
        case atStart => exact ⟨0, cur, rfl, by omega, by omega, hB.drewN _, hsz, fun m h => absurd h (by omega), (Fr.refl _ _).drewN _⟩
        case round =>
          clear hB hsz
          obtain ⟨q, cu, rfl, hq, hqk, hB, hsz, hpre, hFw⟩ := hrel
          by_cases hql : q < c
          · have hcq : wr.cell? ⟨g, q, none⟩ = some cu[q] := by rw [hB.cell]; exact Array.getElem?_eq_getElem (by omega)
            have hz := hB.frozen q
            have hgl := hB.lt
            go_wp2
            go_roundg (c - q)
            case measure => omega
            case rel =>
              refine ⟨q + 1, _, by go_num, by omega, by omega, hB.set q (.int .u8 ((i + 1 : Nat) : Int)), by simpa using hsz, fun m hm => ?_, hFw.setCell (.inl (by simp)) _⟩
              rw [Array.getElem?_setIfInBounds]
              by_cases hqm : q = m
              · subst hqm
                rw [if_pos rfl, if_pos (by omega)]
              · rw [if_neg hqm]
                exact hpre m (by omega)
          · obtain rfl : q = c := by omega
            go_wp2
            go_roundg (rs.length - i)
            case measure => omega
            case rel =>
              have hot : ∀ j (hj : j < rs.length), j ≠ i → ∀ g', rs[j].1 = some g' → g' ∉ [g] := fun j hj hji g' e => by
                simp
                rintro rfl
                exact hji (hd j i hj hil _ e hg)
              refine ⟨i + 1, by go_num, by omega, by omega, hF.trans (hFw.mono (by simpa using hgm)), fun j hj => ?_, fun j hj hji => ?_⟩
              · by_cases hij : j = i
                · subst hij
                  exact fun _ => ⟨g, cu, hg, hB, by rw [hsz, hcc]⟩
                · exact (hRi j hj).fr hFw (hot j hj hij)
              · by_cases hij : j = i
                · subst hij
                  exact fun _ => ⟨g, cu, hg, hB, by rw [hsz, hcc], fun k hk => hpre k (by omega)⟩
                · exact (hFi j hj (by omega)).fr hFw (hot j hj hij)
    · obtain rfl : i = rs.length := by omega
      have hFi' : ∀ j (hj : j < rs.length), Filled wr rs[j] (j + 1) := fun j hj => hFi j hj hj
      clear hFi hRi
      go_wp2_with fail
      obtain ⟨W1, hW1⟩ : ∃ W1, W1 = wr := ⟨_, rfl⟩
      subst hW1
      go_loopg [6] (rs.length + 1) (fun k s6 wr => ∃ i : Nat, s6 = .int .i64 i ∧ i ≤ rs.length ∧ rs.length - i < k ∧ Fr [] W1 wr)
      case atStart => exact ⟨0, rfl, by omega, by omega, Fr.refl _ _⟩
      case round =>
        obtain ⟨i, rfl, hi, hk2, hF2⟩ := hrel
        by_cases hil : i < rs.length
        · have hcell := HC.out _ (hF.trans hF2.nil) i hil
          have hwr : IntKind.u8.wrap ((i : Int) + 1) = (i : Int) + 1 := by rw [IntKind.wrap_u8']; omega
          obtain ⟨W2, hW2⟩ : ∃ W2, W2 = wr := ⟨_, rfl⟩
          subst hW2
          by_cases hc0 : rs[i].2.2 = 0
          · rw [hc0] at hcell
            generalize hA : adOf rs[i] = A at hcell
            clear hA
            generalize hn0 : rs[i].2.1 = n0 at hcell
            clear hn0
            go_wp2_with fail
            go_quiet (fail)
            go_wp2_with fail
            go_loopg [8] 1 (fun k s5 wi => s5 = .int .i64 0 ∧ Fr [] W2 wi ∧ 0 < k)
            case atStart => exact ⟨rfl, (Fr.refl _ _).drewN _, by omega⟩
            case round =>
              obtain ⟨rfl, hFw, _⟩ := hrel
              go_wp2
              go_roundg (rs.length - i)
              case measure => omega
              case rel => exact ⟨i + 1, by go_num, by omega, by omega, hF2.trans hFw⟩
          · obtain ⟨g, cur, hg, hB, hsz, hx⟩ := (hFi' i hil).fr hF2 (by simp) hc0
            have hci := hc i hil
            have had : adOf rs[i] = some ⟨g, 0, none⟩ := by unfold adOf; rw [hg]; rfl
            rw [had] at hcell
            generalize hcc : rs[i].2.2 = c at hcell hsz hc0 hci hx
            generalize hn0 : rs[i].2.1 = n0 at hcell
            clear hn0 had
            have HX := Lib.hid hx
            clear hx
            go_wp2_with fail
            go_quiet (fail)
            go_wp2_with fail
            go_loopg [8] (c + 1) (fun k s8 wi => ∃ (q : Nat), s8 = .int .i64 q ∧ q ≤ c ∧ c - q < k ∧ Fr [] W2 wi)
            case atStart => exact ⟨0, rfl, by omega, by omega, (Fr.refl _ _).drewN _⟩
            case round =>
              obtain ⟨q, rfl, hq, hqk, hFw⟩ := hrel
              by_cases hql : q < c
              · have hB2 := hB.fr hFw (by simp)
                have hcq : wr.cell? ⟨g, q, none⟩ = some (.int .u8 ((i : Int) + 1)) := by rw [hB2.cell, HX.out q hql]; rfl
                have hgl := hB2.lt
                clear hB2
                go_wp2
                go_roundg (c - q)
                case measure => omega
                case rel => exact ⟨q + 1, by go_num, by omega, by omega, hFw⟩
              · obtain rfl : q = c := by omega
                go_wp2
                go_roundg (rs.length - i)
                case measure => omega
                case rel => exact ⟨i + 1, by go_num, by omega, by omega, hF2.trans hFw⟩
        · obtain rfl : i = rs.length := by omega
          go_wp2
          go_ret
          exact ⟨rfl, hF.trans hF2.nil⟩
end Go.Proofs.Ythnienoefnfnpaa
