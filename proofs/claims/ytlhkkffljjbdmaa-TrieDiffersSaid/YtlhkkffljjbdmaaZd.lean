/- Walks of the reference's table: Differ. Conditions: each theorem's own. -/
import Derived.Test.YtlhkkffljjbdmaaZc
namespace Go.Proofs.Ytlhkkffljjbdmaa
open Go.RowKit Go.Sig

/-- Names under way, in a row of their own. -/
def SAcc (w wr : World) (s : Value) (ms : List ByteArray) : Prop :=
  ∃ A c, s = .slice A ms.length c ∧ Own wr 9 1 (.slice A ms.length c) ms.length (strCells ms) ∧ (∀ g, g ∈ rowOf (.slice A ms.length c) → w.heap.size ≤ g) ∧ Fr [] w wr
theorem SAcc.nil (w : World) : SAcc w w (.slice none 0 0) [] := ⟨none, 0, rfl, Own.nil _ _ _, by simp [rowOf, Value.ownBlock], Fr.refl _ _⟩
theorem SAcc.base {w wr : World} {s : Value} {ms : List ByteArray} (h : SAcc w wr s ms) : Fr [] w wr := by
  obtain ⟨A, c, _, h1, h2, h3⟩ := h
  exact h3
theorem SAcc.fr0 {w wr w2 : World} {s : Value} {ms : List ByteArray} (h : SAcc w wr s ms) (hF : Fr [] wr w2) : SAcc w w2 s ms := by
  obtain ⟨A, c, rfl, h1, h2, h3⟩ := h
  exact ⟨A, c, rfl, h1.fr hF (by simp), h2, h3.trans hF⟩
theorem SAcc.push {w wr w2 : World} {o : Obj} {A A2 : Option Addr} {c c2 n : Nat} {ms : List ByteArray} {y : ByteArray} (hn : ms.length = n) (hR : ∀ g, g ∈ rowOf (.slice A n c) → w.heap.size ≤ g) (hF : Fr [] w wr)
    (p1 : Own w2 9 1 (.slice A2 (n + 1) c2) (n + 1) (strCells ms ++ strCells [y])) (p2 : Fr (rowOf (.slice A n c)) (wr.alloc o) w2)
    (p3 : ∀ g, g ∈ rowOf (.slice A2 (n + 1) c2) → g ∈ rowOf (.slice A n c) ∨ g = (wr.alloc o).heap.size) : SAcc w w2 (.slice A2 (n + 1) c2) (ms ++ [y]) := by
  have hl : (ms ++ [y]).length = n + 1 := by simp [hn]
  refine ⟨A2, c2, by rw [hl], ?_, ?_, (hF.alloc _).andThen p2 (fun x hx => .inr (hR x hx))⟩
  · rw [hl, strCells_append]
    exact p1
  · rw [hl]
    exact fun g hg => (p3 g hg).elim (hR g) (fun e => by rw [e]; exact Nat.le_trans hF.size (by simp))
theorem SAcc.row {w wr : World} {s : Value} {ms : List ByteArray} (h : SAcc w wr s ms) : SRow w ms (.returned s) wr := by
  obtain ⟨A, c, rfl, h1, h2, h3⟩ := h
  exact ⟨_, rfl, h1, h3, h2⟩
theorem bless_eq {a b : ByteArray} : Op.bytesLess a.toList b.toList = bl a b := rfl

set_option maxRecDepth 100000 in
set_option maxHeartbeats 8000000 in
theorem rdiffer_t (w : World) (A B : Option Addr) (n m c d : Nat) (a b : List Pr) (hA : Rd w 2 A n (pairCells a)) (hn : a.length = n) (hB : Rd w 2 B m (pairCells b)) (hm : b.length = m) (hmax : n ≤ 1048576) (hmax2 : m ≤ 1048576) :
   Calls Try.prog 32 #[.slice A n c, .slice B m d] w (SRow w (mrg a b)) := by
  have hAh := Lib.hid hA
  have hBh := Lib.hid hB
  clear hA hB
  go_enter Try.func32, Try.ntmps32
  go_wp2_with fail
  go_loopg [5, 6, 7, 41, 75] (n + m + 1) (fun gk s5 s6 s7 s41 s75 wr => ∃ (i k : Nat) (ms : List ByteArray), s6 = .int .i64 i ∧ s7 = .int .i64 k ∧ i ≤ n ∧ k ≤ m ∧ (n - i) + (m - k) < gk ∧ SAcc w wr s5 ms ∧ ms.length ≤ i + k ∧ ms ++ mrg (a.drop i) (b.drop k) = mrg a b)
  case atStart => exact ⟨0, 0, [], rfl, rfl, by omega, by omega, by omega, SAcc.nil w, by simp, by simp⟩
  case round =>
    obtain ⟨i, k, ms, rfl, rfl, hi, hk, hgk, hS, hle, hmg⟩ := hrel
    have hmgh := Lib.hid hmg
    have hSh := Lib.hid hS
    have hF := Lib.hid hS.base
    obtain ⟨A2, c2, rfl, O2, R2, _⟩ := hS
    obtain ⟨n2, hn2⟩ : ∃ z, Hid (ms.length = z) := ⟨_, Lib.hid rfl⟩
    rw [hn2.out] at O2 R2 hle ⊢
    have R2h := Lib.hid R2
    have hcA := Lib.hid (fun (hlt : i < n) => show ∃ ba oa, A = some ⟨ba, oa, none⟩ ∧ wr.cell? ⟨ba, oa + i * 2, none⟩ = some (.string (a[i]'(by omega)).1) ∧ wr.cell? ⟨ba, oa + i * 2 + 1, none⟩ = some (.string (a[i]'(by omega)).2) by
      obtain ⟨ba, oa, hA, hcell⟩ := (Rd.fr hAh.out hF.out (by simp [Off])).2 (by omega)
      have hp := pairCells_at (show i < a.length by omega)
      refine ⟨ba, oa, hA, hcell _ _ hp.1, ?_⟩
      rw [Nat.add_assoc]
      exact hcell _ _ hp.2)
    have hcB := Lib.hid (fun (hlt : k < m) => show ∃ ba oa, B = some ⟨ba, oa, none⟩ ∧ wr.cell? ⟨ba, oa + k * 2, none⟩ = some (.string (b[k]'(by omega)).1) ∧ wr.cell? ⟨ba, oa + k * 2 + 1, none⟩ = some (.string (b[k]'(by omega)).2) by
      obtain ⟨ba, oa, hA, hcell⟩ := (Rd.fr hBh.out hF.out (by simp [Off])).2 (by omega)
      have hp := pairCells_at (show k < b.length by omega)
      refine ⟨ba, oa, hA, hcell _ _ hp.1, ?_⟩
      rw [Nat.add_assoc]
      exact hcell _ _ hp.2)
    clear hmg R2
    by_cases hia : i < n
    · have hia' : (i : Int) < n := by omega
      have hia2 : ((i : Int) == n) = false := by rw [beq_eq_false_iff_ne]; omega
      have hiah := Lib.hid hia
      have hil : i < a.length := by omega
      obtain ⟨ba, oa, rfl, cn, cv⟩ := hcA.out hia
      have hda := Lib.hid (List.drop_eq_getElem_cons hil)
      obtain ⟨⟨y1, y2⟩, hy⟩ : ∃ z, Hid (a[i]'hil = z) := ⟨_, Lib.hid rfl⟩
      rw [hy.out] at cn cv hda
      simp only at cn cv
      clear hcA hia
      by_cases hkb : k < m
      · have hkb' : (k : Int) < m := by omega
        have hkb2 : ((k : Int) == m) = false := by rw [beq_eq_false_iff_ne]; omega
        have hkbh := Lib.hid hkb
        have hkl : k < b.length := by omega
        obtain ⟨bb, ob, rfl, dn, dv⟩ := hcB.out hkb
        have hdb := Lib.hid (List.drop_eq_getElem_cons hkl)
        obtain ⟨⟨z1, z2⟩, hz⟩ : ∃ z, Hid (b[k]'hkl = z) := ⟨_, Lib.hid rfl⟩
        rw [hz.out] at dn dv hdb
        simp only at dn dv
        clear hcB hkb
        by_cases h1 : bl y1 z1 = true
        · have h1' : Op.bytesLess y1.toList z1.toList = true := h1
          have h1h := Lib.hid h1
          clear h1
          go_upto_region 9 with (fail)
          go_quiet (fail)
          go_upto_region 10 with (fail)
          refine wp_gen (fun W => Fr [] wr W) (by first | exact (Fr.refl _ _).drewN _ | exact ((Fr.refl _ _).drewN _).drewN _ | exact (((Fr.refl _ _).drewN _).drewN _).drewN _) ?_
          rintro W fW
          have cn := sub_cell fW cn
          go_wp2_with (refine wpList_own_append tStrs ((O2.fr fW (by simp)).fr ((Fr.refl [] _).alloc _) (by simp)) (str_new _ _ _) (strCells_one _) (by simp) (by unfold maxLen; omega) (by omega) rfl rfl rfl rfl (fun v2 w2 p1 p2 p3 => ?_); obtain ⟨A3, c3, rfl, hA3⟩ := p1.form)
          go_roundg ((n - i) + (m - k))
          case measure => omega
          case rel =>
            refine ⟨i + 1, k, ms ++ [y1], by go_num, rfl, by have := hiah.out; omega, by have := hkbh.out; omega, by have := hiah.out; omega, SAcc.push hn2.out R2h.out (hF.out.trans fW) p1 p2 p3, ?_, ?_⟩
            · rw [List.length_append, hn2.out, List.length_singleton]
              omega
            · rw [List.append_assoc, ← hmgh.out, hda.out, hdb.out, mrg_lt h1h.out]
              rfl
        · have h1' : Op.bytesLess y1.toList z1.toList = false := by simpa [bl] using h1
          have h1h := Lib.hid h1
          clear h1
          by_cases h2 : bl z1 y1 = true
          · have h2' : Op.bytesLess z1.toList y1.toList = true := h2
            have h2h := Lib.hid h2
            clear h2
            go_upto_region 9 with (fail)
            go_quiet (fail)
            go_upto_region 12 with (fail)
            go_quiet (fail)
            go_upto_region 13 with (fail)
            refine wp_gen (fun W => Fr [] wr W) (by first | exact (Fr.refl _ _).drewN _ | exact ((Fr.refl _ _).drewN _).drewN _ | exact (((Fr.refl _ _).drewN _).drewN _).drewN _) ?_
            rintro W fW
            have dn := sub_cell fW dn
            go_wp2_with (refine wpList_own_append tStrs ((O2.fr fW (by simp)).fr ((Fr.refl [] _).alloc _) (by simp)) (str_new _ _ _) (strCells_one _) (by simp) (by unfold maxLen; omega) (by omega) rfl rfl rfl rfl (fun v2 w2 p1 p2 p3 => ?_); obtain ⟨A3, c3, rfl, hA3⟩ := p1.form)
            go_roundg ((n - i) + (m - k))
            case measure => omega
            case rel =>
              refine ⟨i, k + 1, ms ++ [z1], rfl, by go_num, by have := hiah.out; omega, by have := hkbh.out; omega, by have := hkbh.out; omega, SAcc.push hn2.out R2h.out (hF.out.trans fW) p1 p2 p3, ?_, ?_⟩
              · rw [List.length_append, hn2.out, List.length_singleton]
                omega
              · rw [List.append_assoc, ← hmgh.out, hda.out, hdb.out, mrg_gt h2h.out]
                rfl
          · have e : y1 = z1 := by
              by_cases e : y1 = z1
              · exact e
              · exact absurd (bl_total e) (by simp [h1h.out, h2])
            have h2' : Op.bytesLess z1.toList y1.toList = false := by simpa [bl] using h2
            have eh := Lib.hid e
            have htb := toList_beq y2 z2
            clear h2 e
            by_cases e2 : y2 = z2
            · have eh2 := Lib.hid e2
              rw [decide_eq_true e2] at htb
              clear e2
              go_upto_region 9 with (fail)
              go_quiet (fail)
              go_upto_region 12 with (fail)
              go_quiet (fail)
              go_upto_region 5 with (fail)
              go_quiet (fail)
              go_wp2_with fail
              go_roundg ((n - i) + (m - k))
              case measure => omega
              case rel =>
                refine ⟨i + 1, k + 1, ms, by go_num, by go_num, by have := hiah.out; omega, by have := hkbh.out; omega, by have := hiah.out; omega, ?_, by rw [hn2.out]; omega, ?_⟩
                · have h := hSh.out
                  rw [hn2.out] at h
                  exact h.fr0 ((Fr.refl _ _).drewN _)
                · rw [← hmgh.out, hda.out, hdb.out, mrg_same eh.out eh2.out]
            · have eh2 := Lib.hid e2
              rw [decide_eq_false e2] at htb
              clear e2
              go_upto_region 9 with (fail)
              go_quiet (fail)
              go_upto_region 12 with (fail)
              go_quiet (fail)
              go_upto_region 5 with (fail)
              go_quiet (fail)
              go_upto_region 6 with (fail)
              refine wp_gen (fun W => Fr [] wr W) (by first | exact (Fr.refl _ _).drewN _ | exact ((Fr.refl _ _).drewN _).drewN _ | exact (((Fr.refl _ _).drewN _).drewN _).drewN _) ?_
              rintro W fW
              have cn := sub_cell fW cn
              go_wp2_with (refine wpList_own_append tStrs ((O2.fr fW (by simp)).fr ((Fr.refl [] _).alloc _) (by simp)) (str_new _ _ _) (strCells_one _) (by simp) (by unfold maxLen; omega) (by omega) rfl rfl rfl rfl (fun v2 w2 p1 p2 p3 => ?_); obtain ⟨A3, c3, rfl, hA3⟩ := p1.form)
              go_roundg ((n - i) + (m - k))
              case measure => omega
              case rel =>
                refine ⟨i + 1, k + 1, ms ++ [y1], by go_num, by go_num, by have := hiah.out; omega, by have := hkbh.out; omega, by have := hiah.out; omega, SAcc.push hn2.out R2h.out (hF.out.trans fW) p1 p2 p3, ?_, ?_⟩
                · rw [List.length_append, hn2.out, List.length_singleton]
                  omega
                · rw [List.append_assoc, ← hmgh.out, hda.out, hdb.out, mrg_else eh.out eh2.out]
                  rfl
      · have hkm : ((k : Int) == m) = true := by rw [beq_iff_eq]; omega
        have hkge : ¬ (k : Int) < m := by omega
        have hdb := Lib.hid (show b.drop k = [] from List.drop_eq_nil_of_le (by omega))
        clear hkb hcB
        go_upto_region 9 with (fail)
        go_quiet (fail)
        go_upto_region 10 with (fail)
        refine wp_gen (fun W => Fr [] wr W) (by first | exact (Fr.refl _ _).drewN _ | exact ((Fr.refl _ _).drewN _).drewN _ | exact (((Fr.refl _ _).drewN _).drewN _).drewN _) ?_
        rintro W fW
        have cn := sub_cell fW cn
        go_wp2_with (refine wpList_own_append tStrs ((O2.fr fW (by simp)).fr ((Fr.refl [] _).alloc _) (by simp)) (str_new _ _ _) (strCells_one _) (by simp) (by unfold maxLen; omega) (by omega) rfl rfl rfl rfl (fun v2 w2 p1 p2 p3 => ?_); obtain ⟨A3, c3, rfl, hA3⟩ := p1.form)
        go_roundg ((n - i) + (m - k))
        case measure => omega
        case rel =>
          refine ⟨i + 1, k, ms ++ [y1], by go_num, rfl, by have := hiah.out; omega, by omega, by have := hiah.out; omega, SAcc.push hn2.out R2h.out (hF.out.trans fW) p1 p2 p3, ?_, ?_⟩
          · rw [List.length_append, hn2.out, List.length_singleton]
            omega
          · rw [List.append_assoc, ← hmgh.out, hda.out, hdb.out, mrg_none, mrg_none]
            rfl
    · have hin : ((i : Int) == n) = true := by rw [beq_iff_eq]; omega
      have hige : ¬ (i : Int) < n := by omega
      have hda := Lib.hid (show a.drop i = [] from List.drop_eq_nil_of_le (by omega))
      by_cases hkb : k < m
      · have hkb' : (k : Int) < m := by omega
        have hkb2 : ((k : Int) == m) = false := by rw [beq_eq_false_iff_ne]; omega
        have hkbh := Lib.hid hkb
        have hkl : k < b.length := by omega
        obtain ⟨bb, ob, rfl, dn, dv⟩ := hcB.out hkb
        have hdb := Lib.hid (List.drop_eq_getElem_cons hkl)
        obtain ⟨⟨z1, z2⟩, hz⟩ : ∃ z, Hid (b[k]'hkl = z) := ⟨_, Lib.hid rfl⟩
        rw [hz.out] at dn dv hdb
        simp only at dn dv
        clear hcB hkb hia hcA
        go_upto_region 9 with (fail)
        go_quiet (fail)
        go_upto_region 12 with (fail)
        go_quiet (fail)
        go_upto_region 13 with (fail)
        refine wp_gen (fun W => Fr [] wr W) (by first | exact (Fr.refl _ _).drewN _ | exact ((Fr.refl _ _).drewN _).drewN _ | exact (((Fr.refl _ _).drewN _).drewN _).drewN _) ?_
        rintro W fW
        have dn := sub_cell fW dn
        go_wp2_with (refine wpList_own_append tStrs ((O2.fr fW (by simp)).fr ((Fr.refl [] _).alloc _) (by simp)) (str_new _ _ _) (strCells_one _) (by simp) (by unfold maxLen; omega) (by omega) rfl rfl rfl rfl (fun v2 w2 p1 p2 p3 => ?_); obtain ⟨A3, c3, rfl, hA3⟩ := p1.form)
        go_roundg ((n - i) + (m - k))
        case measure => omega
        case rel =>
          refine ⟨i, k + 1, ms ++ [z1], rfl, by go_num, by omega, by have := hkbh.out; omega, by have := hkbh.out; omega, SAcc.push hn2.out R2h.out (hF.out.trans fW) p1 p2 p3, ?_, ?_⟩
          · rw [List.length_append, hn2.out, List.length_singleton]
            omega
          · rw [List.append_assoc, ← hmgh.out, hda.out, hdb.out, mrg_nil, mrg_nil]
            rfl
      · have hkge : ¬ (k : Int) < m := by omega
        have e : ms = mrg a b := by
          rw [← hmgh.out, hda.out, show b.drop k = [] from List.drop_eq_nil_of_le (by omega), mrg_nil]
          simp
        have eh := Lib.hid e
        clear hia hkb hcA hcB e hgk
        go_wp2_with fail
        go_ret
        rw [← eh.out]
        have := hSh.out.row
        rw [hn2.out] at this
        exact this
end Go.Proofs.Ytlhkkffljjbdmaa
