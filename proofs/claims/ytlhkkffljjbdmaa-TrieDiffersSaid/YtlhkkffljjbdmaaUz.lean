/- Walks of the reference's table: Prefix, Under. Conditions: each theorem's own. -/
import Derived.Test.YtlhkkffljjbdmaaUe
import Derived.Test.YtlhkkffljjbdmaaUa
import Derived.Test.YtlhkkffljjbdmaaUx
import Derived.Test.YtlhkkffljjbdmaaUy
namespace Go.Proofs.Ytlhkkffljjbdmaa
open Go.RowKit Go.Sig

set_option maxHeartbeats 1000000 in
theorem rprefix_t (w : World) (A : Option Addr) (n c : Nat) (ns : List Int) (hR : Rd w 1 A n (intCells ns)) (hn : ns.length = n) (hmax : n ≤ 150000000000000) :
   Calls Try.prog 21 #[.slice A n c] w fun e w' => e = .returned (.bool (!badI ns)) ∧ w = w' := by
  go_enter Try.func21, Try.ntmps21
  go_wp2_with fail
  go_loopg [3] (n + 1) (fun gk s3 wr => ∃ (i : Nat), s3 = .int .i64 i ∧ i ≤ n ∧ n - i < gk ∧ (ns.take i).any outI = false ∧ w = wr)
  case atStart => exact ⟨0, rfl, by omega, by omega, rfl, rfl⟩
  case round =>
    obtain ⟨i, rfl, hi, hk, hany, rfl⟩ := hrel
    have hanyh := Lib.hid hany
    clear hany
    by_cases hlt : i < n
    · have hlt' : (i : Int) < n := by omega
      have hlth := Lib.hid hlt
      have hi' : i < ns.length := by omega
      obtain ⟨b, o, rfl, hcell⟩ := hR.2 (by omega)
      have ck := hcell i (.int .i64 ns[i]) (by rw [intCells, List.getElem?_map, List.getElem?_eq_getElem hi']; rfl)
      have htk := Lib.hid (show (ns.take (i + 1)).any outI = (((ns.take i).any outI) || outI ns[i]) by rw [List.take_succ_eq_append_getElem hi', List.any_append]; simp)
      have hmem := Lib.hid (fun (h : outI ns[i] = true) => show badI ns = true by
        unfold badI
        rw [List.any_eq_true.2 ⟨ns[i], List.getElem_mem hi', h⟩]
        simp)
      have hRh := Lib.hid hR
      clear hcell hR
      obtain ⟨k, hk2⟩ : ∃ z, Hid (ns[i] = z) := ⟨_, Lib.hid rfl⟩
      rw [hk2.out] at ck htk hmem
      by_cases h1 : k < 0
      · have hb := Lib.hid (hmem.out (by unfold outI; simp [h1]))
        go_wp2
        go_ret
        exact ⟨congrArg (fun b => Ending.returned (Value.bool (!b))) hb.out.symm, rfl⟩
      · by_cases h2 : 15 < k
        · have hb := Lib.hid (hmem.out (by unfold outI; simp [h2]))
          go_wp2
          go_ret
          exact ⟨congrArg (fun b => Ending.returned (Value.bool (!b))) hb.out.symm, rfl⟩
        · have ho := Lib.hid (show outI k = false by unfold outI; simp; omega)
          go_wp2
          go_roundg (n - i)
          case measure => omega
          case rel =>
            refine ⟨i + 1, by go_num, by have := hlth.out; omega, by have := hlth.out; omega, ?_, rfl⟩
            rw [htk.out, hanyh.out, ho.out]
            rfl
    · have hin : i = n := by omega
      have hge : ¬ (i : Int) < n := by omega
      have hall : ns.any outI = false := by
        have := hanyh.out
        rwa [List.take_of_length_le (by omega)] at this
      have hallh := Lib.hid hall
      clear hlt hk hall
      by_cases h64 : 64 < n
      · have h6 : ¬ (n : Int) ≤ 64 := by omega
        have hb := Lib.hid (show badI ns = true by unfold badI; rw [hn]; simp [h64])
        clear h64
        go_wp2
        go_ret
        exact ⟨congrArg (fun b => Ending.returned (Value.bool (!b))) hb.out.symm, rfl⟩
      · have h6 : (n : Int) ≤ 64 := by omega
        have hb := Lib.hid (show badI ns = false by unfold badI; rw [hn, hallh.out]; simp; omega)
        clear h64
        go_wp2
        go_ret
        exact ⟨congrArg (fun b => Ending.returned (Value.bool (!b))) hb.out.symm, rfl⟩

theorem AccIn.fr0 {w wr w2 : World} {s : Value} {out : List Pr} (h : AccIn w wr s out) (hF : Fr [] wr w2) : AccIn w w2 s out := by
  obtain ⟨A, c, rfl, h1, h2, h3⟩ := h
  exact ⟨A, c, rfl, h1.fr hF (by simp), h2, h3.trans hF⟩
theorem AccIn.post {w wr : World} {s : Value} {out : List Pr} (h : AccIn w wr s out) : RisePost w out (.returned s) wr := by
  obtain ⟨A, c, rfl, h1, h2, h3⟩ := h
  exact ⟨_, rfl, h1, h3, h2⟩
theorem underL_snoc {l : List Pr} {ns : List Int} {i : Nat} (h : i < l.length) : underL (l.take (i + 1)) ns = underL (l.take i) ns ++ (if begins (pathOf l[i].1) 0 ns then [l[i]] else []) := by
  unfold underL
  rw [List.take_succ_eq_append_getElem h, List.filter_append]
  by_cases e : begins (pathOf l[i].1) 0 ns <;> simp [e]
theorem underL_take_le {l : List Pr} {ns : List Int} {i : Nat} : (underL (l.take i) ns).length ≤ i := by
  unfold underL
  exact Nat.le_trans (List.length_filter_le _ _) (by rw [List.length_take]; omega)
set_option maxRecDepth 100000 in
set_option maxHeartbeats 4000000 in
theorem runder_t (w : World) (A B : Option Addr) (n m c d : Nat) (l : List Pr) (ns : List Int) (hR : Rd w 2 A n (pairCells l)) (hn : l.length = n) (hmax : n ≤ 1048576) (hsm : ∀ y ∈ l, y.1.size ≤ 1000000) (hB : Rd w 1 B m (intCells ns)) (hm : ns.length = m) (hm64 : m ≤ 64) :
   Calls Try.prog 22 #[.slice A n c, .slice B m d] w (RisePost w (underL l ns)) := by
  go_enter Try.func22, Try.ntmps22
  go_wp2_with fail
  go_loopg [5, 6, 7, 8, 9] (n + 1) (fun gk s5 s6 s7 s8 s9 wr => ∃ (i : Nat), s6 = .int .i64 i ∧ i ≤ n ∧ n - i < gk ∧ AccIn w wr s5 (underL (l.take i) ns))
  case atStart => exact ⟨0, rfl, by omega, by omega, AccIn.nil (Fr.refl _ _)⟩
  case round =>
    obtain ⟨i, rfl, hi, hk, hA⟩ := hrel
    have hAh := Lib.hid hA
    have hF : Fr [] w wr := by obtain ⟨A, c, rfl, h1, h2, h3⟩ := hA; exact h3
    obtain ⟨A2, c2, rfl, O2, R2, _⟩ := hA
    clear O2 R2
    by_cases hlt : i < n
    · have hlt' : (i : Int) < n := by omega
      have hlth := Lib.hid hlt
      have hi' : i < l.length := by omega
      have hRr := Rd.fr hR hF (by simp [Off])
      obtain ⟨b, o, rfl, hcell⟩ := hRr.2 (by omega)
      have hp := pairCells_at hi'
      have cn := hcell _ _ hp.1
      have cv := hcell _ _ hp.2
      rw [← Nat.add_assoc] at cv
      have hys := hsm l[i] (List.getElem_mem hi')
      have hsn := Lib.hid (underL_snoc (ns := ns) hi')
      have hle := underL_take_le (l := l) (ns := ns) (i := i)
      have hFh := Lib.hid hF
      have hRh := Lib.hid hR
      have hBh := Lib.hid hB
      have cnh := Lib.hid cn
      have cvh := Lib.hid cv
      clear hp hcell hR hRr hF hB cv
      obtain ⟨⟨y1, y2⟩, hy⟩ : ∃ z, Hid (l[i] = z) := ⟨_, Lib.hid rfl⟩
      rw [hy.out] at cn cnh cvh hsn hys
      simp only at cn hys
      have hpath := Lib.hid (fun (W : World) => rpath_t W y1 hys)
      obtain ⟨D, HD⟩ : ∃ z, Hid (pathOf y1 = z) := ⟨_, Lib.hid rfl⟩
      rw [show pathOf (y1, y2).1 = D from HD.out] at hsn
      rw [HD.out] at hpath
      go_wp2_with fail
      refine (hpath.out _).mono ?_
      rintro e W2 ⟨rfl, F2⟩
      go_upto_region 6 with (refine wpList_store_row rfl 63 _ _ rfl W2.heap.size (pathV D) rfl rfl 63 _ (Blk.new W2 63 _) (infoPathV D) (by rw [pathV_size]; rfl) (pathV_one D) ?_)
      refine wp_gen (fun W3 => Blk W3 W2.heap.size 63 (pathV D) ∧ Fr [] W2 W3) ⟨Blk.setRow (Blk.new W2 63 _) _, ((Fr.refl _ _).alloc _).setRow (.inr (Nat.le_refl _)) _⟩ ?_
      rintro W3 ⟨hBp, F3⟩
      obtain ⟨gp, HGP⟩ : ∃ z, Hid (W2.heap.size = z) := ⟨_, Lib.hid rfl⟩
      rw [HGP.out] at hBp ⊢
      have hFw := Lib.hid (F2.trans F3)
      clear F2 F3 cn
      go_wp2_with fail
      go_loopg [8, 9] (m + 1) (fun gj s8 s9 wq => ∃ (k : Nat), s9 = .int .i64 k ∧ k ≤ m ∧ m - k < gj ∧ s8 = .bool (begins D 0 (ns.take k)) ∧ Fr [] W3 wq)
      case atStart => exact ⟨0, rfl, by omega, by omega, by rw [List.take_zero]; rfl, Fr.refl _ _⟩
      case round =>
        obtain ⟨k, rfl, hkm, hkk, rfl, hFq⟩ := hrel
        have hFqh := Lib.hid hFq
        have hBq := hBp.fr hFq (by simp)
        have hgp := hBq.lt
        clear hFq
        by_cases hkl : k < m
        · have hkl' : (k : Int) < m := by omega
          have hklh := Lib.hid hkl
          have hk' : k < ns.length := by omega
          have hk64 : (k : Int) < 64 := by omega
          have hBr := Rd.fr hBh.out ((hFh.out.trans hFw.out).trans hFqh.out) (by simp [Off])
          obtain ⟨b2, o2, rfl, hcell2⟩ := hBr.2 (by omega)
          have ck := hcell2 k (.int .i64 ns[k]) (by rw [intCells, List.getElem?_map, List.getElem?_eq_getElem hk']; rfl)
          have cp := (hBq.cell k).trans (pathV_at (d := D) (show k < 64 by omega))
          have hbt := Lib.hid (begins_take (d := D) (j := 0) hk')
          clear hcell2 hBr
          obtain ⟨kj, hkj⟩ : ∃ z, Hid (ns[k] = z) := ⟨_, Lib.hid rfl⟩
          rw [hkj.out, Nat.zero_add] at hbt
          rw [hkj.out] at ck
          obtain ⟨nj, HNJ⟩ : ∃ z, Hid ((nib D k : Int) = z) := ⟨_, Lib.hid rfl⟩
          rw [HNJ.out] at cp hbt
          cases hb : begins D 0 (ns.take k) with
          | false =>
            rw [hb, Bool.false_and] at hbt
            have hbh := Lib.hid hb
            clear hb
            go_upto_region 10 with (fail)
            go_quiet (fail)
            go_wp2
            go_roundg (m - k)
            case measure => omega
            case rel => exact ⟨k + 1, by go_num, by have := hklh.out; omega, by have := hklh.out; omega, by rw [hbt.out], hFqh.out.drewN _⟩
          | true =>
            rw [hb, Bool.true_and] at hbt
            have hbh := Lib.hid hb
            clear hb
            by_cases hne : nj = kj
            · have hne1 : (nj == kj) = true := by simpa using hne
              rw [decide_eq_true hne] at hbt
              clear hne
              go_upto_region 10 with (fail)
              go_quiet (fail)
              go_wp2
              go_roundg (m - k)
              case measure => omega
              case rel => exact ⟨k + 1, by go_num, by have := hklh.out; omega, by have := hklh.out; omega, by rw [hbt.out], hFqh.out.drewN _⟩
            · have hne1 : (nj == kj) = false := by simpa using hne
              rw [decide_eq_false hne] at hbt
              clear hne
              go_upto_region 10 with (fail)
              go_quiet (fail)
              go_wp2
              go_roundg (m - k)
              case measure => omega
              case rel => exact ⟨k + 1, by go_num, by have := hklh.out; omega, by have := hklh.out; omega, by rw [hbt.out], hFqh.out.drewN _⟩
        · have hkm' : k = m := by omega
          have hge : ¬ (k : Int) < m := by omega
          have e : ns.take k = ns := List.take_of_length_le (by omega)
          rw [e]
          have hFall := hFw.out.trans hFqh.out
          have hA3 := hAh.out.fr0 hFall
          have cn := cell_fr hFall cnh.out
          have cv := cell_fr hFall cvh.out
          try simp only at cn
          try simp only at cv
          clear hkl hkk
          cases hb : begins D 0 ns with
          | false =>
            rw [hb] at hsn
            have hA3h := Lib.hid hA3
            clear hb hA3
            go_wp2_with fail
            go_roundg (n - i)
            case measure => omega
            case rel => exact ⟨i + 1, by go_num, by have := hlth.out; omega, by have := hlth.out; omega, by rw [hsn.out]; simpa using hA3h.out⟩
          | true =>
            rw [hb] at hsn
            obtain ⟨out, ho⟩ : ∃ z, Hid (underL (l.take i) ns = z) := ⟨_, Lib.hid rfl⟩
            rw [ho.out] at hA3 hsn hle ⊢
            obtain ⟨A4, c4, hs4, O2, R2, F2⟩ := hA3
            obtain ⟨rfl, rfl⟩ : A2 = A4 ∧ c2 = c4 := by injection hs4 with h1 _ h3; exact ⟨h1, h3⟩
            clear hb hs4
            go_wp2_with (refine wpList_own_append tPairs (O2.fr ((Fr.refl [] _).alloc _) (by simp)) (rd_pr (y1, y2) (Blk.new _ _ _)) (pairCells_one _) (by simp) (by unfold maxLen; omega) (by omega) rfl rfl rfl rfl (fun v2 w2 p1 p2 p3 => ?_); obtain ⟨A3, c3, rfl, hA3⟩ := p1.form)
            go_roundg (n - i)
            case measure => omega
            case rel =>
              refine ⟨i + 1, by go_num, by have := hlth.out; omega, by have := hlth.out; omega, ?_⟩
              rw [hsn.out]
              exact AccIn.push R2 F2 p1 p2 p3
    · have hin : i = n := by omega
      have hge : ¬ (i : Int) < n := by omega
      have e : l.take i = l := List.take_of_length_le (by omega)
      rw [e] at hAh ⊢
      clear hlt hk
      go_wp2
      go_ret
      exact hAh.out.post
end Go.Proofs.Ytlhkkffljjbdmaa
