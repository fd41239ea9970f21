/- Walks of the reference's table: Put. Conditions: each theorem's own. -/
import Derived.Test.YtlhkkffljjbdmaaUa
namespace Go.Proofs.Ytlhkkffljjbdmaa
open Go.RowKit Go.Sig

theorem putGo_t {x y : Pr} {l out : List Pr} : putGo x (y :: l) true out = putGo x l true (if y.1 = x.1 then out else out ++ [y]) := by simp [putGo]
theorem putGo_le {x y : Pr} {l out : List Pr} (h : bl y.1 x.1 = false) : putGo x (y :: l) false out = putGo x l true (if y.1 = x.1 then out ++ [x] else out ++ [x] ++ [y]) := by simp [putGo, h]
theorem putGo_gt {x y : Pr} {l out : List Pr} (h : bl y.1 x.1 = true) : putGo x (y :: l) false out = putGo x l false (out ++ [y]) := by
  have hne : ¬ y.1 = x.1 := fun e => by rw [e, bl_irrefl] at h; cases h
  simp [putGo, h, hne]
section
variable {k v y1 y2 : ByteArray} {x : Pr} {l out : List Pr} (hx : x = (k, v))
include hx
theorem pg1 (h : y1 = k) : putGo x ((y1, y2) :: l) true out = putGo x l true out := by subst hx; exact putGo_t.trans (by rw [if_pos h])
theorem pg2 (h : ¬ y1 = k) : putGo x ((y1, y2) :: l) true out = putGo x l true (out ++ [(y1, y2)]) := by subst hx; exact putGo_t.trans (by rw [if_neg h])
theorem pg3 (h : bl y1 k = true) : putGo x ((y1, y2) :: l) false out = putGo x l false (out ++ [(y1, y2)]) := by subst hx; exact putGo_gt h
theorem pg4 (hb : bl y1 k = false) (h : y1 = k) : putGo x ((y1, y2) :: l) false out = putGo x l true (out ++ [(k, v)]) := by subst hx; exact (putGo_le hb).trans (by rw [if_pos h])
theorem pg5 (hb : bl y1 k = false) (h : ¬ y1 = k) : putGo x ((y1, y2) :: l) false out = putGo x l true (out ++ [(k, v)] ++ [(y1, y2)]) := by subst hx; exact (putGo_le hb).trans (by rw [if_neg h])
end
theorem putE_fit {k v : ByteArray} {l : List Pr} (h : fitsE k v ≠ 0) : putE k v l = fitsE k v := by unfold putE; rw [if_pos h]
theorem putM_err {k v : ByteArray} {l : List Pr} (h : putE k v l ≠ 0) : putM k v l = l := by unfold putM; rw [if_neg h]
theorem putM_ok {k v : ByteArray} {l : List Pr} (h : putE k v l = 0) : putM k v l = put (k, v) l := by unfold putM; rw [if_pos h]
theorem putE_full {k v : ByteArray} {l : List Pr} (h : fitsE k v = 0) (h2 : (aget k l).isSome = false ∧ 4096 ≤ l.length) : putE k v l = 8 := by unfold putE; rw [if_neg (by simpa using h), if_pos h2]
theorem putE_zero {k v : ByteArray} {l : List Pr} (h : fitsE k v = 0) (h2 : ¬ ((aget k l).isSome = false ∧ 4096 ≤ l.length)) : putE k v l = 0 := by unfold putE; rw [if_neg (by simpa using h), if_neg h2]

set_option maxRecDepth 100000 in
set_option maxHeartbeats 4000000 in
theorem rput_t (w : World) (v : Value) (l : List Pr) (hO : Own w 66 2 v l.length (pairCells l)) (hmax : l.length ≤ 1048576) (hris : Rising l) (k vv : ByteArray) (hk : k.size ≤ 9223372036854775807) (hv : vv.size ≤ 9223372036854775807) :
   Calls Try.prog 39 #[v, .string k, .string vv] w (ListPost w v (putM k vv l) (.int .i64 (putE k vv l))) := by
  have hfit := rfits_t k vv w hk hv
  obtain ⟨A, c, rfl, hA⟩ := hO.form
  obtain ⟨n, hn⟩ : ∃ n, l.length = n := ⟨_, rfl⟩
  rw [hn] at hO hmax ⊢
  have hOh := Lib.hid hO
  by_cases h1 : fitsE k vv = 0
  · rw [h1] at hfit
    have hR := hO.rd
    have hget := rget_t w A n c l hR hn hmax k
    by_cases h2 : (aget k l).isSome = false ∧ 4096 ≤ l.length
    · rw [putM_err (by rw [putE_full h1 h2]; decide), putE_full h1 h2]
      have hlen : (4096 : Int) ≤ n := by omega
      rw [h2.1] at hget
      obtain ⟨av, HAV⟩ : ∃ z, Hid ((aget k l).getD ⟨#[]⟩ = z) := ⟨_, Lib.hid rfl⟩
      rw [HAV.out] at hget
      clear hO hR h2 h1
      go_enter Try.func39, Try.ntmps39
      go_wp2_with fail
      refine hfit.mono ?_
      rintro e w1 ⟨rfl, rfl⟩
      go_wp2_with fail
      refine hget.mono ?_
      rintro e w2 ⟨rfl, rfl⟩
      go_wp2
      go_ret2
      exact ⟨_, rfl, by rw [hn]; exact hOh.out, Fr.refl _ _, fun g hg => .inl hg⟩
    · rw [putM_ok (putE_zero h1 h2), putE_zero h1 h2]
      obtain ⟨av, HAV⟩ : ∃ z, Hid ((aget k l).getD ⟨#[]⟩ = z) := ⟨_, Lib.hid rfl⟩
      rw [HAV.out] at hget
      have hcase : (aget k l).isSome = true ∨ (aget k l).isSome = false ∧ ¬ (4096 : Int) ≤ n := by
        cases h : (aget k l).isSome with
        | true => exact .inl rfl
        | false => exact .inr ⟨rfl, fun h4 => h2 ⟨h, by omega⟩⟩
      obtain ⟨is, his⟩ : ∃ z, Hid ((aget k l).isSome = z) := ⟨_, Lib.hid rfl⟩
      rw [his.out] at hget hcase
      obtain ⟨x, hx⟩ : ∃ x : Pr, Hid (x = (k, vv)) := ⟨_, Lib.hid rfl⟩
      obtain ⟨R, HR⟩ : ∃ R, Hid (putGo x l false [] = R) := ⟨_, Lib.hid rfl⟩
      have hend := Lib.hid (putGo_put (x := x) [] hris)
      rw [HR.out, List.nil_append, hx.out] at hend
      have hx1 : x.1 = k := by rw [hx.out]
      have hx1h := Lib.hid hx1
      clear hO h2 h1 hx1 hris
      rcases hcase with rfl | ⟨rfl, h4⟩
      all_goals
        go_enter Try.func39, Try.ntmps39
        go_wp2_with fail
        refine hfit.mono ?_
        rintro e w1 ⟨rfl, rfl⟩
        go_wp2_with fail
        refine hget.mono ?_
        rintro e w2 ⟨rfl, rfl⟩
        go_wp2_with fail
        go_loopg [11, 12, 13] (n + 1) (fun gk s11 s12 s13 wr => ∃ (i : Nat) (b : Bool) (out : List Pr), s13 = .int .i64 i ∧ s12 = .bool b ∧ i ≤ n ∧ n - i < gk ∧ AccIn w wr s11 out ∧ putGo x (l.drop i) b out = R ∧ out.length ≤ 2 * i)
        case atStart => exact ⟨0, false, [], rfl, rfl, by omega, by omega, AccIn.nil (Fr.refl _ _), by rw [List.drop_zero]; exact HR.out, by simp⟩
        case round =>
          obtain ⟨i, b, out, rfl, rfl, hi, hk2, ⟨A2, c2, rfl, O2, R2, F2⟩, hGo, hle⟩ := hrel
          have hGoh := Lib.hid hGo
          clear hGo
          by_cases hlt : i < n
          · have hlt' : (i : Int) < n := by omega
            have hlth := Lib.hid hlt
            have hi' : i < l.length := by omega
            have hRr := Rd.fr hR F2 (by simp [Off])
            obtain ⟨gb, o, rfl, hcell⟩ := hRr.2 (by omega)
            have hp := pairCells_at hi'
            have cn := hcell _ _ hp.1
            have cv := hcell _ _ hp.2
            rw [← Nat.add_assoc] at cv
            have hdr := Lib.hid (List.drop_eq_getElem_cons hi')
            have hRh := Lib.hid hR
            clear hp hcell hR hRr
            obtain ⟨⟨y1, y2⟩, hy⟩ : ∃ z, Hid (l[i] = z) := ⟨_, Lib.hid rfl⟩
            rw [hy.out] at cn cv hdr
            simp only at cn cv
            have htb := toList_beq y1 k
            have htb2 := toList_beq k y1
            cases b with
            | true =>
              by_cases hyk : y1 = k
              · have hyh := Lib.hid hyk
                rw [show decide (y1 = k) = true by simpa using hyk] at htb
                clear hyk htb2
                go_wp2
                go_roundg (n - i)
                case measure => omega
                case rel =>
                  refine ⟨i + 1, true, out, by go_num, rfl, by have := hlth.out; omega, by have := hlth.out; omega, ⟨A2, c2, rfl, O2, R2, F2⟩, ?_, by first | omega | (simp; omega)⟩
                  rw [← hGoh.out, hdr.out]
                  exact (pg1 hx.out hyh.out).symm
              · have hyh := Lib.hid hyk
                rw [show decide (y1 = k) = false by simpa using hyk] at htb
                clear hyk htb2
                go_wp2_with (refine wpList_own_append tPairs (O2.fr ((Fr.refl [] _).alloc _) (by simp)) (rd_pr (y1, y2) (Blk.new _ _ _)) (pairCells_one _) (by simp) (by unfold maxLen; omega) (by omega) rfl rfl rfl rfl (fun v2 w2 p1 p2 p3 => ?_); obtain ⟨A3, c3, rfl, hA3⟩ := p1.form)
                go_roundg (n - i)
                case measure => omega
                case rel =>
                  refine ⟨i + 1, true, out ++ [(y1, y2)], by go_num, rfl, by have := hlth.out; omega, by have := hlth.out; omega, AccIn.push R2 F2 p1 p2 p3, ?_, by first | omega | (simp; omega)⟩
                  rw [← hGoh.out, hdr.out]
                  exact (pg2 hx.out hyh.out).symm
            | false =>
              cases hb : bl y1 k with
              | true =>
                have hyk : ¬ y1 = k := fun e => by rw [e, bl_irrefl] at hb; cases hb
                have hbk : bl k y1 = false := bl_asymm hb
                have hbkh : Op.bytesLess k.toList y1.toList = false := hbk
                have hbh := Lib.hid hb
                rw [show decide (y1 = k) = false by simpa using hyk] at htb
                rw [show decide (k = y1) = false by simpa using Ne.symm hyk] at htb2
                clear hyk hbk hb
                go_wp2_with (refine wpList_own_append tPairs (O2.fr ((Fr.refl [] _).alloc _) (by simp)) (rd_pr (y1, y2) (Blk.new _ _ _)) (pairCells_one _) (by simp) (by unfold maxLen; omega) (by omega) rfl rfl rfl rfl (fun v2 w2 p1 p2 p3 => ?_); obtain ⟨A3, c3, rfl, hA3⟩ := p1.form)
                go_roundg (n - i)
                case measure => omega
                case rel =>
                  refine ⟨i + 1, false, out ++ [(y1, y2)], by go_num, rfl, by have := hlth.out; omega, by have := hlth.out; omega, AccIn.push R2 F2 p1 p2 p3, ?_, by first | omega | (simp; omega)⟩
                  rw [← hGoh.out, hdr.out]
                  exact (pg3 hx.out hbh.out).symm
              | false =>
                have hbh := Lib.hid hb
                by_cases hyk : y1 = k
                · have hyh := Lib.hid hyk
                  rw [show decide (y1 = k) = true by simpa using hyk] at htb
                  rw [show decide (k = y1) = true by simpa using Eq.symm hyk] at htb2
                  have hor : (Op.bytesLess k.toList y1.toList || k.toList == y1.toList) = true := by rw [htb2]; simp
                  clear hyk hb
                  go_upto_region 14 with (refine wpList_own_append tPairs (O2.fr ((Fr.refl [] _).alloc _) (by simp)) (rd_pr (k, vv) (Blk.new _ _ _)) (pairCells_one _) (by simp) (by unfold maxLen; omega) (by omega) rfl rfl rfl rfl (fun v2 w2 p1 p2 p3 => ?_); obtain ⟨A3, c3, rfl, hA3⟩ := p1.form)
                  have hacc := AccIn.push (y := (k, vv)) R2 F2 p1 p2 p3
                  obtain ⟨out3, ho3⟩ : ∃ z, Hid (out ++ [(k, vv)] = z) := ⟨_, Lib.hid rfl⟩
                  have hl3 : out.length + 1 = out3.length := by rw [← ho3.out]; simp
                  rw [ho3.out, hl3] at hacc
                  rw [hl3]
                  clear p1 p2 p3 hA3 O2 R2 F2 cn cv
                  obtain ⟨A5, c5, hs5, O3, R3, F3⟩ := hacc
                  obtain ⟨rfl, rfl⟩ : A3 = A5 ∧ c3 = c5 := by injection hs5 with h1 _ h3; exact ⟨h1, h3⟩
                  clear hs5
                  have hRr := Rd.fr hRh.out F3 (by simp [Off])
                  obtain ⟨gb', o', hgo, hcell⟩ := hRr.2 (by omega)
                  obtain ⟨rfl, rfl⟩ : gb = gb' ∧ o = o' := by simp at hgo; exact hgo
                  have hp := pairCells_at hi'
                  have cn := hcell _ _ hp.1
                  have cv := hcell _ _ hp.2
                  rw [← Nat.add_assoc] at cv
                  rw [hy.out] at cn cv
                  simp only at cn cv
                  clear hp hcell hRr hgo
                  go_wp2_with fail
                  go_roundg (n - i)
                  case measure => omega
                  case rel =>
                    refine ⟨i + 1, true, out3, by go_num, rfl, by have := hlth.out; omega, by have := hlth.out; omega, ⟨A3, c3, rfl, O3, R3, F3⟩, ?_, by first | omega | (simp; omega)⟩
                    rw [← hGoh.out, hdr.out]
                    exact ((pg4 hx.out hbh.out hyh.out).trans (by rw [ho3.out])).symm
                · have hyh := Lib.hid hyk
                  rw [show decide (y1 = k) = false by simpa using hyk] at htb
                  have hbk : bl k y1 = true := (bl_total (Ne.symm hyk)).resolve_right (by rw [hb]; decide)
                  have hbkh : Op.bytesLess k.toList y1.toList = true := hbk
                  clear hyk hbk hb htb2
                  go_upto_region 14 with (refine wpList_own_append tPairs (O2.fr ((Fr.refl [] _).alloc _) (by simp)) (rd_pr (k, vv) (Blk.new _ _ _)) (pairCells_one _) (by simp) (by unfold maxLen; omega) (by omega) rfl rfl rfl rfl (fun v2 w2 p1 p2 p3 => ?_); obtain ⟨A3, c3, rfl, hA3⟩ := p1.form)
                  have hacc := AccIn.push (y := (k, vv)) R2 F2 p1 p2 p3
                  obtain ⟨out3, ho3⟩ : ∃ z, Hid (out ++ [(k, vv)] = z) := ⟨_, Lib.hid rfl⟩
                  have hl3 : out.length + 1 = out3.length := by rw [← ho3.out]; simp
                  rw [ho3.out, hl3] at hacc
                  rw [hl3]
                  clear p1 p2 p3 hA3 O2 R2 F2 cn cv
                  obtain ⟨A5, c5, hs5, O3, R3, F3⟩ := hacc
                  obtain ⟨rfl, rfl⟩ : A3 = A5 ∧ c3 = c5 := by injection hs5 with h1 _ h3; exact ⟨h1, h3⟩
                  clear hs5
                  have hRr := Rd.fr hRh.out F3 (by simp [Off])
                  obtain ⟨gb', o', hgo, hcell⟩ := hRr.2 (by omega)
                  obtain ⟨rfl, rfl⟩ : gb = gb' ∧ o = o' := by simp at hgo; exact hgo
                  have hp := pairCells_at hi'
                  have cn := hcell _ _ hp.1
                  have cv := hcell _ _ hp.2
                  rw [← Nat.add_assoc] at cv
                  rw [hy.out] at cn cv
                  simp only at cn cv
                  clear hp hcell hRr hgo
                  go_wp2_with (refine wpList_own_append tPairs (O3.fr ((Fr.refl [] _).alloc _) (by simp)) (rd_pr (y1, y2) (Blk.new _ _ _)) (pairCells_one _) (by simp) (by unfold maxLen; omega) (by omega) rfl rfl rfl rfl (fun v4 w4 p4 p5 p6 => ?_); obtain ⟨A4, c4, rfl, hA4⟩ := p4.form)
                  go_roundg (n - i)
                  case measure => omega
                  case rel =>
                    refine ⟨i + 1, true, out3 ++ [(y1, y2)], by go_num, rfl, by have := hlth.out; omega, by have := hlth.out; omega, AccIn.push R3 F3 p4 p5 p6, ?_, by first | omega | (simp; omega)⟩
                    rw [← hGoh.out, hdr.out]
                    exact ((pg5 hx.out hbh.out hyh.out).trans (by rw [ho3.out])).symm
          · have hin : i = n := by omega
            have hge : ¬ (i : Int) < n := by omega
            have hGe := hGoh.out
            rw [List.drop_of_length_le (by omega)] at hGe
            have hGe' : R = (out, b) := hGe.symm
            have hen := hend.out
            rw [hGe'] at hen
            have hlenl : l.length = n := hn
            clear hlt hk2 hGe hGe'
            cases b with
            | true =>
              have hen' : out = put (k, vv) l := hen
              subst hen'
              clear hen
              go_wp2
              go_ret2
              exact ⟨_, rfl, O2, F2, fun g hg => .inr (R2 g hg)⟩
            | false =>
              have hen' : out ++ [(k, vv)] = put (k, vv) l := by have := hx.out; simpa [this] using hen
              have henh := Lib.hid hen'
              clear hen hen'
              go_wp2_with (refine wpList_own_append tPairs (O2.fr ((Fr.refl [] _).alloc _) (by simp)) (rd_pr (k, vv) (Blk.new _ _ _)) (pairCells_one _) (by simp) (by unfold maxLen; omega) (by omega) rfl rfl rfl rfl (fun v2 w2 p1 p2 p3 => ?_); obtain ⟨A3, c3, rfl, hA3⟩ := p1.form)
              go_ret2
              obtain ⟨A3, c3, hs3, O3, R3, F3⟩ := AccIn.push (y := (k, vv)) R2 F2 p1 p2 p3
              rw [henh.out] at hs3 O3 R3
              rw [hs3]
              exact ⟨_, rfl, O3, F3, fun g hg => .inr (R3 g hg)⟩
  · rw [putM_err (by rw [putE_fit h1]; exact h1), putE_fit h1]
    obtain ⟨fe, HFE⟩ : ∃ z, Hid (fitsE k vv = z) := ⟨_, Lib.hid rfl⟩
    rw [HFE.out] at hfit h1 ⊢
    have hne : (fe == 0) = false := by simpa using h1
    clear hO h1
    go_enter Try.func39, Try.ntmps39
    go_wp2_with fail
    refine hfit.mono ?_
    rintro e w1 ⟨rfl, rfl⟩
    go_wp2
    go_ret2
    exact ⟨_, rfl, by rw [hn]; exact hOh.out, Fr.refl _ _, fun g hg => .inl hg⟩
end Go.Proofs.Ytlhkkffljjbdmaa
