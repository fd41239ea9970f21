/- Walks: bytes alike, the text of signs, methods by their names. Conditions: each theorem's own. -/
import Derived.Test.YtdeoinjjphdbmaaGreatGd
import Derived.WalkMore
import Derived.Laws.IdiomStrings
namespace Go.Proofs.YtdeoinjjphdbmaaGreat
open Go.RowKit Go.Sig

theorem or_byte : ∀ (a : Fin 16) (b : Fin 256), bits .or .i64 ((a.val : Int) * 256) (b.val : Int) = ((a.val * 256 + b.val : Nat) : Int) := by decide +kernel
theorem and_63a : ∀ (a b : Fin 64), bits .and .i64 ((a.val * 64 + b.val : Nat) : Int) 63 = ((b.val : Nat) : Int) := by decide +kernel
theorem and_63 {h : Nat} (hh : h < 4096) : bits .and .i64 (h : Int) 63 = ((h % 64 : Nat) : Int) := by
  have := and_63a ⟨h / 64, by omega⟩ ⟨h % 64, by omega⟩
  simp only at this
  rw [show h / 64 * 64 + h % 64 = h by omega] at this
  exact this
theorem sweb_size : sWeb.size = 64 := by decide
theorem sweb_at {j : Nat} (h : j < sWeb.size) : sWeb[j] = webS.getD j 0 := by
  have h' : j < webS.length := by rw [sweb_size] at h; exact h
  rw [List.getD_eq_getElem?_getD, List.getElem?_eq_getElem h', Option.getD_some]
  rfl
set_option maxRecDepth 100000 in
set_option maxHeartbeats 4000000 in
theorem sixes_t (w : World) (A : Option Addr) (n c : Nat) (l : List UInt8) (hb : Byts w A n l) (hmax : n ≤ 1000000) : Calls Tryz.prog 140 #[.string sWeb, .slice A n c] w fun e w' => ∃ v, e = .returned v ∧ BIn w w' v (webM l) := by
  have hln : l.length = n := Byts.length hb
  have hbh := Lib.hid hb
  have hqs := sweb_size
  have hqat := Lib.hid (fun (j : Nat) (h : j < sWeb.size) => sweb_at h)
  obtain ⟨q, hq⟩ : ∃ z, Hid (sWeb = z) := ⟨_, Lib.hid rfl⟩
  rw [hq.out] at hqs hqat ⊢
  clear hb
  go_enter Tryz.func140, Tryz.ntmps140
  go_wp2_with fail
  go_loopg [5, 6, 7, 9, 12] (n + 1) (fun gk s5 s6 s7 s9 s12 wr => ∃ (i held nb : Nat) (out : List UInt8), s12 = .int .i64 i ∧ s6 = .int .i64 held ∧ s7 = .int .i64 nb ∧ i ≤ n ∧ n - i < gk ∧ BIn w wr s5 out ∧ (nb = 0 ∨ nb = 2 ∨ nb = 4) ∧ held < 2 ^ nb ∧ out.length ≤ 2 * i ∧ sixGo (l.drop i) held nb out = webM l)
  case atStart => exact ⟨0, 0, 0, [], rfl, rfl, rfl, by omega, by omega, BIn.nil w, by omega, by decide, by simp, rfl⟩
  case round =>
    obtain ⟨i, held, nb, out, rfl, rfl, rfl, hi, hk, hB, hbits, hheld, hlen, hgo⟩ := hrel
    have hgoh := Lib.hid hgo
    have hBh := Lib.hid hB
    clear hgo
    obtain ⟨A2, c2, rfl, O2, R2, F2⟩ := hB
    obtain ⟨n2, hn2⟩ : ∃ z, Hid (out.length = z) := ⟨_, Lib.hid rfl⟩
    rw [hn2.out] at O2 R2 hlen ⊢
    by_cases hlt : i < n
    · have hlt' : (i : Int) < n := by omega
      have hlth := Lib.hid hlt
      have hi' : i < l.length := by omega
      have hdr := Lib.hid (List.drop_eq_getElem_cons hi')
      have hbr := Rd.fr hbh.out F2 (by simp [Off])
      obtain ⟨b, o, rfl, hcell⟩ := hbr.2 (by omega)
      have cx := hcell i (bv l[i]) (by rw [List.getElem?_map, List.getElem?_eq_getElem hi']; rfl)
      clear hcell hbr
      obtain ⟨x, hx⟩ : ∃ z, Hid (l[i] = z) := ⟨_, Lib.hid rfl⟩
      rw [hx.out] at cx hdr
      unfold bv at cx
      have hx256 : x.toNat < 256 := x.toNat_lt
      obtain ⟨h, hh⟩ : ∃ z, Hid (held * 256 + x.toNat = z) := ⟨_, Lib.hid rfl⟩
      have hb16 : held < 16 := by rcases hbits with rfl | rfl | rfl <;> omega
      have hor : bits .or .i64 ((held : Int) * 256) (x.toNat : Int) = (h : Int) := by
        have := or_byte ⟨held, hb16⟩ ⟨x.toNat, hx256⟩
        simp only at this
        rw [this, hh.out]
      have hh4 : h < 4096 := by have := hh.out; omega
      rcases hbits with rfl | rfl | rfl
      · have hj : h / 4 < q.size := by have := hh.out; rw [hqs]; omega
        obtain ⟨j, hjj⟩ : ∃ z, Hid (h / 4 = z) := ⟨_, Lib.hid rfl⟩
        rw [hjj.out] at hj
        have hsh : (h : Int) / 4 = (j : Int) := by have := hjj.out; omega
        have hqj := Lib.hid (hqat.out _ hj)
        have hand := (and_at hh4).2.1
        have hst := Lib.hid (show sixByte held 0 x = ([webS.getD j 0], h % 4, 2) by
          unfold sixByte
          simp only [hh.out]
          rw [if_neg (by decide)]
          show ([webS.getD (h / 4) 0], h % 4, 2) = _
          rw [hjj.out])
        go_wp2_with fail
        go_step3
        go_wp2_with fail
        go_step3
        go_wp2_with fail
        refine wp_loop_rounds 2 ?_
        rw [rounds_succ]
        go_wp2_with (refine wpList_own_append tB1 (O2.fr ((Fr.refl [] _).alloc _) (by simp)) (byte_new _ _ (q[j]) _ rfl) (fun u hu => by simp at hu; rw [hu]; rfl) (by simp) (by unfold maxLen; omega) (by omega) rfl rfl rfl rfl (fun v3 w3 p13 p23 p33 => ?_); obtain ⟨A3, c3, rfl, hA3⟩ := p13.form)
        rw [rounds_succ]
        go_wp2_with fail
        rw [Exit.noGoto_normal]
        go_wp2_with fail
        go_roundg (n - i)
        case measure => omega
        case rel =>
          refine ⟨i + 1, h % 4, 2, out ++ [webS.getD j 0], by go_num, by first | rfl | (simp; done) | (congr 1; omega), rfl, by have := hlth.out; omega, by have := hlth.out; omega, ?_, by omega, by omega, by rw [List.length_append, hn2.out, List.length_singleton]; omega, ?_⟩
          · rw [← hqj.out]
            exact BIn.push hn2.out R2 F2 p13 p23 p33
          · rw [← hgoh.out, hdr.out, sixGo, hst.out]
      · have hj : h / 16 < q.size := by have := hh.out; rw [hqs]; omega
        obtain ⟨j, hjj⟩ : ∃ z, Hid (h / 16 = z) := ⟨_, Lib.hid rfl⟩
        rw [hjj.out] at hj
        have hsh : (h : Int) / 16 = (j : Int) := by have := hjj.out; omega
        have hqj := Lib.hid (hqat.out _ hj)
        have hand := (and_at hh4).2.2
        have hst := Lib.hid (show sixByte held 2 x = ([webS.getD j 0], h % 16, 4) by
          unfold sixByte
          simp only [hh.out]
          rw [if_neg (by decide)]
          show ([webS.getD (h / 16) 0], h % 16, 4) = _
          rw [hjj.out])
        go_wp2_with fail
        go_step3
        go_wp2_with fail
        go_step3
        go_wp2_with fail
        refine wp_loop_rounds 2 ?_
        rw [rounds_succ]
        go_wp2_with (refine wpList_own_append tB1 (O2.fr ((Fr.refl [] _).alloc _) (by simp)) (byte_new _ _ (q[j]) _ rfl) (fun u hu => by simp at hu; rw [hu]; rfl) (by simp) (by unfold maxLen; omega) (by omega) rfl rfl rfl rfl (fun v3 w3 p13 p23 p33 => ?_); obtain ⟨A3, c3, rfl, hA3⟩ := p13.form)
        rw [rounds_succ]
        go_wp2_with fail
        rw [Exit.noGoto_normal]
        go_wp2_with fail
        go_roundg (n - i)
        case measure => omega
        case rel =>
          refine ⟨i + 1, h % 16, 4, out ++ [webS.getD j 0], by go_num, by first | rfl | (simp; done) | (congr 1; omega), rfl, by have := hlth.out; omega, by have := hlth.out; omega, ?_, by omega, by omega, by rw [List.length_append, hn2.out, List.length_singleton]; omega, ?_⟩
          · rw [← hqj.out]
            exact BIn.push hn2.out R2 F2 p13 p23 p33
          · rw [← hgoh.out, hdr.out, sixGo, hst.out]
      · have hj : h / 64 < q.size := by have := hh.out; rw [hqs]; omega
        obtain ⟨j, hjj⟩ : ∃ z, Hid (h / 64 = z) := ⟨_, Lib.hid rfl⟩
        rw [hjj.out] at hj
        have hsh : (h : Int) / 64 = (j : Int) := by have := hjj.out; omega
        have hj2 : h % 64 < q.size := by rw [hqs]; omega
        have hand := and_63 hh4
        have hst := Lib.hid (show sixByte held 4 x = ([webS.getD j 0, webS.getD (h % 64) 0], 0, 0) by
          unfold sixByte
          simp only [hh.out]
          rw [if_pos (by decide), hjj.out])
        obtain ⟨k, hkk⟩ : ∃ z, Hid (h % 64 = z) := ⟨_, Lib.hid rfl⟩
        rw [hkk.out] at hj2 hand hst
        have hqj := Lib.hid (hqat.out _ hj)
        have hqk := Lib.hid (hqat.out _ hj2)
        have hk4 : k < 4096 := by have := hkk.out; omega
        have hand2 := (and_at hk4).1
        go_wp2_with fail
        go_step3
        go_wp2_with fail
        go_step3
        go_wp2_with fail
        refine wp_loop_rounds 3 ?_
        rw [rounds_succ]
        go_wp2_with (refine wpList_own_append tB1 (O2.fr ((Fr.refl [] _).alloc _) (by simp)) (byte_new _ _ (q[j]) _ rfl) (fun u hu => by simp at hu; rw [hu]; rfl) (by simp) (by unfold maxLen; omega) (by omega) rfl rfl rfl rfl (fun v3 w3 p13 p23 p33 => ?_); obtain ⟨A3, c3, rfl, hA3⟩ := p13.form)
        have hB3 := BIn.push hn2.out R2 F2 p13 p23 p33
        obtain ⟨A5, c5, hs5, O5, R5, F5⟩ := hB3
        obtain ⟨rfl, rfl⟩ : A3 = A5 ∧ c3 = c5 := by injection hs5 with h1 _ h3; exact ⟨h1, h3⟩
        have hl3 : (out ++ [q[j]]).length = n2 + 1 := by rw [List.length_append, hn2.out, List.length_singleton]
        rw [hl3] at O5 R5
        clear hs5 p13 p23 p33
        rw [rounds_succ]
        go_wp2_with (refine wpList_own_append tB1 (O5.fr ((Fr.refl [] _).alloc _) (by simp)) (byte_new _ _ (q[k]) _ rfl) (fun u hu => by simp at hu; rw [hu]; rfl) (by simp) (by unfold maxLen; omega) (by omega) rfl rfl rfl rfl (fun v4 w4 p14 p24 p34 => ?_); obtain ⟨A4, c4, rfl, hA4⟩ := p14.form)
        rw [rounds_succ]
        go_wp2_with fail
        rw [Exit.noGoto_normal]
        go_wp2_with fail
        go_roundg (n - i)
        case measure => omega
        case rel =>
          refine ⟨i + 1, 0, 0, out ++ [webS.getD j 0, webS.getD k 0], by go_num, rfl, rfl, by have := hlth.out; omega, by have := hlth.out; omega, ?_, by omega, by decide, by rw [List.length_append, hn2.out]; simp; omega, ?_⟩
          · have := BIn.push hl3 R5 F5 p14 p24 p34
            rw [hqj.out, hqk.out, List.append_assoc] at this
            exact this
          · rw [← hgoh.out, hdr.out, sixGo, hst.out]
    · have hge : ¬(i : Int) < n := by omega
      have hfin := hgoh.out
      rw [List.drop_eq_nil_of_le (by omega), sixGo] at hfin
      have hfinh := Lib.hid hfin
      clear hlt hk hfin
      rcases hbits with rfl | rfl | rfl
      · go_wp2_with fail
        go_ret
        refine ⟨_, rfl, ?_⟩
        have := hBh.out
        rw [hn2.out] at this
        rw [← hfinh.out]
        first
          | rw [if_pos rfl]
          | simp only [if_true]
        exact this
      · have hj : held * 16 < q.size := by rw [hqs]; omega
        obtain ⟨j, hjj⟩ : ∃ z, Hid (held * 16 = z) := ⟨_, Lib.hid rfl⟩
        rw [hjj.out] at hj
        have hsh : (held : Int) * 16 = (j : Int) := by have := hjj.out; omega
        have hqj := Lib.hid (hqat.out _ hj)
        go_wp2_with (refine wpList_own_append tB1 (O2.fr ((Fr.refl [] _).alloc _) (by simp)) (byte_new _ _ (q[j]) _ rfl) (fun u hu => by simp at hu; rw [hu]; rfl) (by simp) (by unfold maxLen; omega) (by omega) rfl rfl rfl rfl (fun v3 w3 p13 p23 p33 => ?_); obtain ⟨A3, c3, rfl, hA3⟩ := p13.form)
        go_ret
        refine ⟨_, rfl, ?_⟩
        rw [← hfinh.out, if_neg (by decide), show held * 2 ^ (6 - 2) = j from hjj.out, ← hqj.out]
        exact BIn.push hn2.out R2 F2 p13 p23 p33
      · have hj : held * 4 < q.size := by rw [hqs]; omega
        obtain ⟨j, hjj⟩ : ∃ z, Hid (held * 4 = z) := ⟨_, Lib.hid rfl⟩
        rw [hjj.out] at hj
        have hsh : (held : Int) * 4 = (j : Int) := by have := hjj.out; omega
        have hqj := Lib.hid (hqat.out _ hj)
        go_wp2_with (refine wpList_own_append tB1 (O2.fr ((Fr.refl [] _).alloc _) (by simp)) (byte_new _ _ (q[j]) _ rfl) (fun u hu => by simp at hu; rw [hu]; rfl) (by simp) (by unfold maxLen; omega) (by omega) rfl rfl rfl rfl (fun v3 w3 p13 p23 p33 => ?_); obtain ⟨A3, c3, rfl, hA3⟩ := p13.form)
        go_ret
        refine ⟨_, rfl, ?_⟩
        rw [← hfinh.out, if_neg (by decide), show held * 2 ^ (6 - 4) = j from hjj.out, ← hqj.out]
        exact BIn.push hn2.out R2 F2 p13 p23 p33
end Go.Proofs.YtdeoinjjphdbmaaGreat
namespace Go.Proofs.YtdeoinjjphdbmaaGreat
open Go.RowKit Go.Sig

theorem tStr : Tryz.prog.underlying 9 = some .string := by kernel_rfl
theorem web_t (w : World) (A : Option Addr) (n c : Nat) (l : List UInt8) (hb : Byts w A n l) (hmax : n ≤ 1000000) (h0 : 0 < (webM l).length) : Calls Tryz.prog 118 #[.slice A n c] w fun e w' => e = .returned (.string ⟨(webM l).toArray⟩) ∧ Fr [] w w' := by
  have hs := sixes_t w A n c l hb hmax
  rw [show sWeb = ⟨#[65, 66, 67, 68, 69, 70, 71, 72, 73, 74, 75, 76, 77, 78, 79, 80, 81, 82, 83, 84, 85, 86, 87, 88, 89, 90, 97, 98, 99, 100, 101, 102, 103, 104, 105, 106, 107, 108, 109, 110, 111, 112, 113, 114, 115, 116, 117, 118, 119, 120, 121, 122, 48, 49, 50, 51, 52, 53, 54, 55, 56, 57, 45, 95]⟩ from rfl] at hs
  obtain ⟨bs, hbs⟩ : ∃ z, Hid (webM l = z) := ⟨_, Lib.hid rfl⟩
  rw [hbs.out] at hs h0 ⊢
  go_enter Tryz.func118, Tryz.ntmps118
  go_wp2_with fail
  refine hs.mono ?_
  rintro e w' ⟨v, rfl, A2, c2, rfl, O2, R2, F2⟩
  obtain ⟨b, o, rfl, hcell⟩ := O2.rd.2 h0
  have hcv := run_convert_bytes_back (P := Tryz.prog) w' 119 9 5 ⟨b, o, none⟩ c2 bs tBytes (by kernel_rfl) tStr (fun j hj => by
    rw [Addr.add_lit]
    exact hcell j _ (by rw [List.getElem?_map, List.getElem?_eq_getElem hj]; rfl))
  have F2h := Lib.hid F2
  clear hcell O2 R2 F2 hs
  go_wp2_with fail
  go_ret
  exact ⟨rfl, F2h.out⟩

theorem acc_step {acc x y : Nat} : (acc ||| (x ^^^ y) = 0) ↔ (acc = 0 ∧ x = y) := by
  rw [Nat.or_eq_zero_iff]
  have : x ^^^ y = 0 ↔ x = y := by
    constructor
    · intro h
      apply Nat.eq_of_testBit_eq
      intro i
      have hb := congrArg (fun n => Nat.testBit n i) h
      simp only [Nat.testBit_xor, Nat.zero_testBit] at hb
      revert hb
      cases x.testBit i <;> cases y.testBit i <;> decide
    · intro h
      rw [h, Nat.xor_self]
  rw [this]
set_option maxHeartbeats 2000000 in
theorem osame_t (w : World) (A B : Option Addr) (n m c d : Nat) (a b : List UInt8) (hA : Byts w A n a) (hB : Byts w B m b) (hmax : n ≤ 1000000) (hmax2 : m ≤ 1000000) :
   Calls Tryz.prog 93 #[.slice A n c, .slice B m d] w fun e w' => e = .returned (.bool (decide (a = b))) ∧ Fr [] w w' := by
  have hna : a.length = n := Byts.length hA
  have hmb : b.length = m := Byts.length hB
  have hAh := Lib.hid hA
  have hBh := Lib.hid hB
  clear hA hB
  by_cases hnm : n = m
  · subst hnm
    go_enter Tryz.func93, Tryz.ntmps93
    go_wp2_with fail
    go_loopg [5, 6, 14] (n + 1) (fun gk s5 s6 s14 wr => ∃ (i acc : Nat), s14 = .int .i64 i ∧ s5 = .int .u8 acc ∧ acc < 256 ∧ i ≤ n ∧ n - i < gk ∧ (acc = 0 ↔ a.take i = b.take i) ∧ Fr [] w wr)
    case atStart => exact ⟨0, 0, rfl, rfl, by omega, by omega, by omega, by simp, Fr.refl _ _⟩
    case round =>
      obtain ⟨i, acc, rfl, rfl, hacc, hi, hk, hq, hF⟩ := hrel
      have hqh := Lib.hid hq
      have hFh := Lib.hid hF
      clear hq
      by_cases hlt : i < n
      · have hlt' : (i : Int) < n := by omega
        have hlth := Lib.hid hlt
        have ha' : i < a.length := by omega
        have hb' : i < b.length := by omega
        obtain ⟨ba, oa, rfl, hca⟩ := (Rd.fr hAh.out hF (by simp [Off])).2 (by omega)
        obtain ⟨bb, ob, rfl, hcb⟩ := (Rd.fr hBh.out hF (by simp [Off])).2 (by omega)
        have cx := hca i (bv a[i]) (by rw [List.getElem?_map, List.getElem?_eq_getElem ha']; rfl)
        have cy := hcb i (bv b[i]) (by rw [List.getElem?_map, List.getElem?_eq_getElem hb']; rfl)
        have hta := Lib.hid (List.take_succ_eq_append_getElem ha')
        have htb := Lib.hid (List.take_succ_eq_append_getElem hb')
        clear hca hcb hF
        obtain ⟨x, hx⟩ : ∃ z, Hid (a[i] = z) := ⟨_, Lib.hid rfl⟩
        obtain ⟨y, hy⟩ : ∃ z, Hid (b[i] = z) := ⟨_, Lib.hid rfl⟩
        rw [hx.out] at cx hta
        rw [hy.out] at cy htb
        unfold bv at cx cy
        have h1 := u8_xor_nat x.toNat y.toNat x.toNat_lt y.toNat_lt
        have hxo : x.toNat ^^^ y.toNat < 256 := Nat.xor_lt_two_pow (n := 8) x.toNat_lt y.toNat_lt
        have h2 := u8_or_nat acc (x.toNat ^^^ y.toNat) hacc hxo
        have ho : acc ||| (x.toNat ^^^ y.toNat) < 256 := Nat.or_lt_two_pow (n := 8) hacc hxo
        have hst := Lib.hid (acc_step (acc := acc) (x := x.toNat) (y := y.toNat))
        obtain ⟨q, hq⟩ : ∃ z, Hid (x.toNat ^^^ y.toNat = z) := ⟨_, Lib.hid rfl⟩
        rw [hq.out] at h1 h2 hxo ho hst
        obtain ⟨r, hr⟩ : ∃ z, Hid (acc ||| q = z) := ⟨_, Lib.hid rfl⟩
        rw [hr.out] at h2 ho hst
        go_upto_region 7 with (fail)
        go_quiet (fail)
        go_wp2
        go_roundg (n - i)
        case measure => omega
        case rel =>
          refine ⟨i + 1, r, by go_num, rfl, ho, by have := hlth.out; omega, by have := hlth.out; omega, ?_, hFh.out.drewN _⟩
          rw [hst.out, hqh.out, hta.out, htb.out]
          constructor
          · rintro ⟨e1, e2⟩
            rw [e1, UInt8.toNat_inj.1 e2]
          · intro e
            have := List.append_inj' e rfl
            exact ⟨this.1, by rw [List.cons.inj this.2 |>.1]⟩
      · have hin : i = n := by omega
        have hge : ¬ (i : Int) < n := by omega
        have hq := hqh.out
        rw [List.take_of_length_le (by omega), List.take_of_length_le (by omega)] at hq
        have hqh2 := Lib.hid hq
        clear hlt hk hF hq
        by_cases h0 : acc = 0
        · have h0' : ((acc : Int) == 0) = true := by rw [beq_iff_eq]; omega
          have h0h := Lib.hid h0
          clear h0
          go_wp2
          go_ret
          exact ⟨ret_eq (decide_eq_true (hqh2.out.1 h0h.out)).symm, hFh.out⟩
        · have h0' : ((acc : Int) == 0) = false := by rw [beq_eq_false_iff_ne]; omega
          have h0h := Lib.hid h0
          clear h0
          go_wp2
          go_ret
          exact ⟨ret_eq (decide_eq_false (fun h => h0h.out (hqh2.out.2 h))).symm, hFh.out⟩
  · have hne : ¬ (n : Int) = m := by omega
    have hne2 : ((n : Int) != m) = true := by simpa using hne
    have hab := Lib.hid (show ¬ a = b from fun h => hnm (by rw [← hna, ← hmb, h]))
    clear hnm hne
    go_enter Tryz.func93, Tryz.ntmps93
    go_wp2
    go_ret
    exact ⟨ret_eq (decide_eq_false hab.out).symm, Fr.refl _ _⟩
end Go.Proofs.YtdeoinjjphdbmaaGreat
