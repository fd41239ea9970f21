/- Walks: a sign's place; the bytes of signs. Conditions: each theorem's own. -/
import Derived.Test.YtdeoinjjphdbmaaGreatGb
import Derived.Test.YtdeoinjjphdbmaaGreatGy
import Derived.Test.YtdeoinjjphdbmaaGreatSf
namespace Go.Proofs.YtdeoinjjphdbmaaGreat
open Go.RowKit Go.Sig

/-- Is it one of the signs that are no letters and no digits? -/
def verS (n : Nat) : Prop := n = 45 ∨ n = 46 ∨ n = 95 ∨ n = 126
theorem idxB_t (w : World) (c : UInt8) : Calls Tryz.prog 135 #[.string ⟨#[45, 46, 95, 126]⟩, .int .u8 (c.toNat : Int)] w fun e w' => ∃ k : Int, e = .returned (.int .i64 k) ∧ (k < 0 ↔ ¬verS c.toNat) ∧ w = w' := by
  refine (Tryz.strings_IndexByte ⟨#[45, 46, 95, 126]⟩ (c.toNat : Int) w).mono ?_
  rintro e w' ⟨rfl, rfl⟩
  refine ⟨_, rfl, ?_, rfl⟩
  have key : ∀ n : Fin 256, (Lib.indexByte [45, 46, 95, 126] (((n.val : Nat) : Int).toNat.toUInt8) < 0 ↔ ¬(n.val = 45 ∨ n.val = 46 ∨ n.val = 95 ∨ n.val = 126)) := by decide +kernel
  exact key ⟨c.toNat, c.toNat_lt⟩
set_option maxHeartbeats 2000000 in
theorem isVer_t (w : World) (s : ByteArray) (hs : s.size ≤ 150000000000000) : Calls Tryz.prog 109 #[.string s] w fun e w' => e = .returned (.bool (verM s)) ∧ w = w' := by
  go_enter Tryz.func109, Tryz.ntmps109
  go_wp2_with fail
  go_loopg [3, 4] (s.size + 1) (fun gk s3 s4 wr => ∃ (i : Nat), s3 = .int .i64 i ∧ i ≤ s.size ∧ s.size - i < gk ∧ (s.data.toList.take i).all verB = true ∧ w = wr)
  case atStart => exact ⟨0, rfl, by omega, by omega, rfl, rfl⟩
  case round =>
    obtain ⟨i, rfl, hi, hk, hall, rfl⟩ := hrel
    have hallh := Lib.hid hall
    clear hall
    by_cases hlt : i < s.size
    · have hlt' : (i : Int) < s.size := by omega
      have hlth := Lib.hid hlt
      have hib := idxB_t w s[i]
      unfold verS at hib
      by_cases hg : (97 ≤ s[i].toNat ∧ s[i].toNat ≤ 122) ∨ (65 ≤ s[i].toNat ∧ s[i].toNat ≤ 90) ∨ (48 ≤ s[i].toNat ∧ s[i].toNat ≤ 57) ∨ (s[i].toNat = 45 ∨ s[i].toNat = 46 ∨ s[i].toNat = 95 ∨ s[i].toNat = 126)
      · have hgh := Lib.hid hg
        have hw := Lib.hid (show verB s[i] = true by unfold verB; simp [← UInt8.toNat_inj]; omega)
        clear hg
        go_wp2_with (go_at_call 135; refine hib.mono ?_; rintro e w' ⟨k, rfl, hkk, rfl⟩)
        all_goals first
          | (exfalso; have hx := hgh.out; (try simp only [Bool.not_eq_eq_eq_not, Bool.not_true, Bool.not_false, decide_eq_true_eq, decide_eq_false_iff_not] at *); omega)
          | skip
        all_goals (go_roundg (s.size - i))
        all_goals first
          | (case measure => omega)
          | skip
        all_goals exact ⟨i + 1, by go_num, by have := hlth.out; omega, by have := hlth.out; omega, all_next hlth.out hallh.out hw.out, rfl⟩
      · have hgh := Lib.hid hg
        have hw := Lib.hid (show verB s[i] = false by unfold verB; simp [← UInt8.toNat_inj]; omega)
        clear hg
        go_wp2_with (go_at_call 135; refine hib.mono ?_; rintro e w' ⟨k, rfl, hkk, rfl⟩)
        all_goals first
          | (exfalso; have hx := hgh.out; (try simp only [Bool.not_eq_eq_eq_not, Bool.not_true, Bool.not_false, decide_eq_true_eq, decide_eq_false_iff_not] at *); omega)
          | (go_ret; exact ⟨ret_eq (by unfold verM; rw [all_no hlth.out hw.out]; rfl), rfl⟩)
    · have hge : ¬(i : Int) < s.size := by omega
      have ha := hallh.out
      rw [str_full (by omega)] at ha
      have hah := Lib.hid ha
      clear hlt ha hk
      by_cases h1 : 43 ≤ s.size
      · have h1' : 43 ≤ (s.size : Int) := by omega
        have h1h := Lib.hid h1
        by_cases h2 : s.size ≤ 128
        · have h2' : (s.size : Int) ≤ 128 := by omega
          have h2h := Lib.hid h2
          clear h1 h2
          go_wp2_with fail
          go_ret
          exact ⟨ret_eq (by unfold verM; rw [hah.out, decide_eq_true h1h.out, decide_eq_true h2h.out]; rfl), rfl⟩
        · have h2' : ¬(s.size : Int) ≤ 128 := by omega
          have h2h := Lib.hid h2
          clear h1 h2
          go_wp2_with fail
          go_ret
          exact ⟨ret_eq (by unfold verM; rw [decide_eq_false h2h.out, Bool.and_false]), rfl⟩
      · have h1' : ¬43 ≤ (s.size : Int) := by omega
        have h1h := Lib.hid h1
        clear h1
        go_wp2_with fail
        go_ret
        exact ⟨ret_eq (by unfold verM; rw [decide_eq_false h1h.out, Bool.and_false, Bool.false_and]), rfl⟩
end Go.Proofs.YtdeoinjjphdbmaaGreat
namespace Go.Proofs.YtdeoinjjphdbmaaGreat
open Go.RowKit Go.Sig

def WorthIs (l : List UInt8) (c : UInt8) (k : Int) : Prop := (∃ v : Nat, l.findIdx? (fun x => x == c) = some v ∧ k = v) ∨ (l.findIdx? (fun x => x == c) = none ∧ k = -1)
theorem u8_beq {a b : UInt8} : (((a.toNat : Nat) : Int) == ((b.toNat : Nat) : Int)) = (a == b) := by
  rw [Bool.eq_iff_iff, beq_iff_eq, beq_iff_eq, ← UInt8.toNat_inj]
  omega
set_option maxHeartbeats 1000000 in
theorem worth_t (w : World) (s : ByteArray) (hs : s.size ≤ 1000) (c : UInt8) : Calls Tryz.prog 160 #[.string s, .int .u8 (c.toNat : Int)] w fun e w' => ∃ k : Int, e = .returned (.int .i64 k) ∧ WorthIs s.data.toList c k ∧ w = w' := by
  go_enter Tryz.func160, Tryz.ntmps160
  go_wp2_with fail
  go_loopg [5] (s.size + 1) (fun gk s5 wr => ∃ (i : Nat), s5 = .int .i64 i ∧ i ≤ s.size ∧ s.size - i < gk ∧ (∀ x ∈ s.data.toList.take i, (x == c) = false) ∧ w = wr)
  case atStart => exact ⟨0, rfl, by omega, by omega, by simp, rfl⟩
  case round =>
    obtain ⟨i, rfl, hi, hk, hall, rfl⟩ := hrel
    have hallh := Lib.hid hall
    clear hall
    by_cases hlt : i < s.size
    · have hlt' : (i : Int) < s.size := by omega
      have hlth := Lib.hid hlt
      have htk := Lib.hid (str_take hlt)
      have hu := u8_beq (a := s[i]) (b := c)
      cases hb : s[i] == c with
      | true =>
        have hbh := Lib.hid hb
        rw [hb] at hu
        clear hb
        go_wp2_with fail
        go_ret
        refine ⟨i, rfl, .inl ⟨i, ?_, rfl⟩, rfl⟩
        have h' : i < s.data.toList.length := by rw [Array.length_toList]; exact hlth.out
        rw [List.findIdx?_eq_some_iff_getElem]
        refine ⟨h', ?_, fun j hj => ?_⟩
        · rw [Array.getElem_toList]
          exact hbh.out
        · have hm : s.data.toList[j]'(by omega) ∈ s.data.toList.take i := by
            rw [List.mem_take_iff_getElem]
            exact ⟨j, by omega, rfl⟩
          rw [hallh.out _ hm]
          simp
      | false =>
        have hbh := Lib.hid hb
        rw [hb] at hu
        clear hb
        go_wp2_with fail
        go_roundg (s.size - i)
        case measure => omega
        case rel =>
          refine ⟨i + 1, by go_num, by have := hlth.out; omega, by have := hlth.out; omega, fun x hx => ?_, rfl⟩
          rw [htk.out] at hx
          rcases List.mem_append.1 hx with h | h
          · exact hallh.out x h
          · rw [List.mem_singleton.1 h]
            exact hbh.out
    · have hge : ¬(i : Int) < s.size := by omega
      have ha := hallh.out
      rw [str_full (by omega)] at ha
      have hah := Lib.hid ha
      clear hlt ha hk
      go_wp2_with fail
      go_ret
      exact ⟨-1, rfl, .inr ⟨List.findIdx?_eq_none_iff.2 hah.out, rfl⟩, rfl⟩
def sWeb : ByteArray := ⟨webS.toArray⟩
theorem worthM_lt {c : UInt8} {v : Nat} (h : worthM c = some v) : v < 64 := by
  unfold worthM at h
  rw [List.findIdx?_eq_some_iff_getElem] at h
  obtain ⟨h, _⟩ := h
  exact h
/-- What a sign is worth, as a number. -/
def worthI (c : UInt8) : Int := match worthM c with | some v => v | none => -1
theorem worthW_t (w : World) (c : UInt8) : Calls Tryz.prog 160 #[.string sWeb, .int .u8 (c.toNat : Int)] w fun e w' => e = .returned (.int .i64 (worthI c)) ∧ w = w' := by
  refine (worth_t w sWeb (by decide) c).mono ?_
  rintro e w' ⟨k, rfl, hk, rfl⟩
  refine ⟨?_, rfl⟩
  have e1 : sWeb.data.toList = webS := by decide
  unfold WorthIs at hk
  rw [e1] at hk
  unfold worthI worthM
  rcases hk with ⟨v, h1, rfl⟩ | ⟨h1, rfl⟩ <;> rw [h1]

/-! ### The bytes of signs -/
/-- Bytes under way, in a row of their own. -/
def BIn (w wr : World) (s : Value) (bs : List UInt8) : Prop :=
  ∃ A c, s = .slice A bs.length c ∧ Own wr 5 1 (.slice A bs.length c) bs.length (bs.map bv) ∧ (∀ g, g ∈ rowOf (.slice A bs.length c) → w.heap.size ≤ g) ∧ Fr [] w wr
theorem BIn.nil (w : World) : BIn w w (.slice none 0 0) [] := ⟨none, 0, rfl, Own.nil _ _ _, by simp [rowOf, Value.ownBlock], Fr.refl _ _⟩
theorem tB1 : SliceTy Tryz.prog 119 5 1 1 (.int .u8 0) := ⟨by kernel_rfl, by kernel_rfl, rfl, by decide⟩
theorem byte_new (w : World) (x : Int) (b : UInt8) (ty : TypeId) (h : x = (b.toNat : Int)) : Rd (w.alloc (.cells #[.int .u8 x] ty)) 1 (some ⟨w.heap.size, 0, none⟩) 1 ([b].map bv) := by
  subst h
  refine ⟨rfl, fun _ => ⟨_, 0, rfl, fun j u hu => ?_⟩⟩
  rw [(Blk.new w ty #[.int .u8 (b.toNat : Int)]).cell, Nat.zero_add]
  simpa [bv] using hu
theorem BIn.push {w wr w2 : World} {o : Obj} {A A2 : Option Addr} {c c2 n : Nat} {bs : List UInt8} {b : UInt8} (hn : bs.length = n) (hR : ∀ g, g ∈ rowOf (.slice A n c) → w.heap.size ≤ g) (hF : Fr [] w wr)
    (p1 : Own w2 5 1 (.slice A2 (n + 1) c2) (n + 1) (bs.map bv ++ [b].map bv)) (p2 : Fr (rowOf (.slice A n c)) (wr.alloc o) w2)
    (p3 : ∀ g, g ∈ rowOf (.slice A2 (n + 1) c2) → g ∈ rowOf (.slice A n c) ∨ g = (wr.alloc o).heap.size) : BIn w w2 (.slice A2 (n + 1) c2) (bs ++ [b]) := by
  have hl : (bs ++ [b]).length = n + 1 := by simp [hn]
  refine ⟨A2, c2, by rw [hl], ?_, ?_, (hF.alloc _).andThen p2 (fun x hx => .inr (hR x hx))⟩
  · rw [hl, List.map_append]
    exact p1
  · rw [hl]
    exact fun g hg => (p3 g hg).elim (hR g) (fun e => by rw [e]; exact Nat.le_trans hF.size (by simp))
/-- What the bytes of signs are told as: they, or an error. -/
def BytesPost (w : World) (r : Option (List UInt8)) (e : Ending) (w' : World) : Prop := match r with
  | some bs => ∃ v, e = .returned (.tuple #[v, .int .i64 0]) ∧ BIn w w' v bs
  | none => e = .returned (.tuple #[.slice none 0 0, .int .i64 3]) ∧ Fr [] w w'
theorem or_six : ∀ (a b : Fin 64), bits .or .i64 ((a.val : Int) * 64) (b.val : Int) = ((a.val * 64 + b.val : Nat) : Int) := by decide +kernel
theorem and_all : ∀ (a b : Fin 64), bits .and .i64 ((a.val * 64 + b.val : Nat) : Int) 0 = 0 ∧ bits .and .i64 ((a.val * 64 + b.val : Nat) : Int) 3 = ((b.val % 4 : Nat) : Int) ∧ bits .and .i64 ((a.val * 64 + b.val : Nat) : Int) 15 = ((b.val % 16 : Nat) : Int) := by decide +kernel
theorem and_at {h : Nat} (hh : h < 4096) : bits .and .i64 (h : Int) 0 = 0 ∧ bits .and .i64 (h : Int) 3 = ((h % 4 : Nat) : Int) ∧ bits .and .i64 (h : Int) 15 = ((h % 16 : Nat) : Int) := by
  have := and_all ⟨h / 64, by omega⟩ ⟨h % 64, by omega⟩
  simp only at this
  rw [show h / 64 * 64 + h % 64 = h by omega, show h % 64 % 4 = h % 4 by omega, show h % 64 % 16 = h % 16 by omega] at this
  exact this
/-- One sign more. -/
def unsixStep (held bits v : Nat) : Nat × Nat × List UInt8 := if 8 ≤ bits + 6 then ((held * 64 + v) % 2 ^ (bits + 6 - 8), bits + 6 - 8, [UInt8.ofNat ((held * 64 + v) / 2 ^ (bits + 6 - 8))]) else (held * 64 + v, bits + 6, [])
theorem unsixGo_step {c : UInt8} {cs : List UInt8} {held bits v : Nat} {out : List UInt8} (h : worthM c = some v) : unsixGo (c :: cs) held bits out = unsixGo cs (unsixStep held bits v).1 (unsixStep held bits v).2.1 (out ++ (unsixStep held bits v).2.2) := by
  rw [unsixGo, h]
  unfold unsixStep
  simp only
  split <;> simp
set_option maxHeartbeats 2000000 in
theorem unsixes_t (w : World) (s : ByteArray) (hs : s.size ≤ 1000000) : Calls Tryz.prog 141 #[.string sWeb, .string s] w (BytesPost w (unwebM s.data.toList)) := by
  have hw := fun W c => worthW_t W c
  obtain ⟨q, hq⟩ : ∃ z, Hid (sWeb = z) := ⟨_, Lib.hid rfl⟩
  rw [hq.out] at hw ⊢
  go_enter Tryz.func141, Tryz.ntmps141
  by_cases h4 : s.size % 4 = 1
  · have h4' : ((s.size : Int) % 4 == 1) = true := by rw [beq_iff_eq]; omega
    have h4h := Lib.hid h4
    clear h4
    go_wp2_with fail
    go_ret2
    have e : unwebM s.data.toList = none := by
      unfold unwebM
      rw [if_pos (by rw [Array.length_toList]; exact h4h.out)]
    rw [e]
    exact ⟨rfl, Fr.refl _ _⟩
  · have h4' : ((s.size : Int) % 4 == 1) = false := by rw [beq_eq_false_iff_ne]; omega
    have hun := Lib.hid (show unwebM s.data.toList = unsixGo s.data.toList 0 0 [] by
      unfold unwebM
      rw [if_neg (by rw [Array.length_toList]; exact h4)])
    clear h4
    go_wp2_with fail
    clear h4'
    go_loopg [6, 7, 8, 9, 10] (s.size + 1) (fun gk s6 s7 s8 s9 s10 wr => ∃ (i held nb : Nat) (out : List UInt8), s9 = .int .i64 i ∧ s7 = .int .i64 held ∧ s8 = .int .i64 nb ∧ i ≤ s.size ∧ s.size - i < gk ∧ BIn w wr s6 out ∧ (nb = 0 ∨ nb = 2 ∨ nb = 4 ∨ nb = 6) ∧ held < 2 ^ nb ∧ out.length ≤ i ∧ unsixGo (s.data.toList.drop i) held nb out = unwebM s.data.toList)
    case atStart => exact ⟨0, 0, 0, [], rfl, rfl, rfl, by omega, by omega, BIn.nil w, by omega, by decide, by simp, hun.out.symm⟩
    case round =>
      obtain ⟨i, held, nb, out, rfl, rfl, rfl, hi, hk, hB, hbits, hheld, hlen, hgo⟩ := hrel
      have hgoh := Lib.hid hgo
      have hBh := Lib.hid hB
      clear hgo hun hB
      by_cases hlt : i < s.size
      · have hlt' : (i : Int) < s.size := by omega
        have hlth := Lib.hid hlt
        have hdr := Lib.hid (show s.data.toList.drop i = s[i] :: s.data.toList.drop (i + 1) by
          have h' : i < s.data.toList.length := by rw [Array.length_toList]; exact hlt
          rw [List.drop_eq_getElem_cons h', Array.getElem_toList]
          rfl)
        have hwi := hw wr s[i]
        obtain ⟨c, hc⟩ : ∃ z, Hid (s[i] = z) := ⟨_, Lib.hid rfl⟩
        rw [hc.out] at hdr hwi
        have hix : (s[i]'hlth.out) = c := hc.out
        cases hv : worthM c with
        | none =>
          have hvh := Lib.hid hv
          rw [show worthI c = -1 by unfold worthI; rw [hv]] at hwi
          clear hv
          go_wp2_with (go_at_call 160; refine hwi.mono ?_; rintro e w' ⟨rfl, rfl⟩)
          go_ret2
          rw [← hgoh.out, hdr.out, unsixGo, hvh.out]
          obtain ⟨A, c2, _, _, _, hF⟩ := hBh.out
          exact ⟨rfl, hF⟩
        | some v =>
          have hvh := Lib.hid hv
          have hv64 := worthM_lt hv
          rw [show worthI c = (v : Int) by unfold worthI; rw [hv]] at hwi
          have hv0 : ¬(v : Int) < 0 := by omega
          clear hv
          obtain ⟨A2, c2, rfl, O2, R2, F2⟩ := hBh.out
          obtain ⟨n2, hn2⟩ : ∃ z, Hid (out.length = z) := ⟨_, Lib.hid rfl⟩
          rw [hn2.out] at O2 R2 hlen ⊢
          obtain ⟨h, hh⟩ : ∃ z, Hid (held * 64 + v = z) := ⟨_, Lib.hid rfl⟩
          have hor : bits .or .i64 ((held : Int) * 64) (v : Int) = (h : Int) := by
            have hb : held < 64 := by rcases hbits with rfl | rfl | rfl | rfl <;> omega
            have := or_six ⟨held, hb⟩ ⟨v, hv64⟩
            simp only at this
            rw [this, hh.out]
          have hh4 : h < 4096 := by have := hh.out; have hb : held < 64 := by { rcases hbits with rfl | rfl | rfl | rfl <;> omega }; omega
          rcases hbits with rfl | rfl | rfl | rfl
          · have hst := Lib.hid (show unsixStep held 0 v = (h, 6, []) by unfold unsixStep; rw [hh.out]; rfl)
            go_wp2_with (go_at_call 160; refine hwi.mono ?_; rintro e w' ⟨rfl, rfl⟩)
            go_roundg (s.size - i)
            case measure => omega
            case rel =>
              have hbb := hBh.out
              rw [hn2.out] at hbb
              refine ⟨i + 1, h, 6, out, by go_num, rfl, rfl, by have := hlth.out; omega, by have := hlth.out; omega, hbb, by omega, by have := hh.out; omega, by rw [hn2.out]; omega, ?_⟩
              rw [← hgoh.out, hdr.out, unsixGo_step hvh.out, hst.out, List.append_nil]
          · have hst := Lib.hid (show unsixStep held 2 v = (h % 1, 0, [UInt8.ofNat (h / 1)]) by unfold unsixStep; rw [hh.out]; rfl)
            have hand := (and_at hh4).1
            have hx : (UInt8.ofNat (h / 1)).toNat = h / 1 % 256 := by simp
            go_wp2_with (first
              | (go_at_call 160; refine hwi.mono ?_; rintro e w' ⟨rfl, rfl⟩)
              | (refine wpList_own_append tB1 (O2.fr ((Fr.refl [] _).alloc _) (by simp)) (byte_new _ _ (UInt8.ofNat (h / 1)) _ (by rw [hx]; omega)) (fun u hu => by simp at hu; rw [hu]; rfl) (by simp) (by unfold maxLen; omega) (by omega) rfl rfl rfl rfl (fun v2 w2 p1 p2 p3 => ?_); obtain ⟨A3, c3, rfl, hA3⟩ := p1.form))
            go_roundg (s.size - i)
            case measure => omega
            case rel =>
              refine ⟨i + 1, h % 1, 0, out ++ [UInt8.ofNat (h / 1)], by go_num, by first | rfl | (simp; done) | (congr 1; omega), rfl, by have := hlth.out; omega, by have := hlth.out; omega, BIn.push hn2.out R2 F2 p1 p2 p3, by omega, by omega, by rw [List.length_append, hn2.out, List.length_singleton]; omega, ?_⟩
              rw [← hgoh.out, hdr.out, unsixGo_step hvh.out, hst.out]
          · have hst := Lib.hid (show unsixStep held 4 v = (h % 4, 2, [UInt8.ofNat (h / 4)]) by unfold unsixStep; rw [hh.out]; rfl)
            have hand := (and_at hh4).2.1
            have hx : (UInt8.ofNat (h / 4)).toNat = h / 4 % 256 := by simp
            go_wp2_with (first
              | (go_at_call 160; refine hwi.mono ?_; rintro e w' ⟨rfl, rfl⟩)
              | (refine wpList_own_append tB1 (O2.fr ((Fr.refl [] _).alloc _) (by simp)) (byte_new _ _ (UInt8.ofNat (h / 4)) _ (by rw [hx]; omega)) (fun u hu => by simp at hu; rw [hu]; rfl) (by simp) (by unfold maxLen; omega) (by omega) rfl rfl rfl rfl (fun v2 w2 p1 p2 p3 => ?_); obtain ⟨A3, c3, rfl, hA3⟩ := p1.form))
            go_roundg (s.size - i)
            case measure => omega
            case rel =>
              refine ⟨i + 1, h % 4, 2, out ++ [UInt8.ofNat (h / 4)], by go_num, by first | rfl | (simp; done) | (congr 1; omega), rfl, by have := hlth.out; omega, by have := hlth.out; omega, BIn.push hn2.out R2 F2 p1 p2 p3, by omega, by omega, by rw [List.length_append, hn2.out, List.length_singleton]; omega, ?_⟩
              rw [← hgoh.out, hdr.out, unsixGo_step hvh.out, hst.out]
          · have hst := Lib.hid (show unsixStep held 6 v = (h % 16, 4, [UInt8.ofNat (h / 16)]) by unfold unsixStep; rw [hh.out]; rfl)
            have hand := (and_at hh4).2.2
            have hx : (UInt8.ofNat (h / 16)).toNat = h / 16 % 256 := by simp
            go_wp2_with (first
              | (go_at_call 160; refine hwi.mono ?_; rintro e w' ⟨rfl, rfl⟩)
              | (refine wpList_own_append tB1 (O2.fr ((Fr.refl [] _).alloc _) (by simp)) (byte_new _ _ (UInt8.ofNat (h / 16)) _ (by rw [hx]; omega)) (fun u hu => by simp at hu; rw [hu]; rfl) (by simp) (by unfold maxLen; omega) (by omega) rfl rfl rfl rfl (fun v2 w2 p1 p2 p3 => ?_); obtain ⟨A3, c3, rfl, hA3⟩ := p1.form))
            go_roundg (s.size - i)
            case measure => omega
            case rel =>
              refine ⟨i + 1, h % 16, 4, out ++ [UInt8.ofNat (h / 16)], by go_num, by first | rfl | (simp; done) | (congr 1; omega), rfl, by have := hlth.out; omega, by have := hlth.out; omega, BIn.push hn2.out R2 F2 p1 p2 p3, by omega, by omega, by rw [List.length_append, hn2.out, List.length_singleton]; omega, ?_⟩
              rw [← hgoh.out, hdr.out, unsixGo_step hvh.out, hst.out]
      · have hge : ¬(i : Int) < s.size := by omega
        have hfin := hgoh.out
        rw [List.drop_eq_nil_of_le (by rw [Array.length_toList]; show s.size ≤ i; omega), unsixGo] at hfin
        have hfinh := Lib.hid hfin
        clear hlt hk hfin
        by_cases h0 : held = 0
        · have h0' : ((held : Int) != 0) = false := by simp; omega
          have h0'' : ((held : Int) == 0) = true := by rw [beq_iff_eq]; omega
          have h0h := Lib.hid h0
          clear h0
          go_wp2_with fail
          go_ret2
          rw [← hfinh.out, if_pos h0h.out]
          exact ⟨_, rfl, hBh.out⟩
        · have h0' : ((held : Int) != 0) = true := by simp; omega
          have h0'' : ((held : Int) == 0) = false := by rw [beq_eq_false_iff_ne]; omega
          have h0h := Lib.hid h0
          clear h0
          go_wp2_with fail
          go_ret2
          rw [← hfinh.out, if_neg h0h.out]
          obtain ⟨A, c2, _, _, _, hF⟩ := hBh.out
          exact ⟨rfl, hF⟩
theorem unweb_t (w : World) (s : ByteArray) (hs : s.size ≤ 1000000) : Calls Tryz.prog 120 #[.string s] w (BytesPost w (unwebM s.data.toList)) := by
  have hu := unsixes_t w s hs
  cases hr : unwebM s.data.toList with
  | none =>
    rw [hr] at hu
    go_enter Tryz.func120, Tryz.ntmps120
    go_wp2_with (go_at_call 141; refine Calls.mono (show Calls Tryz.prog 141 _ _ _ from hu) ?_; rintro e w' ⟨rfl, F⟩)
    go_ret2
    exact ⟨rfl, F⟩
  | some bs =>
    rw [hr] at hu
    go_enter Tryz.func120, Tryz.ntmps120
    go_wp2_with (go_at_call 141; refine Calls.mono (show Calls Tryz.prog 141 _ _ _ from hu) ?_; rintro e w' ⟨v, rfl, F⟩)
    go_ret2
    exact ⟨_, rfl, F⟩
end Go.Proofs.YtdeoinjjphdbmaaGreat
