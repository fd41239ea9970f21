/- TrieFull: the table that is filled, and the walk of the law. Conditions: each theorem's own. -/
import Derived.Test.YtlhkkffljjbdmaaTr
import Derived.Laws.BytesString
namespace Go.Proofs.Ytlhkkffljjbdmaa
open Go.RowKit Go.Sig

def keyB (i : Nat) : ByteArray := ⟨#[107, UInt8.ofNat (i / 256), UInt8.ofNat i]⟩
def vB : ByteArray := ⟨#[118]⟩
def fullL : Nat → List Pr
  | 0 => []
  | i + 1 => put (keyB i, vB) (fullL i)
theorem keyB_inj {i j : Nat} (hi : i < 65536) (hj : j < 65536) (h : keyB i = keyB j) : i = j := by
  unfold keyB at h
  injection h with h
  have h1 : UInt8.ofNat (i / 256) = UInt8.ofNat (j / 256) := by
    have := congrArg (fun a : Array UInt8 => a[1]!) h
    simpa using this
  have h2 : UInt8.ofNat i = UInt8.ofNat j := by
    have := congrArg (fun a : Array UInt8 => a[2]!) h
    simpa using this
  have e1 := congrArg UInt8.toNat h1
  have e2 := congrArg UInt8.toNat h2
  simp only [UInt8.toNat_ofNat'] at e1 e2
  omega
theorem fullL_rising : ∀ i, Rising (fullL i)
  | 0 => List.Pairwise.nil
  | i + 1 => put_rising (fullL_rising i)
theorem fullL_get (s : ByteArray) : ∀ i, (aget s (fullL i)).isSome = true ↔ ∃ j, j < i ∧ s = keyB j
  | 0 => by simp [fullL, aget]
  | i + 1 => by
    have ih := fullL_get s i
    unfold fullL
    by_cases h : s = keyB i
    · subst h
      rw [show aget (keyB i) (put (keyB i, vB) (fullL i)) = some vB from aget_put_same (x := (keyB i, vB))]
      exact ⟨fun _ => ⟨i, by omega, rfl⟩, fun _ => rfl⟩
    · rw [aget_put_other (x := (keyB i, vB)) h, ih]
      constructor
      · rintro ⟨j, hj, e⟩
        exact ⟨j, by omega, e⟩
      · rintro ⟨j, hj, e⟩
        refine ⟨j, ?_, e⟩
        by_cases hji : j = i
        · subst hji; exact absurd e h
        · omega
theorem fullL_length : ∀ i, i ≤ 65536 → (fullL i).length = i
  | 0, _ => rfl
  | i + 1, h => by
    have ih := fullL_length i (by omega)
    unfold fullL
    rw [put_length (fullL_rising i)]
    have hn : (aget (keyB i) (fullL i)).isSome = false := by
      cases hh : (aget (keyB i) (fullL i)).isSome with
      | false => rfl
      | true =>
        obtain ⟨j, hj, e⟩ := (fullL_get (keyB i) i).1 hh
        have := keyB_inj (by omega) (by omega) e
        omega
    rw [show ((keyB i, vB) : Pr).1 = keyB i from rfl, hn, ih]
    rfl
theorem keyB_size (i : Nat) : (keyB i).size = 3 := rfl
theorem fits_keyB (i : Nat) : fitsE (keyB i) vB = 0 := by
  unfold fitsE
  rw [if_neg (by rw [keyB_size]; decide), if_neg (by decide)]
theorem putE_full {i : Nat} (h : i < 4096) : putE (keyB i) vB (fullL i) = 0 := by
  unfold putE
  rw [if_neg (by rw [fits_keyB]; decide), if_neg]
  rintro ⟨_, h2⟩
  rw [fullL_length i (by omega)] at h2
  omega
theorem fullL_good : ∀ i, i ≤ 4096 → Good (fullL i)
  | 0, _ => ⟨List.Pairwise.nil, fun y hy => by simp [fullL] at hy, by simp [fullL]⟩
  | i + 1, h => by
    have := putM_good (k := keyB i) (v := vB) (fullL_good i (by omega))
    unfold putM at this
    rw [if_pos (putE_full (by omega))] at this
    exact this
/-- What the law asks of one key, once the table is full. -/
theorem full_law {key w : ByteArray} (hk : 1 ≤ key.size ∧ key.size ≤ 64) (hw : w.size ≤ 60000) :
    ∃ (f : Int), putE key w (fullL 4096) = f ∧ ((aget key (fullL 4096)).isSome = true → f = 0) ∧ ((aget key (fullL 4096)).isSome = false → f = 8) ∧ (putM key w (fullL 4096)).length = 4096 ∧
      errRes (aget (keyB 0) (putM key w (fullL 4096))) = 0 ∧ putE key w (del (keyB 0) (putM key w (fullL 4096))) = 0 := by
  have hfit : fitsE key w = 0 := by
    unfold fitsE
    rw [if_neg (by omega), if_neg (by omega)]
  have hr := fullL_rising 4096
  have hl := fullL_length 4096 (by decide)
  have h0 : (aget (keyB 0) (fullL 4096)).isSome = true := (fullL_get (keyB 0) 4096).2 ⟨0, by decide, rfl⟩
  cases hs : (aget key (fullL 4096)).isSome with
  | true =>
    have he : putE key w (fullL 4096) = 0 := by
      unfold putE
      rw [if_neg (by rw [hfit]; decide), if_neg (by rw [hs]; simp)]
    have hm : putM key w (fullL 4096) = put (key, w) (fullL 4096) := by unfold putM; rw [if_pos he]
    have hlm : (put (key, w) (fullL 4096)).length = 4096 := by
      rw [put_length hr, if_pos hs, hl]
    have h0m : (aget (keyB 0) (put (key, w) (fullL 4096))).isSome = true := by
      by_cases e : keyB 0 = key
      · rw [e, show aget key (put (key, w) (fullL 4096)) = some w from aget_put_same (x := (key, w))]
        rfl
      · rw [aget_put_other (x := (key, w)) e]
        exact h0
    refine ⟨0, he, fun _ => rfl, (fun h => by cases h), (by rw [hm, hlm]), ?_, ?_⟩
    · rw [hm]; unfold errRes; rw [if_pos h0m]
    · rw [hm]
      unfold putE
      rw [if_neg (by rw [hfit]; decide), if_neg]
      rintro ⟨_, h2⟩
      rw [del_length (put_rising hr), if_pos h0m, hlm] at h2
      omega
  | false =>
    have he : putE key w (fullL 4096) = 8 := by
      unfold putE
      rw [if_neg (by rw [hfit]; decide), if_pos ⟨hs, by rw [hl]; exact Nat.le_refl _⟩]
    have hm : putM key w (fullL 4096) = fullL 4096 := by unfold putM; rw [if_neg (by rw [he]; decide)]
    refine ⟨8, he, (fun h => by cases h), fun _ => rfl, (by rw [hm, hl]), ?_, ?_⟩
    · rw [hm]; unfold errRes; rw [if_pos h0]
    · rw [hm]
      unfold putE
      rw [if_neg (by rw [hfit]; decide), if_neg]
      rintro ⟨_, h2⟩
      rw [del_length hr, if_pos h0, hl] at h2
      omega

theorem put_bad (w : World) (t : Nat) (k v : ByteArray) (hk : k.size ≤ 9223372036854775807) (hv : v.size ≤ 9223372036854775807) (h : fitsE k v ≠ 0) :
   Calls Try.prog 11 #[.pointer (some ⟨t, 0, none⟩), .string k, .string v] w fun e w' => e = .returned (.int .i64 (fitsE k v)) ∧ w = w' := by
  have hfit := fits_t k v w hk hv
  obtain ⟨fe, HFE⟩ : ∃ z, Hid (fitsE k v = z) := ⟨_, Lib.hid rfl⟩
  rw [HFE.out] at hfit h ⊢
  have hne : (fe == 0) = false := by simpa using h
  clear h
  go_enter Try.func11, Try.ntmps11
  go_wp2_with fail
  refine hfit.mono ?_
  rintro e w1 ⟨rfl, rfl⟩
  go_wp2
  go_ret
  exact ⟨rfl, rfl⟩

set_option maxRecDepth 100000 in
set_option maxHeartbeats 4000000 in
theorem full_t (key : ByteArray) (hkey : key.size ≤ 9223372036854775807) (w : World) : Calls Try.prog 3 #[.string key] w fun e w' => e = .returned (.bool true) ∧ Fr [] w w' := by
  have hnew := new_t w [] (by simp) none 0 0 [] (Rd.nil _ _ _) rfl (by decide) (by simp)
  go_enter Try.func3, Try.ntmps3
  go_wp2_with fail
  refine Calls.mono hnew ?_
  rintro e W ⟨fW, hcase⟩
  rcases hcase with ⟨_, t, rfl, hwt, hT, hG⟩ | ⟨h, _⟩
  case inr => exact absurd rfl h
  go_upto_block 0 with (fail)
  go_cut [5] from 13 to 27 (fun s5 wx => TrieIn wx [t] t (fullL 4096) ∧ Fr [t] W wx)
  case first =>
    go_wp2_with fail
    go_loopg [5] 4097 (fun gk s5 wr => ∃ (i : Nat), s5 = .int .i64 i ∧ i ≤ 4096 ∧ 4096 - i < gk ∧ TrieIn wr [t] t (fullL i) ∧ Fr [t] W wr)
    case atStart => exact ⟨0, rfl, by omega, by omega, hT, Fr.refl _ _⟩
    case round =>
      clear hT hG
      obtain ⟨i, rfl, hi, hk, hTi, hF⟩ := hrel
      have hTih := Lib.hid hTi
      have hFh := Lib.hid hF
      clear hTi hF
      by_cases hlt : i < 4096
      · have hlt' : (i : Int) < 4096 := by omega
        have hlth := Lib.hid hlt
        have e1 : ((UInt8.ofNat (i / 256)).toNat : Int) = (i : Int) / 256 := by rw [UInt8.toNat_ofNat']; omega
        have e2 : ((UInt8.ofNat i).toNat : Int) = (i : Int) % 256 := by rw [UInt8.toNat_ofNat']; omega
        have hcvb : (convert 27 9 (.slice (some ⟨wr.heap.size, 0, none⟩) 2 2)).run Try.prog (wr.alloc (.cells #[.int .u8 ((i : Int) / 256), .int .u8 ((i : Int) % 256)] 5)) = .ok (.string ⟨#[UInt8.ofNat (i / 256), UInt8.ofNat i]⟩) (wr.alloc (.cells #[.int .u8 ((i : Int) / 256), .int .u8 ((i : Int) % 256)] 5)) :=
          run_convert_bytes_back _ 27 9 5 ⟨wr.heap.size, 0, none⟩ 2 [UInt8.ofNat (i / 256), UInt8.ofNat i] tBytes (by kernel_rfl) tStr (fun j hj => by
            rw [Addr.add_lit, Nat.zero_add, (Blk.new wr 5 _).cell]
            have hj2 : j = 0 ∨ j = 1 := by simp at hj; omega
            rcases hj2 with rfl | rfl
            · simp only [List.getElem_cons_zero, e1]; rfl
            · simp only [List.getElem_cons_succ, List.getElem_cons_zero, e2]; rfl)
        have e1h := Lib.hid e1
        clear e1 e2
        go_wp2_with fail
        rw [show ((⟨#[107]⟩ : ByteArray) ++ (⟨#[UInt8.ofNat (i / 256), UInt8.ofNat i]⟩ : ByteArray)) = keyB i from ByteArray.mk_append_mk [107] [UInt8.ofNat (i / 256), UInt8.ofNat i]]
        have FA : Fr [] wr (wr.alloc (.cells #[.int .u8 ((i : Int) / 256), .int .u8 ((i : Int) % 256)] 5)) := (Fr.refl _ _).alloc _
        have hput := put_t _ [t] t (fullL i) (keyB i) vB (by rw [keyB_size]; decide) (by decide) (hTih.out.fr0 FA) (fullL_good i hi)
        have hpe := putE_full hlth.out
        have hpm : putM (keyB i) vB (fullL i) = fullL (i + 1) := by unfold putM; rw [if_pos hpe]; rfl
        rw [hpe, hpm] at hput
        refine Calls.mono hput ?_
        rintro e W2 ⟨rfl, hT2, F2⟩
        have hT2h := Lib.hid hT2
        clear hT2 hput hpe hpm hcvb
        go_wp2
        go_roundg (4096 - i)
        case measure => omega
        case rel => exact ⟨i + 1, by go_num, by have := hlth.out; omega, by have := hlth.out; omega, hT2h.out, hFh.out.trans (FA.nil.trans F2)⟩
      · have hin : i = 4096 := by omega
        subst hin
        have hge : ¬ ((4096 : Nat) : Int) < 4096 := by omega
        clear hlt hk hi
        go_wp2
        go_meet
        exact ⟨hTih.out, hFh.out⟩
  case rest =>
    obtain ⟨hT2, F2⟩ := hcut
    have hT2h := Lib.hid hT2
    have f2 : Fr [] w wc := fW.andThen F2 (fun z hz => .inr (by simp at hz; omega))
    have hGf := fullL_good 4096 (by decide)
    have hGh := Lib.hid hGf
    clear hT2 hT hG hnew
    go_wp2_with fail
    refine (known_t wc).mono ?_
    rintro e W3 ⟨rfl, F3⟩
    have hT3 := Lib.hid (hT2h.out.fr0 F3)
    have f3 := f2.trans F3
    by_cases hk : 1 ≤ key.size ∧ key.size ≤ 64
    · obtain ⟨f, hf, hf1, hf2, hlen, hdel, hput2⟩ := full_law (w := ⟨#[119]⟩) hk (by decide)
      have h1 : ¬ (key.size : Int) < 1 := by omega
      have h2 : ¬ (64 : Int) < key.size := by omega
      have hget := get_t W3 [t] t (fullL 4096) key (by omega) hT3.out hGh.out.rising hGh.out.small
      obtain ⟨av, er, hge, her⟩ : ∃ (av : ByteArray) (er : Int), getRes (aget key (fullL 4096)) = .tuple #[.string av, .int .i64 er] ∧ ((er = 0 ∧ f = 0) ∨ (er = 7 ∧ f = 8)) := by
        cases h : aget key (fullL 4096) with
        | none => exact ⟨_, _, rfl, .inr ⟨rfl, hf2 (by rw [h]; rfl)⟩⟩
        | some a => exact ⟨_, _, rfl, .inl ⟨rfl, hf1 (by rw [h]; rfl)⟩⟩
      rw [hge] at hget
      have hfh := Lib.hid hf
      have hlenh := Lib.hid hlen
      have hdelh := Lib.hid hdel
      have hput2h := Lib.hid hput2
      clear hf hf1 hf2 hlen hdel hput2 hge
      go_wp2_with fail
      refine hget.mono ?_
      rintro e W4 ⟨rfl, F4⟩
      have hp1 := put_t W4 [t] t (fullL 4096) key ⟨#[119]⟩ (by omega) (by decide) (hT3.out.fr0 F4) hGh.out
      rw [hfh.out] at hp1
      have hG5 := Lib.hid (putM_good (k := key) (v := ⟨#[119]⟩) hGh.out)
      obtain ⟨L5, HL5⟩ : ∃ z, Hid (putM key ⟨#[119]⟩ (fullL 4096) = z) := ⟨_, Lib.hid rfl⟩
      rw [HL5.out] at hp1 hG5 hlenh hdelh hput2h
      clear hget
      go_wp2_with fail
      refine hp1.mono ?_
      rintro e W5 ⟨rfl, hT5, F5⟩
      have hT5h := Lib.hid hT5
      have hc1 := count_t W5 [t] t L5 hT5
      rw [hlenh.out] at hc1
      clear hp1 hT5
      have hd1 := del_t W5 [t] t L5 (keyB 0) (by rw [keyB_size]; decide) hT5h.out hG5.out
      rw [hdelh.out] at hd1
      have hd1h := Lib.hid hd1
      clear hd1
      have f5 : Fr [] w W5 := (f3.trans F4).andThen F5 (fun z hz => .inr (by simp at hz; omega))
      rcases her with ⟨rfl, rfl⟩ | ⟨rfl, rfl⟩
      all_goals
        go_wp2_with fail
        refine hc1.mono ?_
        rintro e w6 ⟨rfl, rfl⟩
        go_wp2_with fail
        refine Calls.mono (show Calls Try.prog 15 #[.pointer (some ⟨t, 0, none⟩), .string ⟨#[107, 0, 0]⟩] _ _ from hd1h.out) ?_
        rintro e W7 ⟨rfl, hT7, F7⟩
        have hG7 := del_good (s := keyB 0) hG5.out
        have hp2 := put_t W7 [t] t _ key ⟨#[119]⟩ (by omega) (by decide) hT7 hG7
        rw [hput2h.out] at hp2
        have hG8 := Lib.hid (putM_good (k := key) (v := ⟨#[119]⟩) hG7)
        obtain ⟨L8, HL8⟩ : ∃ z, Hid (putM key ⟨#[119]⟩ (del (keyB 0) L5) = z) := ⟨_, Lib.hid rfl⟩
        rw [HL8.out] at hp2 hG8
        clear hT7 hG7
        go_wp2_with fail
        refine hp2.mono ?_
        rintro e W8 ⟨rfl, hT8, F8⟩
        have hc2 := count_t W8 [t] t L8 hT8
        have hfew : (L8.length : Int) ≤ 4096 := by have := hG8.out.few; omega
        clear hp2 hT8
        go_wp2_with fail
        refine hc2.mono ?_
        rintro e w9 ⟨rfl, rfl⟩
        go_wp2
        go_ret
        exact ⟨rfl, f5.andThen (F7.trans F8) (fun z hz => .inr (by simp at hz; omega))⟩
    · have hfe : fitsE key ⟨#[120]⟩ = 1 := by unfold fitsE; rw [if_pos (by omega)]
      have hput := fun W => put_bad W t key ⟨#[120]⟩ hkey (by decide) (by rw [hfe]; decide)
      rw [hfe] at hput
      have hputh := Lib.hid hput
      have hkn := known_t W3
      by_cases h1 : (key.size : Int) < 1
      · clear hput hfe hk
        go_wp2_with fail
        refine hkn.mono ?_
        rintro e W4 ⟨rfl, F4⟩
        go_wp2_with fail
        refine (hputh.out W4).mono ?_
        rintro e w5 ⟨rfl, rfl⟩
        go_wp2
        go_ret
        exact ⟨rfl, f3.trans F4⟩
      · have h2 : (64 : Int) < key.size := by omega
        clear hput hfe hk
        go_wp2_with fail
        refine hkn.mono ?_
        rintro e W4 ⟨rfl, F4⟩
        go_wp2_with fail
        refine (hputh.out W4).mono ?_
        rintro e w5 ⟨rfl, rfl⟩
        go_wp2
        go_ret
        exact ⟨rfl, f3.trans F4⟩
end Go.Proofs.Ytlhkkffljjbdmaa
