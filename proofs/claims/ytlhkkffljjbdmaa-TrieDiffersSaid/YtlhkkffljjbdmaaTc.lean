/- Walks of the trie: a node of many pairs. Conditions: each theorem's own. -/
import Derived.Test.YtlhkkffljjbdmaaTb
namespace Go.Proofs.Ytlhkkffljjbdmaa
open Go.RowKit Go.Sig

def flatN (l : List Pr) : List UInt8 := l.flatMap fun y => szd y.1 ++ szd y.2
theorem flatN_length : ∀ {l : List Pr}, (∀ y ∈ l, y.1.size ≤ 100000 ∧ y.2.size ≤ 100000) → (flatN l).length ≤ l.length * 200008
  | [], _ => by simp [flatN]
  | y :: l, h => by
    have h1 := h y (by simp)
    have ih := flatN_length (l := l) (fun z hz => h z (by simp [hz]))
    unfold flatN at ih ⊢
    rw [List.flatMap_cons, List.length_append, List.length_append, szd_length, szd_length, List.length_cons]
    omega
theorem flatN_take {l : List Pr} {i : Nat} (h : i < l.length) : flatN (l.take (i + 1)) = flatN (l.take i) ++ (szd l[i].1 ++ szd l[i].2) := by
  unfold flatN
  rw [List.take_succ_eq_append_getElem h, List.flatMap_append]
  simp
theorem laid0_t (w : World) (A : Option Addr) (c : Nat) : Calls Try.prog 55 #[.slice A 0 c] w fun e w' => e = .returned nilP ∧ Fr [] w w' := by
  go_enter Try.func55, Try.ntmps55
  go_wp2
  go_ret
  exact ⟨rfl, Fr.refl _ _⟩
theorem off_new {w : World} {A : Option Addr} {g : Nat} (h : ∀ ad, A = some ad → w.heap.size ≤ ad.block) (hg : g < w.heap.size) : Off [g] A := by
  intro ad e
  have := h ad e
  simp
  omega

set_option maxRecDepth 100000 in
set_option maxHeartbeats 4000000 in
theorem laidN_t (w : World) (X : List Nat) (A : Option Addr) (n c : Nat) (l : List Pr) (hR : Rd w 2 A n (pairCells l)) (hn : l.length = n) (h2 : 2 ≤ n) (hc : n ≤ c) (hX : ∀ x ∈ X, x < w.heap.size) (hA : Off X A) (hs : Small l) :
   Calls Try.prog 55 #[.slice A n c] w fun e w' => ∃ p, e = .returned p ∧ LeafAt w' X (leafN l) l p ∧ Fr [] w w' := by
  obtain ⟨b, o, rfl, hcell⟩ := hR.2 (by omega)
  have hbl : b < w.heap.size := by
    have := Rd.lt hR (by decide) (by omega) ⟨b, o, none⟩ rfl
    exact this
  have hflat := flatN_length hs.1
  have hl4 := hs.2
  have hd0 : ((n : Int) == 0) = false := by simp; omega
  have hd1 : ((n : Int) == 1) = false := by simp; omega
  have hd2 : decide ((n : Int) = 0) = false := by simp; omega
  have hd3 : decide ((n : Int) = 1) = false := by simp; omega
  go_enter Try.func55, Try.ntmps55
  go_upto_region 4 with (fail)
  refine wp_gen (fun W => Blk W w.heap.size 84 (nodeCells zeroDig (.slice (some ⟨b, o, none⟩) n c) nilP n) ∧ Fr [] w W) ⟨Blk.new _ _ _, (Fr.refl _ _).alloc _⟩ ?_
  rintro W ⟨hB, fW⟩
  have hRW := Rd.fr hR fW (by simp [Off])
  obtain ⟨g, HG⟩ : ∃ x, Hid (w.heap.size = x) := ⟨_, Lib.hid rfl⟩
  rw [HG.out] at hB hbl ⊢
  clear hcell
  have hgl := hB.lt
  go_wp2_with fail
  refine (hnew_t W).mono ?_
  rintro e W1 ⟨rfl, F1, hge, S1⟩
  obtain ⟨gh, HGH⟩ : ∃ x, Hid (W1.heap.size - 1 = x) := ⟨_, Lib.hid rfl⟩
  rw [HGH.out] at hge S1 ⊢
  have hB1 := hB.fr F1 (by simp)
  have hghl := S1.lt
  go_wp2_with fail
  have hbs : Byts (W1.alloc (.cells #[.int .u8 2] 5)) (some ⟨W1.heap.size, 0, none⟩) 1 [2] := byts_bs (b := 2) rfl
  refine (hwrite_t _ gh [] [2] _ 1 1 (S1.fr ((Fr.refl [] _).alloc _) (by simp)) hbs (fun _ => by simp [Off]; omega) (Nat.le_refl _) (by decide)).mono ?_
  rintro e W2 ⟨rfl, F2, S2⟩
  have F12 : Fr [gh] W W2 := (F1.nil.trans (((Fr.refl [gh] W1).alloc _).trans F2))
  clear hbs F2 S1 hB1 F1
  go_upto_block 0 with (fail)
  have hB2 : Blk W2 g 84 _ := hB.fr F12 (by simp; omega)
  have hR2 := Rd.fr hRW F12 (fun _ => by simp [Off]; omega)
  have hgh2 := S2.lt
  have hbgh : b ≠ gh := by omega
  have f2 : Fr [] w W2 := fW.andThen F12 (fun x hx => .inr (by have := HG.out; simp at hx; omega))
  have hggh : g < gh := Nat.lt_of_lt_of_le hgl hge
  have hwgh : w.heap.size ≤ gh := Nat.le_trans fW.size hge
  clear hB F12 fW hRW hR hge
  have hgW2 := f2.size
  go_wp2_with fail
  go_loopg [6, 41] (n + 1) (fun k s6 s41 wr => ∃ (i : Nat), s41 = .int .i64 i ∧ i ≤ n ∧ n - i < k ∧ StIn wr gh 160 ([2] ++ flatN (l.take i)) ∧ Fr [gh] W2 wr)
  case atStart => exact ⟨0, rfl, by omega, by omega, by simpa [flatN] using S2, Fr.refl _ _⟩
  case round =>
    clear S2
    obtain ⟨i, rfl, hi, hk, S3, F3⟩ := hrel
    by_cases hlt : i < n
    · have hlt' : (i : Int) < n := by omega
      have hlth := Lib.hid hlt
      have hi' : i < l.length := by omega
      have hRr := Rd.fr hR2 F3 (fun _ => by simp [Off]; omega)
      obtain ⟨b', o', e, hcell⟩ := hRr.2 (by omega)
      cases e
      have hp := pairCells_at hi'
      have cn := hcell _ _ hp.1
      have cv := hcell _ _ hp.2
      have hsm := hs.1 l[i] (List.getElem_mem hi')
      have htk := Lib.hid (flatN_take hi')
      have hln : ([2] ++ flatN (l.take i)).length ≤ 1 + 10000 * 200008 := by
        have := flatN_length (l := l.take i) (fun z hz => hs.1 z (List.mem_of_mem_take hz))
        simp only [List.length_append, List.length_cons, List.length_nil]
        rw [List.length_take] at this
        have h1 : min i l.length ≤ 10000 := by omega
        have h2 : min i l.length * 200008 ≤ 10000 * 200008 := Nat.mul_le_mul_right _ h1
        omega
      have hghr := S3.lt
      have hlnh := Lib.hid hln
      clear hp hcell hRr hln
      obtain ⟨⟨y1, y2⟩, hy⟩ : ∃ x, Hid (l[i] = x) := ⟨_, Lib.hid rfl⟩
      rw [hy.out] at cn cv hsm htk
      simp only at cn cv hsm htk
      have hs1 := hsm.1
      have hs2 := hsm.2
      have ebo : o + i * 2 + 1 = o + (i * 2 + 1) := by omega
      have cv2 := cv
      rw [← ebo] at cv2
      clear ebo
      go_upto_region 12 with (fail)
      refine wp_gen (fun W3 => Blk W3 wr.heap.size 66 #[.string y1, .string y2] ∧ Fr [] wr W3) ⟨Blk.new _ _ _, (Fr.refl _ _).alloc _⟩ ?_
      rintro W3 ⟨hBp, F4⟩
      have S4 := S3.fr F4 (by simp)
      have d1 := (hBp.cell 0)
      have d2 := (hBp.cell 1)
      simp only [List.getElem?_toArray, List.getElem?_cons_zero, List.getElem?_cons_succ] at d1 d2
      have hg3 := S4.lt
      have hpl := hBp.lt
      obtain ⟨gp, HGP⟩ : ∃ x, Hid (wr.heap.size = x) := ⟨_, Lib.hid rfl⟩
      rw [HGP.out] at d1 d2 hBp hpl ⊢
      have hgpg : gh < gp := by rw [← HGP.out]; exact hghr
      clear cn cv cv2 S3
      go_wp2_with fail
      refine (sized_t W3 y1 (by omega)).mono ?_
      rintro e W5 ⟨A5, c5, rfl, hb5, hc5, hA5, F5⟩
      have S5 := S4.fr F5 (by simp)
      have hBp5 := hBp.fr F5 (by simp)
      have hg5 := S5.lt
      clear S4 hBp d1 d2
      go_wp2_with fail
      refine (hwrite_t W5 gh _ (szd y1) A5 (4 + y1.size) c5 S5 hb5 (fun _ => off_new hA5 hg3) hc5 (by have := hlnh.out; omega)).mono ?_
      rintro e W6 ⟨rfl, F6, S6⟩
      have hBp6 := hBp5.fr F6 (by simp; omega)
      have d2 := (hBp6.cell 1)
      simp only [List.getElem?_toArray, List.getElem?_cons_zero, List.getElem?_cons_succ] at d2
      have F36 : Fr [gh] wr W6 := F4.nil.trans (F5.nil.trans F6)
      clear F4 F5 F6 hb5 hA5 hc5 S5 hBp5
      have hg6 := S6.lt
      go_wp2_with fail
      refine (sized_t W6 y2 (by omega)).mono ?_
      rintro e W7 ⟨A7, c7, rfl, hb7, hc7, hA7, F7⟩
      have S7 := S6.fr F7 (by simp)
      have hg7 := S7.lt
      clear S6 d2 hBp6
      go_wp2_with fail
      refine (hwrite_t W7 gh _ (szd y2) A7 (4 + y2.size) c7 S7 hb7 (fun _ => off_new hA7 hg6) hc7 (by have := hlnh.out; simp only [List.length_append, szd_length] at this ⊢; omega)).mono ?_
      rintro e W8 ⟨rfl, F8, S8⟩
      have F38 : Fr [gh] wr W8 := F36.trans (F7.nil.trans F8)
      clear F36 F7 F8 hb7 hA7 hc7 S7
      go_wp2_with fail
      go_roundg (n - i)
      case measure => omega
      case rel =>
        refine ⟨i + 1, by go_num, by have := hlth.out; omega, by have := hlth.out; omega, ?_, F3.trans F38⟩
        rw [htk.out]
        simpa using S8
    · have hin : i = n := by omega
      have hge : ¬ (i : Int) < n := by omega
      rw [List.take_of_length_le (by omega)] at S3
      have hB3 := hB2.fr F3 (by simp; omega)
      have hR3 := Rd.fr hR2 F3 (fun _ => by simp [Off]; omega)
      have f3 : Fr [] w wr := f2.andThen F3 (fun x hx => .inr (by simp at hx; omega))
      have hlf : ([2] ++ flatN l).length ≤ 150000000000000 := by
        have : l.length * 200008 ≤ 10000 * 200008 := Nat.mul_le_mul_right _ hl4
        simp only [List.length_append, List.length_cons, List.length_nil]
        omega
      subst hin
      clear hlt hk hB2 hR2 F3 f2
      have hg3 := S3.lt
      have hgg := hB3.lt
      go_wp2_with fail
      refine (hsum_t wr gh _ S3 hlf).mono ?_
      rintro e W9 ⟨rfl, F9⟩
      have hB9 := hB3.fr F9 (by simp)
      have hR9 := Rd.fr hR3 F9 (by simp [Off])
      have f9 := f3.trans F9
      have hlen := sha_length ([2] ++ flatN l)
      have hsh : leafN l = sha ([2] ++ flatN l) := rfl
      have hshh := Lib.hid hsh
      obtain ⟨D, HDD⟩ : ∃ x, Hid (sha ([2] ++ flatN l) = x) := ⟨_, Lib.hid rfl⟩
      rw [HDD.out] at hlen ⊢
      have hB9l := hB9.lt
      clear hsh hB3 hR3 f3 F9 S3
      go_wp2_with (refine wpList_store_at rfl 42 _ _ rfl rfl rfl hB9 (infoDigA hlen) (by rw [digCells_size hlen, nodeCells_size rfl]; decide) (digCells_one' D) ?_)
      go_ret
      refine ⟨_, rfl, ⟨g, some ⟨b, o, none⟩, c, rfl, fun hx => by have := hX g hx; have := HG.out; omega, ?_, by rw [hn]; exact Rd.fr hR9 ((Fr.refl [g] W9).setRow (.inl (by simp)) _) (fun _ ad e => by cases e; simp; omega), by omega, fun _ => hA⟩, f9.setRow (.inr (by have := HG.out; omega)) _⟩
      have hfin := Blk.setRow hB9 (laid (nodeCells zeroDig (.slice (some ⟨b, o, none⟩) i c) nilP i) 0 (digCells D).toList)
      rw [laid_dig rfl hlen] at hfin ⊢
      rw [hshh.out, HDD.out, hn]
      exact hfin
end Go.Proofs.Ytlhkkffljjbdmaa
