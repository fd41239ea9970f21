/- Walks of the law: the document's digest. Conditions: each theorem's own. -/
import Derived.Test.YtlhkkffljjbdmaaUi
import Derived.Test.YtlhkkffljjbdmaaUz
import Derived.Test.YtlhkkffljjbdmaaTd
namespace Go.Proofs.Ytlhkkffljjbdmaa
open Go.RowKit Go.Sig

theorem own_of_blk {w : World} {g : Nat} {t : TypeId} {cs : Array Value} {n cap : Nat} (h : Blk w g t cs) (hs : cs.size = cap) (hn : n ≤ cap) (hm : cap ≤ maxLen) : Own w t 1 (.slice (some ⟨g, 0, none⟩) n cap) n (cs.toList.take n) := by
  refine ⟨by rw [List.length_take, Array.length_toList]; omega, .inr ⟨g, cap, cs, rfl, Nat.zero_le _, h, hn, hm, by omega, by rw [Nat.mul_one]⟩⟩
theorem kid_snoc {f k : Nat} {l : List Pr} {i : Nat} (h : i < l.length) : kid f (l.take (i + 1)) k = kid f (l.take i) k ++ (if nib (pathOf l[i].1) (63 - f) = k then [l[i]] else []) := by
  unfold kid
  rw [List.take_succ_eq_append_getElem h, List.filter_append]
  by_cases e : nib (pathOf l[i].1) (63 - f) = k <;> simp [e]
theorem kid_take_le {f k : Nat} {l : List Pr} {i : Nat} : (kid f (l.take i) k).length ≤ i := by
  unfold kid
  exact Nat.le_trans (List.length_filter_le _ _) (by rw [List.length_take]; omega)
theorem kid_small {f k : Nat} {l : List Pr} (h : Small l) : Small (kid f l k) := ⟨fun y hy => h.1 y (List.mem_filter.1 hy).1, Nat.le_trans (kid_length_le f l k) h.2⟩

set_option maxRecDepth 100000 in
set_option maxHeartbeats 4000000 in
theorem digestB_t (f : Nat) (hf : f < 64) (ih : ∀ (w : World) (A : Option Addr) (n c : Nat) (l : List Pr), Rd w 2 A n (pairCells l) → l.length = n → Small l → Calls Try.prog 23 #[.slice A n c, .int .i64 ((64 - f : Nat) : Int)] w fun e w' => e = .returned (.agg (digCells (dig f l))) ∧ Fr [] w w')
   (w : World) (A : Option Addr) (n c : Nat) (l : List Pr) (hR : Rd w 2 A n (pairCells l)) (hn : l.length = n) (h2 : 2 ≤ n) (hs : Small l) :
   Calls Try.prog 23 #[.slice A n c, .int .i64 ((63 - f : Nat) : Int)] w fun e w' => e = .returned (.agg (digCells (dig (f + 1) l))) ∧ Fr [] w w' := by
  have hl4 := hs.2
  have hd0 : ((n : Int) == 0) = false := by simp; omega
  have hd1 : ((n : Int) == 1) = false := by simp; omega
  obtain ⟨dp, HDP⟩ : ∃ z, Hid (63 - f = z) := ⟨_, Lib.hid rfl⟩
  have hdp : dp < 64 := by have := HDP.out; omega
  have hd64 : ((dp : Int) == 64) = false := by simp; omega
  have hdn : (64 - f : Nat) = dp + 1 := by have := HDP.out; omega
  rw [HDP.out]
  rw [hdn] at ih
  have ihh := Lib.hid ih
  have hsmall := Lib.hid hs
  have hdeph := Lib.hid hdp
  clear ih hs hdn
  go_enter Try.func23, Try.ntmps23
  go_upto_region 1 with (fail)
  refine wp_gen (fun W => (∃ zs, Blk W w.heap.size 42 zs ∧ zs.size = 32) ∧ Fr [] w W) ⟨⟨_, Blk.new _ _ _, rfl⟩, (Fr.refl _ _).alloc _⟩ ?_
  rintro W ⟨⟨zs, hB, hz⟩, fW⟩
  obtain ⟨g, HG⟩ : ∃ x, Hid (w.heap.size = x) := ⟨_, Lib.hid rfl⟩
  have hRW := Rd.fr hR fW (by simp [Off])
  rw [HG.out] at hB ⊢
  clear hR
  go_upto_region 6 with (fail)
  refine wp_gen (fun W2 => Blk W2 W.heap.size 5 #[.int .u8 2] ∧ Fr [] W W2) ⟨Blk.new _ _ _, (Fr.refl _ _).alloc _⟩ ?_
  rintro W2 ⟨hb2, f2⟩
  obtain ⟨gb, HGB⟩ : ∃ x, Hid (W.heap.size = x) := ⟨_, Lib.hid rfl⟩
  rw [HGB.out] at hb2 ⊢
  have cb := hb2.cell 0
  simp only [List.getElem?_toArray, List.getElem?_cons_zero] at cb
  have hbl := hb2.lt
  have hfz := hb2.frozen 0
  go_upto_region 13 with (fail)
  refine wp_gen (fun W3 => BIn W W3 (.slice (some ⟨gb, 0, none⟩) 1 1) ([1] ++ kidD f l 0)) ⟨_, 1, rfl, own_of_blk (cs := #[.int .u8 1]) (n := 1) (cap := 1) (hb2.set 0 (.int .u8 1)) rfl (Nat.le_refl _) (by decide), by simp [rowOf, Value.ownBlock]; exact Nat.le_of_eq HGB.out, f2.setCell (.inr (Nat.le_of_eq HGB.out)) _⟩ ?_
  intro W3 hb3
  clear hb2 cb hbl hfz f2
  go_wp2_with fail
  go_loopg [5, 7, 8, 9, 10] 17 (fun gk s5 s7 s8 s9 s10 wr => ∃ (k : Nat), s7 = .int .i64 k ∧ k ≤ 16 ∧ 16 - k < gk ∧ BIn W wr s5 ([1] ++ kidD f l k))
  case atStart => exact ⟨0, rfl, by omega, by omega, hb3⟩
  case round =>
    clear hb3
    obtain ⟨k, rfl, hk, hkk, B0⟩ := hrel
    by_cases hlt : k < 16
    · have hlt' : (k : Int) < 16 := by omega
      have hlth := Lib.hid hlt
      obtain ⟨W4, hW4⟩ : ∃ W4 : World, W4 = wr := ⟨_, rfl⟩
      subst hW4
      have B0h := Lib.hid B0
      have hRW4 := Rd.fr hRW B0.base (by simp [Off])
      have hRWh := Lib.hid hRW
      have hBh := Lib.hid hB
      clear B0 hRW hB
      go_wp2_with fail
      go_loopg [8, 9] (n + 1) (fun gj s8 s9 wq => ∃ (i : Nat), s9 = .int .i64 i ∧ i ≤ n ∧ n - i < gj ∧ AccIn W4 wq s8 (kid f (l.take i) k))
      case atStart => exact ⟨0, rfl, by omega, by omega, AccIn.nil (Fr.refl _ _)⟩
      case round =>
        obtain ⟨i, rfl, hi, hki, hA⟩ := hrel
        have hAh := Lib.hid hA
        have hF : Fr [] W4 wr := by obtain ⟨A, c, rfl, h1, h2, h3⟩ := hA; exact h3
        by_cases hil : i < n
        · have hil' : (i : Int) < n := by omega
          have hilh := Lib.hid hil
          have hi' : i < l.length := by omega
          have hRr := Rd.fr hRW4 hF (by simp [Off])
          obtain ⟨b, o, rfl, hcell⟩ := hRr.2 (by omega)
          have hp := pairCells_at hi'
          have cn := hcell _ _ hp.1
          have cv := hcell _ _ hp.2
          rw [← Nat.add_assoc] at cv
          have hys := (hsmall.out.1 l[i] (List.getElem_mem hi')).1
          have hsn := Lib.hid (kid_snoc (f := f) (k := k) hi')
          have hle := kid_take_le (f := f) (k := k) (l := l) (i := i)
          have cnh := Lib.hid cn
          have cvh := Lib.hid cv
          clear hp hcell hRr cv hA
          obtain ⟨⟨y1, y2⟩, hy⟩ : ∃ z, Hid (l[i] = z) := ⟨_, Lib.hid rfl⟩
          rw [hy.out] at cn cnh cvh hsn hys
          simp only at cn hys
          have hpath := Lib.hid (fun (W : World) => rpath_t W y1 (by omega))
          obtain ⟨D, HD⟩ : ∃ z, Hid (pathOf y1 = z) := ⟨_, Lib.hid rfl⟩
          rw [show pathOf (y1, y2).1 = D from HD.out, HDP.out] at hsn
          rw [HD.out] at hpath
          have hrun := fun (W : World) => run_index_arr (P := Try.prog) W uI64 hdeph.out (by kernel_rfl) (d := .int .i64) (by kernel_rfl) rfl (pathV_at (d := D) hdeph.out)
          obtain ⟨out, ho⟩ : ∃ z, Hid (kid f (l.take i) k = z) := ⟨_, Lib.hid rfl⟩
          rw [ho.out] at hsn hle hAh
          obtain ⟨A2, c2, rfl, O2, R2, F2⟩ := hAh.out
          clear O2 F2
          by_cases hnk : nib D dp = k
          · rw [if_pos hnk] at hsn
            have hnk1 : (((nib D dp : Nat) : Int) == (k : Int)) = true := by rw [hnk]; simp
            obtain ⟨nv, HNV⟩ : ∃ z, Hid (((nib D dp : Nat) : Int) = z) := ⟨_, Lib.hid rfl⟩
            rw [HNV.out] at hnk1
            rw [HNV.out] at hrun
            clear hnk
            go_wp2_with fail
            refine (hpath.out _).mono ?_
            rintro e W5 ⟨rfl, F5⟩
            obtain ⟨A4, c4, hs4, O2, R2, F2⟩ := hAh.out.fr0 F5
            obtain ⟨rfl, rfl⟩ : A2 = A4 ∧ c2 = c4 := by injection hs4 with h1 _ h3; exact ⟨h1, h3⟩
            have cn := cell_fr F5 cnh.out
            have cv := cell_fr F5 cvh.out
            try simp only at cn
            try simp only at cv
            clear hs4
            go_wp2_with (refine wpList_own_append tPairs (O2.fr ((Fr.refl [] _).alloc _) (by simp)) (rd_pr (y1, y2) (Blk.new _ _ _)) (pairCells_one _) (by simp) (by unfold maxLen; omega) (by omega) rfl rfl rfl rfl (fun v2 w2 p1 p2 p3 => ?_); obtain ⟨A3, c3, rfl, hA3⟩ := p1.form)
            go_roundg (n - i)
            case measure => omega
            case rel =>
              refine ⟨i + 1, by go_num, by have := hilh.out; omega, by have := hilh.out; omega, ?_⟩
              rw [hsn.out]
              exact AccIn.push R2 F2 p1 p2 p3
          · rw [if_neg hnk, List.append_nil] at hsn
            have hnk1 : (((nib D dp : Nat) : Int) == (k : Int)) = false := by simpa using fun e => hnk (by omega)
            obtain ⟨nv, HNV⟩ : ∃ z, Hid (((nib D dp : Nat) : Int) = z) := ⟨_, Lib.hid rfl⟩
            rw [HNV.out] at hnk1
            rw [HNV.out] at hrun
            clear hnk
            go_wp2_with fail
            refine (hpath.out _).mono ?_
            rintro e W5 ⟨rfl, F5⟩
            have hA5 := Lib.hid (hAh.out.fr0 F5)
            go_wp2_with fail
            go_roundg (n - i)
            case measure => omega
            case rel =>
              refine ⟨i + 1, by go_num, by have := hilh.out; omega, by have := hilh.out; omega, ?_⟩
              rw [hsn.out]
              exact hA5.out
        · have hin : i = n := by omega
          have hge : ¬ (i : Int) < n := by omega
          have e : l.take i = l := List.take_of_length_le (by omega)
          rw [e] at hAh
          have hksm := kid_small (f := f) (k := k) hsmall.out
          have hdl := dig_length f (kid f l k)
          have hkd := Lib.hid (show [1] ++ kidD f l (k + 1) = [1] ++ kidD f l k ++ dig f (kid f l k) by rw [kidD_succ, List.append_assoc])
          have hkl := kidD_length f l k
          have hbl1 : ([1] ++ kidD f l k).length + 32 ≤ 100000000000 := by simp only [List.length_append, List.length_cons, List.length_nil, hkl]; have := hlth.out; omega
          obtain ⟨A2, c2, rfl, O2, R2, F2⟩ := hAh.out
          have hdig := ihh.out wr A2 (kid f l k).length c2 (kid f l k) O2.rd rfl hksm
          obtain ⟨D, HDD⟩ : ∃ x, Hid (dig f (kid f l k) = x) := ⟨_, Lib.hid rfl⟩
          obtain ⟨BS, HBS⟩ : ∃ x, Hid ([1] ++ kidD f l k = x) := ⟨_, Lib.hid rfl⟩
          rw [HDD.out] at hdig hdl hkd
          rw [HBS.out] at hkd hbl1
          have B1 := B0h.out.fr0 F2
          rw [HBS.out] at B1
          obtain ⟨m, HM⟩ : ∃ x, Hid ((kid f l k).length = x) := ⟨_, Lib.hid rfl⟩
          rw [HM.out] at hdig ⊢
          clear hil hki e hksm hA O2 R2 hRW4 hkl
          go_wp2_with fail
          refine hdig.mono ?_
          rintro e W6 ⟨rfl, F6⟩
          have B2 := B1.fr0 F6
          have hw6 := Nat.le_trans B2.base.size (Nat.le_refl _)
          clear B1 hdig F2
          go_upto_region 23 with (refine wpList_store_row rfl 42 _ _ rfl W6.heap.size (digCells D) rfl rfl 42 _ (Blk.new W6 42 _) (by rw [digCells_size hdl]; kernel_rfl) (by rw [digCells_size hdl]; rfl) (digCells_one D) ?_)
          refine wp_gen (fun W7 => Blk W7 W6.heap.size 42 (digCells D) ∧ Fr [] W6 W7) ⟨Blk.setRow (Blk.new W6 42 _) _, ((Fr.refl _ _).alloc _).setRow (.inr (Nat.le_refl _)) _⟩ ?_
          rintro W7 ⟨hD7, F7⟩
          obtain ⟨gd, HGD⟩ : ∃ z, Hid (W6.heap.size = z) := ⟨_, Lib.hid rfl⟩
          rw [HGD.out] at hD7 ⊢
          have B3 := B2.fr0 F7
          have hby := byts_dig hD7 hdl
          have hgdl := hD7.lt
          clear B2 F7 F6
          go_wp2_with (refine wpList_bin_append B3 hby hbl1 rfl rfl rfl rfl ?_; intro A8 N8 c8 W8 B8 P8)
          have B8h := Lib.hid B8
          clear B8 B3 P8
          go_wp2_with fail
          go_roundg (16 - k)
          case measure => omega
          case rel =>
            refine ⟨k + 1, by go_num, by have := hlth.out; omega, by have := hlth.out; omega, ?_⟩
            rw [hkd.out]
            exact B8h.out
    · obtain rfl : k = 16 := by omega
      have hshl := sha_len ([1] ++ kidD f l 16)
      have hsh := Lib.hid (show dig (f + 1) l = sha ([1] ++ kidD f l 16) from byLen_two (by omega) _ _ _)
      have hkl := kidD_length f l 16
      have hlen : ([1] ++ kidD f l 16).length ≤ 150000000000000 := by simp only [List.length_append, List.length_cons, List.length_nil, hkl]; omega
      obtain ⟨BS, HBS⟩ : ∃ x, Hid ([1] ++ kidD f l 16 = x) := ⟨_, Lib.hid rfl⟩
      obtain ⟨D, HDD⟩ : ∃ x, Hid (sha ([1] ++ kidD f l 16) = x) := ⟨_, Lib.hid rfl⟩
      rw [HDD.out] at hshl hsh
      have hd : sha BS = D := by rw [← HBS.out]; exact HDD.out
      rw [HBS.out] at B0 hlen
      obtain ⟨A5, c5, rfl, O5, R5, F5⟩ := B0
      have hB5 := hB.fr F5 (by simp)
      have hsum := sum1_t wr A5 BS.length c5 BS O5.rd O5.cap hlen
      rw [hd] at hsum
      have hF := Lib.hid (fW.trans F5)
      clear hd hlt hkk hk hl4 O5 R5 F5 hRW hB hkl
      go_wp2_with (first
        | (go_at_call 36; refine hsum.mono ?_; rintro e W9 ⟨rfl, F9⟩)
        | refine wpList_store_row rfl 42 _ _ rfl g (digCells D) rfl rfl 42 zs (hB5.fr F9 (by simp)) (infoDigA hshl) (by rw [hz, digCells_size hshl]) (digCells_one D) ?_)
      rw [hsh.out]
      exact bodyPost_ret (v := .agg (digCells D)) (results_cell_row rfl _ _ g 42 (digCells D) (0, 0) _ rfl (Blk.setRow (hB5.fr F9 (by simp)) _) uDig rfl (infoDigA hshl)) rfl ⟨rfl, (hF.out.trans F9).setRow (.inr (by have := HG.out; omega)) _⟩
theorem digest_t : ∀ (f : Nat), f ≤ 64 → ∀ (w : World) (A : Option Addr) (n c : Nat) (l : List Pr), Rd w 2 A n (pairCells l) → l.length = n → Small l →
   Calls Try.prog 23 #[.slice A n c, .int .i64 ((64 - f : Nat) : Int)] w fun e w' => e = .returned (.agg (digCells (dig f l))) ∧ Fr [] w w'
  | f, hf, w, A, n, c, [], hR, hn, hs => by
    simp at hn
    subst hn
    rw [dig_nil]
    exact digest0_t w A c _
  | f, hf, w, A, n, c, [y], hR, hn, hs => by
    simp at hn
    subst hn
    rw [dig_one]
    exact digest1_t w A c _ y hR hs
  | 0, hf, w, A, n, c, y :: z :: l, hR, hn, hs => digestL_t w A n c _ hR hn (by rw [← hn]; simp) hs
  | f + 1, hf, w, A, n, c, y :: z :: l, hR, hn, hs => by
    have := digestB_t f (by omega) (digest_t f (by omega)) w A n c _ hR hn (by rw [← hn]; simp) hs
    rwa [show (64 - (f + 1) : Nat) = 63 - f by omega]
end Go.Proofs.Ytlhkkffljjbdmaa
