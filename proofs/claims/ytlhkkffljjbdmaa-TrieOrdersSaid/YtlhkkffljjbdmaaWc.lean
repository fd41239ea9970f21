/- Walk of the law TrieOrders. Conditions: each theorem's own. -/
import Derived.Test.YtlhkkffljjbdmaaWb
import Derived.Test.YtlhkkffljjbdmaaUn
namespace Go.Proofs.Ytlhkkffljjbdmaa
open Go.RowKit Go.Sig

theorem own_cells {w : World} {A : Option Addr} {n c : Nat} {ls : List Pr} (h : Own w 66 2 (.slice A n c) n (pairCells ls)) (hn : 0 < n) :
    ∃ g cur, A = some ⟨g, 0, none⟩ ∧ Blk w g 66 cur ∧ cur.size = c * 2 ∧ n ≤ c ∧ c ≤ maxLen ∧ ∀ j, j < n * 2 → cur[j]? = (pairCells ls)[j]? := by
  rcases h.2 with ⟨hv, h0⟩ | ⟨g, cap, cur, hv, hbs, hh, hnc, hcm, hcs, htk⟩
  · omega
  · injection hv with hv1 _ hv3
    subst hv1 hv3
    exact ⟨g, cur, rfl, hh, hcs, hnc, hcm, fun j hj => by rw [← htk, List.getElem?_take_of_lt hj, Array.getElem?_toList]⟩
theorem own_of_cells {w : World} {g n c : Nat} {cur : Array Value} {ls : List Pr} (hB : Blk w g 66 cur) (hs : cur.size = c * 2) (hnc : n ≤ c) (hc : c ≤ maxLen) (hn : ls.length = n) (h : ∀ j, j < n * 2 → cur[j]? = (pairCells ls)[j]?) :
    Own w 66 2 (.slice (some ⟨g, 0, none⟩) n c) n (pairCells ls) := by
  have hl : (pairCells ls).length = n * 2 := by rw [pairCells_length, hn]
  refine ⟨hl, .inr ⟨g, c, cur, rfl, Nat.zero_le _, hB, hnc, hc, hs, ?_⟩⟩
  apply List.ext_getElem?
  intro j
  by_cases hj : j < n * 2
  · rw [List.getElem?_take_of_lt hj, Array.getElem?_toList, h j hj]
  · rw [List.getElem?_eq_none (by rw [List.length_take]; omega), List.getElem?_eq_none (by omega)]
theorem pairCells_set : ∀ {ls : List Pr} {i : Nat} (y : Pr) (j : Nat), i < ls.length → (pairCells (ls.set i y))[j]? = if j = i * 2 then some (.string y.1) else if j = i * 2 + 1 then some (.string y.2) else (pairCells ls)[j]?
  | z :: ls, 0, y, j, _ => by
    show (Value.string y.1 :: Value.string y.2 :: pairCells ls)[j]? = _
    match j with
    | 0 => rfl
    | 1 => rfl
    | j + 2 => simp [pairCells]
  | z :: ls, i + 1, y, j, h => by
    have ih := fun j => pairCells_set (ls := ls) (i := i) y j (by simpa using h)
    show (Value.string z.1 :: Value.string z.2 :: pairCells (ls.set i y))[j]? = if _ then _ else if _ then _ else (Value.string z.1 :: Value.string z.2 :: pairCells ls)[j]?
    match j with
    | 0 => simp
    | 1 => rw [if_neg (by omega), if_neg (by omega)]; rfl
    | j + 2 =>
      simp only [List.getElem?_cons_succ]
      rw [ih j]
      have e1 : (j + 2 = (i + 1) * 2) = (j = i * 2) := propext ⟨fun h => by omega, fun h => by omega⟩
      have e2 : (j + 2 = (i + 1) * 2 + 1) = (j = i * 2 + 1) := propext ⟨fun h => by omega, fun h => by omega⟩
      simp only [e1, e2]
theorem shuffle_idx (ov : Int) (n : Nat) (h0 : 0 < n) (hn : n ≤ 4096) : ∃ k : Nat, wrap64 ((IntKind.u64.wrap ov).tmod (n : Int)) = (k : Int) ∧ k < n := by
  have hw : 0 ≤ IntKind.u64.wrap ov := by
    show 0 ≤ ov % _
    exact Int.emod_nonneg _ (by decide)
  have e1 : (IntKind.u64.wrap ov).tmod (n : Int) = (IntKind.u64.wrap ov) % (n : Int) := Int.tmod_eq_emod_of_nonneg hw
  have h1 : 0 ≤ (IntKind.u64.wrap ov) % (n : Int) := Int.emod_nonneg _ (by omega)
  have h2 : (IntKind.u64.wrap ov) % (n : Int) < n := Int.emod_lt_of_pos _ (by omega)
  rw [e1]
  refine ⟨((IntKind.u64.wrap ov) % (n : Int)).toNat, ?_, by omega⟩
  rw [IntWalk.wrap64_in _ ⟨by omega, by omega⟩]
  omega
/-- A pair is stored into a row. -/
theorem own_store {w : World} {g n c i : Nat} {cur : Array Value} {ls : List Pr} (y : Pr) (hB : Blk w g 66 cur) (hs : cur.size = c * 2) (hnc : n ≤ c) (hn : ls.length = n) (hi : i < n) (h : ∀ j, j < n * 2 → cur[j]? = (pairCells ls)[j]?) :
    Blk ((w.setCell ⟨g, i * 2, none⟩ (.string y.1)).setCell ⟨g, i * 2 + 1, none⟩ (.string y.2)) g 66 ((cur.setIfInBounds (i * 2) (.string y.1)).setIfInBounds (i * 2 + 1) (.string y.2)) ∧
    ((cur.setIfInBounds (i * 2) (.string y.1)).setIfInBounds (i * 2 + 1) (.string y.2)).size = c * 2 ∧
    (∀ j, j < n * 2 → ((cur.setIfInBounds (i * 2) (.string y.1)).setIfInBounds (i * 2 + 1) (.string y.2))[j]? = (pairCells (ls.set i y))[j]?) ∧
    Fr [g] w ((w.setCell ⟨g, i * 2, none⟩ (.string y.1)).setCell ⟨g, i * 2 + 1, none⟩ (.string y.2)) := by
  refine ⟨(hB.set _ _).set _ _, by simpa using hs, fun j hj => ?_, ((Fr.refl _ _).setCell (.inl (by simp)) _).setCell (.inl (by simp)) _⟩
  rw [pairCells_set y j (by omega), Array.getElem?_setIfInBounds, Array.getElem?_setIfInBounds]
  by_cases h2 : j = i * 2 + 1
  · subst h2
    rw [if_pos rfl, if_pos (by simp; omega), if_neg (by omega), if_pos rfl]
  · rw [if_neg (by omega)]
    by_cases h1 : j = i * 2
    · subst h1
      rw [if_pos rfl, if_pos (by omega), if_pos rfl]
    · rw [if_neg (by omega), if_neg h1, if_neg h2]
      exact h j hj

set_option maxRecDepth 100000 in
set_option maxHeartbeats 4000000 in
theorem orders_t (w : World) (A : Option Addr) (n c : Nat) (ss : List St) (hR : Rd w 3 A n (stepCells ss)) (hn : ss.length = n) (hmax : n ≤ 150000000000000)
   (hs : ∀ s ∈ ss, s.2.1.size ≤ 150000000000000 ∧ s.2.2.size ≤ 150000000000000) (B : Option Addr) (m d : Nat) (ns : List Int) (hB : Rd w 1 B m (intCells ns)) (hm : ns.length = m) (hmm : m ≤ 150000000000000) :
   Calls Try.prog 8 #[.slice A n c, .slice B m d] w fun e w' => e = .returned (.bool true) ∧ Fr [] w w' := by
  have hplay := playz_t w [] (by simp) A n c ss hR hn hmax hs
  have hG := Lib.hid (playM_good (ss.take 40))
  obtain ⟨l, hl⟩ : ∃ z, Hid (playM (ss.take 40) = z) := ⟨_, Lib.hid rfl⟩
  rw [hl.out] at hplay hG
  have hBh := Lib.hid hB
  clear hR hs hB
  go_enter Try.func8, Try.ntmps8
  go_wp2_with fail
  refine hplay.mono ?_
  rintro e W1 ⟨t, A1, n1, c1, rfl, hP⟩
  have hn1 := hP.rd.2
  have hlen := hG.out.few
  have hPh := Lib.hid hP
  have f1 : Hid (Fr [] w W1) := by obtain ⟨_, A, c, _, h1, h2, h3, h4⟩ := hP; exact Lib.hid h3
  clear hplay hP
  go_wp2_with fail
  refine (known_t _).mono ?_
  rintro e W2 ⟨rfl, F2⟩
  have hP2 := Lib.hid (hPh.out.fr0 F2)
  have f2 := Lib.hid (f1.out.trans F2)
  have hO2 : Hid (Own W2 66 2 (.slice A1 n1 c1) n1 (pairCells l)) := Lib.hid (by
    obtain ⟨_, A4, c4, hs4, h1, h2, h3, h4⟩ := hP2.out
    injection hs4 with e1 e2 e3
    subst e1 e2 e3
    exact h1)
  have hrow : Hid (∀ g, g ∈ rowOf (.slice A1 n1 c1) → w.heap.size ≤ g ∧ g ≠ t) := Lib.hid (by
    obtain ⟨_, A4, c4, hs4, h1, h2, h3, h4⟩ := hP2.out
    rw [hs4]
    exact h2)
  have hT2 := Lib.hid hP2.out.1
  clear F2
  go_upto_block 0 with (fail)
  go_cut [8, 9, 10] from 29 to 65 (fun s8 s9 s10 wx => ∃ ls : List Pr, ls.Perm l ∧ Own wx 66 2 (.slice A1 n1 c1) n1 (pairCells ls) ∧ Fr (rowOf (.slice A1 n1 c1)) W2 wx)
  case first =>
    go_wp2_with fail
    go_loopg [8, 9, 10] (n1 + 1) (fun gk s8 s9 s10 wr => ∃ (i : Nat) (ls : List Pr), s8 = .int .i64 i ∧ i ≤ m ∧ i ≤ n1 ∧ n1 - i < gk ∧ ls.Perm l ∧ Own wr 66 2 (.slice A1 n1 c1) n1 (pairCells ls) ∧ Fr (rowOf (.slice A1 n1 c1)) W2 wr)
    case atStart => exact ⟨0, l, rfl, by omega, by omega, by omega, .refl _, hO2.out, Fr.refl _ _⟩
    case round =>
      obtain ⟨i, ls, rfl, him, hin, hk, hpm, hO, hF⟩ := hrel
      have hpmh := Lib.hid hpm
      have hOh := Lib.hid hO
      have hFh := Lib.hid hF
      have hlsl : ls.length = n1 := by rw [hpm.length_eq]; exact hn1
      clear hpm hO hF
      by_cases hlm : i < m
      · have hlm' : (i : Int) < m := by omega
        by_cases hln : i < n1
        · have hln' : (i : Int) < n1 := by omega
          have hlmh := Lib.hid hlm
          have hlnh := Lib.hid hln
          obtain ⟨g, cur, rfl, hBk, hcs, hnc, hcm, hcur⟩ := own_cells hOh.out (by omega)
          have hi' : i < ls.length := by omega
          have hp := pairCells_at hi'
          have cn := (hBk.cell (i * 2)).trans ((hcur _ (by omega)).trans hp.1)
          have cv := (hBk.cell (i * 2 + 1)).trans ((hcur _ (by omega)).trans hp.2)
          have hgl := hBk.lt
          have hrg : Hid (w.heap.size ≤ g ∧ g ≠ t) := Lib.hid (hrow.out g (by simp [rowOf, Value.ownBlock]))
          have him2 : i < ns.length := by omega
          have hrw : Fr [] w wr := f2.out.andThen hFh.out (fun x hx => .inr (hrow.out x hx).1)
          have hBr := Rd.fr hBh.out hrw (by simp [Off])
          obtain ⟨b2, o2, rfl, hcell2⟩ := hBr.2 (by omega)
          have co := hcell2 i (.int .i64 ns[i]) (by rw [intCells, List.getElem?_map, List.getElem?_eq_getElem him2]; rfl)
          clear hcell2 hBr hp hrw
          obtain ⟨ov, hov⟩ : ∃ z, Hid (ns[i] = z) := ⟨_, Lib.hid rfl⟩
          rw [hov.out] at co
          obtain ⟨⟨x1, x2⟩, hx⟩ : ∃ z, Hid (ls[i] = z) := ⟨_, Lib.hid rfl⟩
          rw [hx.out] at cn cv
          simp only at cn cv
          have hn10 : 0 < n1 := by omega
          have hsw := Lib.hid (shuffle_idx ov n1 hn10 (by omega))
          go_upto_region 8 with (fail)
          obtain ⟨k, hke, hkn⟩ := hsw.out
          rw [hke]
          clear hke
          have hk' : k < ls.length := by omega
          have hpk := pairCells_at hk'
          have hswp := Lib.hid (swap_perm hi' hk')
          obtain ⟨⟨z1, z2⟩, hz⟩ : ∃ z, Hid (ls[k] = z) := ⟨_, Lib.hid rfl⟩
          rw [hz.out] at hpk
          rw [hx.out, hz.out] at hswp
          have hkn' : (k : Int) < n1 := by omega
          go_upto_region 9 with (fail)
          refine wp_gen (fun W3 => Blk W3 wr.heap.size 66 #[.string x1, .string x2] ∧ Fr [] wr W3) ⟨Blk.new _ _ _, (Fr.refl _ _).alloc _⟩ ?_
          rintro W3 ⟨hB3, F3⟩
          obtain ⟨g3, HG3⟩ : ∃ z, Hid (wr.heap.size = z) := ⟨_, Lib.hid rfl⟩
          rw [HG3.out] at hB3 hgl ⊢
          have hBk3 := hBk.fr F3 (by simp)
          have ck := (hBk3.cell (k * 2)).trans ((hcur _ (by omega)).trans hpk.1)
          have ck2 := (hBk3.cell (k * 2 + 1)).trans ((hcur _ (by omega)).trans hpk.2)
          have ci : W3.cell? ⟨g, i * 2, none⟩ = some cur[i * 2] := by rw [hBk3.cell]; exact Array.getElem?_eq_getElem (by omega)
          have ci2 : W3.cell? ⟨g, i * 2 + 1, none⟩ = some cur[i * 2 + 1] := by rw [hBk3.cell]; exact Array.getElem?_eq_getElem (by omega)
          have hfz := fun q => hBk3.frozen q
          have hgl3 := hBk3.lt
          simp only at ck ck2
          have st := own_store (z1, z2) hBk3 hcs hnc hlsl hln hcur
          simp only at st
          have sth := Lib.hid st
          clear cn cv co hBk st hpk
          go_upto_region 10 with (fail)
          refine wp_gen (fun W4 => ∃ cur4, Blk W4 g 66 cur4 ∧ cur4.size = c1 * 2 ∧ (∀ j, j < n1 * 2 → cur4[j]? = (pairCells (ls.set i (z1, z2)))[j]?) ∧ Blk W4 g3 66 #[.string x1, .string x2] ∧ Fr [g] W3 W4) ⟨_, sth.out.1, sth.out.2.1, sth.out.2.2.1, hB3.fr sth.out.2.2.2 (by simp; omega), sth.out.2.2.2⟩ ?_
          rintro W4 ⟨cur4, hBk4, hcs4, hcur4, hB4, F4⟩
          have d1 := (hB4.cell 0)
          have d2 := (hB4.cell 1)
          simp only [List.getElem?_toArray, List.getElem?_cons_zero, List.getElem?_cons_succ] at d1 d2
          have ck : W4.cell? ⟨g, k * 2, none⟩ = some cur4[k * 2] := by rw [hBk4.cell]; exact Array.getElem?_eq_getElem (by omega)
          have ck2 : W4.cell? ⟨g, k * 2 + 1, none⟩ = some cur4[k * 2 + 1] := by rw [hBk4.cell]; exact Array.getElem?_eq_getElem (by omega)
          have hfz := fun q => hBk4.frozen q
          have hgl4 := hBk4.lt
          have hg3l := hB4.lt
          have hls2 : (ls.set i (z1, z2)).length = n1 := by rw [List.length_set]; exact hlsl
          have st := own_store (x1, x2) hBk4 hcs4 hnc hls2 hkn hcur4
          simp only at st
          have sth4 := Lib.hid st
          have fall := Lib.hid (hFh.out.trans (F3.nil.trans F4))
          have hgr : Hid ([g] = rowOf (.slice (some ⟨g, 0, none⟩) n1 c1)) := Lib.hid rfl
          have hlen4 : ((ls.set i (z1, z2)).set k (x1, x2)).length = n1 := by rw [List.length_set]; exact hls2
          clear ci ci2 hBk3 hBk4 st hB4 hB3
          go_wp2_with fail
          go_roundg (n1 - i)
          case measure => omega
          case rel =>
            refine ⟨i + 1, (ls.set i (z1, z2)).set k (x1, x2), by go_num, by have := hlmh.out; omega, by have := hlnh.out; omega, by have := hlnh.out; omega, hswp.out.trans hpmh.out, own_of_cells sth4.out.1 sth4.out.2.1 hnc hcm hlen4 sth4.out.2.2.1, ?_⟩
            exact fall.out.trans sth4.out.2.2.2
        · have hge : ¬ (i : Int) < n1 := by omega
          clear hln hk hin
          go_wp2_with fail
          go_meet
          exact ⟨ls, hpmh.out, hOh.out, hFh.out⟩
      · have hge : ¬ (i : Int) < m := by omega
        clear hlm hk him
        go_wp2_with fail
        go_meet
        exact ⟨ls, hpmh.out, hOh.out, hFh.out⟩
  case rest =>
    obtain ⟨ls, hpm, hO, hF⟩ := hcut
    have hlsl : ls.length = n1 := by rw [hpm.length_eq]; exact hn1
    have fc : Hid (Fr [] w wc) := Lib.hid (f2.out.andThen hF (fun x hx => .inr (hrow.out x hx).1))
    have hTc := Lib.hid (hT2.out.fr hF (fun s hs => .inl (by simp [hs])) (fun hh => (hrow.out t hh).2 rfl))
    have htl : t < wc.heap.size := by obtain ⟨p, hB, _⟩ := hTc.out; exact hB.lt
    have hnew := new_t wc [t] (by simpa using htl) A1 n1 c1 ls hO.rd hlsl (by omega) (fun y hy => by
      have := hG.out.fits y (hpm.mem_iff.1 hy)
      omega)
    rw [newR_perm List.Pairwise.nil (by simpa using hpm) hG.out] at hnew
    clear hO hF hpm
    go_wp2_with fail
    refine hnew.mono ?_
    rintro e W3 ⟨F3, hcase⟩
    rcases hcase with ⟨_, u, rfl, hwu, hU, hGu⟩ | ⟨h, _⟩
    case inr => exact absurd rfl h
    simp only at hU
    have hT3 := Lib.hid (hTc.out.fr0 F3)
    have hU3 := Lib.hid hU
    have f3 := Lib.hid (fc.out.trans F3)
    have hcu := count_t W3 _ u l hU
    have hct := count_t W3 _ t l hT3.out
    have hnt := node_t W3 _ t l hT3.out hG.out.small none 0 0 [] (Rd.nil _ _ _) rfl (by decide)
    have hnu := fun (W : World) (hF : Fr [] W3 W) => node_t W _ u l (hU3.out.fr0 hF) hG.out.small none 0 0 [] (Rd.nil _ _ _) rfl (by decide)
    have hlD := nodeD_length l []
    rw [show nodeE [] = 0 from rfl] at hnt
    simp only [show nodeE [] = 0 from rfl] at hnu
    obtain ⟨D, HD⟩ : ∃ z, Hid (nodeD l [] = z) := ⟨_, Lib.hid rfl⟩
    rw [HD.out] at hnt hlD
    simp only [HD.out] at hnu
    have hnuh := Lib.hid hnu
    clear hnew F3 hU hGu hnu
    go_wp2_with fail
    refine hcu.mono ?_
    rintro e w1 ⟨rfl, rfl⟩
    go_wp2_with fail
    refine hct.mono ?_
    rintro e w1 ⟨rfl, rfl⟩
    go_wp2_with fail
    refine hnt.mono ?_
    rintro e W5 ⟨rfl, F5⟩
    have f35 := Lib.hid F5
    clear hnt F5 hcu hct
    go_upto_region 15 with (refine wpList_store_row rfl 42 _ _ rfl W5.heap.size (digCells D) rfl rfl 42 _ (Blk.new W5 42 _) (infoDigA hlD) (by rw [digCells_size hlD]; rfl) (digCells_one D) ?_)
    refine wp_gen (fun W6 => Blk W6 W5.heap.size 42 (digCells D) ∧ Fr [] W5 W6) ⟨Blk.setRow (Blk.new W5 42 _) _, ((Fr.refl _ _).alloc _).setRow (.inr (Nat.le_refl _)) _⟩ ?_
    rintro W6 ⟨hB6, F6⟩
    obtain ⟨g5, HG5⟩ : ∃ x, Hid (W5.heap.size = x) := ⟨_, Lib.hid rfl⟩
    rw [HG5.out] at hB6 ⊢
    have f36 := Lib.hid (f35.out.trans F6)
    have hnu := hnuh.out W6 f36.out
    clear F6
    go_wp2_with fail
    refine hnu.mono ?_
    rintro e W7 ⟨rfl, F7⟩
    have hB7 := hB6.fr F7 (by simp)
    have f37 := Lib.hid (f36.out.trans F7)
    have hg5l := hB7.lt
    clear hnu F7 hB6
    go_upto_region 16 with (refine wpList_store_row rfl 42 _ _ rfl W7.heap.size (digCells D) rfl rfl 42 _ (Blk.new W7 42 _) (infoDigA hlD) (by rw [digCells_size hlD]; rfl) (digCells_one D) ?_)
    refine wp_gen (fun W8 => Blk W8 W7.heap.size 42 (digCells D) ∧ Fr [] W7 W8) ⟨Blk.setRow (Blk.new W7 42 _) _, ((Fr.refl _ _).alloc _).setRow (.inr (Nat.le_refl _)) _⟩ ?_
    rintro W8 ⟨hB8, F8⟩
    obtain ⟨g7, HG7⟩ : ∃ x, Hid (W7.heap.size = x) := ⟨_, Lib.hid rfl⟩
    rw [HG7.out] at hB8 hg5l ⊢
    have hB58 := hB7.fr F8 (by simp)
    have f38 := Lib.hid (f37.out.trans F8)
    have heq := eql_dig D D hlD hlD
    rw [beq_self_eq_true] at heq
    have hsk := sketch_t W8 _ t l (hT3.out.fr0 f38.out) hG.out.small
    have hinf : (Try.prog.info? 42).map (·.size) = some (digCells D).toList.length := by rw [Array.length_toList]; exact infoDigA hlD
    clear F8 hB7
    go_wp2_with (first
      | (refine wpList_load_at rfl 42 _ rfl (g := g5) rfl hB58 (sub_self _) uDig rfl hinf ?_; rw [Array.toArray_toList]; unfold digCells)
      | (refine wpList_load_at rfl 42 _ rfl (g := g7) rfl hB8 (sub_self _) uDig rfl hinf ?_; rw [Array.toArray_toList]; unfold digCells)
      | fail)
    refine hsk.mono ?_
    rintro e W9 ⟨cs, rfl, hS1, F9⟩
    have f39 := Lib.hid (f38.out.trans F9)
    have hsk2 := sketch_t W9 _ u l (hU3.out.fr0 f39.out) hG.out.small
    clear hsk F9 hB58 hB8
    go_wp2_with fail
    refine hsk2.mono ?_
    rintro e WA ⟨ds, rfl, hS2, FA⟩
    obtain rfl := sketch_ext hS1 hS2
    have heqs := eql_sketch hS1
    have f3A := Lib.hid (f39.out.trans FA)
    have hdf := diff_same WA _ _ t u l (hT3.out.fr0 f3A.out) (hU3.out.fr0 f3A.out)
    clear hsk2 FA hS1 hS2
    go_wp2_with fail
    refine hdf.mono ?_
    rintro e WB ⟨rfl, FB⟩
    go_wp2_with fail
    go_ret
    exact ⟨rfl, f3.out.trans (f3A.out.trans FB)⟩
end Go.Proofs.Ytlhkkffljjbdmaa
