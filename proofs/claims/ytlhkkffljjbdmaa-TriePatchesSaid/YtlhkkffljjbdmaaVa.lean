/- What Mend does to a table: plain laws; walks of the trie: Copy, Mend. Conditions: each theorem's own. -/
import Derived.Test.YtlhkkffljjbdmaaUk
namespace Go.Proofs.Ytlhkkffljjbdmaa
open Go.RowKit Go.Sig

def nib0 (y : Pr) : Nat := nib (pathOf y.1) 0
/-- Is the place of a pair among these? -/
def plAt (pl : List Bool) (y : Pr) : Bool := pl.getD (nib0 y) false
def okOne (pl : List Bool) (y : Pr) : Bool := decide (fitsE y.1 y.2 = 0) && plAt pl y
def okP (pl : List Bool) (ps : List Pr) : Bool := ps.all (okOne pl)
def baseP (pl : List Bool) (l : List Pr) : List Pr := l.filter fun y => !plAt pl y
def baseK (pl : List Bool) (k : Nat) (l : List Pr) : List Pr := l.filter fun y => !(plAt pl y && decide (nib0 y < k))
/-- What Mend answers, and the table behind it. -/
def mendR (pl : List Bool) (ps l : List Pr) : Int × List Pr := if okP pl ps then (if (newR ps (baseP pl l)).1 = 0 then (0, (newR ps (baseP pl l)).2) else ((newR ps (baseP pl l)).1, l)) else (3, l)
theorem nib0_lt (y : Pr) : nib0 y < 16 := nib_lt _ _
theorem baseK_zero (pl : List Bool) (l : List Pr) : baseK pl 0 l = l := by
  unfold baseK
  rw [List.filter_eq_self]
  intro y _
  simp
theorem baseK_all (pl : List Bool) (l : List Pr) : baseK pl 16 l = baseP pl l := by
  unfold baseK baseP
  apply List.filter_congr
  intro y _
  simp [nib0_lt y]
theorem filter_good {l : List Pr} {q : Pr → Bool} (h : Good l) : Good (l.filter q) :=
  ⟨h.rising.filter _, fun y hy => h.fits y (List.mem_filter.1 hy).1, Nat.le_trans (List.length_filter_le _ _) h.few⟩
theorem under_one0 {l : List Pr} {k : Nat} : underL l [(k : Int)] = l.filter fun y => decide (nib0 y = k) := by
  unfold underL
  apply List.filter_congr
  intro y _
  simp only [begins, Bool.and_true]
  unfold nib0
  by_cases h : nib (pathOf y.1) 0 = k
  · simp [h]
  · have : ¬ ((nib (pathOf y.1) 0 : Nat) : Int) = (k : Int) := by omega
    simp [h, this]
def delAll (xs l : List Pr) : List Pr := xs.foldl (fun l x => del x.1 l) l
theorem delAll_filter : ∀ (xs l : List Pr), delAll xs l = l.filter fun y => xs.all fun x => !decide (y.1 = x.1)
  | [], l => by
    show l = _
    rw [List.filter_eq_self.2]
    intro y _
    rfl
  | x :: xs, l => by
    show delAll xs (del x.1 l) = _
    rw [delAll_filter xs]
    unfold del
    rw [List.filter_filter]
    apply List.filter_congr
    intro y _
    simp [Bool.and_comm]
theorem delAll_snoc {xs l : List Pr} {i : Nat} (h : i < xs.length) : delAll (xs.take (i + 1)) l = del xs[i].1 (delAll (xs.take i) l) := by
  unfold delAll
  rw [List.take_succ_eq_append_getElem h, List.foldl_append]
  rfl
theorem delAll_good : ∀ {xs l : List Pr}, Good l → Good (delAll xs l)
  | [], _, h => h
  | _x :: xs, _l, h => delAll_good (xs := xs) (del_good h)
theorem baseK_step {pl : List Bool} {k : Nat} {l : List Pr} (h : pl.getD k false = true) : delAll (underL (baseK pl k l) [(k : Int)]) (baseK pl k l) = baseK pl (k + 1) l := by
  rw [delAll_filter, under_one0]
  unfold baseK
  rw [List.filter_filter]
  apply List.filter_congr
  intro y hy
  have key : ((List.filter (fun y => decide (nib0 y = k)) (List.filter (fun y => !(plAt pl y && decide (nib0 y < k))) l)).all fun x => !decide (y.1 = x.1)) = (!decide (nib0 y = k) || (plAt pl y && decide (nib0 y < k))) := by
    rw [Bool.eq_iff_iff]
    simp only [List.all_eq_true, List.mem_filter, Bool.not_eq_true', decide_eq_false_iff_not, Bool.or_eq_true, decide_eq_true_eq]
    constructor
    · intro hall
      by_cases h1 : nib0 y = k
      · right
        cases hc : (plAt pl y && decide (nib0 y < k)) with
        | true => rfl
        | false => exact absurd rfl (hall y ⟨⟨hy, hc⟩, h1⟩)
      · exact .inl h1
    · rintro (h1 | h1) x ⟨⟨hx, hxc⟩, hxk⟩ e
      · apply h1
        unfold nib0 at hxk ⊢
        rw [e]
        exact hxk
      · have : plAt pl x = plAt pl y ∧ nib0 x = nib0 y := by
          unfold plAt nib0
          rw [e]
          exact ⟨rfl, rfl⟩
        rw [this.1, this.2, h1] at hxc
        cases hxc
  rw [key]
  by_cases h1 : nib0 y = k
  · have hp : plAt pl y = true := by unfold plAt; rw [h1]; exact h
    simp [hp, h1]
  · by_cases h2 : nib0 y < k
    · simp [h1, h2, show nib0 y < k + 1 by omega]
    · simp [h1, h2, show ¬ nib0 y < k + 1 by omega]
theorem baseK_skip {pl : List Bool} {k : Nat} {l : List Pr} (h : pl.getD k false = false) : baseK pl (k + 1) l = baseK pl k l := by
  unfold baseK
  apply List.filter_congr
  intro y _
  by_cases h1 : nib0 y = k
  · have hp : plAt pl y = false := by unfold plAt; rw [h1]; exact h
    simp [hp]
  · by_cases h2 : nib0 y < k
    · simp [h2, show nib0 y < k + 1 by omega]
    · simp [h2, show ¬ nib0 y < k + 1 by omega]
theorem newR_good : ∀ {ps l : List Pr}, Good l → (newR ps l).1 = 0 → Good (newR ps l).2
  | [], l, h, _ => h
  | y :: ps, l, h, he => by
    unfold newR at he ⊢
    by_cases h1 : putE y.1 y.2 l = 0
    · rw [if_pos h1] at he ⊢
      have := putM_good (k := y.1) (v := y.2) h
      rw [putM_ok h1] at this
      exact newR_good this he
    · rw [if_neg h1] at he ⊢
      exact absurd he h1
theorem mendR_good {pl : List Bool} {ps l : List Pr} (h : Good l) : Good (mendR pl ps l).2 := by
  unfold mendR
  split
  · split
    · rename_i h1
      exact newR_good (filter_good h) h1
    · exact h
  · exact h
theorem newR_pos {y : Pr} {ps l : List Pr} (h : putE y.1 y.2 l = 0) : newR (y :: ps) l = newR ps (put y l) := by
  rw [newR, if_pos h]
theorem newR_neg {y : Pr} {ps l : List Pr} (h : putE y.1 y.2 l ≠ 0) : newR (y :: ps) l = (putE y.1 y.2 l, l) := by
  rw [newR, if_neg h]
theorem bad_one {k : Nat} (h : k < 16) : badI [(k : Int)] = false := by
  unfold badI outI
  simp
  omega
theorem nodeE_one {k : Nat} (h : k < 16) : nodeE [(k : Int)] = 0 := by unfold nodeE; rw [bad_one h]; rfl
theorem undR_one {l : List Pr} {k : Nat} (h : k < 16) : undR l [(k : Int)] = underL l [(k : Int)] := by unfold undR; rw [bad_one h]; rfl
/-- A patch's cells. -/
def patchV (pl : List Bool) (s : Value) : Array Value := (pl.map Value.bool ++ [s]).toArray
theorem patchV_at {pl : List Bool} {s : Value} {k : Nat} (h : k < pl.length) : (patchV pl s)[k]? = some (.bool (pl.getD k false)) := by
  unfold patchV
  rw [List.getElem?_toArray, List.getElem?_append_left (by simpa using h), List.getElem?_map, List.getElem?_eq_getElem h]
  simp [List.getD, List.getElem?_eq_getElem h]
theorem patchV_last {pl : List Bool} {s : Value} (h : pl.length = 16) : (patchV pl s)[16]? = some s := by
  unfold patchV
  rw [List.getElem?_toArray, List.getElem?_append_right (by simp [h])]
  simp [h]
theorem patchV_size {pl : List Bool} {s : Value} (h : pl.length = 16) : (patchV pl s).size = 17 := by simp [patchV, h]

/-- Another trie with the same root. -/
theorem copy_t (w : World) (X : List Nat) (t : Nat) (l : List Pr) (hT : TrieIn w X t l) :
   Calls Try.prog 33 #[.pointer (some ⟨t, 0, none⟩)] w fun e w' => e = .returned (.pointer (some ⟨w.heap.size, 0, none⟩)) ∧ TrieIn w' (w.heap.size :: X) w.heap.size l ∧ Fr [] w w' := by
  obtain ⟨p, hB, hN, htX, hX⟩ := hT
  have hct := hB.cell 0
  simp only [List.getElem?_toArray, List.getElem?_cons_zero] at hct
  have htl := hB.lt
  obtain ⟨q, rfl⟩ := node_ptr hN
  go_enter Try.func33, Try.ntmps33
  go_wp2_with (refine wpList_build_k rfl 78 _ rfl (cells := #[.pointer q]) (by kernel_rfl) ?_)
  go_ret
  have hF : Fr [] w (w.alloc (.cells #[.pointer q] 78)) := (Fr.refl _ _).alloc _
  refine ⟨rfl, ⟨_, Blk.new _ _ _, hN.go (S := []) ⟨hF, by simp, fun y hy => ?_⟩, by simp, fun g hg => ?_⟩, hF⟩
  · rcases List.mem_cons.1 hy with h | h
    · exact .inr (by rw [h]; exact Nat.le_refl _)
    · exact .inl h
  · rcases List.mem_cons.1 hg with h | h
    · rw [h]; simp
    · have := hX g h; simp; omega

theorem uB16 : Try.prog.underlying 51 = some (.array 16 4) := by kernel_rfl
theorem infoB16 {pl : List Bool} (h : pl.length = 16) : (Try.prog.info? 51).map (·.size) = some (pl.map Value.bool).length := by rw [List.length_map, h]; kernel_rfl
theorem patch_sub {pl : List Bool} {s : Value} : Sub (patchV pl s) 0 (pl.map Value.bool) := by
  intro j v hv
  rw [Nat.zero_add]
  unfold patchV
  rw [List.getElem?_toArray, List.getElem?_append_left (List.getElem?_eq_some_iff.1 hv).1]
  exact hv
theorem at0_t (w : World) (d : List UInt8) (hd : d.length = 32) : Calls Try.prog 37 #[.agg (digCells d), .int .i64 0] w fun e w' => e = .returned (.int .i64 (nib d 0)) ∧ Fr [] w w' := at_t w d 0 hd (by decide)
theorem TrieIn.less {w : World} {X Y : List Nat} {t : Nat} {l : List Pr} (h : TrieIn w Y t l) (hX : ∀ g ∈ X, g ∈ Y) (ht : t ∈ X) : TrieIn w X t l := by
  obtain ⟨p, hB, hN, _, hY⟩ := h
  exact ⟨p, hB, hN.go (S := []) ⟨Fr.refl _ _, by simp, fun y hy => .inl (hX y hy)⟩, ht, fun g hg => hY g (hX g hg)⟩
theorem pair_new {w : World} (y1 y2 : ByteArray) : Blk (w.alloc (.cells #[.string y1, .string y2] 66)) w.heap.size 66 #[.string y1, .string y2] ∧ Fr [] w (w.alloc (.cells #[.string y1, .string y2] 66)) := ⟨Blk.new _ _ _, (Fr.refl _ _).alloc _⟩

/-- What Mend leaves. -/
def MendPost (w : World) (X : List Nat) (t : Nat) (R : Int × List Pr) (e : Ending) (w' : World) : Prop := e = .returned (.int .i64 R.1) ∧ TrieIn w' X t R.2 ∧ Fr [t] w w'

set_option maxRecDepth 100000 in
set_option maxHeartbeats 8000000 in
theorem mend_t (w : World) (X : List Nat) (t : Nat) (l : List Pr) (hT : TrieIn w X t l) (hG : Good l) (pl : List Bool) (hpl : pl.length = 16) (A : Option Addr) (n c : Nat) (ps : List Pr) (hR : Rd w 2 A n (pairCells ps)) (hn : ps.length = n) (hmax : n ≤ 1000000)
   (hs : ∀ y ∈ ps, y.1.size ≤ 150000000000000 ∧ y.2.size ≤ 150000000000000) :
   Calls Try.prog 24 #[.pointer (some ⟨t, 0, none⟩), .agg (patchV pl (.slice A n c))] w (MendPost w X t (mendR pl ps l)) := by
  have hTh := Lib.hid hT
  have hGh := Lib.hid hG
  have hsh := Lib.hid hs
  have hRh := Lib.hid hR
  have hpsz := patchV_size (s := .slice A n c) hpl
  clear hT hG hs
  go_enter Try.func24, Try.ntmps24
  go_upto_region 1 with (fail)
  refine wp_gen (fun W => Blk W w.heap.size 53 (patchV pl (.slice A n c)) ∧ Fr [] w W) ⟨Blk.new _ _ _, (Fr.refl _ _).alloc _⟩ ?_
  rintro W ⟨hP, fW⟩
  obtain ⟨gp, HGP⟩ : ∃ z, Hid (w.heap.size = z) := ⟨_, Lib.hid rfl⟩
  rw [HGP.out] at hP ⊢
  have fWh := Lib.hid fW
  have hPh := Lib.hid hP
  have cs16 := (hP.cell 16).trans (patchV_last hpl)
  have hpl0 := hP.lt
  have htw : t < w.heap.size := by obtain ⟨p, hB, _⟩ := hTh.out; exact hB.lt
  clear hR hP fW
  go_upto_block 0 with (fail)
  go_cut [6, 22] from 23 to 43 (fun s6 s22 wx => okP pl ps = true ∧ Fr [] W wx)
  case first =>
    go_wp2_with fail
    go_loopg [6, 22] (n + 1) (fun gk s6 s22 wr => ∃ (i : Nat), s22 = .int .i64 i ∧ i ≤ n ∧ n - i < gk ∧ (ps.take i).all (okOne pl) = true ∧ Fr [] W wr)
    case atStart => exact ⟨0, rfl, by omega, by omega, rfl, Fr.refl _ _⟩
    case round =>
      obtain ⟨i, rfl, hi, hk, hall, hF⟩ := hrel
      have hallh := Lib.hid hall
      have hFh := Lib.hid hF
      clear hall hF cs16 hpl0
      by_cases hlt : i < n
      · have hlt' : (i : Int) < n := by omega
        have hlth := Lib.hid hlt
        have hi' : i < ps.length := by omega
        have hRr := Rd.fr hRh.out (fWh.out.trans hFh.out) (by simp [Off])
        obtain ⟨b, o, rfl, hcell⟩ := hRr.2 (by omega)
        have hp := pairCells_at hi'
        have cn := hcell _ _ hp.1
        have cv := hcell _ _ hp.2
        rw [← Nat.add_assoc] at cv
        have hsz := hsh.out ps[i] (List.getElem_mem hi')
        have htk := Lib.hid (show (ps.take (i + 1)).all (okOne pl) = (((ps.take i).all (okOne pl)) && okOne pl ps[i]) by rw [List.take_succ_eq_append_getElem hi', List.all_append]; simp)
        have hmem := Lib.hid (fun (h : okOne pl ps[i] = false) => show mendR pl ps l = (3, l) by
          unfold mendR okP
          rw [if_neg (by
            intro hh
            rw [List.all_eq_true.1 hh ps[i] (List.getElem_mem hi')] at h
            cases h)])
        clear hcell hp hRr
        obtain ⟨⟨y1, y2⟩, hy⟩ : ∃ z, Hid (ps[i] = z) := ⟨_, Lib.hid rfl⟩
        rw [hy.out] at cn cv hsz htk hmem
        simp only at cn cv hsz
        have hok1 : Hid (okOne pl (y1, y2) = (decide (fitsE y1 y2 = 0) && pl.getD (nib (pathOf y1) 0) false)) := Lib.hid rfl
        go_upto_region 6 with (fail)
        refine wp_gen (fun W3 => Blk W3 wr.heap.size 66 #[.string y1, .string y2] ∧ Fr [] wr W3) ⟨Blk.new _ _ _, (Fr.refl _ _).alloc _⟩ ?_
        rintro W3 ⟨hB3, F3⟩
        obtain ⟨g3, HG3⟩ : ∃ z, Hid (wr.heap.size = z) := ⟨_, Lib.hid rfl⟩
        rw [HG3.out] at hB3 ⊢
        have e0 := hB3.cell 0
        have e1 := hB3.cell 1
        simp only [List.getElem?_toArray, List.getElem?_cons_zero, List.getElem?_cons_succ] at e0 e1
        have hgl := hB3.lt
        have hB3h := Lib.hid hB3
        have f3 := Lib.hid (hFh.out.trans F3)
        clear cn cv F3 hB3
        have hfit := fits_t y1 y2 W3 (by omega) (by omega)
        by_cases hfz : fitsE y1 y2 = 0
        · have hlim := fitsE_zero hfz
          rw [hfz] at hfit
          rw [decide_eq_true hfz, Bool.true_and] at hok1
          obtain ⟨cW, cC, hcv, hcF, hcB, hcS, hcc⟩ := conv_any y1
          obtain ⟨D, HD⟩ : ∃ z, Hid (pathOf y1 = z) := ⟨_, Lib.hid rfl⟩
          have hsD := Lib.hid (show sha y1.data.toList = D from HD.out)
          have hDl : D.length = 32 := by rw [← HD.out]; rfl
          rw [HD.out] at hok1
          have hcF0 := hcF W3
          have hcB0 := hcB W3 W3.heap.size rfl
          have hcc0 := hcc W3
          clear hfz
          go_wp2_with fail
          refine hfit.mono ?_
          rintro e w1 ⟨rfl, rfl⟩
          go_wp2_with fail
          refine (sum1_t (cW W3) _ _ _ _ hcB0 hcc0 (by omega)).mono ?_
          rintro e W4 ⟨rfl, F4⟩
          rw [hsD.out]
          go_wp2_with fail
          refine (at0_t W4 D hDl).mono ?_
          rintro e W5 ⟨rfl, F5⟩
          have f5 := Lib.hid (f3.out.trans ((hcF0.trans F4).trans F5))
          have hnl := nib_lt D 0
          obtain ⟨q, HQ⟩ : ∃ z, Hid (nib D 0 = z) := ⟨_, Lib.hid rfl⟩
          rw [HQ.out] at hnl hok1 ⊢
          have hq16 : (q : Int) < 16 := by omega
          have hP5 := hPh.out.fr f5.out (by simp)
          have cq := (hP5.cell q).trans (patchV_at (s := .slice (some ⟨b, o, none⟩) n c) (show q < pl.length by omega))
          have hpl5 := hP5.lt
          clear hcv hcF hcB hcS hcc hcF0 hcB0 hcc0 F4 F5 e0 e1 hP5 hfit
          cases hpq : pl.getD q false with
          | false =>
            rw [hpq] at cq hok1
            have hm := Lib.hid (hmem.out hok1.out)
            clear hpq
            go_wp2_with fail
            go_ret
            rw [hm.out]
            exact ⟨rfl, hTh.out.fr0 (fWh.out.trans f5.out), (fWh.out.trans f5.out).nil⟩
          | true =>
            rw [hpq] at cq hok1
            clear hpq
            go_wp2_with fail
            go_roundg (n - i)
            case measure => omega
            case rel =>
              refine ⟨i + 1, by go_num, by have := hlth.out; omega, by have := hlth.out; omega, ?_, f5.out⟩
              rw [htk.out, hallh.out, hok1.out]
              rfl
        · have hm := Lib.hid (hmem.out (by rw [hok1.out, decide_eq_false hfz]; rfl))
          obtain ⟨fe, HFE⟩ : ∃ z, Hid (fitsE y1 y2 = z) := ⟨_, Lib.hid rfl⟩
          rw [HFE.out] at hfit hfz
          have hne : (fe != 0) = true := by simpa using hfz
          clear hfz hmem hok1
          go_wp2_with fail
          refine hfit.mono ?_
          rintro e w1 ⟨rfl, rfl⟩
          go_wp2_with fail
          go_ret
          rw [hm.out]
          exact ⟨rfl, hTh.out.fr0 (fWh.out.trans f3.out), (fWh.out.trans f3.out).nil⟩
      · have hge : ¬ (i : Int) < n := by omega
        have hokp : okP pl ps = true := by
          unfold okP
          have := hallh.out
          rwa [List.take_of_length_le (by omega)] at this
        have hokh := Lib.hid hokp
        clear hlt hk hokp
        go_wp2_with fail
        go_meet
        exact ⟨hokh.out, hFh.out⟩
  case rest =>
    obtain ⟨hok, hFc⟩ := hcut
    have hokh := Lib.hid hok
    have hFch := Lib.hid hFc
    clear hok hFc cs16 hpl0
    have hTc := hTh.out.fr0 (fWh.out.trans hFch.out)
    go_wp2_with fail
    refine (copy_t wc X t l hTc).mono ?_
    rintro e W2 ⟨rfl, hU2, F2⟩
    obtain ⟨u, HU⟩ : ∃ z, Hid (wc.heap.size = z) := ⟨_, Lib.hid rfl⟩
    rw [HU.out] at hU2 ⊢
    have f2 := Lib.hid (fWh.out.trans (hFch.out.trans F2))
    have fP2 := Lib.hid (hFch.out.trans F2)
    have huw : w.heap.size ≤ u := by have := HU.out; have := (fWh.out.trans hFch.out).size; omega
    have hgpu : gp < u := by have := HU.out; have := hFch.out.size; have := hPh.out.lt; omega
    have hut : u ≠ t := by omega
    have hul : u < W2.heap.size := by obtain ⟨p, hB, _⟩ := hU2; exact hB.lt
    have hPc := hPh.out.fr fP2.out (by simp)
    have hplc := hPc.lt
    have hU2h := Lib.hid hU2
    clear hTc hU2 F2
    have R0 : ∃ z, Hid (newR ps (baseP pl l) = z) := ⟨_, Lib.hid rfl⟩
    obtain ⟨R, HR⟩ := R0
    have hmendR : Hid (mendR pl ps l = if R.1 = 0 then (0, R.2) else (R.1, l)) := Lib.hid (by unfold mendR; rw [if_pos hokh.out, HR.out])
    go_upto_block 2 with (refine wpList_load_at rfl 51 _ rfl rfl hPc patch_sub uB16 rfl (infoB16 hpl) ?_)
    go_cut [8, 9, 10, 11, 12, 13, 48, 62] from 49 to 71 (fun s8 s9 s10 s11 s12 s13 s48 s62 wx => TrieIn wx (u :: X) u (baseP pl l) ∧ Fr [u] W2 wx)
    case first =>
      go_wp2_with fail
      go_loopg [8, 9, 10, 11, 13, 48, 62] 17 (fun gk s8 s9 s10 s11 s13 s48 s62 wr => ∃ (k : Nat), s48 = .int .i64 k ∧ k ≤ 16 ∧ 16 - k < gk ∧ TrieIn wr (u :: X) u (baseK pl k l) ∧ Fr [u] W2 wr)
      case atStart => exact ⟨0, rfl, by omega, by omega, by rw [baseK_zero]; exact hU2h.out, Fr.refl _ _⟩
      case round =>
        clear hPc
        obtain ⟨k, rfl, hk, hkk, hTk, hFk⟩ := hrel
        have hTkh := Lib.hid hTk
        have hFkh := Lib.hid hFk
        have hGk := Lib.hid (filter_good (q := fun y => !(plAt pl y && decide (nib0 y < k))) hGh.out)
        clear hTk hFk
        by_cases hlt : k < 16
        · have hlt' : (k : Int) < 16 := by omega
          have hlth := Lib.hid hlt
          have hpi : (pl.map Value.bool).toArray[k]? = some (.bool (pl.getD k false)) := by
            rw [List.getElem?_toArray, List.getElem?_map, List.getElem?_eq_getElem (show k < pl.length by omega)]
            simp [List.getD, List.getElem?_eq_getElem (show k < pl.length by omega)]
          have hrun := run_index_arr (P := Try.prog) wr uB16 hlt (by kernel_rfl) (d := .bool) (by kernel_rfl) rfl hpi
          obtain ⟨cur, HC⟩ : ∃ z, Hid (baseK pl k l = z) := ⟨_, Lib.hid rfl⟩
          rw [HC.out] at hTkh
          have hGc : Hid (Good cur) := Lib.hid (by rw [← HC.out]; exact hGk.out)
          have hund := under2_t (wr.alloc (.cells #[.int .i64 (k : Int)] 3)) (u :: X) u cur (hTkh.out.fr0 ((Fr.refl _ _).alloc _)) hGc.out.rising hGc.out.small (some ⟨wr.heap.size, 0, none⟩) 1 1 [(k : Int)] (ints_new (w := wr) rfl rfl) rfl (by decide)
          rw [nodeE_one hlt, undR_one hlt] at hund
          have hinsl : (underL cur [(k : Int)]).length ≤ 4096 := (underL_good (ns := [(k : Int)]) hGc.out).few
          have hinss := Lib.hid (underL_good (ns := [(k : Int)]) hGc.out).fits
          obtain ⟨ins, HI⟩ : ∃ z, Hid (underL cur [(k : Int)] = z) := ⟨_, Lib.hid rfl⟩
          rw [HI.out] at hund hinsl hinss
          have hur : u < wr.heap.size := by obtain ⟨p, hB, _⟩ := hTkh.out; exact hB.lt
          clear hpi
          cases hpk : pl.getD k false with
          | false =>
            rw [hpk] at hrun
            have hsk := Lib.hid (baseK_skip (l := l) hpk)
            clear hpk
            go_wp2_with fail
            refine hund.mono ?_
            rintro e W4 ⟨v4, rfl, O4, F4, R4⟩
            have f4 := Lib.hid (((Fr.refl [] wr).alloc (.cells #[.int .i64 (k : Int)] 3)).trans F4)
            clear O4 F4 R4 hrun hund
            go_wp2_with fail
            go_roundg (16 - k)
            case measure => omega
            case rel =>
              refine ⟨k + 1, by go_num, by have := hlth.out; omega, by have := hlth.out; omega, ?_, hFkh.out.trans f4.out.nil⟩
              rw [hsk.out, HC.out]
              exact hTkh.out.fr0 f4.out
          | true =>
            rw [hpk] at hrun
            have hstep := Lib.hid (baseK_step (l := l) hpk)
            rw [HC.out, HI.out] at hstep
            clear hpk
            go_wp2_with fail
            refine hund.mono ?_
            rintro e W4 ⟨v4, rfl, O4, F4, R4⟩
            obtain ⟨A4, c4, rfl, hA4⟩ := O4.form
            have f4 := Lib.hid (((Fr.refl [] wr).alloc (.cells #[.int .i64 (k : Int)] 3)).trans F4)
            have hR4 := Lib.hid O4.rd
            have hoff4 : Hid (0 < ins.length → Off [u] A4) := Lib.hid (fun _ ad e => by
              rcases hA4 with h | ⟨g, h, _⟩
              · rw [h] at e; cases e
              · rw [h] at e
                cases e
                have := R4 g (by rw [h]; simp [rowOf, Value.ownBlock])
                simp at this ⊢
                omega)
            have hT4 := Lib.hid (hTkh.out.fr0 f4.out)
            have hF24 := Lib.hid (hFkh.out.trans f4.out.nil)
            obtain ⟨m, hm⟩ : ∃ z, Hid (ins.length = z) := ⟨_, Lib.hid rfl⟩
            rw [hm.out] at hR4 hinsl hoff4 ⊢
            clear O4 F4 R4 hrun hund hA4
            go_wp2_with fail
            go_loopg [13, 62] (m + 1) (fun gj s13 s62 wq => ∃ (j : Nat), s62 = .int .i64 j ∧ j ≤ m ∧ m - j < gj ∧ TrieIn wq (u :: X) u (delAll (ins.take j) cur) ∧ Fr [u] W4 wq)
            case atStart => exact ⟨0, rfl, by omega, by omega, hT4.out, Fr.refl _ _⟩
            case round =>
              obtain ⟨j, rfl, hj, hkj, hTj, hFj⟩ := hrel
              have hTjh := Lib.hid hTj
              have hFjh := Lib.hid hFj
              have hGj := Lib.hid (delAll_good (xs := ins.take j) hGc.out)
              clear hTj hFj
              by_cases hjl : j < m
              · have hjl' : (j : Int) < m := by omega
                have hjlh := Lib.hid hjl
                have hj' : j < ins.length := by rw [hm.out]; exact hjl
                have hRr := Rd.fr hR4.out hFjh.out (by rw [← hm.out]; intro h0; exact hoff4.out (by omega))
                obtain ⟨b, o, rfl, hcell⟩ := hRr.2 (by omega)
                have hp := pairCells_at hj'
                have cn := hcell _ _ hp.1
                have cv := hcell _ _ hp.2
                rw [← Nat.add_assoc] at cv
                have hys := hinss.out ins[j] (List.getElem_mem hj')
                have hds := Lib.hid (delAll_snoc (l := cur) hj')
                clear hcell hp hRr
                obtain ⟨⟨y1, y2⟩, hy⟩ : ∃ z, Hid (ins[j] = z) := ⟨_, Lib.hid rfl⟩
                rw [hy.out] at cn cv hys hds
                simp only at cn cv hys hds
                go_upto_region 18 with (fail)
                refine wp_gen (fun W5 => Blk W5 wr.heap.size 66 #[.string y1, .string y2] ∧ Fr [] wr W5) ⟨Blk.new _ _ _, (Fr.refl _ _).alloc _⟩ ?_
                rintro W5 ⟨hB5, F5⟩
                obtain ⟨g5, HG5⟩ : ∃ z, Hid (wr.heap.size = z) := ⟨_, Lib.hid rfl⟩
                rw [HG5.out] at hB5 ⊢
                have e0 := hB5.cell 0
                have e1 := hB5.cell 1
                simp only [List.getElem?_toArray, List.getElem?_cons_zero, List.getElem?_cons_succ] at e0 e1
                have hgl := hB5.lt
                have hdel := del_t W5 (u :: X) u _ y1 (by omega) (hTjh.out.fr0 F5) hGj.out
                have f5 := Lib.hid (hFjh.out.trans F5.nil)
                clear cn cv hB5 F5
                go_wp2_with fail
                refine hdel.mono ?_
                rintro e W6 ⟨rfl, hT6, F6⟩
                have hT6h := Lib.hid hT6
                have F6h := Lib.hid F6
                clear hdel hT6 F6 e0 e1
                go_wp2_with fail
                go_roundg (m - j)
                case measure => omega
                case rel =>
                  refine ⟨j + 1, by go_num, by have := hjlh.out; omega, by have := hjlh.out; omega, ?_, f5.out.trans F6h.out⟩
                  rw [hds.out]
                  exact hT6h.out
              · have hge : ¬ (j : Int) < m := by omega
                have e : ins.take j = ins := List.take_of_length_le (by rw [hm.out]; omega)
                have hT7 : Hid (TrieIn wr (u :: X) u (baseK pl (k + 1) l)) := Lib.hid (by
                  rw [← hstep.out]
                  have := hTjh.out
                  rwa [e] at this)
                clear hjl hkj e
                go_wp2_with fail
                go_roundg (16 - k)
                case measure => omega
                case rel => exact ⟨k + 1, by go_num, by have := hlth.out; omega, by have := hlth.out; omega, hT7.out, hF24.out.trans hFjh.out⟩
        · obtain rfl : k = 16 := by omega
          rw [baseK_all] at hTkh
          clear hlt hk hkk
          go_wp2_with fail
          go_meet
          exact ⟨hTkh.out, hFkh.out⟩
    case rest =>
      obtain ⟨hTc, hFc⟩ := hcut
      have hTch := Lib.hid hTc
      have hFch2 := Lib.hid hFc
      have hP3 := hPh.out.fr (fP2.out.nil.trans hFc) (by simp; omega)
      have cs16 := (hP3.cell 16).trans (patchV_last hpl)
      have hpl3 := hP3.lt
      have hucl : u < wc.heap.size := by obtain ⟨p, hB, _⟩ := hTc; exact hB.lt
      have hGb := Lib.hid (filter_good (q := fun y => !plAt pl y) hGh.out)
      clear hTc hFc hPc hP3
      go_wp2_with fail
      go_loopg [15, 16, 75] (n + 1) (fun gk s15 s16 s75 wr => ∃ (i : Nat) (l' : List Pr), s75 = .int .i64 i ∧ i ≤ n ∧ n - i < gk ∧ TrieIn wr (u :: X) u l' ∧ Good l' ∧ newR (ps.drop i) l' = R ∧ Fr [u] W2 wr)
      case atStart => exact ⟨0, _, rfl, by omega, by omega, hTch.out, hGb.out, HR.out, hFch2.out⟩
      case round =>
        clear cs16 hpl3
        obtain ⟨i, l', rfl, hi, hk, hTi, hGi, hRi, hF⟩ := hrel
        have hTih := Lib.hid hTi
        have hGih := Lib.hid hGi
        have hRih := Lib.hid hRi
        have hFh := Lib.hid hF
        have hF0 : Fr [] w wr := f2.out.andThen hF (fun x hx => .inr (by simp at hx; omega))
        have hF0h := Lib.hid hF0
        by_cases hlt : i < n
        · have hlt' : (i : Int) < n := by omega
          have hlth := Lib.hid hlt
          have hi' : i < ps.length := by omega
          have hRr := Rd.fr hRh.out hF0 (by simp [Off])
          obtain ⟨b, o, rfl, hcell⟩ := hRr.2 (by omega)
          have hp := pairCells_at hi'
          have cn := hcell _ _ hp.1
          have cv := hcell _ _ hp.2
          rw [← Nat.add_assoc] at cv
          have hsy := hsh.out ps[i] (List.getElem_mem hi')
          have hdr := Lib.hid (List.drop_eq_getElem_cons hi')
          clear hcell hp hRr hTi hGi hRi hF hF0
          obtain ⟨⟨y1, y2⟩, hy⟩ : ∃ z, Hid (ps[i] = z) := ⟨_, Lib.hid rfl⟩
          rw [hy.out] at cn cv hdr hsy
          simp only at cn cv hsy
          go_upto_region 24 with (fail)
          refine wp_gen (fun W3 => Blk W3 wr.heap.size 66 #[.string y1, .string y2] ∧ Fr [] wr W3) ⟨Blk.new _ _ _, (Fr.refl _ _).alloc _⟩ ?_
          rintro W3 ⟨hB3, F3⟩
          obtain ⟨g3, HG3⟩ : ∃ z, Hid (wr.heap.size = z) := ⟨_, Lib.hid rfl⟩
          rw [HG3.out] at hB3 ⊢
          have e0 := hB3.cell 0
          have e1 := hB3.cell 1
          simp only [List.getElem?_toArray, List.getElem?_cons_zero, List.getElem?_cons_succ] at e0 e1
          have hgl := hB3.lt
          have hput := put_t W3 (u :: X) u l' y1 y2 hsy.1 (by omega) (hTih.out.fr0 F3) hGih.out
          have f3 := Lib.hid (hFh.out.trans F3.nil)
          clear cn cv hB3 F3
          go_wp2_with fail
          refine hput.mono ?_
          rintro e W4 ⟨rfl, hT4, F4⟩
          have f4 := Lib.hid (f3.out.trans F4)
          by_cases he : putE y1 y2 l' = 0
          · have e2 : putM y1 y2 l' = put (y1, y2) l' := by unfold putM; rw [if_pos he]
            have hG4 := Lib.hid (putM_good (k := y1) (v := y2) hGih.out)
            rw [e2] at hT4 hG4
            have hT4h := Lib.hid hT4
            have heh := Lib.hid he
            rw [he]
            clear he e2 hT4 hput F4 e0 e1
            go_wp2_with fail
            go_roundg (n - i)
            case measure => omega
            case rel =>
              refine ⟨i + 1, put (y1, y2) l', by go_num, by have := hlth.out; omega, by have := hlth.out; omega, hT4h.out, hG4.out, ?_, f4.out⟩
              rw [← hRih.out, hdr.out]
              exact (newR_pos heh.out).symm
          · have hR2 : R = (putE y1 y2 l', l') := by
              rw [← hRih.out, hdr.out]
              exact newR_neg he
            have hm2 := Lib.hid (show mendR pl ps l = (putE y1 y2 l', l) by rw [hmendR.out, hR2, if_neg he])
            obtain ⟨pe, HPE⟩ : ∃ z, Hid (putE y1 y2 l' = z) := ⟨_, Lib.hid rfl⟩
            rw [HPE.out] at he hm2 ⊢
            have he1 : (pe != 0) = true := by simpa using he
            have fE : Hid (Fr [] w W4) := Lib.hid (f2.out.andThen f4.out (fun x hx => .inr (by simp at hx; omega)))
            clear he hR2 hT4 hput F4 e0 e1
            go_wp2_with fail
            go_ret
            rw [hm2.out]
            exact ⟨rfl, hTh.out.fr0 fE.out, fE.out.nil⟩
        · have hge : ¬ (i : Int) < n := by omega
          have hR2 : R = (0, l') := by
            rw [← hRi, List.drop_of_length_le (by omega)]
            rfl
          have hm2 := Lib.hid (show mendR pl ps l = (0, l') by rw [hmendR.out, hR2, if_pos rfl])
          obtain ⟨pu, hBu, hNu, _, _⟩ := hTi
          obtain ⟨p0, hB0, _, htX, hX⟩ := hTh.out
          have hBt := hB0.fr hF0 (by simp)
          have cu := hBu.cell 0
          have c0 := hBt.cell 0
          simp only [List.getElem?_toArray, List.getElem?_cons_zero] at cu c0
          have hful := hBu.lt
          have hftl := hBt.lt
          have hfz := hBt.frozen 0
          obtain ⟨qu, rfl⟩ := node_ptr hNu
          have hNuh := Lib.hid hNu
          have hBth := Lib.hid hBt
          have hXh := Lib.hid hX
          clear hlt hk hR2 hGi hRi hF hNu hBt hX
          go_wp2_with fail
          go_ret
          have hFt : Fr [t] wr (wr.setCell ⟨t, 0, none⟩ (.pointer qu)) := (Fr.refl _ _).setCell (.inl (by simp)) _
          rw [hm2.out]
          refine ⟨rfl, ⟨.pointer qu, hBth.out.set 0 _, hNuh.out.go (S := [t]) ⟨hFt, fun x hx => .inl (by simp at hx; rw [hx]; exact List.mem_cons_of_mem _ htX), fun y hy => .inl (List.mem_cons_of_mem _ hy)⟩, htX, fun g hg => by have := hXh.out g hg; have := hF0h.out.size; simp; omega⟩, hF0h.out.nil.trans hFt⟩
end Go.Proofs.Ytlhkkffljjbdmaa
