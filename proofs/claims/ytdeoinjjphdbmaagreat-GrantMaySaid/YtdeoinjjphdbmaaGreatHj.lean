/- Walks: texts struck from a slice that the call has made; which families are revoked. Conditions: each theorem's own. -/
import Derived.Test.YtdeoinjjphdbmaaGreatHi
import Derived.Test.YtdeoinjjphdbmaaGreatRow
namespace Go.Proofs.YtdeoinjjphdbmaaGreat
open Go.RowKit Go.Sig

/-- What is asked of a function value that tells whether a text is meant; it reads in block gx. -/
def PredS (w : World) (S : List Nat) (f gx : Nat) (q : ByteArray → Bool) : Prop := ∀ (W : World) (s : ByteArray), Fr S w W → Calls Tryz.prog f #[.string s, .pointer (some ⟨gx, 0, none⟩)] W fun e w' => e = .returned (.bool (q s)) ∧ Fr [] W w'
theorem PredS.fr {w w' : World} {S : List Nat} {f gx : Nat} {q : ByteArray → Bool} (h : PredS w S f gx q) (hF : Fr S w w') : PredS w' S f gx q := fun W s hW => h W s (hF.trans hW)
def dropS (q : ByteArray → Bool) (l : List ByteArray) : List ByteArray := l.filter fun s => !q s
theorem dropS_all {q : ByteArray → Bool} {l : List ByteArray} (h : ∀ y ∈ l, q y = false) : dropS q l = l := by
  unfold dropS
  rw [List.filter_eq_self]
  intro y hy
  simp [h y hy]
theorem dropS_take {q : ByteArray → Bool} {l : List ByteArray} {j : Nat} (h : j < l.length) : dropS q (l.take (j + 1)) = dropS q (l.take j) ++ (if q l[j] = true then [] else [l[j]]) := by
  unfold dropS
  rw [List.take_succ_eq_append_getElem h, List.filter_append]
  by_cases e : q l[j] = true <;> simp [e]
theorem dropS_take_le {q : ByteArray → Bool} {l : List ByteArray} {j : Nat} : (dropS q (l.take j)).length ≤ j := by
  unfold dropS
  exact Nat.le_trans (List.length_filter_le _ _) (by rw [List.length_take]; omega)
def IdxSPost (w : World) (q : ByteArray → Bool) (l : List ByteArray) (e : Ending) (w' : World) : Prop := Fr [] w w' ∧ ((e = .returned (.int .i64 (-1)) ∧ ∀ y ∈ l, q y = false) ∨ ∃ i, ∃ h : i < l.length, e = .returned (.int .i64 i) ∧ q l[i] = true ∧ ∀ y ∈ l.take i, q y = false)
set_option maxRecDepth 100000 in
set_option maxHeartbeats 1000000 in
theorem idxS_t (w : World) (S : List Nat) (f gx : Nat) (q : ByteArray → Bool) (hf : PredS w S f gx q) (eg : ∀ args w, (callFunc f args).run Tryz.prog w = .ok (.enter f args) w) (A : Option Addr) (n c : Nat) (l : List ByteArray) (hR : Rd w 1 A n (strCells l)) (hn : l.length = n) (hmax : n ≤ 1000000) :
   Calls Tryz.prog 91 #[.slice A n c, .func (.func f) #[] #[.pointer (some ⟨gx, 0, none⟩)]] w (IdxSPost w q l) := by
  have hfh := Lib.hid hf
  clear hf
  go_enter Tryz.func91, Tryz.ntmps91
  go_wp2_with fail
  go_loopg [5, 8] (n + 1) (fun gk s5 s8 wr => ∃ (i : Nat), s8 = .int .i64 i ∧ i ≤ n ∧ n - i < gk ∧ (∀ y ∈ l.take i, q y = false) ∧ Fr [] w wr)
  case atStart => exact ⟨0, rfl, by omega, by omega, fun y hy => by simp at hy, Fr.refl _ _⟩
  case round =>
    obtain ⟨i, rfl, hi, hk, hpre, hF⟩ := hrel
    have hFh := Lib.hid hF
    have hpreh := Lib.hid hpre
    clear hpre
    by_cases hlt : i < n
    · have hlt' : (i : Int) < n := by omega
      have hlth := Lib.hid hlt
      have hi' : i < l.length := by omega
      obtain ⟨b, o, rfl, hcell⟩ := (Rd.fr hR hF (by simp [Off])).2 (by omega)
      have cn := hcell _ _ (strCells_at hi')
      have hcall := hfh.out wr l[i] hF.nil
      have htk := Lib.hid (List.take_succ_eq_append_getElem hi')
      clear hcell
      obtain ⟨y, hy⟩ : ∃ x, Hid (l[i] = x) := ⟨_, Lib.hid rfl⟩
      rw [hy.out] at cn hcall htk
      obtain ⟨r, hr⟩ : ∃ z, Hid (q y = z) := ⟨_, Lib.hid rfl⟩
      rw [hr.out] at hcall
      clear hF
      cases r with
      | true =>
        go_wp2_with (go_at_fn f; refine hcall.mono ?_; rintro e w' ⟨rfl, F2⟩)
        go_ret
        refine ⟨hFh.out.trans F2, .inr ⟨i, hi', rfl, ?_, hpreh.out⟩⟩
        rw [hy.out]
        exact hr.out
      | false =>
        go_wp2_with (go_at_fn f; refine hcall.mono ?_; rintro e w' ⟨rfl, F2⟩)
        go_roundg (n - i)
        case measure => omega
        case rel =>
          refine ⟨i + 1, by go_num, by have := hlth.out; omega, by have := hlth.out; omega, ?_, hFh.out.trans F2⟩
          rw [htk.out]
          intro z hz
          rcases List.mem_append.1 hz with h | h
          · exact hpreh.out z h
          · simp at h
            rw [h]
            exact hr.out
    · have hge : ¬ (i : Int) < n := by omega
      have hall : ∀ y ∈ l, q y = false := fun y hy => hpreh.out y (by rw [List.take_of_length_le (by omega)]; exact hy)
      have hallh := Lib.hid hall
      clear hall hF hk
      go_wp2_with fail
      go_ret
      exact ⟨hFh.out, .inl ⟨rfl, hallh.out⟩⟩
/-- 'clear(s[i:])' at texts. -/
theorem run_clear_strs {P : Program} {t e ty : TypeId} {i : TypeInfo} {z : Value} (w : World) (ht : P.underlying t = some (.slice e)) (hi : P.info? e = some i) (hz : i.zero = some z) (h1 : ∀ v ∈ z.cells.toList, v.oneCell' = true)
    {g o n c : Nat} {t' : TypeId} {cur : Array Value} (hB : Blk w g t' cur) (hn : 0 < n) (hfit : o + n * z.cells.size ≤ cur.size) :
    (Builtin.clear_ #[t] ty #[.slice (some ⟨g, o, none⟩) n c]).run P w = .ok (.tuple #[]) (w.setRow g (laid cur o (Builtin.zeroCells z.cells n).toList)) := by
  obtain ⟨m, rfl⟩ : ∃ m, n = m + 1 := ⟨n - 1, by omega⟩
  have hsz := size_zeroCells z.cells (m + 1)
  have hst := run_storeCells_at (P := P) g o t' (Builtin.zeroCells z.cells (m + 1)).toList 0 cur w hB (by rw [Array.length_toList, hsz]; omega) (fun v hv => by
    simp only [Builtin.zeroCells, Array.toList_map, List.mem_map] at hv
    obtain ⟨q, hq, rfl⟩ := hv
    simp at hq
    have hp : 0 < z.cells.size := by
      rcases Nat.eq_zero_or_pos z.cells.size with h0 | h0
      · rw [h0] at hq; omega
      · exact h0
    have hlt : q % z.cells.size < z.cells.size := Nat.mod_lt _ hp
    rw [getElem!_pos z.cells _ hlt]
    exact h1 _ (by simp))
  simp [Builtin.clear_, run_underlying ht, zeroValue, typeInfo, hi, hz, hst, Result.andThen]
  unfold laid
  rw [Array.length_toList]
def DelSPost (w : World) (v : Value) (ms : List ByteArray) (e : Ending) (w' : World) : Prop := ∃ v', e = .returned v' ∧ Own w' 9 1 v' ms.length (strCells ms) ∧ rowOf v' = rowOf v ∧ Fr (rowOf v) w w'
set_option maxRecDepth 100000 in
set_option maxHeartbeats 2000000 in
theorem delS_t (w : World) (f gx : Nat) (q : ByteArray → Bool) (v : Value) (hf : PredS w (rowOf v) f gx q) (eg : ∀ args w, (callFunc f args).run Tryz.prog w = .ok (.enter f args) w) (n : Nat) (l : List ByteArray) (hO : Own w 9 1 v n (strCells l)) (hn : l.length = n) (hmax : n ≤ 1000000) :
   Calls Tryz.prog 61 #[v, .func (.func f) #[] #[.pointer (some ⟨gx, 0, none⟩)]] w (DelSPost w v (dropS q l)) := by
  obtain ⟨A, c, rfl, hA⟩ := hO.form
  have hR := hO.rd
  have hidx := idxS_t w _ f gx q hf eg A n c l hR hn hmax
  have hfh := Lib.hid hf
  have hOh := Lib.hid hO
  clear hf hR
  go_enter Tryz.func61, Tryz.ntmps61
  go_wp2_with fail
  refine hidx.mono ?_
  rintro e W ⟨fW, hcase⟩
  rcases hcase with ⟨rfl, hall⟩ | ⟨i0, hi0, rfl, hk0, hbef⟩
  · have hallh := Lib.hid hall
    clear hall hidx hO
    go_wp2
    go_ret
    rw [dropS_all hallh.out]
    exact ⟨_, rfl, by rw [hn]; exact hOh.out.fr fW (by simp), rfl, fW.nil⟩
  · have hlt0 : i0 < n := by omega
    rcases hO.2 with ⟨hv, h0⟩ | ⟨g, cap, cur, hv, hbs, hh, hnc, hcm, hcs, htk⟩
    · omega
    injection hv with hv1 _ hv3
    subst hv1 hv3
    have hB : Blk W g 9 cur := Blk.fr (show Blk w g 9 cur from hh) fW (by simp)
    have hcl : ∀ m, m < n → cur[m]? = (strCells l)[m]? := fun m hm => by
      rw [← htk, List.getElem?_take_of_lt (by omega), Array.getElem?_toList]
    have hclh := Lib.hid hcl
    have hd0 : dropS q (l.take (i0 + 1)) = l.take i0 := by
      rw [dropS_take hi0, if_pos hk0, List.append_nil]
      exact dropS_all hbef
    have hd0h := Lib.hid hd0
    have hl0 : (l.take i0).length = i0 := by rw [List.length_take]; omega
    have hfW := Lib.hid (hfh.out.fr fW.nil)
    have fWh := Lib.hid fW
    clear hidx hcl hd0 hbef hk0 htk hO hA hh fW
    have hne1 : ((i0 : Int) == -1) = false := beq_eq_false_iff_ne.2 (by omega)
    go_wp2_with fail
    go_loopg [5, 6, 7] (n + 1) (fun gk s5 s6 s7 wr => ∃ (i j : Nat) (cu : Array Value), s5 = .int .i64 i ∧ s6 = .int .i64 j ∧ j ≤ n ∧ n - j < gk ∧ i < j ∧ i = (dropS q (l.take j)).length ∧ Blk wr g 9 cu ∧ cu.size = c * 1 ∧ Sub cu 0 (strCells (dropS q (l.take j))) ∧ (∀ m, j ≤ m → m < n → cu[m]? = (strCells l)[m]?) ∧ Fr [g] W wr)
    case atStart =>
      refine ⟨i0, i0 + 1, cur, rfl, by go_num, by omega, by omega, by omega, by rw [hd0h.out, hl0], hB, hcs, ?_, fun m _ hm => hclh.out m hm, Fr.refl _ _⟩
      rw [hd0h.out]
      intro m u hu
      have hm := (List.getElem?_eq_some_iff.1 hu).1
      rw [strCells_length, hl0] at hm
      rw [Nat.zero_add, hclh.out m (by omega), ← hu]
      have e : strCells l = strCells (l.take i0) ++ strCells (l.drop i0) := by rw [← strCells_append, List.take_append_drop]
      rw [e, List.getElem?_append_left (by rw [strCells_length, hl0]; omega)]
    case round =>
      clear hB
      obtain ⟨i, j, cu, rfl, rfl, hj, hk, hij, hil, hB, hsz, hsub, hhi, hF⟩ := hrel
      have hilh := Lib.hid hil
      have hsubh := Lib.hid hsub
      have hhih := Lib.hid hhi
      have hFh := Lib.hid hF
      have hBh := Lib.hid hB
      have hgl := hB.lt
      have hfz := fun m => hB.frozen m
      clear hil hsub hhi hF
      by_cases hlt : j < n
      · have hlt' : (j : Int) < n := by omega
        have hlth := Lib.hid hlt
        have hj' : j < l.length := by omega
        have hp := strCells_at hj'
        have cn := ((hB.cell j).trans (hhih.out _ (by omega) (by omega))).trans hp
        have hdt := Lib.hid (dropS_take (q := q) hj')
        have hpl := Lib.hid hp
        clear hp
        obtain ⟨y, hy⟩ : ∃ x, Hid (l[j] = x) := ⟨_, Lib.hid rfl⟩
        rw [hy.out] at cn hdt hpl
        have ci : wr.cell? ⟨g, i, none⟩ = some cu[i] := by rw [hB.cell]; exact Array.getElem?_eq_getElem (by omega)
        have hcall := hfW.out wr y (by rw [rowOf_some]; exact hFh.out)
        obtain ⟨r, hr⟩ : ∃ z, Hid (q y = z) := ⟨_, Lib.hid rfl⟩
        rw [hr.out] at hcall hdt
        clear hB
        cases r with
        | true =>
          go_wp2_with (go_at_fn f; refine hcall.mono ?_; rintro e w' ⟨rfl, F4⟩)
          go_roundg (n - j)
          case measure => omega
          case rel =>
            refine ⟨i, j + 1, cu, rfl, by go_num, by have := hlth.out; omega, by have := hlth.out; omega, by omega, ?_, hBh.out.fr F4 (by simp), hsz, ?_, fun m h1 h2 => hhih.out m (by omega) h2, hFh.out.trans F4.nil⟩
            · rw [hdt.out, if_pos trivial, List.append_nil]
              exact hilh.out
            · rw [hdt.out, if_pos trivial, List.append_nil]
              exact hsubh.out
        | false =>
          go_upto_region 9 with (go_at_fn f; refine hcall.mono ?_; rintro e w' ⟨rfl, F4⟩)
          refine wp_gen (fun W4 => Blk W4 g 9 cu ∧ Fr [] wr W4) ⟨hBh.out.fr F4 (by simp), F4⟩ ?_
          rintro W4 ⟨hB4, F34⟩
          have ci4 : W4.cell? ⟨g, i, none⟩ = some cu[i] := by rw [hB4.cell]; exact Array.getElem?_eq_getElem (by omega)
          have hfz4 := fun m => hB4.frozen m
          have hg4 := hB4.lt
          have hB4h := Lib.hid hB4
          have F34h := Lib.hid F34
          have hiln : (i : Int) < n := by have := hlth.out; omega
          clear hcall F4 ci cn hfz hB4 F34
          go_wp2_with fail
          go_roundg (n - j)
          case measure => omega
          case rel =>
            refine ⟨i + 1, j + 1, _, by go_num, by go_num, by have := hlth.out; omega, by have := hlth.out; omega, by omega, ?_, hB4h.out.set i (.string y), by simpa using hsz, ?_, fun m h1 h2 => ?_, hFh.out.trans (F34h.out.nil.trans ((Fr.refl [g] W4).setCell (p := ⟨g, i, none⟩) (.inl (by simp)) _))⟩
            · rw [hdt.out, if_neg (by simp), List.length_append, ← hilh.out]
              rfl
            · rw [hdt.out, if_neg (by simp), strCells_append]
              intro m u hu
              have hpl2 : (strCells (dropS q (l.take j))).length = i := by rw [strCells_length, ← hilh.out]
              rw [Nat.zero_add, Array.getElem?_setIfInBounds]
              by_cases h1 : m < i
              · rw [if_neg (by omega)]
                rw [List.getElem?_append_left (by omega)] at hu
                have := hsubh.out m u hu
                rwa [Nat.zero_add] at this
              · rw [List.getElem?_append_right (by omega), hpl2] at hu
                have hm : m - i = 0 := by
                  have := (List.getElem?_eq_some_iff.1 hu).1
                  simp [strCells] at this
                  omega
                rw [hm] at hu
                rw [if_pos (by omega), if_pos (by have := hlth.out; omega), ← hu]
                rfl
            · rw [Array.getElem?_setIfInBounds, if_neg (by omega)]
              exact hhih.out m (by omega) h2
      · have hjn : j = n := by omega
        subst hjn
        obtain ⟨fi, hfi, hfz2, hfs, hfb⟩ := info_parts tStrs.info
        have hci : ¬ c = i := by omega
        have hclr : ∀ ty, (Builtin.clear_ #[28] ty #[.slice (some ⟨g, i, none⟩) (j - i) (c - i)]).run Tryz.prog wr = .ok (.tuple #[]) (wr.setRow g (laid cu i (Builtin.zeroCells (Value.string ⟨#[]⟩).cells (j - i)).toList)) :=
          fun ty => run_clear_strs (ty := ty) wr tStrs.ty hfi hfz2 (by intro v hv; simp [Value.cells] at hv; subst hv; rfl) hBh.out (by omega) (by show i + (j - i) * 1 ≤ cu.size; omega)
        have hge : ¬ (j : Int) < j := by omega
        have hij' : (i : Int) ≤ j := by omega
        have hic' : (i : Int) ≤ c := by omega
        have hzl : (Builtin.zeroCells (Value.string ⟨#[]⟩).cells (j - i)).toList.length = j - i := by rw [Array.length_toList, size_zeroCells]; show (j - i) * 1 = _; omega
        obtain ⟨zs, hzs⟩ : ∃ x, Hid ((Builtin.zeroCells (Value.string ⟨#[]⟩).cells (j - i)).toList = x) := ⟨_, Lib.hid rfl⟩
        rw [hzs.out] at hclr hzl
        clear hlt hk hB
        go_wp2
        go_ret
        have hsb := hsubh.out
        have hil := hilh.out
        rw [List.take_of_length_le (by omega)] at hsb hil
        have hfit : i + zs.length ≤ cu.size := by omega
        refine ⟨_, rfl, ?_, by simp [rowOf, Value.ownBlock], ?_⟩
        · rw [← hil]
          refine ⟨by rw [strCells_length, ← hil, Nat.mul_one], .inr ⟨g, c, _, rfl, Nat.zero_le _, Blk.setRow hBh.out _, by omega, hcm, by rw [laid_size hfit]; exact hsz, ?_⟩⟩
          apply List.ext_getElem?
          intro m
          by_cases hm : m < i
          · rw [List.getElem?_take_of_lt (by omega), Array.getElem?_toList, laid_far hfit (.inl hm)]
            have hlt2 : m < (strCells (dropS q l)).length := by rw [strCells_length, ← hil]; exact hm
            have := hsb m _ (List.getElem?_eq_getElem hlt2)
            rw [Nat.zero_add] at this
            rw [this, List.getElem?_eq_getElem hlt2]
          · rw [List.getElem?_eq_none (by rw [List.length_take]; omega), List.getElem?_eq_none (by rw [strCells_length, ← hil]; omega)]
        · rw [rowOf_some]
          exact (fWh.out.nil.trans hFh.out).setRow (.inl (by simp)) _
/-- Which families are revoked. -/
def revM (b : GBk) (s : ByteArray) : Bool := ((aget s b).getD zeroF).revoked
def pendM (b : GBk) : List ByteArray := (idsM b).filter fun s => revM b s
theorem dropS_rev (b : GBk) : dropS (fun s => !revM b s) (idsM b) = pendM b := by
  unfold dropS pendM
  congr 1
  funext s
  rw [Bool.not_not]
set_option maxRecDepth 100000 in
set_option maxHeartbeats 2000000 in
theorem pend1_t (w : World) (p mb gx : Nat) (room : Int) (X S : List Nat) (b : GBk) (h : BookAt w p mb room X b) (hx : w.cell? ⟨gx, 0, none⟩ = some (.pointer (some ⟨p, 0, none⟩))) (hS : p ∉ S ∧ mb ∉ S ∧ gx ∉ S) : PredS w S 62 gx (fun s => !revM b s) := by
  intro W s hF
  obtain ⟨l, hl1, hl2, hl3⟩ := h.hb
  have hM := hl1.fr hF hS.2.1
  have hP := h.hp.fr hF hS.1
  have hxW := (hF.cell (p := ⟨gx, 0, none⟩) (block_lt_of_cell hx) hS.2.2).trans hx
  have hlk := hM.run_lookup kStr (z := zeroFA.val) uMsf (fun w => by kernel_rfl) s
  have hv : ((aget s l).map FA.val).getD zeroFA.val = ((aget s l).getD zeroFA).val := by cases aget s l <;> rfl
  rw [hv] at hlk
  have hrv : ((aget s l).getD zeroFA).f.revoked = revM b s := by
    unfold revM
    rw [← hl2, aget_fa]
    cases aget s l <;> rfl
  obtain ⟨x, hxe⟩ : ∃ z, Hid ((aget s l).getD zeroFA = z) := ⟨_, Lib.hid rfl⟩
  rw [hxe.out] at hlk hrv
  obtain ⟨rv, hrve⟩ : ∃ z, Hid (revM b s = z) := ⟨_, Lib.hid rfl⟩
  rw [hrve.out] at hrv
  have hres : ∀ z : Bool, rv = z → Ending.returned (.bool (!z)) = .returned (.bool (!revM b s)) := fun z h => by rw [hrve.out, h]
  have hresh := Lib.hid hres
  have e0 := hP.cell 0
  simp only [List.getElem?_toArray, List.getElem?_cons_zero] at e0
  have hpl := hP.lt
  have hgl := block_lt_of_cell hxW
  unfold FA.val FA.cells at hlk
  rw [hrv] at hlk
  clear hl1 hl2 hl3 hM hP hv hrv hres h hx
  have hfd : (Instr.field 39 (.agg #[.string x.f.id, .string x.f.client, .string x.f.user, .slice x.sA x.f.scope.length x.sc, .string x.f.redirect, .string x.f.challenge, .string x.f.method, .int .i64 x.f.code, .slice x.tA x.ts.length x.tc, .bool rv, .slice x.lA x.f.leases.length x.lc]) 9).run Tryz.prog W = .ok (.bool rv) W := by kernel_rfl
  go_enter Tryz.func62, Tryz.ntmps62
  go_wp2
  go_ret
  exact ⟨hresh.out rv rfl, Fr.refl _ _⟩
set_option maxRecDepth 100000 in
set_option maxHeartbeats 2000000 in
theorem pend_t (w : World) (p mb : Nat) (room : Int) (X : List Nat) (b : GBk) (h : BookAt w p mb room X b) (hmax : b.length ≤ 1000000) : Calls Tryz.prog 30 #[.pointer (some ⟨p, 0, none⟩)] w (SRow w (pendM b)) := by
  have eg : ∀ args w, (callFunc 62 args).run Tryz.prog w = .ok (.enter 62 args) w := enters_of Tryz.func62 (by kernel_rfl) rfl
  have hh := Lib.hid h
  clear h
  go_enter Tryz.func30, Tryz.ntmps30
  go_upto_region 1 with (fail)
  refine wp_gen (fun W => Blk W w.heap.size 23 #[.pointer (some ⟨p, 0, none⟩)] ∧ Fr [] w W) ⟨Blk.new _ _ _, (Fr.refl _ _).alloc _⟩ ?_
  rintro W ⟨hB, fW⟩
  obtain ⟨gx, HGX⟩ : ∃ z, Hid (w.heap.size = z) := ⟨_, Lib.hid rfl⟩
  rw [HGX.out] at hB ⊢
  have e0 := hB.cell 0
  simp only [List.getElem?_toArray, List.getElem?_cons_zero] at e0
  have hgl := hB.lt
  have hids := ids_t W p mb room X b (hh.out.fr0 fW) hmax
  have fWh := Lib.hid fW
  have e0h := Lib.hid e0
  clear hB fW
  go_wp2_with fail
  refine hids.mono ?_
  rintro e W2 ⟨v, rfl, hO, F2, hrow⟩
  have hlen : (idsM b).length ≤ 1000000 := by
    have := (sortN_perm hh.out.ok.1).length_eq
    rw [List.length_map] at this
    unfold idsM
    omega
  have hp := hh.out.hp.lt
  have hm := hh.out.hb.lt
  have hw := fWh.out.size
  have hpre := pend1_t W2 p mb gx room X (rowOf v) b ((hh.out.fr0 fWh.out).fr0 F2) (cell_fr F2 e0h.out) ⟨fun h => by have := hrow p h; omega, fun h => by have := hrow mb h; omega, fun h => by have := hrow gx h; omega⟩
  have hdel := delS_t W2 62 gx _ v hpre eg _ (idsM b) hO rfl hlen
  rw [dropS_rev] at hdel
  have F2h := Lib.hid F2
  have hrowh := Lib.hid hrow
  clear hids hO F2 hrow e0 hpre hgl eg
  go_wp2_with fail
  refine hdel.mono ?_
  rintro e W3 ⟨v', rfl, hO3, hr3, F3⟩
  go_wp2_with fail
  go_ret
  refine ⟨v', rfl, hO3, (fWh.out.trans F2h.out).andThen F3 (fun g hg => .inr (by have := hrowh.out g hg; omega)), fun g hg => ?_⟩
  rw [hr3] at hg
  have := hrowh.out g hg
  omega
end Go.Proofs.YtdeoinjjphdbmaaGreat
