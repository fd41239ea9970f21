/- Walks of the library's functions at pairs: comparing, finding, striking, copying. Conditions: each theorem's own. -/
import Derived.Test.YtlhkkffljjbdmaaTb
import Derived.Lib.Bytealg
import Derived.Lib.Walk
import Derived.Lib.Strings
import Derived.Lib.Slices
import Derived.Sort.Statements
import Derived.Shelf.Abstract
namespace Go.Proofs.Ytlhkkffljjbdmaa
open Go.RowKit Go.Sig

def cmpB (a b : ByteArray) : Int := Lib.compareBytes a.data.toList b.data.toList
set_option maxHeartbeats 1000000 in
set_option maxRecDepth 100000 in
theorem bytealg_t (a b : ByteArray) (w : World) : Calls Try.prog 93 #[.string a, .string b] w fun e w' => e = .returned (.int .i64 (cmpB a b)) ∧ w' = w := by
  go_enter Try.func93, Try.ntmps93
  go_wp2
  rw [run_callFunc_extern Try.func112 (by kernel_rfl) (by kernel_rfl) (by kernel_rfl) (e := Extern.BytealgCompare.compare) (by kernel_rfl), Lib.run_compareString]
  simp only [Result.andThen]
  rw [Oper.upon_value]
  go_wp2
  go_ret
  exact ⟨rfl, rfl⟩
theorem compare_t (a b : ByteArray) (w : World) : Calls Try.prog 70 #[.string a, .string b] w fun e w' => e = .returned (.int .i64 (cmpB a b)) ∧ w' = w := by
  go_enter Try.func70, Try.ntmps70
  go_wp2_with (go_at_call 93; refine (bytealg_t _ _ _).mono ?_; rintro e w' ⟨rfl, rfl⟩)
  go_ret
  exact ⟨rfl, rfl⟩
/-- Two pairs by their names: two blocks are laid. -/
theorem byName_t (x y : Pr) (w : World) : Calls Try.prog 51 #[.agg #[.string x.1, .string x.2], .agg #[.string y.1, .string y.2]] w fun e w' => e = .returned (.int .i64 (cmpB x.1 y.1)) ∧ ∃ o1 o2, w' = (w.alloc o1).alloc o2 := by
  go_enter Try.func51, Try.ntmps51
  go_wp2_with (go_at_call 70; refine (compare_t _ _ _).mono ?_; rintro e w' ⟨rfl, rfl⟩)
  go_ret
  exact ⟨rfl, _, _, rfl⟩
theorem cmp_less : ∀ (l m : List UInt8), decide (Lib.compareBytes l m < 0) = Op.bytesLess l m
  | [], [] => rfl
  | [], _ :: _ => rfl
  | _ :: _, [] => rfl
  | a :: l, b :: m => by
    unfold Lib.compareBytes Op.bytesLess
    by_cases h1 : a < b
    · simp [h1]
    · by_cases h2 : b < a
      · have : a ≠ b := fun e => by rw [e] at h2; exact absurd h2 (UInt8.lt_irrefl _)
        simp [h1, h2, this]
      · have : a = b := UInt8.le_antisymm (UInt8.not_lt.1 h2) (UInt8.not_lt.1 h1)
        subst this
        simp [h1, cmp_less l m]
theorem cmpB_lt (a b : ByteArray) : decide (cmpB a b < 0) = bl a b := by
  unfold cmpB bl
  rw [cmp_less, Lib.toList_data, Lib.toList_data]
/-- The name is that one? (a function value of with.) -/
theorem with1_t (w : World) (y : Pr) (gx : Nat) (k : ByteArray) (hx : w.cell? ⟨gx, 0, none⟩ = some (.string k)) :
   Calls Try.prog 59 #[.agg #[.string y.1, .string y.2], .pointer (some ⟨gx, 0, none⟩)] w fun e w' => e = .returned (.bool (decide (y.1 = k))) ∧ Fr [] w w' := by
  have hx2 := fun o => cell_al (o := o) hx
  have hgl := block_lt_of_cell hx
  have hd := Lib.hid (toList_beq y.1 k)
  go_enter Try.func59, Try.ntmps59
  go_wp2
  go_ret
  exact ⟨ret_bool hd.out, (Fr.refl _ _).alloc _⟩
theorem without1_t (w : World) (y : Pr) (gx : Nat) (k : ByteArray) (hx : w.cell? ⟨gx, 0, none⟩ = some (.string k)) :
   Calls Try.prog 60 #[.agg #[.string y.1, .string y.2], .pointer (some ⟨gx, 0, none⟩)] w fun e w' => e = .returned (.bool (decide (y.1 = k))) ∧ Fr [] w w' := by
  have hx2 := fun o => cell_al (o := o) hx
  have hgl := block_lt_of_cell hx
  have hd := Lib.hid (toList_beq y.1 k)
  go_enter Try.func60, Try.ntmps60
  go_wp2
  go_ret
  exact ⟨ret_bool hd.out, (Fr.refl _ _).alloc _⟩
def pairV (y : Pr) : Value := .agg #[.string y.1, .string y.2]
/-- What is asked of a function value that tells whether a pair bears the name k, which lies in the block gx. -/
def PredK (f gx : Nat) (k : ByteArray) : Prop := ∀ (W : World) (y : Pr), W.cell? ⟨gx, 0, none⟩ = some (.string k) →
   Calls Try.prog f #[.agg #[.string y.1, .string y.2], .pointer (some ⟨gx, 0, none⟩)] W fun e w' => e = .returned (.bool (decide (y.1 = k))) ∧ Fr [] W w'
theorem with1_p (gx : Nat) (k : ByteArray) : PredK 59 gx k := fun W y h => with1_t W y gx k h
theorem without1_p (gx : Nat) (k : ByteArray) : PredK 60 gx k := fun W y h => without1_t W y gx k h

set_option maxRecDepth 100000 in
set_option maxHeartbeats 1000000 in
theorem idx_t (w : World) (f gx : Nat) (k : ByteArray) (hf : PredK f gx k) (eg : ∀ args w, (callFunc f args).run Try.prog w = .ok (.enter f args) w) (hx : w.cell? ⟨gx, 0, none⟩ = some (.string k)) (A : Option Addr) (n c : Nat) (l : List Pr) (hR : Rd w 2 A n (pairCells l)) (hn : l.length = n) (hmax : n ≤ 1048576) :
   Calls Try.prog 79 #[.slice A n c, .func (.func f) #[] #[.pointer (some ⟨gx, 0, none⟩)]] w fun e w' => Fr [] w w' ∧ ((e = .returned (.int .i64 (-1)) ∧ ∀ y ∈ l, y.1 ≠ k) ∨ ∃ i, ∃ h : i < l.length, e = .returned (.int .i64 i) ∧ l[i].1 = k ∧ ∀ y ∈ l.take i, y.1 ≠ k) := by
  go_enter Try.func79, Try.ntmps79
  go_wp2_with fail
  go_loopg [5, 8] (n + 1) (fun gk s5 s8 wr => ∃ (i : Nat), s8 = .int .i64 i ∧ i ≤ n ∧ n - i < gk ∧ (∀ y ∈ l.take i, y.1 ≠ k) ∧ Fr [] w wr)
  case atStart => exact ⟨0, rfl, by omega, by omega, fun y hy => by simp at hy, Fr.refl _ _⟩
  case round =>
    obtain ⟨i, rfl, hi, hk, hpre, hF⟩ := hrel
    by_cases hlt : i < n
    · have hlt' : (i : Int) < n := by omega
      have hlth := Lib.hid hlt
      have hi' : i < l.length := by omega
      have hRr := Rd.fr hR hF (by simp [Off])
      obtain ⟨b, o, rfl, hcell⟩ := hRr.2 (by omega)
      have hp := pairCells_at hi'
      have cn := hcell _ _ hp.1
      have cv := hcell _ _ hp.2
      rw [← Nat.add_assoc] at cv
      have hcall := hf wr l[i] (cell_fr hF hx)
      have hpreh := Lib.hid hpre
      have htk := Lib.hid (List.take_succ_eq_append_getElem hi')
      clear hcell hp hRr hpre
      obtain ⟨y, hy⟩ : ∃ x, Hid (l[i] = x) := ⟨_, Lib.hid rfl⟩
      rw [hy.out] at cn cv hcall htk
      obtain ⟨y1, y2⟩ := y
      simp only at cn cv hcall
      by_cases hyk : y1 = k
      · rw [show decide (y1 = k) = true by simpa using hyk] at hcall
        have hyh := Lib.hid hyk
        clear hyk
        go_wp2_with (go_at_fn f; refine hcall.mono ?_; rintro e w' ⟨rfl, F2⟩)
        go_ret
        refine ⟨hF.trans F2, .inr ⟨i, hi', rfl, ?_, hpreh.out⟩⟩
        rw [hy.out]
        exact hyh.out
      · rw [show decide (y1 = k) = false by simpa using hyk] at hcall
        go_wp2_with (go_at_fn f; refine hcall.mono ?_; rintro e w' ⟨rfl, F2⟩)
        go_roundg (n - i)
        case measure => omega
        case rel =>
          refine ⟨i + 1, by go_num, by have := hlth.out; omega, by have := hlth.out; omega, ?_, hF.trans F2⟩
          rw [htk.out]
          intro z hz
          rcases List.mem_append.1 hz with h | h
          · exact hpreh.out z h
          · simp at h
            rw [h]
            exact hyk
    · have hin : i = n := by omega
      have hge : ¬ (i : Int) < n := by omega
      have hpreh := Lib.hid hpre
      clear hpre
      go_wp2
      go_ret
      refine ⟨hF, .inl ⟨rfl, ?_⟩⟩
      rintro y1 y2 hy
      exact hpreh.out (y1, y2) (by rw [List.take_of_length_le (by omega)]; exact hy)
theorem tPairs : SliceTy Try.prog 36 66 2 32 (.agg #[.string ⟨#[]⟩, .string ⟨#[]⟩]) := ⟨by kernel_rfl, by kernel_rfl, rfl, by decide⟩
theorem del_all {k : ByteArray} {l : List Pr} (h : ∀ y ∈ l, y.1 ≠ k) : del k l = l := by
  unfold del
  rw [List.filter_eq_self]
  intro y hy
  simpa using h y hy
theorem del_take {k : ByteArray} {l : List Pr} {j : Nat} (h : j < l.length) : del k (l.take (j + 1)) = del k (l.take j) ++ (if l[j].1 = k then [] else [l[j]]) := by
  unfold del
  rw [List.take_succ_eq_append_getElem h, List.filter_append]
  by_cases e : l[j].1 = k <;> simp [e]
theorem del_take_le {k : ByteArray} {l : List Pr} {j : Nat} : (del k (l.take j)).length ≤ j := by
  unfold del
  exact Nat.le_trans (List.length_filter_le _ _) (by rw [List.length_take]; omega)
/-- 'clear(s[i:])'. -/
theorem run_clear_rows {P : Program} {t e ty : TypeId} {i : TypeInfo} {z : Value} (w : World) (ht : P.underlying t = some (.slice e)) (hi : P.info? e = some i) (hz : i.zero = some z) (h1 : ∀ v ∈ z.cells.toList, v.oneCell' = true)
    {g o n c : Nat} {t' : TypeId} {cur : Array Value} (hB : Blk w g t' cur) (hn : 0 < n) (hfit : o + n * z.cells.size ≤ cur.size) :
    (Builtin.clear_ #[t] ty #[.slice (some ⟨g, o, none⟩) n c]).run P w = .ok (.tuple #[]) (w.setRow g (laid cur o (Builtin.zeroCells z.cells n).toList)) := by
  obtain ⟨m, rfl⟩ : ∃ m, n = m + 1 := ⟨n - 1, by omega⟩
  have hsz := size_zeroCells z.cells (m + 1)
  have hst := run_storeCells_at (P := P) g o t' (Builtin.zeroCells z.cells (m + 1)).toList 0 cur w hB (by rw [Array.length_toList, hsz]; omega) (fun v hv => by
    simp only [Builtin.zeroCells, Array.toList_map, List.mem_map] at hv
    obtain ⟨q, hq, rfl⟩ := hv
    simp at hq
    have hp : 0 < z.cells.size := by
      rcases Nat.eq_zero_or_pos z.cells.size with h0 | h0
      · rw [h0] at hq; omega
      · exact h0
    have hlt : q % z.cells.size < z.cells.size := Nat.mod_lt _ hp
    rw [getElem!_pos z.cells _ hlt]
    exact h1 _ (by simp))
  simp [Builtin.clear_, run_underlying ht, zeroValue, typeInfo, hi, hz, hst, Result.andThen]
  unfold laid
  rw [Array.length_toList]

theorem clone_t (w : World) (ad : Addr) (n c : Nat) (xs : List Value) (h : Rd w 2 (some ad) n xs) (h1 : ∀ u ∈ xs, u.oneCell' = true) (hn : n ≤ 1048576) :
   Calls Try.prog 58 #[.slice (some ad) n c] w fun e w' => ∃ v, e = .returned v ∧ Own w' 66 2 v n xs ∧ Fr [] w w' ∧ (∀ g ∈ rowOf v, w.heap.size ≤ g) := by
  have hq := fun w => Lib.run_eql_slice_nil (P := Try.prog) w 36 66 (some ad) n c 0 0 tPairs.ty
  go_enter Try.func58, Try.ntmps58
  have hown : Own (w.alloc (.cells #[] 66)) 66 2 (.slice (some ⟨w.heap.size, 0, none⟩) 0 0) 0 [] := Own.made w #[] 66 2 0 0 (by omega) (by decide) rfl
  have hr : Rd (w.alloc (.cells #[] 66)) 2 (some ad) n xs := h.fr ((Fr.refl [] w).alloc _) (fun _ _ _ => by simp)
  go_wp2_with (refine wpList_own_append tPairs hown hr h1 (by simp) (by unfold maxLen; omega) (by omega) rfl rfl rfl rfl (fun v' w2 h1 h2 h3 => ?_))
  go_ret
  refine ⟨_, rfl, by simpa using h1, ?_, ?_⟩
  · exact ((Fr.refl [] w).alloc _).andThen h2 (by simp [rowOf, Value.ownBlock])
  · intro g hg
    have := h3 g (by simpa using hg)
    simp [rowOf, Value.ownBlock] at this
    omega

set_option maxRecDepth 100000 in
set_option maxHeartbeats 2000000 in
theorem delf_t (w : World) (f gx : Nat) (k : ByteArray) (hf : PredK f gx k) (eg : ∀ args w, (callFunc f args).run Try.prog w = .ok (.enter f args) w) (hx : w.cell? ⟨gx, 0, none⟩ = some (.string k)) (v : Value) (n : Nat) (l : List Pr) (hO : Own w 66 2 v n (pairCells l)) (hn : l.length = n) (hmax : n ≤ 1048576) (hxv : gx ∉ rowOf v) :
   Calls Try.prog 57 #[v, .func (.func f) #[] #[.pointer (some ⟨gx, 0, none⟩)]] w fun e w' => ∃ v', e = .returned v' ∧ Own w' 66 2 v' (del k l).length (pairCells (del k l)) ∧ rowOf v' = rowOf v ∧ Fr (rowOf v) w w' := by
  obtain ⟨A, c, rfl, hA⟩ := hO.form
  have hR := hO.rd
  have hidx := idx_t w f gx k hf eg hx A n c l hR hn hmax
  go_enter Try.func57, Try.ntmps57
  go_wp2_with fail
  refine hidx.mono ?_
  rintro e W ⟨fW, hcase⟩
  rcases hcase with ⟨rfl, hall⟩ | ⟨i0, hi0, rfl, hk0, hbef⟩
  · have hallh := Lib.hid hall
    clear hall hidx
    go_wp2
    go_ret
    rw [del_all hallh.out]
    exact ⟨_, rfl, by rw [hn]; exact hO.fr fW (by simp), rfl, fW.nil⟩
  · have hlt0 : i0 < n := by omega
    rcases hO.2 with ⟨hv, h0⟩ | ⟨g, cap, cur, hv, hbs, hh, hnc, hcm, hcs, htk⟩
    · omega
    injection hv with hv1 _ hv3
    subst hv1 hv3
    have hB : Blk W g 66 cur := Blk.fr (show Blk w g 66 cur from hh) fW (by simp)
    have hgx : gx ≠ g := by simpa [rowOf, Value.ownBlock] using hxv
    have hxW := cell_fr fW hx
    have hcl : ∀ m, m < 2 * n → cur[m]? = (pairCells l)[m]? := fun m hm => by
      rw [← htk, List.getElem?_take_of_lt (by omega), Array.getElem?_toList]
    have hclh := Lib.hid hcl
    have hd0 : del k (l.take (i0 + 1)) = l.take i0 := by
      rw [del_take hi0, if_pos hk0, List.append_nil]
      exact del_all hbef
    have hd0h := Lib.hid hd0
    have hl0 : (l.take i0).length = i0 := by rw [List.length_take]; omega
    clear hidx hcl hd0 hbef hk0 hR htk hO hA
    have hne1 : ((i0 : Int) == -1) = false := beq_eq_false_iff_ne.2 (by omega)
    go_wp2_with fail
    go_loopg [5, 6, 7] (n + 1) (fun gk s5 s6 s7 wr => ∃ (i j : Nat) (cu : Array Value), s5 = .int .i64 i ∧ s6 = .int .i64 j ∧ j ≤ n ∧ n - j < gk ∧ i < j ∧ i = (del k (l.take j)).length ∧ Blk wr g 66 cu ∧ cu.size = c * 2 ∧ Sub cu 0 (pairCells (del k (l.take j))) ∧ (∀ m, 2 * j ≤ m → m < 2 * n → cu[m]? = (pairCells l)[m]?) ∧ Fr [g] W wr)
    case atStart =>
      refine ⟨i0, i0 + 1, cur, rfl, by go_num, by omega, by omega, by omega, by rw [hd0h.out, hl0], hB, hcs, ?_, fun m _ hm => hclh.out m hm, Fr.refl _ _⟩
      rw [hd0h.out]
      intro m u hu
      have hm := (List.getElem?_eq_some_iff.1 hu).1
      rw [pairCells_length, hl0] at hm
      rw [Nat.zero_add, hclh.out m (by omega), ← hu]
      have e : pairCells l = pairCells (l.take i0) ++ pairCells (l.drop i0) := by rw [← pairCells_append, List.take_append_drop]
      rw [e, List.getElem?_append_left (by rw [pairCells_length, hl0]; omega)]
    case round =>
      clear hB
      obtain ⟨i, j, cu, rfl, rfl, hj, hk, hij, hil, hB, hsz, hsub, hhi, hF⟩ := hrel
      have hilh := Lib.hid hil
      have hsubh := Lib.hid hsub
      have hhih := Lib.hid hhi
      have hgl := hB.lt
      have hfz := fun m => hB.frozen m
      clear hil hsub hhi
      by_cases hlt : j < n
      · have hlt' : (j : Int) < n := by omega
        have hlth := Lib.hid hlt
        have hj' : j < l.length := by omega
        have hp := pairCells_at hj'
        have cn := ((hB.cell (j * 2)).trans (hhih.out _ (by omega) (by omega))).trans hp.1
        have cv := ((hB.cell (j * 2 + 1)).trans (hhih.out _ (by omega) (by omega))).trans hp.2
        have hdt := Lib.hid (del_take (k := k) hj')
        have hpl := Lib.hid hp
        clear hp
        obtain ⟨y, hy⟩ : ∃ x, Hid (l[j] = x) := ⟨_, Lib.hid rfl⟩
        rw [hy.out] at cn cv hdt hpl
        obtain ⟨y1, y2⟩ := y
        simp only at cn cv hdt hpl
        have ci : wr.cell? ⟨g, i * 2, none⟩ = some cu[i * 2] := by rw [hB.cell]; exact Array.getElem?_eq_getElem (by omega)
        have ci1 : wr.cell? ⟨g, i * 2 + 1, none⟩ = some cu[i * 2 + 1] := by rw [hB.cell]; exact Array.getElem?_eq_getElem (by omega)
        go_upto_region 8 with (fail)
        refine wp_gen (fun W3 => Blk W3 wr.heap.size 66 #[.string y1, .string y2] ∧ Fr [] wr W3) ⟨Blk.new _ _ _, (Fr.refl _ _).alloc _⟩ ?_
        rintro W3 ⟨hBp, F3⟩
        have hcall := hf W3 (y1, y2) (cell_fr F3 ((hF.cell (p := ⟨gx, 0, none⟩) (block_lt_of_cell hxW) (by simpa using hgx)).trans hxW))
        simp only at hcall
        obtain ⟨gp, HGP⟩ : ∃ x, Hid (wr.heap.size = x) := ⟨_, Lib.hid rfl⟩
        rw [HGP.out] at hBp hgl ⊢
        have d1 := (hBp.cell 0)
        have d2 := (hBp.cell 1)
        simp only [List.getElem?_toArray, List.getElem?_cons_zero, List.getElem?_cons_succ] at d1 d2
        have hB3 := hB.fr F3 (by simp)
        clear cn cv ci ci1 hfz
        by_cases hyk : y1 = k
        · have hyh := Lib.hid hyk
          rw [show decide (y1 = k) = true by simpa using hyk] at hcall
          clear hyk
          go_wp2_with (go_at_fn f; refine hcall.mono ?_; rintro e w' ⟨rfl, F4⟩)
          go_roundg (n - j)
          case measure => omega
          case rel =>
            refine ⟨i, j + 1, cu, rfl, by go_num, by have := hlth.out; omega, by have := hlth.out; omega, by omega, ?_, hB3.fr F4 (by simp), hsz, ?_, fun m h1 h2 => hhih.out m (by omega) h2, hF.trans (F3.nil.trans F4.nil)⟩
            · rw [hdt.out, if_pos hyh.out, List.append_nil]
              exact hilh.out
            · rw [hdt.out, if_pos hyh.out, List.append_nil]
              exact hsubh.out
        · have hyh := Lib.hid hyk
          rw [show decide (y1 = k) = false by simpa using hyk] at hcall
          clear hyk
          go_upto_region 9 with (go_at_fn f; refine hcall.mono ?_; rintro e w' ⟨rfl, F4⟩)
          refine wp_gen (fun W4 => Blk W4 gp 66 #[.string y1, .string y2] ∧ Blk W4 g 66 cu ∧ Fr [] W3 W4) ⟨hBp.fr F4 (by simp), hB3.fr F4 (by simp), F4⟩ ?_
          rintro W4 ⟨hBp4, hB4, F34⟩
          have e1 := (hBp4.cell 0)
          have e2 := (hBp4.cell 1)
          simp only [List.getElem?_toArray, List.getElem?_cons_zero, List.getElem?_cons_succ] at e1 e2
          have ci : W4.cell? ⟨g, i * 2, none⟩ = some cu[i * 2] := by rw [hB4.cell]; exact Array.getElem?_eq_getElem (by omega)
          have ci1 : W4.cell? ⟨g, i * 2 + 1, none⟩ = some cu[i * 2 + 1] := by rw [hB4.cell]; exact Array.getElem?_eq_getElem (by omega)
          have hfz := fun m => hB4.frozen m
          have hg4 := hB4.lt
          have hiln : (i : Int) < n := by have := hlth.out; omega
          clear d1 d2 hBp hB3 hcall F4
          go_wp2_with fail
          go_roundg (n - j)
          case measure => omega
          case rel =>
            refine ⟨i + 1, j + 1, _, by go_num, by go_num, by have := hlth.out; omega, by have := hlth.out; omega, by omega, ?_, (hB4.set (i * 2) (.string y1)).set (i * 2 + 1) (.string y2), by simpa using hsz, ?_, fun m h1 h2 => ?_, hF.trans ((F3.nil.trans F34.nil).trans (((Fr.refl [g] W4).setCell (by simp) _).setCell (by simp) _))⟩
            · rw [hdt.out, if_neg hyh.out, List.length_append, ← hilh.out]
              rfl
            · rw [hdt.out, if_neg hyh.out, pairCells_append]
              intro m u hu
              have hpl2 : (pairCells (del k (l.take j))).length = i * 2 := by rw [pairCells_length, ← hilh.out]
              rw [Nat.zero_add, Array.getElem?_setIfInBounds, Array.getElem?_setIfInBounds]
              by_cases h1 : m < i * 2
              · rw [if_neg (by omega), if_neg (by omega)]
                rw [List.getElem?_append_left (by omega)] at hu
                have := hsubh.out m u hu
                rwa [Nat.zero_add] at this
              · rw [List.getElem?_append_right (by omega), hpl2] at hu
                have hm : m - i * 2 = 0 ∨ m - i * 2 = 1 := by
                  have := (List.getElem?_eq_some_iff.1 hu).1
                  simp [pairCells] at this
                  omega
                rcases hm with hm | hm
                · rw [hm] at hu
                  rw [if_neg (by omega), if_pos (by omega), if_pos (by have := hlth.out; omega), ← hu]
                  rfl
                · rw [hm] at hu
                  rw [if_pos (by omega), if_pos (by simp; have := hlth.out; omega), ← hu]
                  rfl
            · rw [Array.getElem?_setIfInBounds, if_neg (by omega), Array.getElem?_setIfInBounds, if_neg (by omega)]
              exact hhih.out m (by omega) h2
      · have hjn : j = n := by omega
        subst hjn
        obtain ⟨fi, hfi, hfz2, hfs, hfb⟩ := info_parts tPairs.info
        have hci : ¬ c = i := by omega
        have hclr : ∀ ty, (Builtin.clear_ #[36] ty #[.slice (some ⟨g, i * 2, none⟩) (j - i) (c - i)]).run Try.prog wr = .ok (.tuple #[]) (wr.setRow g (laid cu (i * 2) (Builtin.zeroCells (Value.agg #[.string ⟨#[]⟩, .string ⟨#[]⟩]).cells (j - i)).toList)) :=
          fun ty => run_clear_rows (ty := ty) wr tPairs.ty hfi hfz2 (by intro v hv; simp [Value.cells] at hv; rcases hv with rfl | rfl <;> rfl) hB (by omega) (by show i * 2 + (j - i) * 2 ≤ cu.size; omega)
        have hge : ¬ (j : Int) < j := by omega
        have hij' : (i : Int) ≤ j := by omega
        have hic' : (i : Int) ≤ c := by omega
        have hzl : (Builtin.zeroCells (Value.agg #[.string ⟨#[]⟩, .string ⟨#[]⟩]).cells (j - i)).toList.length = (j - i) * 2 := by rw [Array.length_toList, size_zeroCells]; rfl
        obtain ⟨zs, hzs⟩ : ∃ x, Hid ((Builtin.zeroCells (Value.agg #[.string ⟨#[]⟩, .string ⟨#[]⟩]).cells (j - i)).toList = x) := ⟨_, Lib.hid rfl⟩
        rw [hzs.out] at hclr hzl
        clear hlt hk
        go_wp2
        go_ret
        have hsb := hsubh.out
        have hil := hilh.out
        rw [List.take_of_length_le (by omega)] at hsb hil
        have hfit : i * 2 + zs.length ≤ cu.size := by omega
        refine ⟨_, rfl, ?_, by simp [rowOf, Value.ownBlock], ?_⟩
        · rw [← hil]
          refine ⟨by rw [pairCells_length, ← hil], .inr ⟨g, c, _, rfl, Nat.zero_le _, Blk.setRow hB _, by omega, hcm, by rw [laid_size hfit]; exact hsz, ?_⟩⟩
          apply List.ext_getElem?
          intro m
          by_cases hm : m < i * 2
          · rw [List.getElem?_take_of_lt hm, Array.getElem?_toList, laid_far hfit (.inl hm)]
            have hlt2 : m < (pairCells (del k l)).length := by rw [pairCells_length, ← hil]; exact hm
            have := hsb m _ (List.getElem?_eq_getElem hlt2)
            rw [Nat.zero_add] at this
            rw [this, List.getElem?_eq_getElem hlt2]
          · rw [List.getElem?_eq_none (by rw [List.length_take]; omega), List.getElem?_eq_none (by rw [pairCells_length, ← hil]; omega)]
        · have : rowOf (.slice (some ⟨g, 0, none⟩) j c) = [g] := rfl
          rw [this]
          exact (fW.nil.trans hF).setRow (.inl (by simp)) _
end Go.Proofs.Ytlhkkffljjbdmaa
