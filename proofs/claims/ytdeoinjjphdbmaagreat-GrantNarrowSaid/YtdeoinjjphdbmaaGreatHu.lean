/- Walk: the same families?, at what is the same. Conditions: each theorem's own. -/
import Derived.Test.YtdeoinjjphdbmaaGreatHq
namespace Go.Proofs.YtdeoinjjphdbmaaGreat
open Go.RowKit Go.Sig

def famCells (l : List FA) : List Value := l.flatMap fun x => x.cells.toList
theorem famCells_append (a b : List FA) : famCells (a ++ b) = famCells a ++ famCells b := List.flatMap_append
theorem famCells_length : ∀ l : List FA, (famCells l).length = l.length * 11
  | [] => rfl
  | x :: l => by
    have h := famCells_length l
    have hx : x.cells.toList.length = 11 := rfl
    unfold famCells at *
    rw [List.flatMap_cons, List.length_append, h, hx, List.length_cons]
    omega
theorem famCells_one (l : List FA) : ∀ u ∈ famCells l, u.oneCell' = true := by
  intro u hu
  obtain ⟨x, _, hu⟩ := List.mem_flatMap.1 hu
  exact Array.all_eq_true'.1 (FA.all1 x) u (by simpa using hu)
theorem famCells_at {j : Nat} {v : Value} : ∀ {l : List FA} {i : Nat} (h : i < l.length), l[i].cells[j]? = some v → (famCells l)[i * 11 + j]? = some v
  | x :: l, 0, _, hv => by
    have hj : j < x.cells.toList.length := by
      have := (Array.getElem?_eq_some_iff.1 hv).1
      simpa using this
    rw [famCells, List.flatMap_cons, Nat.zero_mul, Nat.zero_add, List.getElem?_append_left hj, Array.getElem?_toList]
    exact hv
  | x :: l, i + 1, h, hv => by
    have := famCells_at (l := l) (i := i) (by simpa using h) hv
    have hx : x.cells.toList.length = 11 := rfl
    rw [famCells, List.flatMap_cons, List.getElem?_append_right (by rw [hx]; omega), hx, show (i + 1) * 11 + j - 11 = i * 11 + j by omega]
    exact this
theorem tFams : SliceTy Tryz.prog 46 39 11 184 zeroFA.val := ⟨by kernel_rfl, by kernel_rfl, rfl, by decide⟩
theorem fam_new (w : World) (y : FA) (ty : TypeId) : Rd (w.alloc (.cells y.cells ty)) 11 (some ⟨w.heap.size, 0, none⟩) 1 (famCells [y]) := by
  refine ⟨rfl, fun _ => ⟨_, 0, rfl, fun j u hu => ?_⟩⟩
  rw [(Blk.new w ty y.cells).cell, Nat.zero_add, ← Array.getElem?_toList]
  simpa [famCells] using hu
/-- All families, rising by their Ids. -/
def famsM (b : GBk) : List GFam := (idsM b).map fun k => (aget k b).getD zeroF
/-- Families in a row of their own. -/
structure FamsAt (w0 w : World) (A : Option Addr) (c : Nat) (l : List FA) : Prop where
  row : Own w 39 11 (.slice A l.length c) l.length (famCells l)
  each : ∀ x ∈ l, FamIn w (rowOf (.slice A l.length c) ++ List.range w0.heap.size) x
  fresh : ∀ g ∈ rowOf (.slice A l.length c), w0.heap.size ≤ g
theorem RdX.to {w w' : World} {X Y : List Nat} {s : Nat} {A : Option Addr} {n : Nat} {xs : List Value} (h : RdX w X s A n xs) (hs : 0 < s) (hF : Fr X w w') (hY : ∀ g ∈ Y, g ∈ X ∨ w.heap.size ≤ g) : RdX w' Y s A n xs :=
  ⟨h.1.fr hF h.2, fun hn ad e hg => by
    rcases hY _ hg with h1 | h1
    · exact h.2 hn ad e h1
    · have := h.1.lt hs hn ad e
      omega⟩
theorem FamIn.to {w w' : World} {X Y : List Nat} {x : FA} (h : FamIn w X x) (hF : Fr X w w') (hY : ∀ g ∈ Y, g ∈ X ∨ w.heap.size ≤ g) : FamIn w' Y x :=
  ⟨h.ts, h.scope.to (by decide) hF hY, h.toks.to (by decide) hF hY, h.leases.to (by decide) hF hY, fun t ht => (h.each t ht).to (by decide) hF hY⟩
theorem FamsAt.nil (w0 w : World) : FamsAt w0 w none 0 [] := ⟨Own.nil _ _ _, fun x hx => (by cases hx), by simp [rowOf, Value.ownBlock]⟩
theorem FamsAt.base {w0 w1 w : World} {A : Option Addr} {c : Nat} {l : List FA} (h : FamsAt w1 w A c l) (hs : w0.heap.size ≤ w1.heap.size) : FamsAt w0 w A c l := ⟨h.row, fun x hx => (h.each x hx).mono (fun g hg => by
    rcases List.mem_append.1 hg with hg | hg
    · exact List.mem_append.2 (.inl hg)
    · exact List.mem_append.2 (.inr (List.mem_range.2 (Nat.lt_of_lt_of_le (List.mem_range.1 hg) hs)))), fun g hg => Nat.le_trans hs (h.fresh g hg)⟩
theorem FamsAt.push {w0 w w1 w2 w3 : World} {A A3 : Option Addr} {c c3 i : Nat} {l : List FA} {y : FA} (h : FamsAt w0 w A c l) (hi : l.length = i) (hw : FamW w1 w.heap.size y) (F1 : Fr [] w w1) (F2 : Fr [] w1 w2) (p1 : Own w3 39 11 (.slice A3 (i + 1) c3) (i + 1) (famCells l ++ famCells [y]))
    (p2 : Fr (rowOf (.slice A i c)) w2 w3) (p3 : ∀ g ∈ rowOf (.slice A3 (i + 1) c3), g ∈ rowOf (.slice A i c) ∨ g = w2.heap.size) (h0 : w0.heap.size ≤ w.heap.size) : FamsAt w0 w3 A3 c3 (l ++ [y]) := by
  have hl : (l ++ [y]).length = i + 1 := by rw [List.length_append, hi]; rfl
  have hlt := h.row.lt
  obtain ⟨hr, he, hf⟩ := h
  rw [hi] at hr he hf hlt
  have F12 := F1.trans F2
  have hsz := F12.size
  have hsub : ∀ z, z ∈ rowOf (.slice A i c) → z ∈ rowOf (.slice A i c) ++ List.range w0.heap.size := fun z hz => List.mem_append.2 (.inl hz)
  have hX : ∀ z, z ∈ rowOf (.slice A i c) ++ List.range w0.heap.size → z < w.heap.size := fun z hz => by
    rcases List.mem_append.1 hz with hz | hz
    · exact hlt z hz
    · exact Nat.lt_of_lt_of_le (List.mem_range.1 hz) h0
  have hY : ∀ (v : World), v.heap.size ≤ w2.heap.size → ∀ g ∈ rowOf (.slice A3 (i + 1) c3) ++ List.range w0.heap.size, g ∈ rowOf (.slice A i c) ++ List.range w0.heap.size ∨ v.heap.size ≤ g := fun v hv g hg => by
    rcases List.mem_append.1 hg with hg | hg
    · rcases p3 g hg with e | e
      · exact .inl (hsub _ e)
      · exact .inr (by omega)
    · exact .inl (List.mem_append.2 (.inr hg))
  refine ⟨by rw [hl, famCells_append]; exact p1, ?_, ?_⟩
  · rw [hl]
    intro x hx
    rcases List.mem_append.1 hx with hx | hx
    · exact (he x hx).to (F12.nil.trans (p2.mono hsub)) (hY w hsz)
    · obtain rfl : x = y := by simpa using hx
      have h1 := hw.fam (X := rowOf (.slice A i c) ++ List.range w0.heap.size) hX
      exact h1.to (F2.nil.trans (p2.mono hsub)) (hY w1 F2.size)
  · rw [hl]
    intro g hg
    rcases p3 g hg with e | e
    · exact hf g e
    · have := F12.size
      omega
theorem FamsAt.fr0 {w0 w w' : World} {A : Option Addr} {c : Nat} {l : List FA} (h : FamsAt w0 w A c l) (hF : Fr [] w w') : FamsAt w0 w' A c l :=
  ⟨h.row.fr hF (by simp), fun x hx => (h.each x hx).fr hF.nil, h.fresh⟩
theorem idsM_len (b : GBk) : (idsM b).length ≤ b.length := by
  have h : (idsM b).Nodup := risN_nodup (sortN_rising _)
  have h2 := List.Nodup.length_le_of_subset h (fun k hk => mem_sortN.1 hk : idsM b ⊆ b.map (·.1))
  simpa using h2
def FamsPost (w : World) (fs : List GFam) (e : Ending) (w' : World) : Prop := ∃ (l : List FA) (A : Option Addr) (c : Nat), e = .returned (.slice A l.length c) ∧ l.map (·.f) = fs ∧ FamsAt w w' A c l ∧ Fr [] w w'
set_option maxRecDepth 100000 in
set_option maxHeartbeats 4000000 in
theorem fams_t (w : World) (p mb : Nat) (room : Int) (X : List Nat) (b : GBk) (h : BookAt w p mb room X b) (hmax : b.length ≤ 1000000) : Calls Tryz.prog 19 #[.pointer (some ⟨p, 0, none⟩)] w (FamsPost w (famsM b)) := by
  have hids := ids_t w p mb room X b h hmax
  have hil := idsM_len b
  have hh := Lib.hid h
  have hpl := h.hp.lt
  clear h
  go_enter Tryz.func19, Tryz.ntmps19
  go_wp2_with fail
  refine hids.mono ?_
  rintro e W1 ⟨v, rfl, hO, F1, hrow⟩
  obtain ⟨A, c, rfl, hA⟩ := hO.form
  obtain ⟨n, hn⟩ : ∃ z, Hid ((idsM b).length = z) := ⟨_, Lib.hid rfl⟩
  rw [hn.out] at hO hil ⊢
  have hRd := Lib.hid hO.rd
  have F1h := Lib.hid F1
  have hnm := Nat.le_trans hil hmax
  clear hids hO F1 hrow hA hil
  go_wp2_with fail
  go_loopg [3, 9] (n + 1) (fun gk s3 s9 wr => ∃ (i : Nat) (l : List FA) (B : Option Addr) (d : Nat), s9 = .int .i64 i ∧ s3 = .slice B l.length d ∧ i ≤ n ∧ l.length = i ∧ n - i < gk ∧ l.map (·.f) = ((idsM b).take i).map (fun k => (aget k b).getD zeroF) ∧ FamsAt W1 wr B d l ∧ Fr [] W1 wr)
  case atStart => exact ⟨0, [], none, 0, rfl, rfl, by omega, rfl, by omega, rfl, FamsAt.nil _ _, Fr.refl _ _⟩
  case round =>
    obtain ⟨i, l, B, d, rfl, rfl, hi, hli, hk, hmap, hFA, hF⟩ := hrel
    have hFh := Lib.hid hF
    have hFAh := Lib.hid hFA
    have hmaph := Lib.hid hmap
    have hlih := Lib.hid hli
    rw [hli]
    clear hF hFA hmap hli
    by_cases hlt : i < n
    · have hlt' : (i : Int) < n := by omega
      have hlth := Lib.hid hlt
      have hiid : i < (idsM b).length := by rw [hn.out]; exact hlt
      obtain ⟨b0, o0, rfl, hc⟩ := (Rd.fr hRd.out hFh.out (by simp [Off])).2 (by omega)
      have ck := hc i _ (strCells_at hiid)
      have hB := hh.out.fr0 (F1h.out.trans hFh.out)
      have htk := Lib.hid (show ((idsM b).take (i + 1)).map (fun k => (aget k b).getD zeroF) = ((idsM b).take i).map (fun k => (aget k b).getD zeroF) ++ [(aget (idsM b)[i] b).getD zeroF] by rw [List.take_succ_eq_append_getElem hiid, List.map_append]; rfl)
      obtain ⟨id, hid⟩ : ∃ z, Hid ((idsM b)[i] = z) := ⟨_, Lib.hid rfl⟩
      rw [hid.out] at ck htk
      obtain ⟨l0, hl1, hl2, hl3⟩ := hB.hb
      obtain ⟨hx1, hx2, hx3, hx4⟩ := book_get (id := id) hl2 hl3 hB.ok
      have hlk := hl1.run_lookup kStr (z := zeroFA.val) uMsf (fun w => by kernel_rfl) id
      have hv : ((aget id l0).map FA.val).getD zeroFA.val = ((aget id l0).getD zeroFA).val := by cases aget id l0 <;> rfl
      rw [hv] at hlk
      obtain ⟨x, hxe⟩ : ∃ z, Hid ((aget id l0).getD zeroFA = z) := ⟨_, Lib.hid rfl⟩
      rw [hxe.out] at hlk hx1 hx2 hx4
      have e0 := hB.hp.cell 0
      simp only [List.getElem?_toArray, List.getElem?_cons_zero] at e0
      have hpw := hB.hp.lt
      have hxW := hx1.mono (Y := []) (by simp)
      have hown := own_t wr x hxW (fam_short hxW hx4)
      have hx2h := Lib.hid hx2
      have hrow := hFAh.out.row
      rw [hlih.out] at hrow
      have hrowh := Lib.hid hrow
      clear hc hB hl1 hl2 hl3 hx1 hx2 hx3 hx4 hv hxW hrow
      go_wp2_with fail
      refine Calls.mono (show Calls Tryz.prog 46 _ _ _ from hown) ?_
      rintro e W2 ⟨y, rfl, hy, hw, F2⟩
      have hyh := Lib.hid hy
      have hwh := Lib.hid hw
      have F2h := Lib.hid F2
      clear hown hlk hy hw F2 e0
      unfold FA.val FA.cells
      go_wp2_with (refine wpList_own_append tFams ((hrowh.out.fr F2h.out (by simp)).fr ((Fr.refl [] _).alloc _) (by simp)) (fam_new W2 y _) (famCells_one _) (by simp) (by unfold maxLen; omega) (by omega) rfl rfl rfl rfl (fun v2 w2 p1 p2 p3 => ?_); obtain ⟨A3, c3, rfl, hA3⟩ := p1.form)
      go_roundg (n - i)
      case measure => have := hlth.out; omega
      case rel =>
        refine ⟨i + 1, l ++ [y], A3, c3, by go_num, by rw [List.length_append, hlih.out]; rfl, by have := hlth.out; omega, by rw [List.length_append, hlih.out]; rfl, by have := hlth.out; omega, ?_, hFAh.out.push hlih.out hwh.out F2h.out ((Fr.refl [] _).alloc _) p1 p2 p3 hFh.out.size, ?_⟩
        · rw [List.map_append, hmaph.out, htk.out, ← hx2h.out, ← hyh.out]
          rfl
        · refine (hFh.out.trans (F2h.out.alloc _)).andThen p2 (fun g hg => .inr ?_)
          have := hFAh.out.fresh
          rw [hlih.out] at this
          exact this g hg
    · have hin : i = n := by omega
      have hge : ¬ (i : Int) < n := by omega
      have hmap2 := Lib.hid (show l.map (·.f) = famsM b by rw [hmaph.out, hin, ← hn.out, List.take_length]; rfl)
      clear hlt hk
      go_wp2
      go_ret
      exact ⟨l, B, d, by rw [hlih.out, hin]; rfl, hmap2.out, hFAh.out.base F1h.out.size, F1h.out.trans hFh.out⟩
end Go.Proofs.YtdeoinjjphdbmaaGreat
namespace Go.Proofs.YtdeoinjjphdbmaaGreat
open Go.RowKit Go.Sig

/-- Families in a row. -/
structure FamsIn (w : World) (X : List Nat) (A : Option Addr) (n : Nat) (l : List FA) : Prop where
  hR : RdX w X 11 A n (famCells l)
  hn : l.length = n
  each : ∀ x ∈ l, FamIn w X x
  short : ∀ x ∈ l, Short x
theorem FamsIn.fr {w w' : World} {X : List Nat} {A : Option Addr} {n : Nat} {l : List FA} (h : FamsIn w X A n l) (hF : Fr X w w') : FamsIn w' X A n l :=
  ⟨h.hR.fr hF, h.hn, fun x hx => (h.each x hx).fr hF, h.short⟩
theorem FamsIn.mono {w : World} {X Y : List Nat} {A : Option Addr} {n : Nat} {l : List FA} (h : FamsIn w X A n l) (hS : ∀ g ∈ Y, g ∈ X) : FamsIn w Y A n l :=
  ⟨h.hR.mono hS, h.hn, fun x hx => (h.each x hx).mono hS, h.short⟩
theorem FamsIn.row {w : World} {A : Option Addr} {n i : Nat} {l : List FA} (h : FamsIn w [] A n l) (hi : i < n) :
    ∃ x b o, A = some ⟨b, o, none⟩ ∧ l[i]? = some x ∧ w.rangeAt b (o + i * 11) x.cells.toList ∧ FamIn w [] x ∧ Short x := by
  have hi' : i < l.length := by rw [h.hn]; exact hi
  obtain ⟨b, o, e, hc⟩ := h.hR.1.2 (by omega)
  refine ⟨l[i], b, o, e, List.getElem?_eq_getElem hi', fun j v hv => ?_, h.each _ (List.getElem_mem hi'), h.short _ (List.getElem_mem hi')⟩
  rw [Nat.add_assoc]
  exact hc _ _ (famCells_at hi' (by rw [← Array.getElem?_toList]; exact hv))
theorem range_fr {w w' : World} {g o : Nat} {cs : List Value} (hf : Fr [] w w') (h : w.rangeAt g o cs) : w'.rangeAt g o cs := fun j v hv => cell_fr hf (h j v hv)
set_option maxRecDepth 100000 in
set_option maxHeartbeats 2000000 in
theorem rall_t (w : World) (A B : Option Addr) (n c d : Nat) (la lb : List FA) (hA : FamsIn w [] A n la) (hB : FamsIn w [] B n lb) (hab : la.map (·.f) = lb.map (·.f)) (hmax : n ≤ 1048576) :
    Calls Tryz.prog 22 #[.slice A n c, .slice B n d] w fun e w' => e = .returned (.bool true) ∧ Fr [] w w' := by
  have hAh := Lib.hid hA
  have hBh := Lib.hid hB
  have habh := Lib.hid hab
  clear hA hB hab
  go_enter Tryz.func22, Tryz.ntmps22
  go_wp2_with fail
  go_loopg [5] (n + 1) (fun gk s5 wr => ∃ (i : Nat), s5 = .int .i64 i ∧ i ≤ n ∧ n - i < gk ∧ Fr [] w wr)
  case atStart => exact ⟨0, rfl, by omega, by omega, Fr.refl _ _⟩
  case round =>
    obtain ⟨i, rfl, hi, hk, hF⟩ := hrel
    have hFh := Lib.hid hF
    by_cases hlt : i < n
    · have hlt' : (i : Int) < n := by omega
      have hlth := Lib.hid hlt
      obtain ⟨x, ba, oa, rfl, hxi, hxr, hxf, hxs⟩ := (hAh.out.fr hF).row hlt
      obtain ⟨y, bb, ob, rfl, hyi, hyr, hyf, hys⟩ := (hBh.out.fr hF).row hlt
      have hxy : x.f = y.f := by
        have h1 := congrArg (fun l => l[i]?) habh.out
        simpa [hxi, hyi] using h1
      have hsame := fun (v : World) (hv : Fr [] wr v) => rsame_t v x y (hxf.fr hv) (hyf.fr hv) hxy hxs
      have hsh := Lib.hid hsame
      clear hxi hyi hxf hyf hys hxs hxy hF hsame
      go_upto_region 6 with (fail)
      refine wp_region_z (fun w' => w'.rangeAt ba (oa + i * 11) x.cells.toList ∧ w'.rangeAt bb (ob + i * 11) y.cells.toList) [] (by kernel_rfl) ⟨hxr, hyr⟩ ?_
      intro hHeld
      refine wpZ_take (i := 0) (v := ?_) rfl (by kernel_rfl) (by kernel_rfl) (by kernel_rfl) (by kernel_rfl) (fun _ _ _ h => h) (Or.inl ⟨by rfl, ?_⟩) hHeld ?_
      rotate_left
      · (intro w hSw; (try dsimp only at hSw); go_simp <;> with_reducible rfl)
      try simp only [List.getElem_toArray, List.getElem_cons_zero, Act.put, List.setIfInBounds_toArray, List.set_cons_zero, List.set_cons_succ]
      refine wpZ_take (i := 1) (v := ?_) rfl (by kernel_rfl) (by kernel_rfl) (by kernel_rfl) (by kernel_rfl) (fun _ _ _ h => h) (Or.inl ⟨by rfl, ?_⟩) hHeld ?_
      rotate_left
      · (intro w hSw; (try dsimp only at hSw); go_simp <;> with_reducible rfl)
      try simp only [List.getElem_toArray, List.getElem_cons_succ, List.getElem_cons_zero, Act.put, List.setIfInBounds_toArray, List.set_cons_zero, List.set_cons_succ]
      refine wpZ_take (i := 2) (v := ?_) rfl (by kernel_rfl) (by kernel_rfl) (by kernel_rfl) (by kernel_rfl) (fun _ _ _ h => h) (Or.inl ⟨by rfl, ?_⟩) hHeld ?_
      rotate_left
      · (intro w hSw; (try dsimp only at hSw); go_simp <;> with_reducible rfl)
      try simp only [List.getElem_toArray, List.getElem_cons_succ, List.getElem_cons_zero, Act.put, List.setIfInBounds_toArray, List.set_cons_zero, List.set_cons_succ]
      refine wpZ_take (i := 3) rfl (by kernel_rfl) (by kernel_rfl) (by kernel_rfl) (by kernel_rfl) (fun _ _ _ h => h) (yieldsIf_load_mid (by kernel_rfl) 39 _ rfl ba (oa + i * 11) rfl (x.cells.toList) _ (fun w h => h.1) uFam rfl (infoFamL _)) hHeld ?_
      try simp only [List.getElem_toArray, List.getElem_cons_succ, List.getElem_cons_zero, Act.put, List.setIfInBounds_toArray, List.set_cons_zero, List.set_cons_succ]
      try rw [Array.toArray_toList]
      refine wpZ_take (i := 4) (v := ?_) rfl (by kernel_rfl) (by kernel_rfl) (by kernel_rfl) (by kernel_rfl) (fun _ _ _ h => h) (Or.inl ⟨by rfl, ?_⟩) hHeld ?_
      rotate_left
      · (intro w hSw; (try dsimp only at hSw); go_simp <;> with_reducible rfl)
      try simp only [List.getElem_toArray, List.getElem_cons_succ, List.getElem_cons_zero, Act.put, List.setIfInBounds_toArray, List.set_cons_zero, List.set_cons_succ]
      refine wpZ_take (i := 5) (v := ?_) rfl (by kernel_rfl) (by kernel_rfl) (by kernel_rfl) (by kernel_rfl) (fun _ _ _ h => h) (Or.inl ⟨by rfl, ?_⟩) hHeld ?_
      rotate_left
      · (intro w hSw; (try dsimp only at hSw); go_simp <;> with_reducible rfl)
      try simp only [List.getElem_toArray, List.getElem_cons_succ, List.getElem_cons_zero, Act.put, List.setIfInBounds_toArray, List.set_cons_zero, List.set_cons_succ]
      refine wpZ_take (i := 6) (v := ?_) rfl (by kernel_rfl) (by kernel_rfl) (by kernel_rfl) (by kernel_rfl) (fun _ _ _ h => h) (Or.inl ⟨by rfl, ?_⟩) hHeld ?_
      rotate_left
      · (intro w hSw; (try dsimp only at hSw); go_simp <;> with_reducible rfl)
      try simp only [List.getElem_toArray, List.getElem_cons_succ, List.getElem_cons_zero, Act.put, List.setIfInBounds_toArray, List.set_cons_zero, List.set_cons_succ]
      refine wpZ_take (i := 7) rfl (by kernel_rfl) (by kernel_rfl) (by kernel_rfl) (by kernel_rfl) (fun _ _ _ h => h) (yieldsIf_load_mid (by kernel_rfl) 39 _ rfl bb (ob + i * 11) rfl (y.cells.toList) _ (fun w h => h.2) uFam rfl (infoFamL _)) hHeld ?_
      try simp only [List.getElem_toArray, List.getElem_cons_succ, List.getElem_cons_zero, Act.put, List.setIfInBounds_toArray, List.set_cons_zero, List.set_cons_succ]
      try rw [Array.toArray_toList]
      refine wpZ_one (i := 8) (by kernel_rfl) rfl (fun K hK => ?_)
      go_simp
      refine (hsh.out wr.drew (Fr.refl _ _).drew).mono ?_
      rintro e W2 ⟨rfl, f2⟩
      have f2 : Fr [] wr W2 := f2.of_drew
      dsimp only
      refine hK.out _ _ ⟨range_fr f2 hxr, range_fr f2 hyr⟩ (fun hHeld => ?_)
      clear hK K
      try simp only [List.getElem_toArray, List.getElem_cons_succ, List.getElem_cons_zero, Act.put, List.setIfInBounds_toArray, List.set_cons_zero, List.set_cons_succ]
      refine wpZ_take (i := 9) (v := ?_) rfl (by kernel_rfl) (by kernel_rfl) (by kernel_rfl) (by kernel_rfl) (fun _ _ _ h => h) (Or.inl ⟨by rfl, ?_⟩) hHeld ?_
      rotate_left
      · (intro w hSw; (try dsimp only at hSw); go_simp <;> with_reducible rfl)
      try simp only [List.getElem_toArray, List.getElem_cons_succ, List.getElem_cons_zero, Act.put, List.setIfInBounds_toArray, List.set_cons_zero, List.set_cons_succ]
      refine wpZ_done (by kernel_rfl) ?_ _
      go_wp2
      go_roundg (n - i)
      case measure => have := hlth.out; omega
      case rel => exact ⟨i + 1, by go_num, by have := hlth.out; omega, by have := hlth.out; omega, hFh.out.trans f2⟩
    · have hin : i = n := by omega
      have hge : ¬ (i : Int) < n := by omega
      clear hlt hk hF
      go_wp2
      go_ret
      exact ⟨rfl, hFh.out⟩
end Go.Proofs.YtdeoinjjphdbmaaGreat
