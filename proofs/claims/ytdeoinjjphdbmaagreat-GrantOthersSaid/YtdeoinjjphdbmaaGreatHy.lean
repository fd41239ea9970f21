/- Walk: the document's Without: families without one of an Id. Conditions: each theorem's own. -/
import Derived.Test.YtdeoinjjphdbmaaGreatHv
import Derived.Test.YtdeoinjjphdbmaaGreatHu
import Derived.Test.YtdeoinjjphdbmaaGreatHm
namespace Go.Sig
open Go.RowKit

theorem do_local {room : Int} {c : GCmd} {b d : GBk} (hb : BkOk b) (hd : BkOk d) (h : aget c.family b = aget c.family d) (h1 : (b.length : Int) < room) (h2 : (d.length : Int) < room) :
    (doM room c b).2 = (doM room c d).2 ∧ aget c.family (doM room c b).1 = aget c.family (doM room c d).1 := by
  have hbi := fun f hf => (hb.2 c.family f hf).1
  have hdi := fun f hf => (hd.2 c.family f hf).1
  unfold doM
  split
  · exact ⟨rfl, h⟩
  · split
    · unfold beginM
      rw [h, if_neg (show ¬ room ≤ (b.length : Int) by omega), if_neg (show ¬ room ≤ (d.length : Int) by omega)]
      split
      · exact ⟨rfl, h⟩
      · split
        · exact ⟨rfl, by rw [aget_aset_same, aget_aset_same]⟩
        · exact ⟨rfl, by rw [aget_aset_same, aget_aset_same]⟩
    · cases hg : aget c.family d with
      | none =>
        rw [hg] at h
        unfold redeemM refreshM revokeM lookM doneM
        rw [hg, h]
        simp only
        split
        · exact ⟨rfl, h.trans hg.symm⟩
        · split
          · exact ⟨rfl, h.trans hg.symm⟩
          · split
            · exact ⟨rfl, h.trans hg.symm⟩
            · split
              · exact ⟨rfl, h.trans hg.symm⟩
              · exact ⟨rfl, h.trans hg.symm⟩
      | some f =>
        rw [hg] at h
        have hi := hdi f hg
        have hx : ∀ g : GFam, g.id = f.id → aget c.family (aset g.id g b) = aget c.family (aset g.id g d) := fun g e => by
          rw [e, hi, aget_aset_same, aget_aset_same]
        have hx2 : ∀ g : GFam, aget c.family (aset f.id g b) = aget c.family (aset f.id g d) := fun g => by
          rw [hi, aget_aset_same, aget_aset_same]
        have hx3 : aget c.family (adel f.id b) = aget c.family (adel f.id d) := by
          rw [hi, aget_adel_same hb.1, aget_adel_same hd.1]
        have hs : aget c.family b = aget c.family d := h.trans hg.symm
        unfold redeemM refreshM revokeM lookM doneM
        rw [hg, h]
        simp only
        split
        · split
          · exact ⟨rfl, hs⟩
          · split
            · exact ⟨rfl, hx2 _⟩
            · split
              · exact ⟨rfl, hs⟩
              · exact ⟨rfl, hx2 _⟩
        · split
          · cases tokM f 3 c.serial with
            | none => exact ⟨rfl, hs⟩
            | some t =>
              simp only
              split
              · exact ⟨rfl, hs⟩
              · split
                · exact ⟨rfl, hx2 _⟩
                · split
                  · exact ⟨rfl, hs⟩
                  · split
                    · exact ⟨rfl, hs⟩
                    · exact ⟨rfl, hx2 _⟩
          · split
            · split
              · exact ⟨rfl, hs⟩
              · split
                · exact ⟨rfl, hx2 _⟩
                · exact ⟨rfl, hs⟩
            · split
              · cases tokM f c.token c.serial with
                | none => exact ⟨rfl, hs⟩
                | some t =>
                  simp only
                  split
                  · exact ⟨rfl, hs⟩
                  · exact ⟨rfl, hx2 _⟩
              · split
                · exact ⟨rfl, hx3⟩
                · exact ⟨rfl, hs⟩
/-- An answer's scope is a set. -/
theorem do_set {room : Int} {c : GCmd} {b : GBk} (hb : BkOk b) : setM (doM room c b).2.scope = true := by
  have h0 : setM [] = true := by decide +kernel
  unfold doM
  split
  · exact h0
  · rename_i hm
    have hmo := mayM_ok (by simpa using hm)
    split
    · unfold beginM
      split
      · exact h0
      · split
        · exact h0
        · split
          · exact hmo.set
          · exact hmo.set
    · unfold redeemM refreshM revokeM lookM doneM
      cases hg : aget c.family b with
      | none =>
        simp only
        (repeat' split) <;> exact h0
      | some f =>
        have hf := (hb.2 _ _ hg).2
        simp only
        split
        · split
          · exact h0
          · split
            · exact h0
            · split
              · exact h0
              · unfold issueM
                split <;> exact hf.set
        · split
          · cases tokM f 3 c.serial with
            | none => exact h0
            | some t =>
              simp only
              split
              · exact h0
              · split
                · exact h0
                · split
                  · exact h0
                  · split
                    · exact h0
                    · unfold issueM
                      simp only [if_true]
                      split
                      · exact hf.set
                      · exact hmo.set
          · split
            · split
              · exact h0
              · split <;> exact h0
            · split
              · cases ht : tokM f c.token c.serial with
                | none => exact h0
                | some t =>
                  simp only
                  split
                  · exact h0
                  · exact (hf.each t (List.mem_of_getElem? (tokM_some ht).2.2.1)).set
              · split <;> exact h0
/-- Families without one of an Id. -/
def woutM (s : ByteArray) (l : List GFam) : List GFam := l.filter fun f => !decide (f.id = s)
end Go.Sig
namespace Go.Proofs.YtdeoinjjphdbmaaGreat
open Go.RowKit Go.Sig

theorem idsM_length (b : GBk) (hb : BkOk b) : (idsM b).length = b.length := by
  have := (sortN_perm hb.1).length_eq
  rw [List.length_map] at this
  exact this.symm
theorem famsM_length (b : GBk) (hb : BkOk b) : (famsM b).length = b.length := by
  unfold famsM
  rw [List.length_map]
  exact idsM_length b hb
theorem famsM_short (b : GBk) (hb : BkOk b) {w : World} {x : FA} (hx : FamIn w [] x) (hm : x.f ∈ famsM b) : Short x := by
  refine fam_short hx ?_
  unfold famsM at hm
  obtain ⟨k, _, e⟩ := List.mem_map.1 hm
  cases h : aget k b with
  | none => right; rw [← e, h]; rfl
  | some f => left; rw [← e, h]; exact (hb.2 _ _ h).2
/-- Families told, as they are read. -/
theorem FamsAt.read {w0 w : World} {A : Option Addr} {c : Nat} {l : List FA} {b : GBk} {X : List Nat} (h : FamsAt w0 w A c l) (hb : BkOk b) (hl : l.map (·.f) = famsM b) (hX : ∀ g ∈ X, g < w0.heap.size) : FamsIn w X A l.length l :=
  ⟨⟨h.row.rd, fun _ ad e hg => by
    have h1 := h.fresh ad.block (rowOf_mem.2 ⟨ad, e, rfl⟩)
    have h2 := hX _ hg
    omega⟩, rfl, fun x hx => (h.each x hx).mono (fun g hg => List.mem_append.2 (.inr (List.mem_range.2 (hX g hg)))), fun x hx => famsM_short b hb ((h.each x hx).mono (by simp)) (by rw [← hl]; exact List.mem_map_of_mem hx)⟩
theorem CmdsIn.cell {w : World} {b o n i : Nat} {l : List CA} {x : CA} (h : CmdsIn w (some ⟨b, o, none⟩) n l) (hi : i < n) (hx : l[i]? = some x) {j : Nat} {v : Value} (hv : x.cells[j]? = some v) : w.cell? ⟨b, o + i * 13 + j, none⟩ = some v := by
  obtain ⟨y, b2, o2, e, hy, hc, _⟩ := h.row hi
  rw [hx] at hy
  obtain rfl := Option.some.inj hy
  injection e with e
  injection e with e1 e2 e3
  subst e1 e2
  exact hc _ _ hv
theorem mem_idsM {b : GBk} {k : ByteArray} : k ∈ idsM b ↔ (aget k b).isSome = true := by
  unfold idsM
  rw [mem_sortN, ← Bool.not_eq_false, Option.isSome_eq_false_iff, Option.isNone_iff_eq_none, aget_none_iff, Classical.not_not]
theorem woutM_fams {b : GBk} (hb : BkOk b) (s : ByteArray) : woutM s (famsM b) = ((idsM b).filter fun k => !decide (k = s)).map fun k => (aget k b).getD zeroF := by
  unfold woutM famsM
  rw [List.filter_map]
  congr 1
  refine List.filter_congr fun k hk => ?_
  have h := mem_idsM.1 hk
  simp only [Function.comp]
  obtain ⟨f, hf⟩ := Option.isSome_iff_exists.1 h
  simp only [hf, Option.getD_some, (hb.2 k f hf).1]
/-- What changes no family but one of an Id leaves the others. -/
theorem wout_same {b d : GBk} (hb : BkOk b) (hd : BkOk d) {s : ByteArray} (h : ∀ k, k ≠ s → aget k b = aget k d) : woutM s (famsM b) = woutM s (famsM d) := by
  have e : (idsM b).filter (fun k => !decide (k = s)) = (idsM d).filter fun k => !decide (k = s) := by
    have r1 : RisN ((idsM b).filter fun k => !decide (k = s)) := (sortN_rising _).filter _
    have r2 : RisN ((idsM d).filter fun k => !decide (k = s)) := (sortN_rising _).filter _
    refine risN_ext r1 r2 ((List.perm_ext_iff_of_nodup (risN_nodup r1) (risN_nodup r2)).2 fun k => ?_)
    simp only [List.mem_filter, mem_idsM, Bool.not_eq_true', decide_eq_false_iff_not]
    constructor
    · rintro ⟨h1, h2⟩
      exact ⟨by rw [← h k h2]; exact h1, h2⟩
    · rintro ⟨h1, h2⟩
      exact ⟨by rw [h k h2]; exact h1, h2⟩
  rw [woutM_fams hb, woutM_fams hd, e]
  refine List.map_congr_left fun k hk => ?_
  have := (List.mem_filter.1 hk).2
  rw [h k (by simpa using this)]
/-- Two books that have the same family of an Id, both with room. -/
structure OthI (b d : GBk) (id : ByteArray) (i : Nat) : Prop where
  same : aget id b = aget id d
  lb : b.length ≤ i
  ld : d.length ≤ i
theorem OthI.new (id : ByteArray) : OthI [] [] id 0 := ⟨rfl, Nat.le_refl _, Nat.le_refl _⟩
theorem do_more {room : Int} {c : GCmd} {b : GBk} {i : Nat} (hb : BkOk b) (h : b.length ≤ i) : (doM room c b).1.length ≤ i + 1 := by
  rcases do_len (room := room) (c := c) hb with h1 | ⟨_, h1, _⟩ <;> omega
theorem OthI.other {b d : GBk} {id : ByteArray} {i : Nat} {c : GCmd} {room : Int} (h : OthI b d id i) (hb : BkOk b) (hc : c.family ≠ id) : OthI (doM room c b).1 d id (i + 1) :=
  ⟨(do_other hb (.inl hc)).trans h.same, do_more hb h.lb, by have := h.ld; omega⟩
theorem FamsIn.to {w w' : World} {X Y : List Nat} {A : Option Addr} {n : Nat} {l : List FA} (h : FamsIn w X A n l) (hF : Fr X w w') (hY : ∀ g ∈ Y, g ∈ X ∨ w.heap.size ≤ g) : FamsIn w' Y A n l :=
  ⟨h.hR.to (by decide) hF hY, h.hn, fun x hx => (h.each x hx).to hF hY, h.short⟩
theorem OthI.own {b d : GBk} {i : Nat} {id : ByteArray} {c : GCmd} {room : Int} (h : OthI b d id i) (hc : c.family = id) (hb : BkOk b) (hd : BkOk d) (hi : (i : Int) < room) : OthI (doM room c b).1 (doM room c d).1 id (i + 1) := by
  subst hc
  exact ⟨(do_local hb hd h.same (by have := h.lb; omega) (by have := h.ld; omega)).2, do_more hb h.lb, do_more hd h.ld⟩
end Go.Proofs.YtdeoinjjphdbmaaGreat
namespace Go.Proofs.YtdeoinjjphdbmaaGreat
open Go.RowKit Go.Sig

theorem uRb : Tryz.prog.underlying 50 = some (.struct (Tryz.prog.fieldsOf 50)) := by kernel_rfl
theorem infoRb {a0 a1 : Value} : (Tryz.prog.info? 50).map (·.size) = some (#[a0, a1] : Array Value).size := by kernel_rfl
theorem FamsIn.row' {w : World} {X : List Nat} {A : Option Addr} {n i : Nat} {l : List FA} (h : FamsIn w X A n l) (hi : i < n) :
    ∃ x b o, A = some ⟨b, o, none⟩ ∧ l[i]? = some x ∧ w.rangeAt b (o + i * 11) x.cells.toList := by
  have hi' : i < l.length := by rw [h.hn]; exact hi
  obtain ⟨b, o, e, hc⟩ := h.hR.1.2 (by omega)
  refine ⟨l[i], b, o, e, List.getElem?_eq_getElem hi', fun j v hv => ?_⟩
  rw [Nat.add_assoc]
  exact hc _ _ (famCells_at hi' (by rw [← Array.getElem?_toList]; exact hv))
/-- A new row of families that lay in another row. -/
theorem FamsIn.of {w w' : World} {X : List Nat} {A A' : Option Addr} {n c' : Nat} {l l' : List FA} (h : FamsIn w X A n l) (hX : ∀ g ∈ X, g < w.heap.size) (hF : Fr [] w w') (hs : ∀ x ∈ l', x ∈ l)
    (hO : Own w' 39 11 (.slice A' l'.length c') l'.length (famCells l')) (hf : ∀ g ∈ rowOf (.slice A' l'.length c'), w.heap.size ≤ g) : FamsIn w' X A' l'.length l' :=
  ⟨⟨hO.rd, fun _ ad e hg => by
    have h1 := hf ad.block (rowOf_mem.2 ⟨ad, e, rfl⟩)
    have h2 := hX _ hg
    omega⟩, rfl, fun x hx => (h.each x (hs x hx)).fr hF.nil, fun x hx => h.short x (hs x hx)⟩
theorem fam_short3 {b : GBk} {id : ByteArray} {y : FA} {w : World} (hy : y.f = (aget id b).getD zeroF) (ok : BkOk b) (hw : FamIn w [] y) : Short y := by
  refine fam_short hw ?_
  rw [hy]
  cases h : aget id b with
  | none => exact .inr rfl
  | some f => exact .inl (ok.2 _ _ h).2
def WoutPost (w : World) (X : List Nat) (room : Int) (fs : List GFam) (e : Ending) (w' : World) : Prop :=
  ∃ (A' : Option Addr) (c' : Nat) (l' : List FA), e = .returned (.agg #[.slice A' l'.length c', .int .i64 room]) ∧ FamsIn w' X A' l'.length l' ∧ l'.map (·.f) = fs ∧ Fr [] w w'
set_option maxRecDepth 100000 in
set_option maxHeartbeats 4000000 in
theorem rwout_t (w : World) (X : List Nat) (A : Option Addr) (n c : Nat) (room : Int) (l : List FA) (s : ByteArray) (h : FamsIn w X A n l) (hX : ∀ g ∈ X, g < w.heap.size) (hmax : n ≤ 1000000) :
    Calls Tryz.prog 21 #[.agg #[.slice A n c, .int .i64 room], .string s] w (WoutPost w X room (woutM s (l.map (·.f)))) := by
  have hh := Lib.hid h
  have hXh := Lib.hid hX
  clear h hX
  go_enter Tryz.func21, Tryz.ntmps21
  go_upto_region 1 with (fail)
  refine wp_gen (fun W => Blk W w.heap.size 50 #[.slice A n c, .int .i64 room] ∧ Blk W (w.heap.size + 1) 50 #[.slice none 0 0, .int .i64 0] ∧ Fr [] w W) ⟨(Blk.new _ _ _).alloc _, Blk.new' _ _ (by simp), ((Fr.refl _ _).alloc _).alloc _⟩ ?_
  rintro W ⟨hP, hR, fW⟩
  obtain ⟨gp, HGP⟩ : ∃ z, Hid (w.heap.size = z) := ⟨_, Lib.hid rfl⟩
  rw [HGP.out] at hP hR ⊢
  obtain ⟨gr, HGR⟩ : ∃ z, Hid (gp + 1 = z) := ⟨_, Lib.hid rfl⟩
  rw [HGR.out] at hR ⊢
  have hPh := Lib.hid hP
  have hRh := Lib.hid hR
  have fWh := Lib.hid fW
  clear hP hR fW
  have e0 := hPh.out.cell 0
  simp only [List.getElem?_toArray, List.getElem?_cons_zero] at e0
  go_wp2_with fail
  go_loopg [5, 6] (n + 1) (fun gk s5 s6 wr => ∃ (i : Nat) (l' : List FA) (B : Option Addr) (d : Nat), s6 = .int .i64 i ∧ s5 = .slice B l'.length d ∧ i ≤ n ∧ n - i < gk ∧ l'.length ≤ i ∧ l'.map (·.f) = woutM s ((l.take i).map (·.f)) ∧ (∀ x ∈ l', x ∈ l) ∧ Own wr 39 11 (.slice B l'.length d) l'.length (famCells l') ∧ (∀ g ∈ rowOf (.slice B l'.length d), W.heap.size ≤ g) ∧ Fr [] W wr)
  case atStart => exact ⟨0, [], none, 0, rfl, rfl, by omega, by omega, by simp, rfl, by simp, Own.nil _ _ _, by simp [rowOf, Value.ownBlock], Fr.refl _ _⟩
  case round =>
    obtain ⟨i, l', B, d, rfl, rfl, hi, hk, hln, hmap, hsub, hO, hfr, hF⟩ := hrel
    have hFh := Lib.hid hF
    have hOh := Lib.hid hO
    have hfrh := Lib.hid hfr
    have hmaph := Lib.hid hmap
    have hsubh := Lib.hid hsub
    have hPw := hPh.out.fr hF (by simp)
    have e0 := hPw.cell 0
    simp only [List.getElem?_toArray, List.getElem?_cons_zero] at e0
    have hpl := hPw.lt
    obtain ⟨k, hkl⟩ : ∃ z, Hid (l'.length = z) := ⟨_, Lib.hid rfl⟩
    have hkl2 := hkl.out
    rw [hkl2] at hln ⊢
    clear hF hO hfr hmap hsub hPw
    by_cases hlt : i < n
    · have hlt' : (i : Int) < n := by omega
      have hlth := Lib.hid hlt
      obtain ⟨x, ba, oa, rfl, hxi, hxr⟩ := (hh.out.fr ((fWh.out.trans hFh.out).nil)).row' hlt
      have htk := Lib.hid (show (l.take (i + 1)).map (·.f) = (l.take i).map (·.f) ++ [x.f] by
        have hil : i < l.length := by rw [hh.out.hn]; exact hlt
        rw [List.getElem?_eq_getElem hil] at hxi
        obtain rfl := Option.some.inj hxi
        rw [List.take_succ_eq_append_getElem hil, List.map_append]
        rfl)
      have hxm := Lib.hid (List.mem_of_getElem? hxi)
      have x0 := hxr 0 (.string x.f.id) rfl
      rw [Nat.add_zero] at x0
      have hxrh := Lib.hid hxr
      clear hxi hxr hkl2
      by_cases hne : x.f.id = s
      · have hneb : (x.f.id.toList == s.toList) = true := by rw [hne]; simp
        have hw := Lib.hid (show woutM s ((l.take (i + 1)).map (·.f)) = woutM s ((l.take i).map (·.f)) by rw [htk.out]; unfold woutM; simp [hne])
        clear hne
        go_wp2_with fail
        go_roundg (n - i)
        case measure => have := hlth.out; omega
        case rel => exact ⟨i + 1, l', B, d, by go_num, by rw [hkl.out], by have := hlth.out; omega, by have := hlth.out; omega, by rw [hkl.out]; omega, by rw [hw.out]; exact hmaph.out, hsubh.out, hOh.out, hfrh.out, hFh.out⟩
      · have hneb : (x.f.id.toList == s.toList) = false := by rw [toList_beq]; simpa using hne
        have hxc : ∀ j v, x.cells[j]? = some v → wr.cell? ⟨ba, oa + i * 11 + j, none⟩ = some v := fun j v hv => hxrh.out j v (by rw [Array.getElem?_toList]; exact hv)
        have hw := Lib.hid (show woutM s ((l.take (i + 1)).map (·.f)) = woutM s ((l.take i).map (·.f)) ++ [x.f] by rw [htk.out]; unfold woutM; simp [hne])
        have hrow := hOh.out
        rw [hkl.out] at hrow
        have hrowh := Lib.hid hrow
        clear hne hrow
        go_wp2_with (first
          | (refine wpList_load_cells rfl 39 _ rfl rfl hxc uFam rfl (infoFamA _) ?_; unfold FA.cells)
          | (refine wpList_own_append tFams (hrowh.out.fr ((Fr.refl [] _).alloc _) (by simp)) (fam_new wr x _) (famCells_one _) (by simp) (by unfold maxLen; omega) (by omega) rfl rfl rfl rfl (fun v2 w2 p1 p2 p3 => ?_); obtain ⟨A3, c3, rfl, hA3⟩ := p1.form))
        go_roundg (n - i)
        case measure => have := hlth.out; omega
        case rel =>
          have hfl : ∀ g ∈ rowOf (.slice B k d), W.heap.size ≤ g := by rw [← hkl.out]; exact hfrh.out
          have hll : (l' ++ [x]).length = k + 1 := by rw [List.length_append, hkl.out]; rfl
          refine ⟨i + 1, l' ++ [x], A3, c3, by go_num, by rw [hll], by have := hlth.out; omega, by have := hlth.out; omega, by rw [hll]; omega, ?_, ?_, ?_, ?_, ?_⟩
          · rw [List.map_append, hmaph.out, hw.out]
            rfl
          · intro y hy
            rcases List.mem_append.1 hy with hy | hy
            · exact hsubh.out y hy
            · obtain rfl : y = x := by simpa using hy
              exact hxm.out
          · rw [hll, famCells_append]
            exact p1
          · rw [hll]
            intro g hg
            rcases p3 g hg with e | e
            · exact hfl g e
            · rw [e]
              have := hFh.out.size
              simp
              omega
          · exact (hFh.out.alloc _).andThen p2 (fun g hg => .inr (hfl g hg))
    · have hin : i = n := by omega
      have hge : ¬ (i : Int) < n := by omega
      have hRw := hRh.out.fr hFh.out (by simp)
      have e1 := (hPh.out.fr hFh.out (by simp)).cell 1
      simp only [List.getElem?_toArray, List.getElem?_cons_zero, List.getElem?_cons_succ] at e1
      have hrl := hRw.lt
      have hmap2 := Lib.hid (show l'.map (·.f) = woutM s (l.map (·.f)) by rw [hmaph.out, hin, ← hh.out.hn, List.take_length])
      clear hlt hk hkl2
      go_wp2_with (refine wpList_store_row rfl 50 _ _ rfl gr _ rfl rfl 50 _ hRw infoRb (by rfl) (by kernel_rfl) ?_)
      refine bodyPost_ret (results_cell_row rfl _ _ gr 50 _ (0, 0) _ rfl (Blk.setRow hRw _) uRb rfl infoRb) rfl ?_
      have F1 : Fr [] w wr := fWh.out.trans hFh.out
      have F1b : Fr [gr] wr (wr.setRow gr #[.slice B k d, .int .i64 room]) := (Fr.refl [gr] wr).setRow (.inl (by simp)) _
      have F2 := F1.andThen F1b (fun g hg => .inr (by simp at hg; have := HGP.out; have := HGR.out; omega))
      refine ⟨B, d, l', by rw [hkl.out], ?_, hmap2.out, F2⟩
      refine hh.out.of hXh.out F2 hsubh.out ?_ (fun g hg => Nat.le_trans fWh.out.size (hfrh.out g hg))
      refine hOh.out.fr F1b (fun g hg hgr => ?_)
      have h1 := hfrh.out g hg
      have h2 := hRh.out.lt
      simp at hgr
      omega
end Go.Proofs.YtdeoinjjphdbmaaGreat
