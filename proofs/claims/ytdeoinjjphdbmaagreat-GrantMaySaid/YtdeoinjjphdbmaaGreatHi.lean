/- Walks: a family by its Id; all Ids, rising. Conditions: each theorem's own. -/
import Derived.Test.YtdeoinjjphdbmaaGreatHg
namespace Go.Proofs.YtdeoinjjphdbmaaGreat
open Go.RowKit Go.Sig

/-- A book in memory: its struct in block p, its map in block mb; no family's slice lies in X. -/
structure BookAt (w : World) (p mb : Nat) (room : Int) (X : List Nat) (b : GBk) : Prop where
  hp : Blk w p 77 #[.map (some mb), .int .i64 room]
  hb : BkIn w mb X b
  ok : BkOk b
  hX : ∀ g ∈ X, g < w.heap.size
  hmb : mb ∈ X
  hne : p ≠ mb
theorem BookAt.fr {w w' : World} {p mb : Nat} {room : Int} {X S : List Nat} {b : GBk} (h : BookAt w p mb room X b) (hF : Fr S w w') (hS : ∀ g ∈ S, g ∈ X ∨ w.heap.size ≤ g) (hm : mb ∉ S) (hp : p ∉ S) : BookAt w' p mb room X b :=
  ⟨h.hp.fr hF hp, h.hb.fr hF hS hm, h.ok, fun g hg => Nat.lt_of_lt_of_le (h.hX g hg) hF.size, h.hmb, h.hne⟩
theorem BookAt.fr0 {w w' : World} {p mb : Nat} {room : Int} {X : List Nat} {b : GBk} (h : BookAt w p mb room X b) (hF : Fr [] w w') : BookAt w' p mb room X b := h.fr hF (by simp) (by simp) (by simp)
theorem BookAt.mono {w : World} {p mb : Nat} {room : Int} {X Y : List Nat} {b : GBk} (h : BookAt w p mb room X b) (hS : ∀ g ∈ Y, g ∈ X) (hm : mb ∈ Y) : BookAt w p mb room Y b :=
  ⟨h.hp, h.hb.mono hS, h.ok, fun g hg => h.hX g (hS g hg), hm, h.hne⟩
/-- Blocks that are new are none of a family's. -/
theorem BookAt.more {w w' : World} {p mb : Nat} {room : Int} {X Y : List Nat} {b : GBk} (h : BookAt w p mb room X b) (hF : Fr [] w w') (hY : ∀ g ∈ Y, w.heap.size ≤ g ∧ g < w'.heap.size) : BookAt w' p mb room (X ++ Y) b :=
  ⟨h.hp.fr hF (by simp), bk_same h.hb hF (fun g hg => (hY g hg).1), h.ok, fun g hg => (List.mem_append.1 hg).elim (fun hg => Nat.lt_of_lt_of_le (h.hX g hg) hF.size) (fun hg => (hY g hg).2), List.mem_append.2 (.inl h.hmb), h.hne⟩
/-- What a room is. -/
def roomM (n : Int) : Int := 1 + n % 256
theorem roomM_in (n : Int) : 1 ≤ roomM n ∧ roomM n ≤ 256 := by unfold roomM; omega
theorem room_rem (n : Int) : (IntKind.u64.wrap n).tmod 256 = n % 256 := by
  have h : IntKind.u64.wrap n = n % 18446744073709551616 := by simp [IntKind.wrap, IntKind.bits, IntKind.signed]
  rw [h, Int.tmod_eq_emod_of_nonneg (by omega)]
  omega
theorem gcount_t (w : World) (p mb : Nat) (room : Int) (X : List Nat) (b : GBk) (h : BookAt w p mb room X b) : Calls Tryz.prog 26 #[.pointer (some ⟨p, 0, none⟩)] w fun e w' => e = .returned (.int .i64 (b.length : Nat)) ∧ w = w' := by
  obtain ⟨l, hl1, hl2, hl3⟩ := h.hb
  have e0 := h.hp.cell 0
  simp only [List.getElem?_toArray, List.getElem?_cons_zero] at e0
  have hpl := h.hp.lt
  have hln := fun ty => hl1.run_len (ty := ty) uMsf
  have hll : l.length = b.length := by rw [← hl2, List.length_map]
  rw [hll] at hln
  clear hl1 hl2 hl3 h hll
  go_enter Tryz.func26, Tryz.ntmps26
  go_wp2
  go_ret
  exact ⟨rfl, rfl⟩
theorem groom_t (w : World) (p mb : Nat) (room : Int) (X : List Nat) (b : GBk) (h : BookAt w p mb room X b) : Calls Tryz.prog 28 #[.pointer (some ⟨p, 0, none⟩)] w fun e w' => e = .returned (.int .i64 room) ∧ w = w' := by
  have e1 := h.hp.cell 1
  simp only [List.getElem?_toArray, List.getElem?_cons_zero, List.getElem?_cons_succ] at e1
  have hpl := h.hp.lt
  clear h
  go_enter Tryz.func28, Tryz.ntmps28
  go_wp2
  go_ret
  exact ⟨rfl, rfl⟩
/-- A new book. -/
def NewPost (w : World) (room : Int) (e : Ending) (w' : World) : Prop := ∃ p mb, e = .returned (.tuple #[.pointer (some ⟨p, 0, none⟩), .int .i64 0]) ∧ BookAt w' p mb room [mb] [] ∧ w.heap.size ≤ p ∧ w.heap.size ≤ mb ∧ Fr [] w w'
theorem bkOk_nil : BkOk [] := ⟨List.nodup_nil, fun k f h => by cases h⟩
theorem gnew_t (w : World) (room : Int) (h1 : 1 ≤ room) (h2 : room ≤ 256) : Calls Tryz.prog 12 #[.int .i64 room] w (NewPost w room) := by
  have hmm := @run_makeMap Tryz.prog
  have d1 : decide (room < 1) = false := decide_eq_false (by omega)
  have d2 : decide (256 < room) = false := decide_eq_false (by omega)
  have h1' : ¬ room < 1 := by omega
  have h2' : ¬ 256 < room := by omega
  go_enter Tryz.func12, Tryz.ntmps12
  go_wp2
  go_ret2
  refine ⟨w.heap.size + 1, w.heap.size, ?_, ⟨Blk.new' _ _ (by simp), ⟨[], (IsMap.new w Value.string FA.val).alloc _, rfl, fun p hp => by cases hp⟩, bkOk_nil, fun g hg => by simp at hg; simp; omega, by simp, by omega⟩, by omega, Nat.le_refl _, ((Fr.refl [] w).alloc _).alloc _⟩
  simp
theorem gnew_bad (w : World) (room : Int) (h : room < 1 ∨ 256 < room) : Calls Tryz.prog 12 #[.int .i64 room] w fun e w' => e = .returned (.tuple #[.pointer none, .int .i64 1]) ∧ w = w' := by
  rcases h with h | h
  · have d1 : decide (room < 1) = true := decide_eq_true h
    go_enter Tryz.func12, Tryz.ntmps12
    go_wp2
    go_ret2
    exact ⟨rfl, rfl⟩
  · have d1 : decide (room < 1) = false := decide_eq_false (by omega)
    have d2 : decide (256 < room) = true := decide_eq_true h
    have h1' : ¬ room < 1 := by omega
    go_enter Tryz.func12, Tryz.ntmps12
    go_wp2
    go_ret2
    exact ⟨rfl, rfl⟩
theorem roomL_t (w : World) (n : Int) : Calls Tryz.prog 13 #[.int .i64 n] w fun e w' => e = .returned (.int .i64 (roomM n)) ∧ w = w' := by
  have hr := room_rem n
  have hr1 : 0 ≤ n % 256 := by omega
  have hr2 : n % 256 < 256 := by omega
  obtain ⟨k, hk⟩ : ∃ z, Hid (n % 256 = z) := ⟨_, Lib.hid rfl⟩
  rw [hk.out] at hr hr1 hr2
  have hres : Ending.returned (.int .i64 (1 + k)) = .returned (.int .i64 (roomM n)) := by unfold roomM; rw [hk.out]
  have hresh := Lib.hid hres
  clear hres
  go_enter Tryz.func13, Tryz.ntmps13
  go_wp2
  go_ret
  exact ⟨hresh.out, rfl⟩
/-- What Family tells. -/
def FamPost (w : World) (b : GBk) (id : ByteArray) (e : Ending) (w' : World) : Prop :=
  ∃ y : FA, e = .returned (.tuple #[y.val, .bool (aget id b).isSome]) ∧ y.f = (aget id b).getD zeroF ∧ FamW w' w.heap.size y ∧ Fr [] w w'
end Go.Proofs.YtdeoinjjphdbmaaGreat
namespace Go.Proofs.YtdeoinjjphdbmaaGreat
open Go.RowKit Go.Sig

theorem book_get {w : World} {X : List Nat} {b : GBk} {id : ByteArray} {l : List (ByteArray × FA)} (hl2 : l.map (fun p => (p.1, p.2.f)) = b) (hl3 : ∀ p ∈ l, FamIn w X p.2) (ok : BkOk b) :
    FamIn w X ((aget id l).getD zeroFA) ∧ ((aget id l).getD zeroFA).f = (aget id b).getD zeroF ∧ (aget id b).isSome = (aget id l).isSome ∧ (FamOk ((aget id l).getD zeroFA).f ∨ ((aget id l).getD zeroFA).f = zeroF) := by
  have hg : aget id b = (aget id l).map (·.f) := by rw [← hl2, aget_fa]
  rw [hg]
  cases hag : aget id l with
  | none => exact ⟨zero_in _ _, rfl, rfl, .inr rfl⟩
  | some z =>
    rw [hag] at hg
    exact ⟨hl3 _ (mem_of_aget hag), rfl, rfl, .inl (ok.2 _ _ hg).2⟩
theorem infoFamA (x : FA) : (Tryz.prog.info? 39).map (·.size) = some x.cells.size := by unfold FA.cells; exact infoFam
theorem FA.all1 (x : FA) : x.cells.all (·.oneCell') = true := by unfold FA.cells; kernel_rfl
theorem FA.size11 (x : FA) : x.cells.size = 11 := rfl
set_option maxRecDepth 100000 in
set_option maxHeartbeats 2000000 in
theorem family_t (w : World) (p mb : Nat) (room : Int) (X : List Nat) (b : GBk) (id : ByteArray) (h : BookAt w p mb room X b) : Calls Tryz.prog 16 #[.pointer (some ⟨p, 0, none⟩), .string id] w (FamPost w b id) := by
  obtain ⟨l, hl1, hl2, hl3⟩ := h.hb
  obtain ⟨hx1, hx2, hx3, hx4⟩ := book_get (id := id) hl2 hl3 h.ok
  have hlk := hl1.run_lookup_ok kStr (z := zeroFA.val) uMsf (fun w => by kernel_rfl) id
  have hlk2 : (Instr.lookup 75 (.map (some mb)) (.string id) true).run Tryz.prog = fun W => (Instr.lookup 75 (.map (some mb)) (.string id) true).run Tryz.prog W := rfl
  clear hlk2
  have hv : ((aget id l).map FA.val).getD zeroFA.val = ((aget id l).getD zeroFA).val := by cases aget id l <;> rfl
  rw [hv, ← hx3] at hlk
  obtain ⟨x, hxe⟩ : ∃ z, Hid ((aget id l).getD zeroFA = z) := ⟨_, Lib.hid rfl⟩
  rw [hxe.out] at hlk hx1 hx2 hx4
  obtain ⟨is, hise⟩ : ∃ z, Hid ((aget id b).isSome = z) := ⟨_, Lib.hid rfl⟩
  rw [hise.out] at hlk
  have hisl := Lib.hid (hx3.symm.trans hise.out)
  have hl1h := Lib.hid hl1
  have hx1h := Lib.hid hx1
  have hx2h := Lib.hid hx2
  have hx4h := Lib.hid hx4
  have hph := Lib.hid h.hp
  have hzs : ∃ zs : Array Value, zs.size = 11 ∧ Hid (zs = zeroFA.cells) := ⟨_, rfl, Lib.hid rfl⟩
  obtain ⟨zs, hz, hzh⟩ := hzs
  clear hl1 hl2 hl3 hx1 hx2 hx3 hx4 hv h hlk
  go_enter Tryz.func16, Tryz.ntmps16
  go_upto_region 1 with (fail)
  refine wp_gen (fun W => Blk W w.heap.size 39 zs ∧ Fr [] w W) ⟨by rw [hzh.out]; exact Blk.new _ _ _, (Fr.refl _ _).alloc _⟩ ?_
  rintro W ⟨hR, fW⟩
  obtain ⟨gr, HGR⟩ : ∃ z, Hid (w.heap.size = z) := ⟨_, Lib.hid rfl⟩
  rw [HGR.out] at hR ⊢
  have hP := hph.out.fr fW (by simp)
  have hM := hl1h.out.fr fW (by simp)
  have e0 := hP.cell 0
  simp only [List.getElem?_toArray, List.getElem?_cons_zero] at e0
  have hpl := hP.lt
  have hlk := hM.run_lookup_ok kStr (z := zeroFA.val) uMsf (fun w => by kernel_rfl) id
  have hv : ((aget id l).map FA.val).getD zeroFA.val = ((aget id l).getD zeroFA).val := by cases aget id l <;> rfl
  have hx3 : (aget id l).isSome = is := hisl.out
  rw [hv, hxe.out, hx3] at hlk
  clear hv hx3 hP hM
  have hrl := hR.lt
  have hRh := Lib.hid hR
  have fWh := Lib.hid fW
  have hgr : w.heap.size ≤ gr := by have := HGR.out; omega
  clear hR fW
  go_upto_region 4 with (refine wpList_store_row rfl 39 _ _ rfl W.heap.size x.cells rfl rfl 39 _ (Blk.new _ _ _) (infoFamA x) (by rw [FA.size11]; rfl) (FA.all1 x) ?_)
  refine wp_gen (fun W2 => Blk W2 W.heap.size 39 x.cells ∧ Fr [] W W2) ⟨Blk.setRow (Blk.new _ _ _) _, ((Fr.refl [] W).alloc _).setRow (.inr (Nat.le_refl _)) _⟩ ?_
  rintro W2 ⟨hB2, F2⟩
  obtain ⟨g6, HG6⟩ : ∃ z, Hid (W.heap.size = z) := ⟨_, Lib.hid rfl⟩
  rw [HG6.out] at hB2 ⊢
  have f2 := fWh.out.trans F2
  have hxW := (hx1h.out.mono (Y := []) (by simp)).fr f2
  have hown := own_t W2 x hxW (fam_short hxW hx4h.out)
  have hR2 := hRh.out.fr F2 (by simp)
  have f2h := Lib.hid f2
  have hR2h := Lib.hid hR2
  clear hlk e0 hpl hxW f2 F2 hR2 hrl
  go_wp2_with (refine wpList_load_at rfl 39 _ rfl rfl hB2 (sub_self _) uFam rfl (infoFamL _) ?_; rw [Array.toArray_toList])
  refine Calls.mono (show Calls Tryz.prog 46 _ _ _ from hown) ?_
  rintro e W3 ⟨y, rfl, hy, hw, F3⟩
  have hR3 := hR2h.out.fr F3 (by simp)
  have hrl3 := hR3.lt
  have f3 := Lib.hid (f2h.out.trans F3)
  have hwh := Lib.hid hw
  have hyh := Lib.hid hy
  clear hown F3 hw hy hB2
  unfold FA.val
  go_wp2_with (refine wpList_store_row rfl 39 _ _ rfl gr y.cells rfl rfl 39 zs hR3 (infoFamA y) (hz.trans (FA.size11 y).symm) (FA.all1 y) ?_)
  refine bodyPost_ret (v := .tuple #[.agg y.cells, .bool is]) (results_ct (p := 4) (q := 5) rfl _ _ gr 39 y.cells (0, 0) _ rfl (Blk.setRow hR3 _) uFam rfl (infoFamA y) rfl) rfl ?_
  refine ⟨y, by rw [hise.out]; rfl, hyh.out.trans hx2h.out, ?_, f3.out.setRow (.inr hgr) _⟩
  have hw2 : w.heap.size ≤ W2.heap.size := f2h.out.size
  exact (hwh.out.fr ((Fr.refl [gr] W3).setRow (.inl (by simp)) _) (fun g hg => by
    have := hR2h.out.lt
    simp at hg
    omega)).below hw2
/-- Names, put in order. -/
def sortN (ks : List ByteArray) : List ByteArray := ks.foldl (fun acc s => insN s acc) []
theorem sortN_go_mem {x : ByteArray} : ∀ (ks acc : List ByteArray), x ∈ ks.foldl (fun acc s => insN s acc) acc ↔ x ∈ acc ∨ x ∈ ks
  | [], acc => by simp
  | s :: ks, acc => by
    rw [List.foldl_cons, sortN_go_mem ks, mem_insN, List.mem_cons]
    constructor
    · rintro ((h | h) | h)
      · exact .inr (.inl h)
      · exact .inl h
      · exact .inr (.inr h)
    · rintro (h | h | h)
      · exact .inl (.inr h)
      · exact .inl (.inl h)
      · exact .inr h
theorem mem_sortN {x : ByteArray} {ks : List ByteArray} : x ∈ sortN ks ↔ x ∈ ks := by unfold sortN; rw [sortN_go_mem]; simp
theorem sortN_go_rising : ∀ (ks acc : List ByteArray), RisN acc → RisN (ks.foldl (fun acc s => insN s acc) acc)
  | [], _, h => h
  | s :: ks, acc, h => by rw [List.foldl_cons]; exact sortN_go_rising ks _ (insN_rising h)
theorem sortN_rising (ks : List ByteArray) : RisN (sortN ks) := sortN_go_rising ks [] List.Pairwise.nil
theorem sortN_perm {ks : List ByteArray} (hn : ks.Nodup) : ks.Perm (sortN ks) := (List.perm_ext_iff_of_nodup hn (risN_nodup (sortN_rising ks))).2 fun _s => mem_sortN.symm
/-- The Ids of a book's families, rising. -/
def idsM (b : GBk) : List ByteArray := sortN (b.map (·.1))
set_option maxRecDepth 100000 in
set_option maxHeartbeats 4000000 in
theorem ids_t (w : World) (p mb : Nat) (room : Int) (X : List Nat) (b : GBk) (h : BookAt w p mb room X b) (hmax : b.length ≤ 1000000) : Calls Tryz.prog 53 #[.pointer (some ⟨p, 0, none⟩)] w (SRow w (idsM b)) := by
  obtain ⟨l, hl1, hl2, hl3⟩ := h.hb
  have e0 := h.hp.cell 0
  simp only [List.getElem?_toArray, List.getElem?_cons_zero] at e0
  have hpl := h.hp.lt
  obtain ⟨lbm, clock, hBm, hlbm⟩ := hl1.stamps
  have hkl : lbm.map (·.1) = b.map (·.1) := by
    rw [← hl2, ← hlbm, List.map_map, List.map_map]
    rfl
  have hkeys := Lib.hid (sortN_perm h.ok.1)
  have hklh := Lib.hid hkl
  have hinc := Lib.hid (hBm.inc.imp (fun {a b} (h : a < b) (e : a = b) => by omega) : (lbm.map (·.2.2)).Nodup)
  have hrun := hBm.run_range uMsf
  have hlen : lbm.length ≤ 1000000 := by
    have h1 : lbm.length = b.length := by
      have := congrArg List.length hkl
      simpa using this
    omega
  have hBmh := Lib.hid hBm
  clear hl1 hl2 hl3 hlbm hkl h hBm
  go_enter Tryz.func53, Tryz.ntmps53
  go_wp2_with fail
  obtain ⟨r, HR⟩ : ∃ z, Hid (w.heap.size = z) := ⟨_, Lib.hid rfl⟩
  go_loopg [3, 4] (lbm.length + 1) (fun gk s3 s4 wr => ∃ (seen : Array Nat) (ks : List ByteArray), (todo lbm seen).length < gk ∧ It wr w.heap.size mb clock seen ∧ IsMapB wr mb Value.string FA.val lbm clock ∧ (ks ++ (todo lbm seen).map (·.1)).Perm (lbm.map (·.1)) ∧ SAcc w wr s3 ks ∧ ∀ g ∈ rowOf s3, g ≠ mb ∧ g ≠ w.heap.size)
  case atStart =>
    refine ⟨#[], [], by have := List.length_filter_le (fun x : ByteArray × FA × Nat => !(#[] : Array Nat).contains x.2.2) lbm; unfold todo; omega, It.new w mb clock, hBmh.out.fr ((Fr.refl [] w).alloc _) (by simp), by rw [List.nil_append, show todo lbm #[] = lbm from List.filter_eq_self.2 fun y _ => by simp], (SAcc.nil w).fr0 ((Fr.refl [] w).alloc _), by simp [rowOf, Value.ownBlock]⟩
  case round =>
    obtain ⟨seen, ks, hk, hI, hMr, hperm, hA, hro⟩ := hrel
    have hperm' := Lib.hid hperm
    have hA' := Lib.hid hA
    have hro' := Lib.hid hro
    have hrl := hI.lt
    have hrm := hI.ne hMr
    obtain ⟨A7, c7, rfl, hO7, hR7, hF7⟩ := hA
    obtain ⟨n7, hn7⟩ : ∃ z, Hid (ks.length = z) := ⟨_, Lib.hid rfl⟩
    have hn7b : n7 ≤ 1000000 := by
      have h1 := hn7.out
      have h2 := hperm.length_eq
      rw [List.length_append, List.length_map, List.length_map] at h2
      omega
    rw [hn7.out] at hO7 hro' hA' hR7 ⊢
    have hR7h := Lib.hid hR7
    have hF7h := Lib.hid hF7
    have hO7f := fun (wn : World) (hF : Fr [w.heap.size] wr wn) => hO7.fr hF (fun g hg hx => (hro'.out g hg).2 (by simpa using hx))
    clear hperm hro hR7 hF7 hrm
    go_wp2_with (first
      | (refine wpList_map_next hMr hI rfl rfl rfl (fun h0 => ?_) (fun x wn hx hIn hMn ht => ?_))
      | (refine wpList_map_entry hMn hIn (mem_todo hx) rfl rfl rfl ?_)
      | (go_at_call 80; refine (sortS_t wr (.slice A7 n7 c7) n7 ks (idsM b) hO7 hn7.out (by
          have h1 := hperm'.out
          rw [h0, List.map_nil, List.append_nil, hklh.out] at h1
          exact h1.trans hkeys.out) (sortN_rising _) (by omega)).mono ?_; rintro e W9 ⟨rfl, O9, F9⟩)
      | (refine wpList_own_append tStrs ((hO7f _ ht.fr).fr ((Fr.refl [] _).alloc _) (by simp)) (str_new _ _ _) (strCells_one _) (by simp) (by unfold maxLen; omega) (by omega) rfl rfl rfl rfl (fun v2 w2 p1 p2 p3 => ?_); obtain ⟨A8, c8, rfl, hA8⟩ := p1.form))
    · go_ret
      have hl : (idsM b).length = n7 := by
        have := O9.length
        rw [strCells_length, Nat.mul_one] at this
        exact this
      refine ⟨_, rfl, by rw [hl]; exact O9, hF7h.out.andThen F9 (fun x hx => .inr (hR7h.out x hx)), fun g hg => hR7h.out g hg⟩
    · go_roundg ((todo lbm (seen.push x.2.2)).length + 1)
      case measure => have := todo_lt hx; omega
      case rel =>
        have hFn : Fr [] w wn := hF7h.out.andThen ht.fr (fun x hx => .inr (by simp at hx; omega))
        have hrw2 : w.heap.size < wn.heap.size := hIn.lt
        have hgn : mb < wn.heap.size := hMn.lt
        refine ⟨_, ks ++ [x.1], Nat.lt_succ_self _, (hIn.fr ((Fr.refl [] _).alloc _) (by simp)).fr p2 (fun h => (hro'.out _ h).2 rfl), (hMn.fr ((Fr.refl [] _).alloc _) (by simp)).fr p2 (fun h => (hro'.out _ h).1 rfl), ?_, SAcc.push hn7.out hR7h.out hFn p1 p2 p3, fun g hg => ?_⟩
        · rw [List.append_assoc]
          exact (List.Perm.append_left _ (todo_perm hinc.out hx).symm).trans hperm'.out
        · rcases p3 g hg with h | h
          · exact hro'.out g h
          · simp at h
            omega
end Go.Proofs.YtdeoinjjphdbmaaGreat
