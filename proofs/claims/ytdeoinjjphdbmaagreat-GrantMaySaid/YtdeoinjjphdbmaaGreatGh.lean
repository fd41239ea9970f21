/- Walks: what may be a challenge; does a verifier meet it. Conditions: each theorem's own. -/
import Derived.Test.YtdeoinjjphdbmaaGreatGf
namespace Go.Proofs.YtdeoinjjphdbmaaGreat
open Go.RowKit Go.Sig

def methA : Value := .agg #[.string sPlain, .func (.func 115) #[] #[], .func (.func 109) #[] #[]]
def methB : Value := .agg #[.string sS256, .func (.func 116) #[] #[], .func (.func 119) #[] #[]]
def methN : Value := .agg #[.string ⟨#[]⟩, .nilFunc, .nilFunc]
/-- What find tells. -/
def FindPost (w : World) (name : ByteArray) (e : Ending) (w' : World) : Prop :=
  Fr [] w w' ∧ ((name = sPlain ∧ e = .returned (.tuple #[methA, .bool true])) ∨ (name = sS256 ∧ e = .returned (.tuple #[methB, .bool true])) ∨ (name ≠ sPlain ∧ name ≠ sS256 ∧ e = .returned (.tuple #[methN, .bool false])))
theorem uMeth : Tryz.prog.underlying 129 = some (.struct (Tryz.prog.fieldsOf 129)) := by kernel_rfl
theorem infoMeth {a b c : Value} : (Tryz.prog.info? 129).map (·.size) = some (#[a, b, c] : Array Value).size := by kernel_rfl
theorem results_meth {fn : Func} {p q : Tmp} (h : fn.results = #[.cell p 129, .tmp q]) (tmps : Array Value) (w : World) (g : Nat) (t : TypeId) (x y z : Value)
    (hp : tmps.getD p undef = .pointer (some ⟨g, 0, none⟩)) (hg : w.heap[g]? = some (.cells #[x, y, z] t (0, 0))) :
    (results fn tmps).run Tryz.prog w = .ok (.tuple #[.agg #[x, y, z], tmps.getD q undef]) w := by
  have hp' : tmps[p]?.getD undef = .pointer (some ⟨g, 0, none⟩) := by simpa using hp
  have hl := run_loadVar_row w g t 129 #[x, y, z] (0, 0) _ hg uMeth rfl infoMeth
  simp [results, h, hp', asAddr, hl]
set_option maxRecDepth 100000 in
set_option maxHeartbeats 4000000 in
theorem find_t (w : World) (name : ByteArray) : Calls Tryz.prog 101 #[.string name] w (FindPost w name) := by
  go_enter Tryz.func101, Tryz.ntmps101
  go_upto_region 1 with (fail)
  refine wp_gen (fun W => (∃ zs, Blk W w.heap.size 129 zs ∧ zs.size = 3) ∧ Fr [] w W) ⟨⟨_, Blk.new _ _ _, by kernel_rfl⟩, (Fr.refl _ _).alloc _⟩ ?_
  rintro W ⟨⟨zs, hR, hz⟩, fW⟩
  obtain ⟨gr, HGR⟩ : ∃ z, Hid (w.heap.size = z) := ⟨_, Lib.hid rfl⟩
  rw [HGR.out] at hR ⊢
  go_upto_block 0 with (fail)
  refine wp_gen (fun W2 => (∃ ty, Blk W2 W.heap.size ty #[.string sPlain, .func (.func 115) #[] #[], .func (.func 109) #[] #[], .string sS256, .func (.func 116) #[] #[], .func (.func 119) #[] #[]]) ∧ Fr [] W W2) ⟨⟨_, Blk.new _ _ _⟩, (Fr.refl _ _).alloc _⟩ ?_
  rintro W2 ⟨⟨ty, hS⟩, f2⟩
  obtain ⟨gs, HGS⟩ : ∃ z, Hid (W.heap.size = z) := ⟨_, Lib.hid rfl⟩
  obtain ⟨pl, hpl⟩ : ∃ z, Hid (sPlain = z) := ⟨_, Lib.hid rfl⟩
  obtain ⟨qs, hqs⟩ : ∃ z, Hid (sS256 = z) := ⟨_, Lib.hid rfl⟩
  rw [HGS.out, hpl.out, hqs.out] at hS
  rw [HGS.out]
  have hR2 := hR.fr f2 (by simp)
  have fw2 := Lib.hid (fW.trans f2)
  have hcells := Lib.hid (fun (W3 : World) (hF : Fr [] W2 W3) => show W3.cell? ⟨gs, 0, none⟩ = some (.string pl) ∧ W3.cell? ⟨gs, 1, none⟩ = some (.func (.func 115) #[] #[]) ∧ W3.cell? ⟨gs, 2, none⟩ = some (.func (.func 109) #[] #[]) ∧ W3.cell? ⟨gs, 3, none⟩ = some (.string qs) ∧ W3.cell? ⟨gs, 4, none⟩ = some (.func (.func 116) #[] #[]) ∧ W3.cell? ⟨gs, 5, none⟩ = some (.func (.func 119) #[] #[]) ∧ gs < W3.heap.size by
    have h := hS.fr hF (by simp)
    exact ⟨h.cell 0, h.cell 1, h.cell 2, h.cell 3, h.cell 4, h.cell 5, h.lt⟩)
  obtain ⟨c0, c1, c2, c3, c4, c5, hgl⟩ := hcells.out W2 (Fr.refl _ _)
  clear hR hS fW f2
  go_wp2_with fail
  refine wp_loop_rounds 3 ?_
  rw [rounds_succ]
  go_upto_region 4 with (refine wpList_store_row rfl 129 _ _ rfl W2.heap.size #[.string pl, .func (.func 115) #[] #[], .func (.func 109) #[] #[]] rfl rfl 129 _ (Blk.new _ _ _) infoMeth (by kernel_rfl) (by kernel_rfl) ?_)
  refine wp_gen (fun W3 => Blk W3 W2.heap.size 129 #[.string pl, .func (.func 115) #[] #[], .func (.func 109) #[] #[]] ∧ Fr [] W2 W3) ⟨Blk.setRow (Blk.new _ _ _) _, ((Fr.refl _ _).alloc _).setRow (.inr (Nat.le_refl _)) _⟩ ?_
  rintro W3 ⟨hM, f3⟩
  obtain ⟨gm, HGM⟩ : ∃ z, Hid (W2.heap.size = z) := ⟨_, Lib.hid rfl⟩
  rw [HGM.out] at hM ⊢
  have hR3 := hR2.fr f3 (by simp)
  obtain ⟨e0, e1, e2⟩ := hM.c3
  have hgl := hM.lt
  have hrl := hR3.lt
  have h1 := toList_beq pl name
  have h2 := toList_beq qs name
  by_cases hp : pl = name
  · rw [decide_eq_true hp] at h1
    have hph := Lib.hid hp
    clear hp h2
    go_wp2_with (refine wpList_store_row rfl 129 _ _ rfl gr #[.string pl, .func (.func 115) #[] #[], .func (.func 109) #[] #[]] rfl rfl 129 zs hR3 infoMeth (by rw [hz]; rfl) (by kernel_rfl) ?_)
    refine bodyPost_ret (v := .tuple #[methA, .bool true]) ?_ rfl ⟨(fw2.out.trans f3).setRow (.inr (Nat.le_of_eq HGR.out)) _, .inl ⟨by rw [hpl.out]; exact hph.out.symm, rfl⟩⟩
    unfold methA
    rw [hpl.out]
    refine (results_meth (p := 2) (q := 3) ?_ _ _ gr 129 _ _ _ ?_ (Blk.setRow hR3 _)).trans ?_ <;> rfl
  · rw [decide_eq_false hp] at h1
    have hph := Lib.hid hp
    have f3h := Lib.hid (fw2.out.trans f3)
    obtain ⟨c0, c1, c2, c3, c4, c5, hgl2⟩ := hcells.out W3 f3
    clear hp
    go_wp2_with fail
    rw [rounds_succ]
    go_upto_region 4 with (refine wpList_store_row rfl 129 _ _ rfl W3.heap.size #[.string qs, .func (.func 116) #[] #[], .func (.func 119) #[] #[]] rfl rfl 129 _ (Blk.new _ _ _) infoMeth (by kernel_rfl) (by kernel_rfl) ?_)
    refine wp_gen (fun W4 => Blk W4 W3.heap.size 129 #[.string qs, .func (.func 116) #[] #[], .func (.func 119) #[] #[]] ∧ Fr [] W3 W4) ⟨Blk.setRow (Blk.new _ _ _) _, ((Fr.refl _ _).alloc _).setRow (.inr (Nat.le_refl _)) _⟩ ?_
    rintro W4 ⟨hM4, f4⟩
    obtain ⟨g4, HG4⟩ : ∃ z, Hid (W3.heap.size = z) := ⟨_, Lib.hid rfl⟩
    rw [HG4.out] at hM4 ⊢
    have hR4 := hR3.fr f4 (by simp)
    obtain ⟨e0, e1, e2⟩ := hM4.c3
    have hgl := hM4.lt
    have hrl := hR4.lt
    have f4h := Lib.hid (f3h.out.trans f4)
    clear h1
    by_cases hq : qs = name
    · rw [decide_eq_true hq] at h2
      have hqh := Lib.hid hq
      clear hq
      go_wp2_with (refine wpList_store_row rfl 129 _ _ rfl gr #[.string qs, .func (.func 116) #[] #[], .func (.func 119) #[] #[]] rfl rfl 129 zs hR4 infoMeth (by rw [hz]; rfl) (by kernel_rfl) ?_)
      refine bodyPost_ret (v := .tuple #[methB, .bool true]) ?_ rfl ⟨f4h.out.setRow (.inr (Nat.le_of_eq HGR.out)) _, .inr (.inl ⟨by rw [hqs.out]; exact hqh.out.symm, rfl⟩)⟩
      unfold methB
      rw [hqs.out]
      refine (results_meth (p := 2) (q := 3) ?_ _ _ gr 129 _ _ _ ?_ (Blk.setRow hR4 _)).trans ?_ <;> rfl
    · rw [decide_eq_false hq] at h2
      have hqh := Lib.hid hq
      clear hq
      go_wp2_with fail
      rw [rounds_succ]
      go_wp2_with (refine wpList_store_row rfl 129 _ _ rfl gr #[.string ⟨#[]⟩, .nilFunc, .nilFunc] rfl rfl 129 zs hR4 infoMeth (by rw [hz]; rfl) (by kernel_rfl) ?_)
      refine bodyPost_ret (v := .tuple #[.agg #[.string ⟨#[]⟩, .nilFunc, .nilFunc], .bool false]) ?_ rfl ⟨f4h.out.setRow (.inr (Nat.le_of_eq HGR.out)) _, .inr (.inr ⟨by rw [hpl.out]; exact fun e => hph.out e.symm, by rw [hqs.out]; exact fun e => hqh.out e.symm, rfl⟩)⟩
      refine (results_meth (p := 2) (q := 3) ?_ _ _ gr 129 _ _ _ ?_ (Blk.setRow hR4 _)).trans ?_ <;> rfl
end Go.Proofs.YtdeoinjjphdbmaaGreat
namespace Go.Proofs.YtdeoinjjphdbmaaGreat
open Go.RowKit Go.Sig

/-! ### '[]byte(s)', with no look inside -/
theorem cell_fr {w w' : World} {a : Addr} {v : Value} (hf : Fr [] w w') (h : w.cell? a = some v) : w'.cell? a = some v := (hf.cell (block_lt_of_cell h) (by simp)).trans h

def convC (s : ByteArray) (w : World) : Nat := grownCap w s.size 0 5
def convW (s : ByteArray) (w : World) : World := w.drew.alloc (.cells (bytesRow s (convC s w)) 5 ((bytesRow s (convC s w)).size, (bytesRow s (convC s w)).size + 1))
theorem conv_run (s : ByteArray) (w : World) : (convert 9 119 (.string s)).run Tryz.prog w = .ok (.slice (some ⟨w.heap.size, 0, none⟩) s.size (convC s w)) (convW s w) :=
  run_bytes_of_string w 9 119 5 s tStr tBytes (by kernel_rfl)
theorem convC_ge (s : ByteArray) (w : World) : s.size ≤ convC s w := grownCap_ge _ _ _ _
@[simp] theorem convW_size (s : ByteArray) (w : World) : (convW s w).heap.size = w.heap.size + 1 := by simp [convW]
theorem convW_fr (s : ByteArray) (w : World) : Fr [] w (convW s w) := ((Fr.refl [] w).drew).alloc _
theorem byts_cvn {s : ByteArray} {w : World} {g : Nat} (hg : g = w.heap.size) : Byts (convW s w) (some ⟨g, 0, none⟩) s.size s.data.toList := by
  subst hg
  have hds : s.data.toList.length = s.size := by rw [Array.length_toList]; rfl
  refine ⟨by rw [List.length_map, hds, Nat.mul_one], fun _ => ⟨w.heap.size, 0, rfl, fun j v hv => ?_⟩⟩
  have hj : j < s.data.size := by
    have := (List.getElem?_eq_some_iff.1 hv).1
    simpa using this
  have e : (convW s w).heap[w.heap.size]? = some (.cells (bytesRow s (convC s w)) 5 ((bytesRow s (convC s w)).size, (bytesRow s (convC s w)).size + 1)) := heap_alloc_new w.drew _
  rw [Nat.zero_add]
  have e2 := cell_of_row (convW s w) w.heap.size j _ _ _ e
  rw [e2, bytesRow_at s _ j hj, ← hv, List.getElem?_map, Array.getElem?_toList, Array.getElem?_eq_getElem hj]
  rfl
theorem conv_any (s : ByteArray) : ∃ (cW : World → World) (cC : World → Nat), (∀ w, (convert 9 119 (.string s)).run Tryz.prog w = .ok (.slice (some ⟨w.heap.size, 0, none⟩) s.size (cC w)) (cW w)) ∧ (∀ w, Fr [] w (cW w)) ∧
    (∀ w g, g = w.heap.size → Byts (cW w) (some ⟨g, 0, none⟩) s.size s.data.toList) ∧ (∀ w, (cW w).heap.size = w.heap.size + 1) ∧ (∀ w, s.size ≤ cC w) :=
  ⟨convW s, convC s, conv_run s, convW_fr s, fun _ _ h => byts_cvn h, convW_size s, convC_ge s⟩


theorem byts_dig {w : World} {g : Nat} {t : TypeId} {l : List UInt8} (h : Blk w g t (digCells l)) (hl : l.length = 32) : Byts w (some ⟨g, 0, none⟩) 32 l := byts_new h rfl hl
theorem findA_t (w : World) (v : ByteArray) : Calls Tryz.prog 115 #[.string v] w fun e w' => e = .returned (.string v) ∧ w = w' := by
  go_enter Tryz.func115, Tryz.ntmps115
  go_wp2
  go_ret
  exact ⟨rfl, rfl⟩
theorem sixGo_pos : ∀ (l : List UInt8) (h n : Nat) (out : List UInt8), 0 < out.length → 0 < (sixGo l h n out).length
  | [], h, n, out, ho => by
    rw [sixGo]
    split
    · exact ho
    · rw [List.length_append]
      omega
  | x :: l, h, n, out, ho => by
    rw [sixGo]
    exact sixGo_pos l _ _ _ (by rw [List.length_append]; omega)
theorem webM_pos {l : List UInt8} (h : 0 < l.length) : 0 < (webM l).length := by
  cases l with
  | nil => simp at h
  | cons x l =>
    unfold webM
    rw [sixGo]
    refine sixGo_pos l _ _ _ ?_
    unfold sixByte
    simp
set_option maxRecDepth 100000 in
set_option maxHeartbeats 1000000 in
theorem findB_t (w : World) (v : ByteArray) (hv : v.size ≤ 1000000) : Calls Tryz.prog 116 #[.string v] w fun e w' => e = .returned (.string ⟨(webM (sha v.data.toList)).toArray⟩) ∧ Fr [] w w' := by
  obtain ⟨cW, cC, hcv, hcF, hcB, hcS, hcc⟩ := conv_any v
  have hlen := sha_length v.data.toList
  have hsum := sum1_t (cW w) _ _ (cC w) _ (hcB w w.heap.size rfl) (hcc w) (by omega)
  have hF0 := Lib.hid (hcF w)
  obtain ⟨D, HD⟩ : ∃ z, Hid (sha v.data.toList = z) := ⟨_, Lib.hid rfl⟩
  rw [HD.out] at hsum hlen ⊢
  have hpos := webM_pos (l := D) (by omega)
  clear hcB hcS hcc hcF
  go_enter Tryz.func116, Tryz.ntmps116
  go_wp2_with fail
  refine hsum.mono ?_
  rintro e W1 ⟨rfl, F1⟩
  have f1 := Lib.hid (hF0.out.trans F1)
  clear hsum F1 hcv
  go_upto_region 2 with (refine wpList_store_row rfl 149 _ _ rfl W1.heap.size (digCells D) rfl rfl 149 _ (Blk.new W1 149 _) (infoDigA hlen) (by rw [digCells_size hlen]; rfl) (digCells_one D) ?_)
  refine wp_gen (fun W2 => Blk W2 W1.heap.size 149 (digCells D) ∧ Fr [] W1 W2) ⟨Blk.setRow (Blk.new W1 149 _) _, ((Fr.refl _ _).alloc _).setRow (.inr (Nat.le_refl _)) _⟩ ?_
  rintro W2 ⟨hB2, F2⟩
  obtain ⟨gd, HGD⟩ : ∃ z, Hid (W1.heap.size = z) := ⟨_, Lib.hid rfl⟩
  rw [HGD.out] at hB2 ⊢
  have hweb := web_t W2 _ 32 32 D (byts_dig hB2 hlen) (by decide) hpos
  have f2 := Lib.hid (f1.out.trans F2)
  have hgl := hB2.lt
  clear F2 hB2
  go_wp2_with (go_at_call 118; refine hweb.mono ?_; rintro e W3 ⟨rfl, F3⟩)
  go_ret
  exact ⟨rfl, f2.out.trans F3⟩
set_option maxRecDepth 100000 in
theorem findC_t (w : World) (c : ByteArray) (hc : c.size ≤ 1000000) : Calls Tryz.prog 119 #[.string c] w fun e w' => e = .returned (.bool ((unwebM c.data.toList).any fun b => decide (b.length = 32))) ∧ Fr [] w w' := by
  have hu := unweb_t w c hc
  cases hr : unwebM c.data.toList with
  | none =>
    rw [hr] at hu
    go_enter Tryz.func119, Tryz.ntmps119
    go_wp2_with (go_at_call 120; refine Calls.mono (show Calls Tryz.prog 120 _ _ _ from hu) ?_; rintro e w' ⟨rfl, F⟩)
    go_ret
    exact ⟨rfl, F⟩
  | some bs =>
    rw [hr] at hu
    by_cases h32 : bs.length = 32
    · have h32' : ((bs.length : Int) == 32) = true := by rw [beq_iff_eq]; omega
      have h32h := Lib.hid h32
      clear h32
      go_enter Tryz.func119, Tryz.ntmps119
      go_wp2_with (go_at_call 120; refine Calls.mono (show Calls Tryz.prog 120 _ _ _ from hu) ?_; rintro e w' ⟨v, rfl, A2, c2, rfl, O2, R2, F2⟩)
      go_ret
      exact ⟨ret_eq (by rw [Option.any_some, decide_eq_true h32h.out]), F2⟩
    · have h32' : ((bs.length : Int) == 32) = false := by rw [beq_eq_false_iff_ne]; omega
      have h32h := Lib.hid h32
      clear h32
      go_enter Tryz.func119, Tryz.ntmps119
      go_wp2_with (go_at_call 120; refine Calls.mono (show Calls Tryz.prog 120 _ _ _ from hu) ?_; rintro e w' ⟨v, rfl, A2, c2, rfl, O2, R2, F2⟩)
      go_ret
      exact ⟨ret_eq (by rw [Option.any_some, decide_eq_false h32h.out]), F2⟩
end Go.Proofs.YtdeoinjjphdbmaaGreat
