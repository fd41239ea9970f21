/- Walks: what may be a challenge; does a verifier meet it. Conditions: each theorem's own. -/
import Derived.Test.YtdeoinjjphdbmaaGreatGg
namespace Go.Proofs.YtdeoinjjphdbmaaGreat
open Go.RowKit Go.Sig

/-! ### '[]byte(s)', with no look inside -/
theorem cell_fr {w w' : World} {a : Addr} {v : Value} (hf : Fr [] w w') (h : w.cell? a = some v) : w'.cell? a = some v := (hf.cell (block_lt_of_cell h) (by simp)).trans h

def convC (s : ByteArray) (w : World) : Nat := grownCap w s.size 0 5
def convW (s : ByteArray) (w : World) : World := w.drew.alloc (.cells (bytesRow s (convC s w)) 5 ((bytesRow s (convC s w)).size, (bytesRow s (convC s w)).size + 1))
theorem conv_run (s : ByteArray) (w : World) : (convert 9 119 (.string s)).run Tryz.prog w = .ok (.slice (some ⟨w.heap.size, 0, none⟩) s.size (convC s w)) (convW s w) :=
  run_bytes_of_string w 9 119 5 s tStr tBytes (by kernel_rfl)
theorem convC_ge (s : ByteArray) (w : World) : s.size ≤ convC s w := grownCap_ge _ _ _ _
@[simp] theorem convW_size (s : ByteArray) (w : World) : (convW s w).heap.size = w.heap.size + 1 := by simp [convW]
theorem convW_fr (s : ByteArray) (w : World) : Fr [] w (convW s w) := ((Fr.refl [] w).drew).alloc _
theorem byts_cvn {s : ByteArray} {w : World} {g : Nat} (hg : g = w.heap.size) : Byts (convW s w) (some ⟨g, 0, none⟩) s.size s.data.toList := by
  subst hg
  have hds : s.data.toList.length = s.size := by rw [Array.length_toList]; rfl
  refine ⟨by rw [List.length_map, hds, Nat.mul_one], fun _ => ⟨w.heap.size, 0, rfl, fun j v hv => ?_⟩⟩
  have hj : j < s.data.size := by
    have := (List.getElem?_eq_some_iff.1 hv).1
    simpa using this
  have e : (convW s w).heap[w.heap.size]? = some (.cells (bytesRow s (convC s w)) 5 ((bytesRow s (convC s w)).size, (bytesRow s (convC s w)).size + 1)) := heap_alloc_new w.drew _
  rw [Nat.zero_add]
  have e2 := cell_of_row (convW s w) w.heap.size j _ _ _ e
  rw [e2, bytesRow_at s _ j hj, ← hv, List.getElem?_map, Array.getElem?_toList, Array.getElem?_eq_getElem hj]
  rfl
theorem conv_any (s : ByteArray) : ∃ (cW : World → World) (cC : World → Nat), (∀ w, (convert 9 119 (.string s)).run Tryz.prog w = .ok (.slice (some ⟨w.heap.size, 0, none⟩) s.size (cC w)) (cW w)) ∧ (∀ w, Fr [] w (cW w)) ∧
    (∀ w g, g = w.heap.size → Byts (cW w) (some ⟨g, 0, none⟩) s.size s.data.toList) ∧ (∀ w, (cW w).heap.size = w.heap.size + 1) ∧ (∀ w, s.size ≤ cC w) :=
  ⟨convW s, convC s, conv_run s, convW_fr s, fun _ _ h => byts_cvn h, convW_size s, convC_ge s⟩


theorem byts_dig {w : World} {g : Nat} {t : TypeId} {l : List UInt8} (h : Blk w g t (digCells l)) (hl : l.length = 32) : Byts w (some ⟨g, 0, none⟩) 32 l := byts_new h rfl hl
theorem findA_t (w : World) (v : ByteArray) : Calls Tryz.prog 115 #[.string v] w fun e w' => e = .returned (.string v) ∧ w = w' := by
  go_enter Tryz.func115, Tryz.ntmps115
  go_wp2
  go_ret
  exact ⟨rfl, rfl⟩
theorem sixGo_pos : ∀ (l : List UInt8) (h n : Nat) (out : List UInt8), 0 < out.length → 0 < (sixGo l h n out).length
  | [], h, n, out, ho => by
    rw [sixGo]
    split
    · exact ho
    · rw [List.length_append]
      omega
  | x :: l, h, n, out, ho => by
    rw [sixGo]
    exact sixGo_pos l _ _ _ (by rw [List.length_append]; omega)
theorem webM_pos {l : List UInt8} (h : 0 < l.length) : 0 < (webM l).length := by
  cases l with
  | nil => simp at h
  | cons x l =>
    unfold webM
    rw [sixGo]
    refine sixGo_pos l _ _ _ ?_
    unfold sixByte
    simp
set_option maxRecDepth 100000 in
set_option maxHeartbeats 1000000 in
theorem findB_t (w : World) (v : ByteArray) (hv : v.size ≤ 1000000) : Calls Tryz.prog 116 #[.string v] w fun e w' => e = .returned (.string ⟨(webM (sha v.data.toList)).toArray⟩) ∧ Fr [] w w' := by
  obtain ⟨cW, cC, hcv, hcF, hcB, hcS, hcc⟩ := conv_any v
  have hlen := sha_length v.data.toList
  have hsum := sum1_t (cW w) _ _ (cC w) _ (hcB w w.heap.size rfl) (hcc w) (by omega)
  have hF0 := Lib.hid (hcF w)
  obtain ⟨D, HD⟩ : ∃ z, Hid (sha v.data.toList = z) := ⟨_, Lib.hid rfl⟩
  rw [HD.out] at hsum hlen ⊢
  have hpos := webM_pos (l := D) (by omega)
  clear hcB hcS hcc hcF
  go_enter Tryz.func116, Tryz.ntmps116
  go_wp2_with fail
  refine hsum.mono ?_
  rintro e W1 ⟨rfl, F1⟩
  have f1 := Lib.hid (hF0.out.trans F1)
  clear hsum F1 hcv
  go_upto_region 2 with (refine wpList_store_row rfl 149 _ _ rfl W1.heap.size (digCells D) rfl rfl 149 _ (Blk.new W1 149 _) (infoDigA hlen) (by rw [digCells_size hlen]; rfl) (digCells_one D) ?_)
  refine wp_gen (fun W2 => Blk W2 W1.heap.size 149 (digCells D) ∧ Fr [] W1 W2) ⟨Blk.setRow (Blk.new W1 149 _) _, ((Fr.refl _ _).alloc _).setRow (.inr (Nat.le_refl _)) _⟩ ?_
  rintro W2 ⟨hB2, F2⟩
  obtain ⟨gd, HGD⟩ : ∃ z, Hid (W1.heap.size = z) := ⟨_, Lib.hid rfl⟩
  rw [HGD.out] at hB2 ⊢
  have hweb := web_t W2 _ 32 32 D (byts_dig hB2 hlen) (by decide) hpos
  have f2 := Lib.hid (f1.out.trans F2)
  have hgl := hB2.lt
  clear F2 hB2
  go_wp2_with (go_at_call 118; refine hweb.mono ?_; rintro e W3 ⟨rfl, F3⟩)
  go_ret
  exact ⟨rfl, f2.out.trans F3⟩
set_option maxRecDepth 100000 in
theorem findC_t (w : World) (c : ByteArray) (hc : c.size ≤ 1000000) : Calls Tryz.prog 119 #[.string c] w fun e w' => e = .returned (.bool ((unwebM c.data.toList).any fun b => decide (b.length = 32))) ∧ Fr [] w w' := by
  have hu := unweb_t w c hc
  cases hr : unwebM c.data.toList with
  | none =>
    rw [hr] at hu
    go_enter Tryz.func119, Tryz.ntmps119
    go_wp2_with (go_at_call 120; refine Calls.mono (show Calls Tryz.prog 120 _ _ _ from hu) ?_; rintro e w' ⟨rfl, F⟩)
    go_ret
    exact ⟨rfl, F⟩
  | some bs =>
    rw [hr] at hu
    by_cases h32 : bs.length = 32
    · have h32' : ((bs.length : Int) == 32) = true := by rw [beq_iff_eq]; omega
      have h32h := Lib.hid h32
      clear h32
      go_enter Tryz.func119, Tryz.ntmps119
      go_wp2_with (go_at_call 120; refine Calls.mono (show Calls Tryz.prog 120 _ _ _ from hu) ?_; rintro e w' ⟨v, rfl, A2, c2, rfl, O2, R2, F2⟩)
      go_ret
      exact ⟨ret_eq (by rw [Option.any_some, decide_eq_true h32h.out]), F2⟩
    · have h32' : ((bs.length : Int) == 32) = false := by rw [beq_eq_false_iff_ne]; omega
      have h32h := Lib.hid h32
      clear h32
      go_enter Tryz.func119, Tryz.ntmps119
      go_wp2_with (go_at_call 120; refine Calls.mono (show Calls Tryz.prog 120 _ _ _ from hu) ?_; rintro e w' ⟨v, rfl, A2, c2, rfl, O2, R2, F2⟩)
      go_ret
      exact ⟨ret_eq (by rw [Option.any_some, decide_eq_false h32h.out]), F2⟩
end Go.Proofs.YtdeoinjjphdbmaaGreat
