/- Walks: known: it returns true. Conditions: none. -/
import Derived.Test.YthnienoefnfnpaaWg
import Derived.Laws.BytesString
namespace Go.Proofs.Ythnienoefnfnpaa
open Go.RowKit Go.Sig

theorem byts_block {w : World} {g : Nat} {l : List UInt8} {cs : Array Value} (h : Blk w g 5 cs) (hc : cs = (l.map bv).toArray) : Byts w (some ⟨g, 0, none⟩) l.length l := by
  refine ⟨by simp, fun _ => ⟨g, 0, rfl, fun j u hu => ?_⟩⟩
  rw [Nat.zero_add, h.cell, hc]
  simpa using hu

theorem u22 : Try.prog.underlying 22 = some (.slice 5) := by kernel_rfl
theorem u5 : Try.prog.underlying 5 = some (.int .u8) := by kernel_rfl
theorem u9 : Try.prog.underlying 9 = some .string := by kernel_rfl
theorem conv_new (x : UInt8) (w : World) : ∃ w', (convert 22 22 (.slice (some ⟨w.heap.size, 0, none⟩) 1 1)).run Try.prog (w.alloc (.cells #[bv x] 5)) = .ok (.slice (some ⟨w.heap.size, 0, none⟩) 1 1) w' ∧ Fr [] w w' ∧ Byts w' (some ⟨w.heap.size, 0, none⟩) 1 [x] := by
  have hb := Blk.new w 5 #[bv x]
  have hb' := hb
  unfold Blk at hb'
  refine ⟨(w.alloc (.cells #[bv x] 5)).freeze ⟨w.heap.size, 1, none⟩ 1, ?_, ?_, ?_⟩
  · have hsh : (w.alloc (.cells #[bv x] 5)).shape? w.heap.size = some (5, 1) := by unfold World.shape?; rw [hb']; rfl
    simp [convert, run_underlying u22, run_underlying u5, markStringish, hsh, Result.andThen]
  · have hs : (w.alloc (.cells #[bv x] 5)).heap.size = w.heap.size + 1 := by simp
    refine Fr.andThen (b := w.alloc (.cells #[bv x] 5)) (T := [w.heap.size]) ((Fr.refl [] w).alloc _) ⟨rfl, rfl, rfl, by simp [World.freeze], fun i hi hn => ?_⟩ (by simp)
    have : w.heap.size ≠ i := fun e => hn (by simp [e])
    simp [World.freeze, Array.getElem?_modify, this]
  · refine ⟨rfl, fun _ => ⟨w.heap.size, 0, rfl, fun j u hu => ?_⟩⟩
    have : ((w.alloc (.cells #[bv x] 5)).freeze ⟨w.heap.size, 1, none⟩ 1).heap[w.heap.size]? = some (.cells #[bv x] 5 (1, 2)) := by
      unfold World.freeze
      rw [if_neg (by decide)]
      show ((w.alloc (.cells #[bv x] 5)).heap.modify w.heap.size _)[w.heap.size]? = _
      rw [Array.getElem?_modify, if_pos rfl, hb']
      rfl
    rw [Nat.zero_add, cell_of_row _ w.heap.size j #[bv x] 5 (1, 2) this]
    simpa using hu
theorem conv22s {A : Option Addr} {n c : Nat} {w : World} (h : Byts w A n [98]) : (convert 22 9 (.slice A n c)).run Try.prog w = .ok (.string ⟨#[98]⟩) w := by
  have hn : n = 1 := h.length.symm
  subst hn
  obtain ⟨b, o, rfl, hc⟩ := h.2 (by omega)
  rw [run_convert_bytes_string w 22 9 5 _ _ _ u22 u5 u9]
  have := run_loadCells_list (P := Try.prog) w ⟨b, o, none⟩ ([98].map bv) (fun j u hu => by rw [Addr.add_lit]; exact hc j u hu)
  rw [run_bytesToString w ⟨b, o, none⟩ 1 c [98] (by simpa [bv] using this)]
  rfl

set_option maxRecDepth 100000 in
theorem known_t (w : World) : Calls Try.prog 9 #[] w fun e w' => e = .returned (.bool true) ∧ Fr [] w w' := by
  go_enter Try.func9, Try.ntmps9
  go_wp2_with fail
  refine (new_good 3 _ (by decide)).mono ?_
  rintro e w1 ⟨b, F, rfl, h1, f1, n1, hb1⟩
  obtain ⟨wa, ha, fa, ra⟩ := conv_new 97 w1
  rw [show bv 97 = .int .u8 97 from rfl] at ha
  go_wp2_with fail
  refine (send_t 0 1 _ 1 1 [97] (h1.nilfr fa) (by constructor <;> decide) (by constructor <;> decide) ra (fun h => by cases h)).mono ?_
  rintro e w2 ⟨F2, rfl, h2, g2, hb2⟩
  have e2 : LaneM.send ⟨3, [], []⟩ 0 1 [97] = ⟨3, [⟨0, 1, [97]⟩], []⟩ := rfl
  have G2 := (Went.quiet (F := F) fa).trans g2
  rw [e2] at h2
  clear g2 h1 e2 ha fa ra
  obtain ⟨wb, ha, fa, ra⟩ := conv_new 98 w2
  rw [show bv 98 = .int .u8 98 from rfl] at ha
  go_wp2_with fail
  refine (send_t 1 2 _ 1 1 [98] (h2.nilfr fa) (by constructor <;> decide) (by constructor <;> decide) ra (fun h => by cases h)).mono ?_
  rintro e w3 ⟨F3, rfl, h3, g3, hb3⟩
  have e3 : LaneM.send ⟨3, [⟨0, 1, [97]⟩], []⟩ 1 2 [98] = ⟨3, [⟨0, 1, [97]⟩, ⟨1, 2, [98]⟩], []⟩ := rfl
  have G3 := G2.trans ((Went.quiet (F := F2) fa).trans g3)
  rw [e3] at h3
  clear g3 h2 G2 e3 ha fa ra
  go_wp2_with fail
  refine (shut_t 0 1 h3 (by constructor <;> decide) (by constructor <;> decide)).mono ?_
  rintro e w4 ⟨F4, rfl, h4, g4, hb4⟩
  have e4 : LaneM.link ⟨3, [⟨0, 1, [97]⟩, ⟨1, 2, [98]⟩], []⟩ 0 1 true = ⟨3, [⟨0, 1, [97]⟩, ⟨1, 2, [98]⟩], [((0, 1), true)]⟩ := rfl
  have G4 := G3.trans g4
  rw [e4] at h4
  clear g4 h3 G3 e4
  go_wp2_with fail
  refine (take_t 0 h4 (by constructor <;> decide)).mono ?_
  rintro e w5 ⟨F5, pc, rfl, h5, g5, hb5, hz, -⟩
  have e5 : takeE ⟨3, [⟨0, 1, [97]⟩, ⟨1, 2, [98]⟩], [((0, 1), true)]⟩ 0 = 9 := rfl
  have e5' : LaneM.take ⟨3, [⟨0, 1, [97]⟩, ⟨1, 2, [98]⟩], [((0, 1), true)]⟩ 0 = ⟨3, [⟨0, 1, [97]⟩, ⟨1, 2, [98]⟩], [((0, 1), true)]⟩ := rfl
  obtain rfl := hz (by rw [e5]; decide)
  rw [e5'] at h5
  rw [e5]
  have G5 := G4.trans g5
  clear g5 h4 G4 e5 e5' hz
  go_upto_region 8 with (fail)
  refine wp_gen (fun W => LaneAt W b F5 ⟨3, [⟨0, 1, [97]⟩, ⟨1, 2, [98]⟩], [((0, 1), true)]⟩ ∧ Went w1 W F F5) ⟨h5.nilfr ((Fr.refl [] _).alloc _), G5.trans (Went.quiet ((Fr.refl [] _).alloc _))⟩ ?_
  generalize w5.heap.size = g5 at *
  clear h5 G5
  rintro W ⟨h5, G5⟩
  go_wp2_with fail
  refine (next_t h5).mono ?_
  rintro e w6 ⟨rfl, f6⟩
  have e6 : LaneM.next ⟨3, [⟨0, 1, [97]⟩, ⟨1, 2, [98]⟩], [((0, 1), true)]⟩ = 1 := rfl
  rw [e6]
  clear e6
  go_wp2_with fail
  refine (take_t 1 (h5.nilfr f6) (by constructor <;> decide)).mono ?_
  rintro e w7 ⟨F7, pc, rfl, h7, g7, hb7, -, hy⟩
  have e7 : takeE ⟨3, [⟨0, 1, [97]⟩, ⟨1, 2, [98]⟩], [((0, 1), true)]⟩ 1 = 0 := rfl
  have e7' : LaneM.take ⟨3, [⟨0, 1, [97]⟩, ⟨1, 2, [98]⟩], [((0, 1), true)]⟩ 1 = ⟨3, [⟨0, 1, [97]⟩], [((0, 1), true)]⟩ := rfl
  obtain ⟨hp, -⟩ := hy e7
  rw [e7'] at h7
  rw [e7]
  have G7 := G5.trans ((Went.quiet f6).trans g7)
  have hby : Byts w7 pc.a pc.n [98] := hp.own.rd
  clear g7 h5 G5 e7 e7' f6 hy hp
  go_upto_region 9 with (fail)
  refine wp_gen (fun W => LaneAt W b F7 ⟨3, [⟨0, 1, [97]⟩], [((0, 1), true)]⟩ ∧ Went w1 W F F7 ∧ Byts W pc.a pc.n [98] ∧ W.cell? ⟨w7.heap.size, 2, none⟩ = some (.slice pc.a pc.n pc.c)) ⟨h7.nilfr ((Fr.refl [] _).alloc _), G7.trans (Went.quiet ((Fr.refl [] _).alloc _)), Rd.fr hby ((Fr.refl [] _).alloc _) (by simp [Off]), (Blk.new _ _ _).c3.2.2⟩ ?_
  generalize w7.heap.size = g7 at *
  clear h7 G7 hby
  rintro W' ⟨h7, G7, hby, hcell⟩
  have hcs := conv22s (c := pc.c) hby
  obtain ⟨m, v, ps, hI, hw, hF7⟩ := h7
  go_wp2_with fail
  refine (count_t hI).mono ?_
  rintro e w8 ⟨rfl, rfl⟩
  have hlen : (ps.length : Int) = 1 := by
    have := congrArg List.length hw
    simp at this
    omega
  rw [hlen]
  go_wp2_with fail
  refine (next_t (L := ⟨3, [⟨0, 1, [97]⟩], [((0, 1), true)]⟩) ⟨m, v, ps, hI, hw, hF7⟩).mono ?_
  rintro e w9 ⟨rfl, f9⟩
  have e9 : LaneM.next ⟨3, [⟨0, 1, [97]⟩], [((0, 1), true)]⟩ = -1 := rfl
  rw [e9]
  clear e9
  have fin := (f1.andThen (G7.fr.andThen f9.nil (fun g hg => .inl hg)) (fun g hg => .inr (n1 g hg)))
  go_wp2
  go_ret
  exact ⟨rfl, fin⟩
end Go.Proofs.Ythnienoefnfnpaa
