/- Tables that are put together in any order; walks of the trie: Sketch; Diff of tables with one digest. Conditions: each theorem's own. -/
import Derived.Test.YtlhkkffljjbdmaaUk
namespace Go.Proofs.Ytlhkkffljjbdmaa
open Go.RowKit Go.Sig

/-! ### Tables in any order -/
theorem newR_perm : ∀ {ps acc l : List Pr}, Rising acc → (acc ++ ps).Perm l → Good l → newR ps acc = (0, l)
  | [], acc, l, ha, hp, hl => by
    rw [List.append_nil] at hp
    rw [rising_ext ha hl.rising hp]
    rfl
  | y :: ps, acc, l, ha, hp, hl => by
    have hmem : y ∈ l := hp.mem_iff.1 (by simp)
    have hnd : ((acc ++ y :: ps).map (·.1)).Nodup := (hp.map (·.1)).nodup_iff.2 (rising_nodup hl.rising)
    have hno : ∀ z ∈ acc, z.1 ≠ y.1 := by
      rw [List.map_append, List.map_cons] at hnd
      intro z hz e
      exact (List.nodup_append.1 hnd).2.2 z.1 (List.mem_map.2 ⟨z, hz, rfl⟩) y.1 (by simp) e
    have hag : aget y.1 acc = none := by
      rw [aget_none_iff]
      intro hm
      obtain ⟨z, hz, e⟩ := List.mem_map.1 hm
      exact hno z hz e
    have hlen := hp.length_eq
    have hf := hl.fits y hmem
    have he : putE y.1 y.2 acc = 0 := putE_zero (by unfold fitsE; rw [if_neg (by omega), if_neg (by omega)]) (by
      rintro ⟨_, h4⟩
      have := hl.few
      rw [List.length_append, List.length_cons] at hlen
      omega)
    rw [newR, if_pos he]
    refine newR_perm (put_rising ha) ?_ hl
    have h1 : (put y acc).Perm (acc ++ [y]) := by
      have := put_perm (x := y) ha
      rwa [del_all hno] at this
    refine ((h1.append_right ps).trans ?_).trans hp
    rw [List.append_assoc]
    rfl
theorem swap_perm {l : List Pr} {i k : Nat} (hi : i < l.length) (hk : k < l.length) : ((l.set i l[k]).set k l[i]).Perm l := List.set_set_perm hi hk

/-! ### The digests of sixteen prefixes -/
def SketchOk (l : List Pr) (cs : Array Value) (i : Nat) : Prop := cs.size = 512 ∧ ∀ k, k < i → Sub cs (k * 32) ((nodeD l [(k : Int)]).map bv)
theorem sketch_ext {l : List Pr} {cs ds : Array Value} (h1 : SketchOk l cs 16) (h2 : SketchOk l ds 16) : cs = ds := by
  apply Array.ext (by rw [h1.1, h2.1])
  intro j hj1 hj2
  have hj : j < 512 := by rw [← h1.1]; exact hj1
  have hl : ((nodeD l [((j / 32 : Nat) : Int)]).map bv).length = 32 := by rw [List.length_map, nodeD_length]
  have hx := List.getElem?_eq_getElem (l := (nodeD l [((j / 32 : Nat) : Int)]).map bv) (show j % 32 < _ by rw [hl]; omega)
  have e1 := h1.2 (j / 32) (by omega) (j % 32) _ hx
  have e2 := h2.2 (j / 32) (by omega) (j % 32) _ hx
  rw [show j / 32 * 32 + j % 32 = j by omega] at e1 e2
  rw [Array.getElem?_eq_getElem hj1] at e1
  rw [Array.getElem?_eq_getElem hj2] at e2
  exact Option.some.inj (e1.trans e2.symm)
theorem sketch_one {l : List Pr} {cs : Array Value} (h : SketchOk l cs 16) : cs.all (fun x => x.oneCell') = true := by
  rw [Array.all_eq_true]
  intro j hj1
  have hj : j < 512 := by rw [← h.1]; exact hj1
  have hx := List.getElem?_eq_getElem (l := (nodeD l [((j / 32 : Nat) : Int)]).map bv) (show j % 32 < _ by rw [List.length_map, nodeD_length]; omega)
  have e1 := h.2 (j / 32) (by omega) (j % 32) _ hx
  rw [show j / 32 * 32 + j % 32 = j by omega, Array.getElem?_eq_getElem hj1] at e1
  rw [Option.some.inj e1, List.getElem_map]
  rfl
theorem run_equalIn_refl_arr {P : Program} (w : World) (d : Nat) (t e n k : Nat) (ht : P.underlying t = some (.array n e)) (hsz : ∀ w, (sizeOf e).run P w = .ok k w) (xs : Array Value)
    (h : ∀ i, i < n → ∃ p, (part e xs (i * k)).run P w = .ok p w ∧ (Op.equalIn d e p p).run P w = .ok true w) : (Op.equalIn (d + 1) t (.agg xs) (.agg xs)).run P w = .ok true w := by
  rw [Op.equalIn]
  simp only [Sem.run_bind, run_underlying ht, Result.andThen_ok, hsz, Std.Legacy.Range.forIn_eq_forIn_range', Std.Legacy.Range.size, Nat.sub_zero, Nat.add_sub_cancel, Nat.div_one]
  have hl : ∀ i ∈ List.range' 0 n 1, i < n := fun i hi => by simpa using (List.mem_range'_1.1 hi).2
  generalize List.range' 0 n 1 = l at hl ⊢
  induction l with
  | nil => simp
  | cons i l ih =>
    obtain ⟨p, h1, h2⟩ := h i (hl i (by simp))
    simp only [List.forIn_cons, Sem.run_bind, h1, h2, Result.andThen_ok]
    simp only [Bool.not_true, Bool.false_eq_true, if_false, Sem.run_pure, Result.andThen_ok]
    exact ih fun j hj => hl j (by simp [hj])
theorem uSketch : Try.prog.underlying 61 = some (.array 16 42) := by kernel_rfl
theorem infoSketch {cs : Array Value} (h : cs.size = 512) : (Try.prog.info? 61).map (·.size) = some cs.size := by rw [h]; kernel_rfl
theorem infoSketchL {cs : Array Value} (h : cs.size = 512) : (Try.prog.info? 61).map (·.size) = some cs.toList.length := by rw [Array.length_toList, h]; kernel_rfl
theorem eql_sketch {l : List Pr} {cs : Array Value} (h : SketchOk l cs 16) (w : World) : (binOp .eql 61 (.agg cs) (.agg cs)).run Try.prog w = .ok (.bool true) w := by
  rw [run_eql_struct, show (10000 : Nat) = 9999 + 1 from rfl, run_equalIn_refl_arr w 9999 61 42 16 32 uSketch (fun w => by kernel_rfl) cs (fun i hi => ?_)]
  · rfl
  · have hlen := nodeD_length l [(i : Int)]
    refine ⟨.agg ((nodeD l [(i : Int)]).map bv).toArray, ?_, ?_⟩
    · have e : cs.extract (i * 32) (i * 32 + 32) = ((nodeD l [(i : Int)]).map bv).toArray := by
        apply Array.ext (by simp [h.1, hlen]; omega)
        intro j h1 h2
        have hj : j < 32 := by simpa [hlen] using h2
        have hx := List.getElem?_eq_getElem (l := (nodeD l [(i : Int)]).map bv) (show j < _ by rw [List.length_map, hlen]; exact hj)
        have e1 := h.2 i hi j _ hx
        rw [Array.getElem_extract]
        rw [Array.getElem?_eq_getElem (by rw [h.1]; omega)] at e1
        simpa using Option.some.inj e1
      have hi2 : (isAgg 42).run Try.prog w = .ok true w := by kernel_rfl
      have hs2 : (sizeOf 42).run Try.prog w = .ok 32 w := by kernel_rfl
      simp [part, hi2, hs2, e, Result.andThen]
    · have := eql_dig (nodeD l [(i : Int)]) (nodeD l [(i : Int)]) hlen hlen w
      exact (run_equalIn_bytes w 9997 42 5 32 uDig (by kernel_rfl) (fun w => by kernel_rfl) (nodeD l [(i : Int)]) (nodeD l [(i : Int)]) hlen hlen).trans (by simp)

set_option maxRecDepth 100000 in
set_option maxHeartbeats 4000000 in
theorem sketch_t (w : World) (X : List Nat) (t : Nat) (l : List Pr) (hT : TrieIn w X t l) (hsm : Small l) :
   Calls Try.prog 28 #[.pointer (some ⟨t, 0, none⟩)] w fun e w' => ∃ cs, e = .returned (.agg cs) ∧ SketchOk l cs 16 ∧ Fr [] w w' := by
  have hTh := Lib.hid hT
  clear hT
  go_enter Try.func28, Try.ntmps28
  go_upto_region 2 with (fail)
  refine wp_gen (fun W => (∃ zs, Blk W w.heap.size 61 zs ∧ zs.size = 512) ∧ (∃ zs, Blk W (w.heap.size + 1) 61 zs ∧ zs.size = 512) ∧ Fr [] w W) ⟨⟨_, (Blk.new _ _ _).alloc _, by kernel_rfl⟩, ⟨_, Blk.new' _ _ (by simp), by kernel_rfl⟩, ((Fr.refl _ _).alloc _).alloc _⟩ ?_
  rintro W ⟨⟨zr, BR, hzr⟩, ⟨zs, BS, hzs⟩, fW⟩
  obtain ⟨gr, HGR⟩ : ∃ x, Hid (w.heap.size = x) := ⟨_, Lib.hid rfl⟩
  rw [HGR.out] at BR BS ⊢
  obtain ⟨gs, HGS⟩ : ∃ x, Hid (gr + 1 = x) := ⟨_, Lib.hid rfl⟩
  rw [HGS.out] at BS ⊢
  have hgrs : gr ≠ gs := by have := HGS.out; omega
  have hgsw : w.heap.size ≤ gs := by have := HGS.out; have := HGR.out; omega
  have BRh := Lib.hid BR
  have fWh := Lib.hid fW
  clear BR fW
  go_wp2_with fail
  go_loopg [4, 5, 8] 17 (fun gk s4 s5 s8 wr => ∃ (i : Nat) (cs : Array Value), s5 = .int .i64 i ∧ i ≤ 16 ∧ 16 - i < gk ∧ Blk wr gs 61 cs ∧ SketchOk l cs i ∧ Fr [gs] W wr)
  case atStart => exact ⟨0, zs, rfl, by omega, by omega, BS, ⟨hzs, fun k hk => by omega⟩, Fr.refl _ _⟩
  case round =>
    clear BS
    obtain ⟨i, cs, rfl, hi, hk, hB, hS, hF⟩ := hrel
    have hF0 : Fr [] w wr := fWh.out.andThen hF (fun x hx => .inr (by simp at hx; omega))
    have hFh := Lib.hid hF
    have hSh := Lib.hid hS
    by_cases hlt : i < 16
    · have hlt' : (i : Int) < 16 := by omega
      have hlth := Lib.hid hlt
      have hTr := hTh.out.fr0 hF0
      have hnode := node_t (wr.alloc (.cells #[.int .i64 (i : Int)] 3)) X t l (hTr.fr0 ((Fr.refl _ _).alloc _)) hsm (some ⟨wr.heap.size, 0, none⟩) 1 1 [(i : Int)] (ints_new (w := wr) rfl rfl) rfl (by decide)
      have hlen := nodeD_length l [(i : Int)]
      have hBa := hB.alloc (.cells #[.int .i64 (i : Int)] 3)
      obtain ⟨D, HD⟩ : ∃ x, Hid (nodeD l [(i : Int)] = x) := ⟨_, Lib.hid rfl⟩
      rw [HD.out] at hnode hlen
      obtain ⟨er, HER⟩ : ∃ x, Hid (nodeE [(i : Int)] = x) := ⟨_, Lib.hid rfl⟩
      rw [HER.out] at hnode
      have hF0h := Lib.hid hF0
      clear hTr hF hS hF0
      go_wp2_with fail
      refine hnode.mono ?_
      rintro e W4 ⟨rfl, F4⟩
      have hB4 := hBa.fr F4 (by simp)
      have hfit : i * 32 + (digCells D).size ≤ cs.size := by rw [digCells_size hlen, hSh.out.1]; omega
      have hgl := hB4.lt
      have F4h := Lib.hid (((Fr.refl [] wr).alloc (.cells #[.int .i64 (i : Int)] 3)).trans F4)
      clear hB hBa hnode F4
      go_wp2_with (refine wpList_store_at rfl 42 _ _ rfl (g := gs) (off := i * 32) (ys := digCells D) rfl rfl hB4 (infoDigA hlen) hfit (digCells_one' D) ?_)
      go_roundg (16 - i)
      case measure => omega
      case rel =>
        refine ⟨i + 1, _, by go_num, by have := hlth.out; omega, by have := hlth.out; omega, Blk.setRow hB4 _, ⟨?_, fun k hk => ?_⟩, (hFh.out.trans F4h.out.nil).setRow (.inl (by simp)) _⟩
        · rw [laid_size (by rw [Array.length_toList]; exact hfit)]
          exact hSh.out.1
        · have hfl : i * 32 + (digCells D).toList.length ≤ cs.size := by rw [Array.length_toList]; exact hfit
          by_cases hki : k = i
          · subst hki
            rw [HD.out]
            exact laid_sub hfl
          · intro j v hv
            have hj : j < 32 := by
              have := (List.getElem?_eq_some_iff.1 hv).1
              rwa [List.length_map, nodeD_length] at this
            rw [laid_far hfl (.inl (by omega))]
            exact hSh.out.2 k (by omega) j v hv
    · obtain rfl : i = 16 := by omega
      have hBR := BRh.out.fr hFh.out (by simpa using hgrs)
      have hF0h := Lib.hid hF0
      have hsz := hSh.out.1
      clear hlt hk hi hS hF0 hF
      go_wp2_with (first
        | (refine wpList_load_at rfl 61 _ rfl rfl hB (sub_self _) uSketch rfl (infoSketchL hsz) ?_; rw [Array.toArray_toList])
        | refine wpList_store_row rfl 61 _ _ rfl gr cs rfl rfl 61 zr hBR (infoSketch hsz) (by rw [hzr, hsz]) (sketch_one hSh.out) ?_)
      exact bodyPost_ret (v := .agg cs) (results_cell_row rfl _ _ gr 61 cs (0, 0) _ rfl (Blk.setRow hBR _) uSketch rfl (infoSketch hsz)) rfl ⟨cs, rfl, hSh.out, hF0h.out.setRow (.inr (by have := HGR.out; omega)) _⟩
end Go.Proofs.Ytlhkkffljjbdmaa
