/- Walks: what is within; texts alike; sets that aren't too great. Conditions: each theorem's own. -/
import Derived.Test.YtdeoinjjphdbmaaGreatGk
namespace Go.Proofs.YtdeoinjjphdbmaaGreat
open Go.RowKit Go.Sig

theorem within_true {a b : List ByteArray} (h : ∀ s, s ∈ a → isWord s = true → s ∈ b) : within a b = true := by
  unfold within
  rw [List.all_eq_true]
  intro s hs
  cases hw : isWord s with
  | false => rfl
  | true => exact List.any_eq_true.2 ⟨s, h s hs hw, by simp⟩
theorem within_false {a b : List ByteArray} {s : ByteArray} (h1 : s ∈ a) (h2 : isWord s = true) (h3 : s ∉ b) : within a b = false := by
  unfold within
  rw [List.all_eq_false]
  refine ⟨s, h1, ?_⟩
  rw [h2]
  simp only [Bool.not_true, Bool.false_or, List.any_eq_true, decide_eq_true_eq, not_exists, not_and]
  rintro x hx rfl
  exact h3 hx
set_option maxRecDepth 100000 in
set_option maxHeartbeats 4000000 in
theorem swithin_t (w : World) (A B : Option Addr) (n m c d : Nat) (a b : List ByteArray) (hA : Rd w 1 A n (strCells a)) (hn : a.length = n) (hB : Rd w 1 B m (strCells b)) (hm : b.length = m) (hmax : n ≤ 150000000000000) (hmax2 : m ≤ 150000000000000)
    (hsa : ∀ s ∈ a, s.size ≤ 150000000000000) (hsb : ∀ s ∈ b, s.size ≤ 150000000000000) :
    Calls Tryz.prog 58 #[.slice A n c, .slice B m d] w fun e w' => e = .returned (.bool (within a b)) ∧ Fr [] w w' := by
  have hF : Fr [] w (w.alloc (.cells #[.slice B m d] 28)) := (Fr.refl _ _).alloc _
  have hgb := gath_t (w.alloc (.cells #[.slice B m d] 28)) w.heap.size B m d b (by rw [(Blk.new w 28 #[.slice B m d]).cell]; rfl) (Rd.fr hB hF (by simp [Off])) hm hmax2 hsb
  have hga := Lib.hid (fun (W : World) (hF : Fr [] w W) => gath_t (W.alloc (.cells #[.slice A n c] 28)) W.heap.size A n c a (by rw [(Blk.new W 28 #[.slice A n c]).cell]; rfl) (Rd.fr hA (hF.alloc _) (by simp [Off])) hn hmax hsa)
  have hFh := Lib.hid hF
  clear hA hB hsa hsb hF
  go_enter Tryz.func58, Tryz.ntmps58
  go_wp2_with fail
  refine hgb.mono ?_
  rintro e W1 ⟨gb, rfl, hW1, F1, hgb1⟩
  have f1 := Lib.hid (hFh.out.trans F1)
  have hga1 := hga.out W1 f1.out
  have hW1h := Lib.hid hW1
  have hgbl : gb < W1.heap.size := by obtain ⟨M, h, _⟩ := hW1; exact h.lt
  clear hgb F1 hW1
  go_wp2_with fail
  refine hga1.mono ?_
  rintro e W2 ⟨gm, rfl, ⟨M, hM, hq, hv⟩, F2, hgm⟩
  have hF12 : Fr [] W1 (W1.alloc (.cells #[.slice A n c] 28)) := (Fr.refl _ _).alloc _
  have f12 := Lib.hid (hF12.trans F2)
  obtain ⟨lbm, clock, hBm, hlbm⟩ := hM.stamps
  have hlbh := Lib.hid (show lbm.map (·.1) = M.map (·.1) by
    rw [← hlbm, List.map_map]
    rfl)
  have hqh := Lib.hid hq
  have hrun := hBm.run_range uMsb
  have hBmh := Lib.hid hBm
  have hW2 := Lib.hid (hW1h.out.fr f12.out (by simp))
  have hgb2 : gb < W2.heap.size := Nat.lt_of_lt_of_le hgbl f12.out.size
  clear hM hq hv hlbm hga1 F2 hF12
  go_wp2_with fail
  obtain ⟨r, HR⟩ : ∃ z, Hid (W2.heap.size = z) := ⟨_, Lib.hid rfl⟩
  go_loopg [6] (lbm.length + 1) (fun gk s6 wr => ∃ (seen : Array Nat), (todo lbm seen).length < gk ∧ It wr W2.heap.size gm clock seen ∧ IsMapB wr gm Value.string Value.bool lbm clock ∧ (∀ x ∈ lbm, x ∈ todo lbm seen ∨ x.1 ∈ b) ∧ Fr [] W2 wr)
  case atStart =>
    refine ⟨#[], by have := List.length_filter_le (fun x : ByteArray × Bool × Nat => !(#[] : Array Nat).contains x.2.2) lbm; unfold todo; omega, It.new W2 gm clock, hBmh.out.fr ((Fr.refl [] W2).alloc _) (by simp), fun x hx => .inl ?_, (Fr.refl _ _).alloc _⟩
    rw [show todo lbm #[] = lbm from List.filter_eq_self.2 fun y _ => by simp]
    exact hx
  case round =>
    obtain ⟨seen, hk, hI, hMr, hall, hF⟩ := hrel
    have hallh := Lib.hid hall
    have hFh2 := Lib.hid hF
    have hrl := hI.lt
    clear hall hF
    go_upto_region 5 with (first
      | (refine wpList_map_next hMr hI rfl rfl rfl (fun h0 => ?_) (fun x wn hx hIn hMn ht => ?_))
      | (refine wpList_map_entry hMn hIn (mem_todo hx) rfl rfl rfl ?_))
    · go_wp2_with fail
      go_ret
      refine ⟨ret_eq (within_true fun s hs hw => ?_).symm, f1.out.trans (f12.out.trans hFh2.out)⟩
      have hmem : s ∈ lbm.map (·.1) := by
        rw [hlbh.out]
        exact (hqh.out s).2 ⟨hs, hw⟩
      obtain ⟨x, hx, rfl⟩ := List.mem_map.1 hmem
      rcases hallh.out x hx with h | h
      · rw [h0] at h
        cases h
      · exact h
    · have hFn := Lib.hid (hFh2.out.andThen ht.fr (fun x hx => .inr (by simp at hx; omega)))
      obtain ⟨Mb, hMb, hqb, hvb⟩ := hW2.out.fr hFn.out (by simp)
      have hxa := Lib.hid ((hqh.out x.1).1 (by rw [← hlbh.out]; exact List.mem_map.2 ⟨x, mem_todo hx, rfl⟩))
      by_cases hxb : x.1 ∈ b
      · have hag : aget x.1 Mb = some true := by
          have hk2 := (hqb x.1).2 ⟨hxb, hxa.out.2⟩
          obtain ⟨p, hp, e⟩ := List.mem_map.1 hk2
          have := aget_of_mem (k := p.1) (v := p.2) hMb.nodup hp
          rw [e, hvb p hp] at this
          exact this
        have hxbh := Lib.hid hxb
        clear hxb
        go_wp2_with (refine wpList_map_get hMb kStr uMsb (z := .bool false) (fun _ => rfl) x.1 rfl rfl rfl rfl ?_; rw [hag]; simp only [Option.map_some, Option.getD_some])
        go_roundg ((todo lbm (seen.push x.2.2)).length + 1)
        case measure => have := todo_lt hx; omega
        case rel =>
          refine ⟨_, Nat.lt_succ_self _, hIn, hMn, fun y hy => ?_, hFn.out⟩
          rcases hallh.out y hy with h | h
          · by_cases e : y.2.2 = x.2.2
            · right
              have : y = x := inj_of_nodup (hBmh.out.inc.imp (fun {a b} (h : a < b) (e : a = b) => by omega) : (lbm.map (·.2.2)).Nodup) hy (mem_todo hx) e
              rw [this]
              exact hxbh.out
            · left
              unfold todo at h ⊢
              simp only [List.mem_filter, Array.contains_push, Bool.not_or, Bool.and_eq_true, Bool.not_eq_true', beq_eq_false_iff_ne, ne_eq] at h ⊢
              first
                | exact ⟨h.1, h.2, e⟩
                | exact ⟨h.1, e, h.2⟩
                | exact ⟨h.1, h.2, fun e2 => e e2.symm⟩
                | exact ⟨h.1, fun e2 => e e2.symm, h.2⟩
          · exact .inr h
      · have hag : aget x.1 Mb = none := aget_none_iff.2 fun hk2 => hxb ((hqb x.1).1 hk2).1
        have hxbh := Lib.hid hxb
        clear hxb
        go_wp2_with (refine wpList_map_get hMb kStr uMsb (z := .bool false) (fun _ => rfl) x.1 rfl rfl rfl rfl ?_; rw [hag]; simp only [Option.map_none, Option.getD_none])
        go_ret
        exact ⟨ret_eq (within_false hxa.out.1 hxa.out.2 hxbh.out).symm, f1.out.trans (f12.out.trans hFn.out)⟩
end Go.Proofs.YtdeoinjjphdbmaaGreat
