/- Walks: maps.DeleteFunc with the closures of Void, Void. Conditions: each theorem's own. -/
import Derived.Test.YthegggfpofdcdaaWa
namespace Go.Proofs.Ythegggfpofdcdaa
open Go.RowKit Go.Sig

theorem close1_t (k : Int) (x : Lk) (g : Nat) (fam : ByteArray) (w : World) (hg : w.cell? ⟨g, 0, none⟩ = some (.string fam)) :
   Calls Try.prog 29 #[.int .i64 k, evLk x, .pointer (some ⟨g, 0, none⟩)] w fun e w' => e = .returned (.bool (decide (x.family = fam))) ∧ Fr [] w w' := by
  have hlt := block_lt_of_cell hg
  go_enter Try.func29, Try.ntmps29
  go_wp2
  go_ret
  exact ⟨ret_bool (toList_beq _ _), (Fr.refl _ _).alloc _⟩
theorem close2_t (k : ByteArray) (x : Kp) (g : Nat) (fam : ByteArray) (w : World) (hg : w.cell? ⟨g, 0, none⟩ = some (.string fam)) :
   Calls Try.prog 31 #[.string k, evKp x, .pointer (some ⟨g, 0, none⟩)] w fun e w' => e = .returned (.bool (decide (x.family = fam))) ∧ Fr [] w w' := by
  have hlt := block_lt_of_cell hg
  go_enter Try.func31, Try.ntmps31
  go_wp2
  go_ret
  exact ⟨ret_bool (toList_beq _ _), (Fr.refl _ _).alloc _⟩

theorem delf1_t (m g : Nat) (fam : ByteArray) (l : List (Int × Lk)) (w : World) (h : IsMap w m (Value.int .i64) evLk l) (hg : w.cell? ⟨g, 0, none⟩ = some (.string fam)) :
   Calls Try.prog 28 #[.map (some m), .func (.func 29) #[] #[.pointer (some ⟨g, 0, none⟩)]] w fun e w' => e = .returned (.tuple #[]) ∧
     IsMap w' m (Value.int .i64) evLk (l.filter fun p => !decide (p.2.family = fam)) ∧ Fr [m] w w' := by
  obtain ⟨lb, clock, hB, hl⟩ := h.stamps
  have hr := hB.run_range u55
  have hgl := block_lt_of_cell hg
  have hgm : g ≠ m := by
    rintro rfl
    exact IsMap.nostr h _ _ hg
  go_enter Try.func28, Try.ntmps28
  go_wp2_with fail
  let pd : Int × Lk × Nat → Bool := fun x => decide (x.2.1.family = fam)
  go_loopg [4] (lb.length + 1) (fun k _ wr => ∃ seen : Array Nat, (todo lb seen).length < k ∧ It wr w.heap.size m clock seen ∧ IsMapB wr m (Value.int .i64) evLk (keepL pd lb seen) clock ∧ Fr [m] w wr)
  case atStart => 
    exact ⟨#[], by have := List.length_filter_le (fun x : Int × Lk × Nat => !(#[] : Array Nat).contains x.2.2) lb; unfold todo; omega, It.new w m clock, by rw [keep_start]; exact hB.fr ((Fr.refl [] w).alloc _) (by simp), (Fr.refl _ _).alloc _⟩
  case round =>
    obtain ⟨seen, hk, hI, hM, hF⟩ := hrel
    have hcell : ∀ W, Fr [m] w W → W.cell? ⟨g, 0, none⟩ = some (.string fam) := fun W hW => (hW.cell (p := ⟨g, 0, none⟩) hgl (by simpa using hgm)).trans hg
    have hrm := hI.ne hM
    have hrl := hI.lt
    go_wp2_with (first | (refine wpList_map_next hM hI rfl rfl rfl (fun h0 => ?_) (fun x wn hx hIn hMn ht => ?_)) | (refine wpList_map_entry hMn hIn (mem_keep_of_todo pd (by rw [todo_keep] at hx; exact hx)) rfl rfl rfl ?_))
    · go_end0
      rw [todo_keep] at h0
      refine ⟨rfl, ?_, hF⟩
      have := hM.toMap
      rw [keep_end pd h0] at this
      rw [← hl, List.filter_map]
      exact this
    · have hF1 : Fr [m] w (wn.alloc (Obj.cells #[.string x.2.1.family, .int .i64 x.2.1.start, .string x.2.1.token] 62)) := (hF.andThen ht.fr (by simp)).alloc _
      have hM1 := hMn.fr ((Fr.refl [] wn).alloc (Obj.cells #[.string x.2.1.family, .int .i64 x.2.1.start, .string x.2.1.token] 62)) (by simp)
      have hI1 := hIn.fr ((Fr.refl [] wn).alloc (Obj.cells #[.string x.2.1.family, .int .i64 x.2.1.start, .string x.2.1.token] 62)) (by simp)
      refine (close1_t _ _ _ fam _ (hcell _ hF1)).mono ?_
      rintro e W ⟨rfl, fW⟩
      have hM2 := hM1.fr fW (by simp)
      have hI2 := hI1.fr fW (by simp)
      have hF2 : Fr [m] w W := hF1.trans fW.nil
      clear hM1 hI1 hF1 fW ht hIn hMn hM hI hF hr hcell
      rw [todo_keep] at hx
      by_cases hp : decide (x.2.1.family = fam) = true
      · have HP := Lib.hid hp
        rw [hp]
        clear hp
        go_wp2_with (refine wpList_map_delB hM2 k3 u55 x.1 rfl rfl rfl rfl ?_; intro w2 hm ht)
        have h3 : IsMapB w2 m (Value.int .i64) evLk (keepL pd lb (seen.push x.2.2)) clock := by
          rw [← keep_push_yes pd (hB.inc.imp (fun h e => by omega)) hB.nodup (mem_todo hx) HP.out]
          exact hm
        have h4 : It w2 w.heap.size m clock (seen.push x.2.2) := hI2.fr ht.fr (by simpa using hrm)
        have h5 : Fr [m] w w2 := hF2.trans ht.fr
        go_roundg ((todo lb (seen.push x.2.2)).length + 1)
        case measure => have := todo_lt hx; omega
        case rel => exact ⟨_, Nat.lt_succ_self _, h4, h3, h5⟩
      · have HP := Lib.hid (Bool.eq_false_iff.2 hp)
        rw [Bool.eq_false_iff.2 hp]
        clear hp
        go_wp2
        have h3 : IsMapB W m (Value.int .i64) evLk (keepL pd lb (seen.push x.2.2)) clock := by
          rw [keep_push_no pd (hB.inc.imp (fun h e => by omega)) (mem_todo hx) HP.out]
          exact hM2
        go_roundg ((todo lb (seen.push x.2.2)).length + 1)
        case measure => have := todo_lt hx; omega
        case rel => exact ⟨_, Nat.lt_succ_self _, hI2, h3, hF2⟩
theorem delf2_t (m g : Nat) (fam : ByteArray) (l : List (ByteArray × Kp)) (w : World) (h : IsMap w m Value.string evKp l) (hg : w.cell? ⟨g, 0, none⟩ = some (.string fam)) :
   Calls Try.prog 30 #[.map (some m), .func (.func 31) #[] #[.pointer (some ⟨g, 0, none⟩)]] w fun e w' => e = .returned (.tuple #[]) ∧
     IsMap w' m Value.string evKp (l.filter fun p => !decide (p.2.family = fam)) ∧ Fr [m] w w' := by
  obtain ⟨lb, clock, hB, hl⟩ := h.stamps
  have hr := hB.run_range u56
  have hgl := block_lt_of_cell hg
  have hgm : g ≠ m := by
    rintro rfl
    exact IsMap.nostr h _ _ hg
  go_enter Try.func30, Try.ntmps30
  go_wp2_with fail
  let pd : ByteArray × Kp × Nat → Bool := fun x => decide (x.2.1.family = fam)
  go_loopg [4] (lb.length + 1) (fun k _ wr => ∃ seen : Array Nat, (todo lb seen).length < k ∧ It wr w.heap.size m clock seen ∧ IsMapB wr m Value.string evKp (keepL pd lb seen) clock ∧ Fr [m] w wr)
  case atStart => 
    exact ⟨#[], by have := List.length_filter_le (fun x : ByteArray × Kp × Nat => !(#[] : Array Nat).contains x.2.2) lb; unfold todo; omega, It.new w m clock, by rw [keep_start]; exact hB.fr ((Fr.refl [] w).alloc _) (by simp), (Fr.refl _ _).alloc _⟩
  case round =>
    obtain ⟨seen, hk, hI, hM, hF⟩ := hrel
    have hcell : ∀ W, Fr [m] w W → W.cell? ⟨g, 0, none⟩ = some (.string fam) := fun W hW => (hW.cell (p := ⟨g, 0, none⟩) hgl (by simpa using hgm)).trans hg
    have hrm := hI.ne hM
    have hrl := hI.lt
    go_wp2_with (first | (refine wpList_map_next hM hI rfl rfl rfl (fun h0 => ?_) (fun x wn hx hIn hMn ht => ?_)) | (refine wpList_map_entry hMn hIn (mem_keep_of_todo pd (by rw [todo_keep] at hx; exact hx)) rfl rfl rfl ?_))
    · go_end0
      rw [todo_keep] at h0
      refine ⟨rfl, ?_, hF⟩
      have := hM.toMap
      rw [keep_end pd h0] at this
      rw [← hl, List.filter_map]
      exact this
    · have hF1 : Fr [m] w (wn.alloc (Obj.cells #[.string x.2.1.family, .int .i64 x.2.1.start, .int .i64 x.2.1.a.why, .int .i64 x.2.1.a.access, .int .i64 x.2.1.a.refresh, .slice x.2.1.a.sa x.2.1.a.sl x.2.1.a.sc, .string x.2.1.a.client, .string x.2.1.a.user, .bool x.2.1.a.active, .bool x.2.1.a.wait] 69)) := (hF.andThen ht.fr (by simp)).alloc _
      have hM1 := hMn.fr ((Fr.refl [] wn).alloc (Obj.cells #[.string x.2.1.family, .int .i64 x.2.1.start, .int .i64 x.2.1.a.why, .int .i64 x.2.1.a.access, .int .i64 x.2.1.a.refresh, .slice x.2.1.a.sa x.2.1.a.sl x.2.1.a.sc, .string x.2.1.a.client, .string x.2.1.a.user, .bool x.2.1.a.active, .bool x.2.1.a.wait] 69)) (by simp)
      have hI1 := hIn.fr ((Fr.refl [] wn).alloc (Obj.cells #[.string x.2.1.family, .int .i64 x.2.1.start, .int .i64 x.2.1.a.why, .int .i64 x.2.1.a.access, .int .i64 x.2.1.a.refresh, .slice x.2.1.a.sa x.2.1.a.sl x.2.1.a.sc, .string x.2.1.a.client, .string x.2.1.a.user, .bool x.2.1.a.active, .bool x.2.1.a.wait] 69)) (by simp)
      refine (close2_t _ _ _ fam _ (hcell _ hF1)).mono ?_
      rintro e W ⟨rfl, fW⟩
      have hM2 := hM1.fr fW (by simp)
      have hI2 := hI1.fr fW (by simp)
      have hF2 : Fr [m] w W := hF1.trans fW.nil
      clear hM1 hI1 hF1 fW ht hIn hMn hM hI hF hr hcell
      rw [todo_keep] at hx
      by_cases hp : decide (x.2.1.family = fam) = true
      · have HP := Lib.hid hp
        rw [hp]
        clear hp
        go_wp2_with (refine wpList_map_delB hM2 k9 u56 x.1 rfl rfl rfl rfl ?_; intro w2 hm ht)
        have h3 : IsMapB w2 m Value.string evKp (keepL pd lb (seen.push x.2.2)) clock := by
          rw [← keep_push_yes pd (hB.inc.imp (fun h e => by omega)) hB.nodup (mem_todo hx) HP.out]
          exact hm
        have h4 : It w2 w.heap.size m clock (seen.push x.2.2) := hI2.fr ht.fr (by simpa using hrm)
        have h5 : Fr [m] w w2 := hF2.trans ht.fr
        go_roundg ((todo lb (seen.push x.2.2)).length + 1)
        case measure => have := todo_lt hx; omega
        case rel => exact ⟨_, Nat.lt_succ_self _, h4, h3, h5⟩
      · have HP := Lib.hid (Bool.eq_false_iff.2 hp)
        rw [Bool.eq_false_iff.2 hp]
        clear hp
        go_wp2
        have h3 : IsMapB W m Value.string evKp (keepL pd lb (seen.push x.2.2)) clock := by
          rw [keep_push_no pd (hB.inc.imp (fun h e => by omega)) (mem_todo hx) HP.out]
          exact hM2
        go_roundg ((todo lb (seen.push x.2.2)).length + 1)
        case measure => have := todo_lt hx; omega
        case rel => exact ⟨_, Nat.lt_succ_self _, hI2, h3, hF2⟩

theorem void_t (b m1 m2 : Nat) (c : CacheM) (fam : ByteArray) (w : World) (h : CacheAt w b m1 m2 c) :
   Calls Try.prog 20 #[.pointer (some ⟨b, 0, none⟩), .string fam] w fun e w' => e = .returned (.tuple #[]) ∧ CacheAt w' b m1 m2 (c.void fam) ∧ Fr [b, m1, m2] w w' := by
  have hc := h.cells
  have hA := h.alloc (.cells #[.string fam] 9)
  have hg : (w.alloc (.cells #[.string fam] 9)).cell? ⟨w.heap.size, 0, none⟩ = some (.string fam) := by simp
  go_enter Try.func20, Try.ntmps20
  go_wp2_with fail
  refine (delf1_t m1 _ fam _ _ hA.way hg).mono ?_
  rintro e w1 ⟨rfl, i1, f1⟩
  have hg1 : w1.cell? ⟨w.heap.size, 0, none⟩ = some (.string fam) := (f1.cell (p := ⟨w.heap.size, 0, none⟩) (by simp) (by have := h.way.lt; simp; omega)).trans hg
  have hb1 := hA.blk.fr f1 (by simpa using h.ne1)
  have ha1 := hA.all.fr f1 (by simpa using Ne.symm h.ne12)
  have hc1 : w1.cell? ⟨b, 4, none⟩ = some (.map (some m2)) := by rw [hb1.cell]; rfl
  clear hc
  go_wp2_with fail
  refine (delf2_t m2 _ fam _ _ ha1 hg1).mono ?_
  rintro e w2 ⟨rfl, i2, f2⟩
  have hw2 := i1.fr f2 (by simpa using h.ne12)
  have hb2 := hb1.fr f2 (by simpa using h.ne2)
  clear hc1
  go_wp2_with fail
  go_end0
  have f0 : Fr [b, m1, m2] w (w.alloc (.cells #[.string fam] 9)) := (Fr.refl _ _).alloc _
  have f : Fr [b, m1, m2] w w2 := (f0.trans (f1.mono (by simp))).trans (f2.mono (by simp))
  exact ⟨rfl, ⟨hb2, hw2, i2, h.ne1, h.ne2, h.ne12, fun p hp => h.keeps f (h.str p (List.mem_filter.1 hp).1), h.r1, h.r2, h.r3, fun p hp => h.r4 p (List.mem_filter.1 hp).1, fun p hp => h.r5 p (List.mem_filter.1 hp).1, fun p hp => (h.typ p (List.mem_filter.1 hp).1).fr f (h.off9 (h.typ p (List.mem_filter.1 hp).1))⟩, f⟩
end Go.Proofs.Ythegggfpofdcdaa
