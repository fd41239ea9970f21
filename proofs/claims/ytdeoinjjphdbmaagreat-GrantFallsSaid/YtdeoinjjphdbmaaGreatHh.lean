/- Walks: a new book, its room, how many families, one family, all Ids. Conditions: each theorem's own. -/
import Derived.Test.YtdeoinjjphdbmaaGreatHg
namespace Go.Proofs.YtdeoinjjphdbmaaGreat
open Go.RowKit Go.Sig

/-- A book in memory: its struct in block p, its map in block mb; no family's slice lies in X. -/
structure BookAt (w : World) (p mb : Nat) (room : Int) (X : List Nat) (b : GBk) : Prop where
  hp : Blk w p 77 #[.map (some mb), .int .i64 room]
  hb : BkIn w mb X b
  ok : BkOk b
  hX : ∀ g ∈ X, g < w.heap.size
  hmb : mb ∈ X
  hne : p ≠ mb
theorem BookAt.fr {w w' : World} {p mb : Nat} {room : Int} {X S : List Nat} {b : GBk} (h : BookAt w p mb room X b) (hF : Fr S w w') (hS : ∀ g ∈ S, g ∈ X ∨ w.heap.size ≤ g) (hm : mb ∉ S) (hp : p ∉ S) : BookAt w' p mb room X b :=
  ⟨h.hp.fr hF hp, h.hb.fr hF hS hm, h.ok, fun g hg => Nat.lt_of_lt_of_le (h.hX g hg) hF.size, h.hmb, h.hne⟩
theorem BookAt.fr0 {w w' : World} {p mb : Nat} {room : Int} {X : List Nat} {b : GBk} (h : BookAt w p mb room X b) (hF : Fr [] w w') : BookAt w' p mb room X b := h.fr hF (by simp) (by simp) (by simp)
theorem BookAt.mono {w : World} {p mb : Nat} {room : Int} {X Y : List Nat} {b : GBk} (h : BookAt w p mb room X b) (hS : ∀ g ∈ Y, g ∈ X) (hm : mb ∈ Y) : BookAt w p mb room Y b :=
  ⟨h.hp, h.hb.mono hS, h.ok, fun g hg => h.hX g (hS g hg), hm, h.hne⟩
/-- Blocks that are new are none of a family's. -/
theorem BookAt.more {w w' : World} {p mb : Nat} {room : Int} {X Y : List Nat} {b : GBk} (h : BookAt w p mb room X b) (hF : Fr [] w w') (hY : ∀ g ∈ Y, w.heap.size ≤ g ∧ g < w'.heap.size) : BookAt w' p mb room (X ++ Y) b :=
  ⟨h.hp.fr hF (by simp), bk_same h.hb hF (fun g hg => (hY g hg).1), h.ok, fun g hg => (List.mem_append.1 hg).elim (fun hg => Nat.lt_of_lt_of_le (h.hX g hg) hF.size) (fun hg => (hY g hg).2), List.mem_append.2 (.inl h.hmb), h.hne⟩
/-- What a room is. -/
def roomM (n : Int) : Int := 1 + n % 256
theorem roomM_in (n : Int) : 1 ≤ roomM n ∧ roomM n ≤ 256 := by unfold roomM; omega
theorem room_rem (n : Int) : (IntKind.u64.wrap n).tmod 256 = n % 256 := by
  have h : IntKind.u64.wrap n = n % 18446744073709551616 := by simp [IntKind.wrap, IntKind.bits, IntKind.signed]
  rw [h, Int.tmod_eq_emod_of_nonneg (by omega)]
  omega
theorem gcount_t (w : World) (p mb : Nat) (room : Int) (X : List Nat) (b : GBk) (h : BookAt w p mb room X b) : Calls Tryz.prog 26 #[.pointer (some ⟨p, 0, none⟩)] w fun e w' => e = .returned (.int .i64 (b.length : Nat)) ∧ w = w' := by
  obtain ⟨l, hl1, hl2, hl3⟩ := h.hb
  have e0 := h.hp.cell 0
  simp only [List.getElem?_toArray, List.getElem?_cons_zero] at e0
  have hpl := h.hp.lt
  have hln := fun ty => hl1.run_len (ty := ty) uMsf
  have hll : l.length = b.length := by rw [← hl2, List.length_map]
  rw [hll] at hln
  clear hl1 hl2 hl3 h hll
  go_enter Tryz.func26, Tryz.ntmps26
  go_wp2
  go_ret
  exact ⟨rfl, rfl⟩
theorem groom_t (w : World) (p mb : Nat) (room : Int) (X : List Nat) (b : GBk) (h : BookAt w p mb room X b) : Calls Tryz.prog 28 #[.pointer (some ⟨p, 0, none⟩)] w fun e w' => e = .returned (.int .i64 room) ∧ w = w' := by
  have e1 := h.hp.cell 1
  simp only [List.getElem?_toArray, List.getElem?_cons_zero, List.getElem?_cons_succ] at e1
  have hpl := h.hp.lt
  clear h
  go_enter Tryz.func28, Tryz.ntmps28
  go_wp2
  go_ret
  exact ⟨rfl, rfl⟩
/-- A new book. -/
def NewPost (w : World) (room : Int) (e : Ending) (w' : World) : Prop := ∃ p mb, e = .returned (.tuple #[.pointer (some ⟨p, 0, none⟩), .int .i64 0]) ∧ BookAt w' p mb room [mb] [] ∧ w.heap.size ≤ p ∧ w.heap.size ≤ mb ∧ Fr [] w w'
theorem bkOk_nil : BkOk [] := ⟨List.nodup_nil, fun k f h => by cases h⟩
theorem gnew_t (w : World) (room : Int) (h1 : 1 ≤ room) (h2 : room ≤ 256) : Calls Tryz.prog 12 #[.int .i64 room] w (NewPost w room) := by
  have hmm := @run_makeMap Tryz.prog
  have d1 : decide (room < 1) = false := decide_eq_false (by omega)
  have d2 : decide (256 < room) = false := decide_eq_false (by omega)
  have h1' : ¬ room < 1 := by omega
  have h2' : ¬ 256 < room := by omega
  go_enter Tryz.func12, Tryz.ntmps12
  go_wp2
  go_ret2
  refine ⟨w.heap.size + 1, w.heap.size, ?_, ⟨Blk.new' _ _ (by simp), ⟨[], (IsMap.new w Value.string FA.val).alloc _, rfl, fun p hp => by cases hp⟩, bkOk_nil, fun g hg => by simp at hg; simp; omega, by simp, by omega⟩, by omega, Nat.le_refl _, ((Fr.refl [] w).alloc _).alloc _⟩
  simp
theorem gnew_bad (w : World) (room : Int) (h : room < 1 ∨ 256 < room) : Calls Tryz.prog 12 #[.int .i64 room] w fun e w' => e = .returned (.tuple #[.pointer none, .int .i64 1]) ∧ w = w' := by
  rcases h with h | h
  · have d1 : decide (room < 1) = true := decide_eq_true h
    go_enter Tryz.func12, Tryz.ntmps12
    go_wp2
    go_ret2
    exact ⟨rfl, rfl⟩
  · have d1 : decide (room < 1) = false := decide_eq_false (by omega)
    have d2 : decide (256 < room) = true := decide_eq_true h
    have h1' : ¬ room < 1 := by omega
    go_enter Tryz.func12, Tryz.ntmps12
    go_wp2
    go_ret2
    exact ⟨rfl, rfl⟩
theorem roomL_t (w : World) (n : Int) : Calls Tryz.prog 13 #[.int .i64 n] w fun e w' => e = .returned (.int .i64 (roomM n)) ∧ w = w' := by
  have hr := room_rem n
  have hr1 : 0 ≤ n % 256 := by omega
  have hr2 : n % 256 < 256 := by omega
  obtain ⟨k, hk⟩ : ∃ z, Hid (n % 256 = z) := ⟨_, Lib.hid rfl⟩
  rw [hk.out] at hr hr1 hr2
  have hres : Ending.returned (.int .i64 (1 + k)) = .returned (.int .i64 (roomM n)) := by unfold roomM; rw [hk.out]
  have hresh := Lib.hid hres
  clear hres
  go_enter Tryz.func13, Tryz.ntmps13
  go_wp2
  go_ret
  exact ⟨hresh.out, rfl⟩
/-- What Family tells. -/
def FamPost (w : World) (b : GBk) (id : ByteArray) (e : Ending) (w' : World) : Prop :=
  ∃ y : FA, e = .returned (.tuple #[y.val, .bool (aget id b).isSome]) ∧ y.f = (aget id b).getD zeroF ∧ FamW w' w.heap.size y ∧ Fr [] w w'
end Go.Proofs.YtdeoinjjphdbmaaGreat
