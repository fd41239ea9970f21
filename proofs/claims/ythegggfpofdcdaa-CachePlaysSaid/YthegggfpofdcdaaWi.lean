/- Walks: Fill and Get on all ways, do. Conditions: each theorem's own. -/
import Derived.Test.YthegggfpofdcdaaCs
import Derived.Test.YthegggfpofdcdaaWb
import Derived.Test.YthegggfpofdcdaaWd
import Derived.Test.YthegggfpofdcdaaWf
namespace Go.Proofs.Ythegggfpofdcdaa
open Go.RowKit Go.Sig

/-- What Fill comes to. -/
def FillM (w : World) (c : CacheM) (n : Int) (a : Ans) (l : List ByteArray) (now : Int) (told : Bool) (c' : CacheM) : Prop :=
  (aget n c.way = none ∧ told = false ∧ c' = c.drop n) ∨
  ∃ x, aget n c.way = some x ∧
    ((a.active = false ∧ told = true ∧ c' = { c.drop n with all := adel x.token c.all }) ∨
     (a.active = true ∧ liveB x.start now c.short = false ∧ told = false ∧ c' = c.drop n) ∨
     (a.active = true ∧ liveB x.start now c.short = true ∧ told = true ∧ ∃ A' k, (∀ ad, A' = some ad → w.heap.size ≤ ad.block) ∧
       (((c.keep n x (a.re A' k) l).length ≤ c.room ∧ c' = { c.drop n with all := c.keep n x (a.re A' k) l }) ∨
        (c.room < (c.keep n x (a.re A' k) l).length ∧ ∃ t, Oldest t (c.keep n x (a.re A' k) l) ∧ c' = { c.drop n with all := adel t (c.keep n x (a.re A' k) l) }))))
/-- What Get comes to. -/
def GetM (w' : World) (c : CacheM) (tok : ByteArray) (now : Int) (told : Bool) (a : Ans) : Prop :=
  (told = true ∧ ∃ k A' n, aget tok c.all = some k ∧ liveB k.start now c.short = true ∧ a = k.a.re A' n ∧ ScOk w' a k.str) ∨
  (told = false ∧ a = Ans.zero ∧ (aget tok c.all = none ∨ ∃ k, aget tok c.all = some k ∧ liveB k.start now c.short = false))

section
variable {b m1 m2 : Nat} {c : CacheM} {w : World}
theorem fill_t (n : Int) (a : Ans) (l : List ByteArray) (now : Int) (h : CacheAt w b m1 m2 c) (hn : I64 now) (hsc : ScOk w a l) :
   Calls Try.prog 14 #[.pointer (some ⟨b, 0, none⟩), .int .i64 n, .agg a.arr, .int .i64 now] w fun e w' => ∃ told c', FillPost w b m1 m2 told c' e w' ∧ FillM w c n a l now told c' := by
  cases hg : aget n c.way with
  | none => exact (fill_none n a now h hg).mono fun e w' hp => ⟨_, _, hp, .inl ⟨hg, rfl, rfl⟩⟩
  | some x =>
    cases ha : a.active with
    | false => exact (fill_off n a now x h hg ha).mono fun e w' hp => ⟨_, _, hp, .inr ⟨x, hg, .inl ⟨ha, rfl, rfl⟩⟩⟩
    | true =>
      cases hl : liveB x.start now c.short with
      | false => exact (fill_late n a now x h hn hg ha hl).mono fun e w' hp => ⟨_, _, hp, .inr ⟨x, hg, .inr (.inl ⟨ha, hl, rfl, rfl⟩)⟩⟩
      | true =>
        refine (fill_kept n a l now x h hn hg ha hl hsc).mono ?_
        rintro e w' ⟨A', k, hA, ⟨hr, hp⟩ | ⟨hr, t, ht, hp⟩⟩
        · exact ⟨_, _, hp, .inr ⟨x, hg, .inr (.inr ⟨ha, hl, rfl, A', k, hA, .inl ⟨hr, rfl⟩⟩)⟩⟩
        · exact ⟨_, _, hp, .inr ⟨x, hg, .inr (.inr ⟨ha, hl, rfl, A', k, hA, .inr ⟨hr, t, ht, rfl⟩⟩)⟩⟩
theorem get_t (tok : ByteArray) (now : Int) (h : CacheAt w b m1 m2 c) (hn : I64 now) :
   Calls Try.prog 18 #[.pointer (some ⟨b, 0, none⟩), .string tok, .int .i64 now] w fun e w' => ∃ told a, e = .returned (.tuple #[Ans.val a, .bool told]) ∧ Fr [] w w' ∧ GetM w' c tok now told a := by
  cases hg : aget tok c.all with
  | none => exact (get_none tok now h hg).mono fun e w' ⟨he, hf⟩ => ⟨_, _, he, hf, .inr ⟨rfl, rfl, .inl hg⟩⟩
  | some k =>
    cases hl : liveB k.start now c.short with
    | false => exact (get_old tok now k h hn hg hl).mono fun e w' ⟨he, hf⟩ => ⟨_, _, he, hf, .inr ⟨rfl, rfl, .inr ⟨k, hg, hl⟩⟩⟩
    | true => exact (get_yes tok now k h hn hg hl).mono fun e w' ⟨A', n, he, hs, hf, _⟩ => ⟨_, _, he, hf, .inl ⟨rfl, k, A', n, hg, hl, rfl, hs⟩⟩
end

/-- What do comes to: was something told, was it active, and the cache behind it. -/
def DoM (w : World) (c : CacheM) (s : StepM) (told act : Bool) (c' : CacheM) : Prop :=
  (s.kind = 0 ∧ told = false ∧ act = false ∧ c' = c.ask s.token s.family s.now) ∨
  (s.kind = 1 ∧ FillM w c s.n s.a s.sc s.now told c' ∧ (told = true → act = s.a.active) ∧ (told = false → act = false)) ∨
  (s.kind = 2 ∧ told = false ∧ act = false ∧ c' = c.drop s.n) ∨
  (s.kind = 3 ∧ c' = c ∧ ((told = true ∧ ∃ k, aget s.token c.all = some k ∧ liveB k.start s.now c.short = true ∧ act = k.a.active) ∨ (told = false ∧ act = false))) ∨
  (s.kind = 4 ∧ told = false ∧ act = false ∧ c' = c.void s.family) ∨
  ((s.kind < 0 ∨ 4 < s.kind) ∧ told = false ∧ act = false ∧ c' = c)
def DoPost (w : World) (b m1 m2 : Nat) (c : CacheM) (s : StepM) (e : Ending) (w' : World) : Prop :=
  ∃ told a c', e = .returned (.tuple #[.bool told, Ans.val a]) ∧ CacheAt w' b m1 m2 c' ∧ Fr [b, m1, m2] w w' ∧ DoM w c s told a.active c'
@[reducible] def StepM.arr (s : StepM) : Array Value := #[.int .i64 s.kind, .string s.token, .string s.family, .int .i64 s.n, .int .i64 s.now,
  .int .i64 s.a.why, .int .i64 s.a.access, .int .i64 s.a.refresh, .slice s.a.sa s.a.sl s.a.sc, .string s.a.client, .string s.a.user, .bool s.a.active, .bool s.a.wait]

theorem CacheAt.fin {w w2 w3 : World} {b m1 m2 g : Nat} {c c' : CacheM} (h : CacheAt w b m1 m2 c) (h2 : CacheAt w2 b m1 m2 c') (hg : w.heap.size ≤ g) (hmem : ∀ p ∈ c'.all, p ∈ c.all ∨ ∀ ad, p.2.a.sa = some ad → g < ad.block) (hf : Fr [g] w2 w3) : CacheAt w3 b m1 m2 c' := by
  have h1 := h.blk.lt
  have h3 := h.way.lt
  have h4 := h.all.lt
  refine h2.fr hf (by simp; omega) (by simp; omega) (by simp; omega) (fun p hp ad hA => ?_)
  simp only [List.mem_singleton]
  rcases hmem p hp with hp | hp
  · have := (h.typ p hp).lt ad hA
    omega
  · have := hp ad hA
    omega
theorem FillM.base {w w' : World} {c c' : CacheM} {n : Int} {a : Ans} {l : List ByteArray} {now : Int} {told : Bool} (h : FillM w' c n a l now told c') (hw : w.heap.size ≤ w'.heap.size) : FillM w c n a l now told c' := by
  rcases h with h | ⟨x, hx, h | h | ⟨h1, h2, h3, A', k, hA, h4⟩⟩
  · exact .inl h
  · exact .inr ⟨x, hx, .inl h⟩
  · exact .inr ⟨x, hx, .inr (.inl h)⟩
  · exact .inr ⟨x, hx, .inr (.inr ⟨h1, h2, h3, A', k, fun ad ha => Nat.le_trans hw (hA ad ha), h4⟩)⟩
theorem GetM.act {w' : World} {c : CacheM} {tok : ByteArray} {now : Int} {told : Bool} {a : Ans} (h : GetM w' c tok now told a) :
    (told = true ∧ ∃ k, aget tok c.all = some k ∧ liveB k.start now c.short = true ∧ a.active = k.a.active) ∨ (told = false ∧ a.active = false) := by
  rcases h with ⟨h1, k, A', n, h2, h3, rfl, _⟩ | ⟨h1, rfl, _⟩
  · exact .inl ⟨h1, k, h2, h3, rfl⟩
  · exact .inr ⟨h1, rfl⟩
theorem fillM_mem {w : World} {c c' : CacheM} {n : Int} {a : Ans} {l : List ByteArray} {now : Int} {told : Bool} (h : FillM w c n a l now told c') : ∀ p ∈ c'.all, p ∈ c.all ∨ ∀ ad, p.2.a.sa = some ad → w.heap.size ≤ ad.block := by
  intro p hp
  rcases h with ⟨_, _, rfl⟩ | ⟨x, _, ⟨_, _, rfl⟩ | ⟨_, _, _, rfl⟩ | ⟨_, _, _, A', k, hA, ⟨_, rfl⟩ | ⟨_, t, _, rfl⟩⟩⟩
  · exact .inl hp
  · exact .inl (mem_adel hp)
  · exact .inl hp
  · rcases mem_aset hp with rfl | hp
    · exact .inr hA
    · exact .inl hp
  · rcases mem_aset (mem_adel hp) with rfl | hp
    · exact .inr hA
    · exact .inl hp

section
variable {b m1 m2 : Nat} {c : CacheM} {w : World}
theorem do_ask (s : StepM) (h : CacheAt w b m1 m2 c) (hl : c.last < 4000000000) (hn : I64 s.now) (hk : s.kind = 0) :
   Calls Try.prog 10 #[.pointer (some ⟨b, 0, none⟩), .agg s.arr] w (DoPost w b m1 m2 c s) := by
  unfold StepM.arr
  rw [hk]
  have Hk := Lib.hid hk
  clear hk
  go_enter Try.func10, Try.ntmps10
  go_wp2_with fail
  refine (ask_t s.token s.family s.now ((h.alloc _).alloc _) hl hn).mono ?_
  rintro e w2 ⟨rfl, h2, f2⟩
  have hlt := h.blk.lt
  have hlt1 := h.way.lt
  have hlt2 := h.all.lt
  have B5 : Blk w2 (w.heap.size + 1) 32 Ans.zero.arr := (Blk.new' (w := w.alloc _) 32 Ans.zero.arr (by simp)).fr f2 (by simp; omega)
  have F2 : Fr [b, m1, m2] w w2 := (Fr.alloc (Fr.alloc (Fr.refl _ _) _) _).trans f2
  have c5 := B5.c8
  clear f2 B5
  go_wp2
  refine bodyPost_ret (v := .tuple #[.bool false, Ans.val Ans.zero]) (by simp [results, Try.results10, go_sem, Ans.val, Ans.zero, c5]) rfl ⟨false, Ans.zero, _, rfl, h.fin h2 (g := w.heap.size + 1) (by omega) (fun p hp => .inl hp) ?_, ?_, .inl ⟨Hk.out, rfl, rfl, rfl⟩⟩
  · repeat (first | with_reducible exact Fr.refl _ _ | (with_reducible refine Fr.setCell ?_ ?_ _; rotate_left; simp))
  · repeat (first | with_reducible exact F2 | (with_reducible refine Fr.setCell ?_ ?_ _; rotate_left; simp))
theorem do_drop (s : StepM) (h : CacheAt w b m1 m2 c) (hk : s.kind = 2) :
   Calls Try.prog 10 #[.pointer (some ⟨b, 0, none⟩), .agg s.arr] w (DoPost w b m1 m2 c s) := by
  unfold StepM.arr
  rw [hk]
  have Hk := Lib.hid hk
  clear hk
  go_enter Try.func10, Try.ntmps10
  go_wp2_with fail
  refine (drop_t s.n ((h.alloc _).alloc _)).mono ?_
  rintro e w2 ⟨rfl, h2, f2⟩
  have hlt := h.blk.lt
  have hlt1 := h.way.lt
  have hlt2 := h.all.lt
  have B5 : Blk w2 (w.heap.size + 1) 32 Ans.zero.arr := (Blk.new' (w := w.alloc _) 32 Ans.zero.arr (by simp)).fr f2 (by simp; omega)
  have F2 : Fr [b, m1, m2] w w2 := (Fr.alloc (Fr.alloc (Fr.refl _ _) _) _).trans f2
  have c5 := B5.c8
  clear f2 B5
  go_wp2
  refine bodyPost_ret (v := .tuple #[.bool false, Ans.val Ans.zero]) (by simp [results, Try.results10, go_sem, Ans.val, Ans.zero, c5]) rfl ⟨false, Ans.zero, _, rfl, h.fin h2 (g := w.heap.size + 1) (by omega) (fun p hp => .inl hp) ?_, ?_, .inr (.inr (.inl ⟨Hk.out, rfl, rfl, rfl⟩))⟩
  · repeat (first | with_reducible exact Fr.refl _ _ | (with_reducible refine Fr.setCell ?_ ?_ _; rotate_left; simp))
  · repeat (first | with_reducible exact F2 | (with_reducible refine Fr.setCell ?_ ?_ _; rotate_left; simp))
theorem do_void (s : StepM) (h : CacheAt w b m1 m2 c) (hk : s.kind = 4) :
   Calls Try.prog 10 #[.pointer (some ⟨b, 0, none⟩), .agg s.arr] w (DoPost w b m1 m2 c s) := by
  unfold StepM.arr
  rw [hk]
  have Hk := Lib.hid hk
  clear hk
  go_enter Try.func10, Try.ntmps10
  go_wp2_with fail
  refine (void_t b m1 m2 c s.family _ ((h.alloc _).alloc _)).mono ?_
  rintro e w2 ⟨rfl, h2, f2⟩
  have hlt := h.blk.lt
  have hlt1 := h.way.lt
  have hlt2 := h.all.lt
  have B5 : Blk w2 (w.heap.size + 1) 32 Ans.zero.arr := (Blk.new' (w := w.alloc _) 32 Ans.zero.arr (by simp)).fr f2 (by simp; omega)
  have F2 : Fr [b, m1, m2] w w2 := (Fr.alloc (Fr.alloc (Fr.refl _ _) _) _).trans f2
  have c5 := B5.c8
  clear f2 B5
  go_wp2
  refine bodyPost_ret (v := .tuple #[.bool false, Ans.val Ans.zero]) (by simp [results, Try.results10, go_sem, Ans.val, Ans.zero, c5]) rfl ⟨false, Ans.zero, _, rfl, h.fin h2 (g := w.heap.size + 1) (by omega) (fun p hp => .inl (List.mem_filter.1 hp).1) ?_, ?_, .inr (.inr (.inr (.inr (.inl ⟨Hk.out, rfl, rfl, rfl⟩))))⟩
  · repeat (first | with_reducible exact Fr.refl _ _ | (with_reducible refine Fr.setCell ?_ ?_ _; rotate_left; simp))
  · repeat (first | with_reducible exact F2 | (with_reducible refine Fr.setCell ?_ ?_ _; rotate_left; simp))

theorem do_none (s : StepM) (h : CacheAt w b m1 m2 c) (hk : s.kind < 0 ∨ 4 < s.kind) :
   Calls Try.prog 10 #[.pointer (some ⟨b, 0, none⟩), .agg s.arr] w (DoPost w b m1 m2 c s) := by
  unfold StepM.arr
  have q0 : (s.kind == 0) = false := by simp; omega
  have q1 : (s.kind == 1) = false := by simp; omega
  have q2 : (s.kind == 2) = false := by simp; omega
  have q3 : (s.kind == 3) = false := by simp; omega
  have q4 : (s.kind == 4) = false := by simp; omega
  have Hk := Lib.hid hk
  clear hk
  go_enter Try.func10, Try.ntmps10
  go_wp2
  refine bodyPost_ret (v := .tuple #[.bool false, Ans.val Ans.zero]) (by simp [results, Try.results10, go_sem, Ans.val, Ans.zero]) rfl ⟨false, Ans.zero, _, rfl, h.nilfr ?_, ?_, .inr (.inr (.inr (.inr (.inr ⟨Hk.out, rfl, rfl, rfl⟩))))⟩
  · repeat (first | with_reducible exact Fr.refl _ _ | with_reducible refine Fr.alloc ?_ _ | with_reducible refine Fr.drew ?_ | with_reducible refine Fr.drewN ?_ _ | (with_reducible refine Fr.setCell ?_ ?_ _; rotate_left; simp))
  · repeat (first | with_reducible exact Fr.refl _ _ | with_reducible refine Fr.alloc ?_ _ | with_reducible refine Fr.drew ?_ | with_reducible refine Fr.drewN ?_ _ | (with_reducible refine Fr.setCell ?_ ?_ _; rotate_left; simp))

theorem do_fill (s : StepM) (h : CacheAt w b m1 m2 c) (hn : I64 s.now) (hsc : ScOk w s.a s.sc) (hk : s.kind = 1) :
   Calls Try.prog 10 #[.pointer (some ⟨b, 0, none⟩), .agg s.arr] w (DoPost w b m1 m2 c s) := by
  unfold StepM.arr
  rw [hk]
  have Hk := Lib.hid hk
  clear hk
  go_enter Try.func10, Try.ntmps10
  go_wp2_with fail
  have hlt := h.blk.lt
  have hlt1 := h.way.lt
  have hlt2 := h.all.lt
  refine (fill_t s.n s.a s.sc s.now ((h.alloc _).alloc _) hn (h.keeps (Fr.alloc (Fr.alloc (Fr.refl _ _) _) _) hsc)).mono ?_
  rintro e w2 ⟨told, c', ⟨rfl, h2, f2⟩, hf⟩
  have hmem := fillM_mem hf
  have B3 : Blk w2 w.heap.size 34 #[.int .i64 1, .string s.token, .string s.family, .int .i64 s.n, .int .i64 s.now, .int .i64 s.a.why, .int .i64 s.a.access, .int .i64 s.a.refresh, .slice s.a.sa s.a.sl s.a.sc, .string s.a.client, .string s.a.user, .bool s.a.active, .bool s.a.wait] :=
    ((Blk.new w _ _).alloc _).fr f2 (by simp; omega)
  have B5 : Blk w2 (w.heap.size + 1) 32 Ans.zero.arr := (Blk.new' (w := w.alloc _) 32 Ans.zero.arr (by simp)).fr f2 (by simp; omega)
  have F2 : Fr [b, m1, m2] w w2 := (Fr.alloc (Fr.alloc (Fr.refl _ _) _) _).trans f2
  have hlt5 := B5.lt
  have c5 := B5.c8
  have c3 := And.intro (B3.cell 5) (And.intro (B3.cell 6) (And.intro (B3.cell 7) (And.intro (B3.cell 8) (And.intro (B3.cell 9) (And.intro (B3.cell 10) (And.intro (B3.cell 11) (B3.cell 12)))))))
  simp only [List.getElem?_toArray, List.getElem?_cons_succ, List.getElem?_cons_zero] at c3
  clear f2 B3
  cases told with
  | true =>
    go_wp2
    go_region
    go_wp2
    refine post_gen (fun w3 => Blk w3 (w.heap.size + 1) 32 s.a.arr ∧ Fr [w.heap.size + 1] w2 w3) ⟨?_, ?_⟩ ?_
    · exact (B5.set8 _ _ _ _ _ _ _ _).drew
    · repeat (first | with_reducible exact Fr.refl _ _ | with_reducible refine Fr.alloc ?_ _ | with_reducible refine Fr.drew ?_ | with_reducible refine Fr.drewN ?_ _ | (with_reducible refine Fr.setCell ?_ ?_ _; rotate_left; simp))
    rintro w3 ⟨B6, f3⟩
    have c6 := B6.c8
    refine bodyPost_ret (v := .tuple #[.bool true, Ans.val s.a]) (by simp [results, Try.results10, go_sem, Ans.val, c6]) rfl ⟨true, s.a, _, rfl, h.fin h2 (g := w.heap.size + 1) (by omega) (fun p hp => (hmem p hp).imp id (fun hh ad ha => by have := hh ad ha; simp at this; omega)) f3, F2.andThen f3 (by simp), .inr (.inl ⟨Hk.out, hf.base (by simp; omega), fun _ => rfl, (fun h => by cases h)⟩)⟩
  | false =>
    go_wp2
    refine bodyPost_ret (v := .tuple #[.bool false, Ans.val Ans.zero]) (by simp [results, Try.results10, go_sem, Ans.val, Ans.zero, c5]) rfl ⟨false, Ans.zero, _, rfl, h.fin h2 (g := w.heap.size + 1) (by omega) (fun p hp => (hmem p hp).imp id (fun hh ad ha => by have := hh ad ha; simp at this; omega)) ?_, ?_, .inr (.inl ⟨Hk.out, ?_, (fun h => by cases h), fun _ => rfl⟩)⟩
    · repeat (first | with_reducible exact Fr.refl _ _ | (with_reducible refine Fr.setCell ?_ ?_ _; rotate_left; simp))
    · repeat (first | with_reducible exact F2 | (with_reducible refine Fr.setCell ?_ ?_ _; rotate_left; simp))
    · exact hf.base (by simp; omega)
theorem do_get (s : StepM) (h : CacheAt w b m1 m2 c) (hn : I64 s.now) (hk : s.kind = 3) :
   Calls Try.prog 10 #[.pointer (some ⟨b, 0, none⟩), .agg s.arr] w (DoPost w b m1 m2 c s) := by
  unfold StepM.arr
  rw [hk]
  have Hk := Lib.hid hk
  clear hk
  go_enter Try.func10, Try.ntmps10
  go_wp2_with fail
  refine (get_t s.token s.now ((h.alloc _).alloc _) hn).mono ?_
  rintro e w2 ⟨told, a, rfl, f2, hg⟩
  unfold Ans.val
  have h2 := ((h.alloc (Obj.cells #[.int .i64 3, .string s.token, .string s.family, .int .i64 s.n, .int .i64 s.now, .int .i64 s.a.why, .int .i64 s.a.access, .int .i64 s.a.refresh, .slice s.a.sa s.a.sl s.a.sc, .string s.a.client, .string s.a.user, .bool s.a.active, .bool s.a.wait] 34)).alloc (Obj.cells Ans.zero.arr 32)).nilfr f2
  have B5 : Blk w2 (w.heap.size + 1) 32 Ans.zero.arr := (Blk.new' (w := w.alloc _) 32 Ans.zero.arr (by simp)).fr f2 (by simp)
  have c5 := B5.c8
  have hlt5 := B5.lt
  go_wp2
  go_region
  go_wp2
  have F2 : Fr [b, m1, m2] w w2 := (Fr.alloc (Fr.alloc (Fr.refl _ _) _) _).trans f2.nil
  have hlt := h.blk.lt
  have hlt1 := h.way.lt
  have hlt2 := h.all.lt
  refine post_gen (fun w3 => Blk w3 (w.heap.size + 1) 32 a.arr ∧ Fr [w.heap.size + 1] w2 w3) ⟨?_, ?_⟩ ?_
  · exact ((B5.set8 _ _ _ _ _ _ _ _).alloc _).drew
  · repeat (first | with_reducible exact Fr.refl _ _ | with_reducible refine Fr.alloc ?_ _ | with_reducible refine Fr.drew ?_ | with_reducible refine Fr.drewN ?_ _ | (with_reducible refine Fr.setCell ?_ ?_ _; rotate_left; simp))
  rintro w3 ⟨B6, f3⟩
  have c6 := B6.c8
  refine bodyPost_ret (v := .tuple #[.bool told, Ans.val a]) (by simp [results, Try.results10, go_sem, Ans.val, c6]) rfl ⟨told, a, _, rfl, h.fin h2 (g := w.heap.size + 1) (by omega) (fun p hp => .inl hp) f3, F2.andThen f3 (by simp), .inr (.inr (.inr (.inl ⟨Hk.out, rfl, hg.act⟩)))⟩

theorem do_t (s : StepM) (h : CacheAt w b m1 m2 c) (hl : c.last < 4000000000) (hs : StepOk w s) (h50 : s.a.sl ≤ 50) :
   Calls Try.prog 10 #[.pointer (some ⟨b, 0, none⟩), .agg s.arr] w (DoPost w b m1 m2 c s) := by
  by_cases h0 : s.kind = 0
  · exact do_ask s h hl hs.now h0
  · by_cases h1 : s.kind = 1
    · exact do_fill s h hs.now ⟨hs.strs, hs.nil, h50⟩ h1
    · by_cases h2 : s.kind = 2
      · exact do_drop s h h2
      · by_cases h3 : s.kind = 3
        · exact do_get s h hs.now h3
        · by_cases h4 : s.kind = 4
          · exact do_void s h h4
          · exact do_none s h (by omega)
end
end Go.Proofs.Ythegggfpofdcdaa
