/- Walks: Fill, but for the way on which an answer is kept. Conditions: each theorem's own. -/
import Derived.Test.YthegggfpofdcdaaWc
namespace Go.Proofs.Ythegggfpofdcdaa
open Go.RowKit Go.Sig

@[reducible] def Ans.arr (a : Ans) : Array Value := #[.int .i64 a.why, .int .i64 a.access, .int .i64 a.refresh, .slice a.sa a.sl a.sc, .string a.client, .string a.user, .bool a.active, .bool a.wait]
@[reducible] def Lk.arr (x : Lk) : Array Value := #[.string x.family, .int .i64 x.start, .string x.token]

def FillPost (w : World) (b m1 m2 : Nat) (told : Bool) (c' : CacheM) (e : Ending) (w' : World) : Prop := e = .returned (.bool told) ∧ CacheAt w' b m1 m2 c' ∧ Fr [b, m1, m2] w w'

section
variable {b m1 m2 : Nat} {c : CacheM} {w : World}

theorem fill_none (n : Int) (a : Ans) (now : Int) (h : CacheAt w b m1 m2 c) (hg : aget n c.way = none) :
   Calls Try.prog 14 #[.pointer (some ⟨b, 0, none⟩), .int .i64 n, .agg a.arr, .int .i64 now] w (FillPost w b m1 m2 false (c.drop n)) := by
  have hc := h.cells
  go_enter Try.func14, Try.ntmps14
  go_wp2_with (first | (refine wpList_map_get_ok (h.nilfr (Fr.alloc (Fr.refl _ _) _)).way k3 u55 z62 n rfl rfl rfl rfl ?_; simp only [hg, Option.map_none, Option.getD_none, Option.isSome_none]) | (refine wpList_map_del (h.nilfr (Fr.alloc (Fr.alloc (Fr.refl _ _) _) _)).way k3 u55 n rfl rfl rfl rfl ?_))
  intro w3 hm ht
  have h3 := (h.nilfr (Fr.alloc (Fr.alloc (Fr.refl _ _) _) _)).turnWay hm ht (fun p hp => h.r4 p (mem_adel hp))
  have f3 : Fr [b, m1, m2] w w3 := (Fr.alloc (Fr.alloc (Fr.refl _ _) _) _).andThen ht.fr (by simp)
  clear hm ht hc h
  go_wp2
  go_ret
  exact ⟨rfl, h3, f3⟩

theorem fill_off (n : Int) (a : Ans) (now : Int) (x : Lk) (h : CacheAt w b m1 m2 c) (hg : aget n c.way = some x) (ha : a.active = false) :
   Calls Try.prog 14 #[.pointer (some ⟨b, 0, none⟩), .int .i64 n, .agg a.arr, .int .i64 now] w (FillPost w b m1 m2 true { c.drop n with all := adel x.token c.all }) := by
  have hc := h.cells
  have hlt := h.way.lt
  go_enter Try.func14, Try.ntmps14
  go_wp2_with (first | (refine wpList_map_get_ok (h.nilfr (Fr.alloc (Fr.refl _ _) _)).way k3 u55 z62 n rfl rfl rfl rfl ?_; simp only [hg, Option.map_some, Option.getD_some, Option.isSome_some]) | (refine wpList_map_del (h.nilfr (Fr.alloc (Fr.alloc (Fr.refl _ _) _) _)).way k3 u55 n rfl rfl rfl rfl ?_))
  intro w3 hm ht
  have h3 := (h.nilfr (Fr.alloc (Fr.alloc (Fr.refl _ _) _) _)).turnWay hm ht (fun p hp => h.r4 p (mem_adel hp))
  have f3 : Fr [b, m1, m2] w w3 := (Fr.alloc (Fr.alloc (Fr.refl _ _) _) _).andThen ht.fr (by simp)
  have b6 : Blk w3 w.heap.size 32 a.arr := ((Blk.new w 32 a.arr).alloc (.cells x.arr 62)).fr ht.fr (by simp; omega)
  have b9 : Blk w3 (w.heap.size + 1) 62 x.arr := (Blk.new' (w := w.alloc (.cells a.arr 32)) 62 x.arr (by simp)).fr ht.fr (by simp; omega)
  rw [Ans.arr, ha] at b6
  have c6 := b6.c8
  have c9 := b9.c3
  have hc3 := h3.cells
  clear hm ht hc h
  go_wp2
  refine wp_tail_gen 6 (fun w4 => CacheAt w4 b m1 m2 (c.drop n) ∧ Fr [b, m1, m2] w w4 ∧ Blk w4 (w.heap.size + 1) 62 x.arr) ⟨h3.drew, f3.drew, b9⟩ (by kernel_rfl) (by kernel_rfl) ?_
  clear h3 f3 b6 b9 c6 c9 hc3
  rintro w4 ⟨h4, f4, b9⟩
  have c9 := b9.c3
  have hc4 := h4.cells
  simp only [List.take_succ_cons, List.take_zero, List.drop_succ_cons, List.drop_zero]
  repeat still_step
  refine wpStill_nil ?_
  refine wpList_map_del h4.all k9 u56 x.token rfl rfl rfl rfl ?_
  intro w5 hm ht
  have h5 := h4.turnAll hm ht (fun p hp => ⟨h4.str p (mem_adel hp), h4.r5 p (mem_adel hp), h4.typ p (mem_adel hp)⟩)
  have f5 := f4.andThen ht.fr (by simp)
  clear h4 f4 hm ht hc4 c9 b9
  go_wp2
  go_ret
  exact ⟨rfl, h5, f5⟩

theorem fill_late (n : Int) (a : Ans) (now : Int) (x : Lk) (h : CacheAt w b m1 m2 c) (hn : I64 now) (hg : aget n c.way = some x) (ha : a.active = true) (hl : liveB x.start now c.short = false) :
   Calls Try.prog 14 #[.pointer (some ⟨b, 0, none⟩), .int .i64 n, .agg a.arr, .int .i64 now] w (FillPost w b m1 m2 false (c.drop n)) := by
  have hc := h.cells
  have hlt := h.way.lt
  have hs := h.r1
  have hxs := h.r4 _ (mem_of_aget hg)
  have hlive := fun w => live_t x.start now c.short w hxs hn ⟨by omega, by omega⟩
  rw [hl] at hlive
  go_enter Try.func14, Try.ntmps14
  go_wp2_with (first | (refine wpList_map_get_ok (h.nilfr (Fr.alloc (Fr.refl _ _) _)).way k3 u55 z62 n rfl rfl rfl rfl ?_; simp only [hg, Option.map_some, Option.getD_some, Option.isSome_some]) | (refine wpList_map_del (h.nilfr (Fr.alloc (Fr.alloc (Fr.refl _ _) _) _)).way k3 u55 n rfl rfl rfl rfl ?_))
  intro w3 hm ht
  have h3 := (h.nilfr (Fr.alloc (Fr.alloc (Fr.refl _ _) _) _)).turnWay hm ht (fun p hp => h.r4 p (mem_adel hp))
  have f3 : Fr [b, m1, m2] w w3 := (Fr.alloc (Fr.alloc (Fr.refl _ _) _) _).andThen ht.fr (by simp)
  have b6 : Blk w3 w.heap.size 32 a.arr := ((Blk.new w 32 a.arr).alloc (.cells x.arr 62)).fr ht.fr (by simp; omega)
  have b9 : Blk w3 (w.heap.size + 1) 62 x.arr := (Blk.new' (w := w.alloc (.cells a.arr 32)) 62 x.arr (by simp)).fr ht.fr (by simp; omega)
  rw [Ans.arr, ha] at b6
  have c6 := b6.c8
  have c9 := b9.c3
  have hc3 := h3.cells
  clear hm ht hc h
  go_wp2
  refine wp_still_gen (fun w4 => CacheAt w4 b m1 m2 (c.drop n) ∧ Fr [b, m1, m2] w w4 ∧ Blk w4 (w.heap.size + 1) 62 x.arr) ⟨h3.drew, f3.drew, b9⟩ (by kernel_rfl) (by kernel_rfl) ?_
  clear h3 f3 b6 b9 c6 c9 hc3
  rintro w4 ⟨h4, f4, b9⟩
  have c9 := b9.c3
  have hc4 := h4.cells
  repeat (first | still_step | still_call (still_left (hlive _)))
  refine wpStill_nil ?_
  clear c9 hlive
  go_wp2
  go_ret
  exact ⟨rfl, h4, f4⟩
end
end Go.Proofs.Ythegggfpofdcdaa
