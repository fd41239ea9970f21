/- Walks: Fill on the way on which an answer is kept. Conditions: each theorem's own. -/
import Derived.Test.YthegggfpofdcdaaWe
import Derived.Test.YthegggfpofdcdaaCp
namespace Go.Proofs.Ythegggfpofdcdaa
open Go.RowKit Go.Sig

def CacheM.keep (c : CacheM) (n : Int) (x : Lk) (a : Ans) (l : List ByteArray) : List (ByteArray × Kp) := aset x.token ⟨x.family, x.start, a, l⟩ (c.drop n).all
def FillKept (w : World) (b m1 m2 : Nat) (c : CacheM) (n : Int) (x : Lk) (a : Ans) (l : List ByteArray) (e : Ending) (w' : World) : Prop :=
  ∃ A' c', (∀ ad, A' = some ad → w.heap.size ≤ ad.block) ∧
    (((c.keep n x (a.re A' c') l).length ≤ c.room ∧ FillPost w b m1 m2 true { c.drop n with all := c.keep n x (a.re A' c') l } e w') ∨
     (c.room < (c.keep n x (a.re A' c') l).length ∧ ∃ t, Oldest t (c.keep n x (a.re A' c') l) ∧ FillPost w b m1 m2 true { c.drop n with all := adel t (c.keep n x (a.re A' c') l) } e w'))

section
variable {b m1 m2 : Nat} {c : CacheM} {w : World}

set_option maxHeartbeats 800000 in
theorem fill_kept (n : Int) (a : Ans) (l : List ByteArray) (now : Int) (x : Lk) (h : CacheAt w b m1 m2 c) (hn : I64 now) (hg : aget n c.way = some x) (ha : a.active = true) (hl : liveB x.start now c.short = true) (hsc : ScOk w a l) :
   Calls Try.prog 14 #[.pointer (some ⟨b, 0, none⟩), .int .i64 n, .agg a.arr, .int .i64 now] w (FillKept w b m1 m2 c n x a l) := by
  have hc := h.cells
  have hlt := h.way.lt
  have hlt2 := h.all.lt
  have hs := h.r1
  have hxs := h.r4 _ (mem_of_aget hg)
  have hlive := fun w => live_t x.start now c.short w hxs hn ⟨by omega, by omega⟩
  rw [hl] at hlive
  have hold : ∀ p ∈ c.all, Off [w.heap.size] p.2.a.sa := fun p hp ad hA => by
    have := (h.typ p hp).lt ad hA
    simp
    omega
  have hsc' := fun {w'} (hf : Fr [b, m1, m2] w w') => h.keeps hf hsc
  go_enter Try.func14, Try.ntmps14
  go_wp2_with (first | (refine wpList_map_get_ok (h.nilfr (Fr.alloc (Fr.refl _ _) _)).way k3 u55 z62 n rfl rfl rfl rfl ?_; simp only [hg, Option.map_some, Option.getD_some, Option.isSome_some]) | (refine wpList_map_del (h.nilfr (Fr.alloc (Fr.alloc (Fr.refl _ _) _) _)).way k3 u55 n rfl rfl rfl rfl ?_))
  intro w3 hm ht
  have h3 := (h.nilfr (Fr.alloc (Fr.alloc (Fr.refl _ _) _) _)).turnWay hm ht (fun p hp => h.r4 p (mem_adel hp))
  have f3 : Fr [b, m1, m2] w w3 := (Fr.alloc (Fr.alloc (Fr.refl _ _) _) _).andThen ht.fr (by simp)
  have b6 : Blk w3 w.heap.size 32 a.arr := ((Blk.new w 32 a.arr).alloc (.cells x.arr 62)).fr ht.fr (by simp; omega)
  have b9 : Blk w3 (w.heap.size + 1) 62 x.arr := (Blk.new' (w := w.alloc (.cells a.arr 32)) 62 x.arr (by simp)).fr ht.fr (by simp; omega)
  rw [Ans.arr, ha] at b6
  have c6 := b6.c8
  have c9 := b9.c3
  have hc3 := h3.cells
  clear hm ht hc
  go_wp2
  refine wp_still_gen (fun w4 => CacheAt w4 b m1 m2 (c.drop n) ∧ Fr [b, m1, m2] w w4 ∧ Blk w4 w.heap.size 32 a.arr ∧ Blk w4 (w.heap.size + 1) 62 x.arr) ⟨h3.drew, f3.drew, by rw [Ans.arr, ha]; exact b6, b9⟩ (by kernel_rfl) (by kernel_rfl) ?_
  clear h3 f3 b6 b9 c6 c9 hc3 ha
  rintro w4 ⟨h4, f4, b6, b9⟩
  have c9 := b9.c3
  have hc4 := h4.cells
  repeat (first | still_step | still_call (still_left (hlive _)))
  refine wpStill_nil ?_
  have c6 := b6.c8
  clear hlive
  have s4 := hsc' f4
  go_wp2_with fail
  refine (clone_t _ _ _ l w4 s4.strs s4.nil (by have := s4.le; omega)).mono ?_
  rintro e w5 ⟨A', c', rfl, s5, n5, f5, g5, y5⟩
  have b6' := b6.fr f5 (by simp)
  have b9' := b9.fr f5 (by simp)
  have h5 := h4.nilfr f5
  have hsz := f4.size
  have hlt6 := b9.lt
  have hc5 := h5.cells
  have c6' := b6'.c8
  clear c9 hc4 c6 b6 b9 h4 s4
  go_wp2
  have hblt := h.blk.lt
  have b6s : Blk (w5.setCell ⟨w.heap.size, 3, none⟩ (.slice A' a.sl c')) w.heap.size 32 (a.re A' c').arr := by simpa [Ans.arr] using b6'.set 3 (.slice A' a.sl c')
  have s6 : Strs (w5.setCell ⟨w.heap.size, 3, none⟩ (.slice A' a.sl c')) A' a.sl l := by
    refine s5.fr (S := [w.heap.size]) ((Fr.refl _ _).setCell (by simp) _) (fun _ ad hA => ?_)
    have := g5 ad hA
    simp only [List.mem_singleton]
    omega
  have y6 : Ty9 (w5.setCell ⟨w.heap.size, 3, none⟩ (.slice A' a.sl c')).drew A' := by
    refine y5.fr (S := [w.heap.size]) ((Fr.refl _ _).setCell (by simp) _).drew (fun ad hA => ?_)
    have := g5 ad hA
    simp only [List.mem_singleton]
    omega
  refine wp_tail_gen 10 (fun w7 => CacheAt w7 b m1 m2 (c.drop n) ∧ Fr [b, m1, m2] w w7 ∧ Blk w7 w.heap.size 32 (a.re A' c').arr ∧ Blk w7 (w.heap.size + 1) 62 x.arr ∧ ScOk w7 (a.re A' c') l ∧ Ty9 w7 A')
    ⟨(h5.fr (S := [w.heap.size]) ((Fr.refl _ _).setCell (by simp) _) (by simp; omega) (by simp; omega) (by simp; omega) hold).drew, ((f4.trans f5.nil).setCell (by simp) _).drew, b6s, b9'.far (by simp) _, ⟨s6, n5, hsc.le⟩, y6⟩ (by kernel_rfl) (by kernel_rfl) ?_
  have g5' : ∀ ad, A' = some ad → w.heap.size ≤ ad.block := fun ad hA => by have := g5 ad hA; omega
  clear h5 f4 f5 b6' b9' s5 g5 hc5 c6' b6s s6 y5 y6
  rintro w7 ⟨h7, f7, b6, b9, s7, y7⟩
  have c6 := b6.c8
  have c9 := b9.c3
  have hc7 := h7.cells
  simp only [List.take_succ_cons, List.take_zero, List.drop_succ_cons, List.drop_zero]
  repeat still_step
  refine wpStill_nil ?_
  refine wpList_map_set h7.all k9 u56 x.token ⟨x.family, x.start, (a.re A' c'), l⟩ rfl rfl rfl rfl rfl ?_
  intro w8 hm ht
  have h8 := h7.turnAll hm ht (by
    intro p hp
    rcases mem_aset hp with rfl | hp
    · exact ⟨s7, hxs, y7⟩
    · exact ⟨h7.str p hp, h7.r5 p hp, h7.typ p hp⟩)
  have f8 := f7.andThen ht.fr (by simp)
  have b9' := b9.fr ht.fr (by simp; omega)
  clear h7 f7 b6 b9 s7 y7 c6 c9 hc7 hm ht
  go_wp2
  refine wp_still_gen (fun w9 => CacheAt w9 b m1 m2 { c.drop n with all := c.keep n x (a.re A' c') l } ∧ Fr [b, m1, m2] w w9 ∧ Blk w9 (w.heap.size + 1) 62 x.arr) ⟨h8.drew, f8.drew, b9'⟩ (by kernel_rfl) (by kernel_rfl) ?_
  clear h8 f8 b9'
  rintro w9 ⟨h9, f9, b9⟩
  have c9 := b9.c3
  have hc9 := h9.cells
  have hln := fun ty => h9.all.run_len (ty := ty) u56
  generalize hk : c.keep n x (a.re A' c') l = all1 at *
  have Hk := Lib.hid hk
  clear hk
  by_cases hroom : (c.drop n).room < (all1.length : Int)
  · repeat still_step
    refine wpStill_nil ?_
    clear hln
    obtain ⟨lb, clock, hB, hlb⟩ := h9.all.stamps
    have Hlb := Lib.hid hlb
    clear hlb
    have hr := hB.run_range u56
    have hxt : ∃ f, aget x.token all1 = some f := ⟨_, by rw [← Hk.out]; exact aget_aset_same⟩
    obtain ⟨f0, hf0⟩ := hxt
    have Hf0 := Lib.hid hf0
    clear hf0
    go_wp2_with fail
    go_loopg [11] (lb.length + 1) (fun k s11 wr => ∃ (seen : Array Nat) (t : ByteArray) (f : Kp), s11 = .string t ∧ aget t all1 = some f ∧ (todo lb seen).length < k ∧ It wr w9.heap.size m2 clock seen ∧ IsMapB wr m2 Value.string evKp lb clock ∧ Fr [] w9 wr ∧ Least lb seen t f)
    case atStart =>
      exact ⟨#[], x.token, f0, rfl, Hf0.out, by have := List.length_filter_le (fun x : ByteArray × Kp × Nat => !(#[] : Array Nat).contains x.2.2) lb; unfold todo; omega, It.new _ m2 clock, hB.fr ((Fr.refl [] w9).alloc _) (by simp), (Fr.refl _ _).alloc _, fun y _ hy => by simp at hy⟩
    case round =>
      obtain ⟨seen, t, f, rfl, hf, hk, hI, hM, hF, hL⟩ := hrel
      have hcr := (h9.nilfr hF).cells
      have Hf := Lib.hid hf
      clear hf hc9 c9 hr
      go_wp2_with (first | (refine wpList_map_next hM hI rfl rfl rfl (fun h0 => ?_) (fun y wn hy hIn hMn ht => have hcn := (h9.nilfr (Fr.andThen hF ht.fr (by simp))).cells; ?_)) | (refine wpList_map_entry hMn hIn (mem_todo hy) rfl rfl rfl ?_) | (refine wpList_map_get (l := all1) (ek := Value.string) (ev := evKp) (b := m2) ?_ k9 u56 z69 t rfl rfl rfl rfl ?_; rotate_left; simp only [Hf.out, Option.map_some, Option.getD_some]) | (refine wpList_map_del (h9.nilfr hF).all k9 u56 t rfl rfl rfl rfl ?_))
      case refine_1 =>
        have := hMn.toMap
        rw [Hlb.out] at this
        exact this.alloc _
      · intro w10 hm10 ht10
        have h10 := (h9.nilfr hF).turnAll hm10 ht10 (fun p hp => ⟨(h9.nilfr hF).str p (mem_adel hp), h9.r5 p (mem_adel hp), (h9.nilfr hF).typ p (mem_adel hp)⟩)
        have f10 := (f9.trans hF.nil).andThen ht10.fr (by simp)
        have hO := least_end Hlb.out Hf.out hL h0
        clear hm10 ht10 hcr hL hM hI hB
        go_wp2
        go_ret
        refine ⟨A', c', g5', .inr ?_⟩
        rw [Hk.out]
        exact ⟨hroom, t, hO, rfl, h10, f10⟩
      · have hk : kl (y.1, y.2.1.start) (t, f.start) = true := by simp [kl, bl, *]
        go_roundg ((todo lb (seen.push y.2.2)).length + 1)
        case measure => have := todo_lt hy; omega
        case rel => exact ⟨_, y.1, y.2.1, rfl, get_lb Hlb.out hB.nodup (mem_todo hy), Nat.lt_succ_self _, hIn.fr (((Fr.refl [] wn).alloc _).alloc _) (by simp), hMn.fr (((Fr.refl [] wn).alloc _).alloc _) (by simp), ((Fr.andThen hF ht.fr (by simp)).alloc _).alloc _, least_yes Hlb.out (hB.inc.imp (fun h e => by omega)) hB.nodup Hf.out hL (mem_todo hy) hk⟩
      · have hk : kl (y.1, y.2.1.start) (t, f.start) = false := by simp [kl, bl, *]
        go_roundg ((todo lb (seen.push y.2.2)).length + 1)
        case measure => have := todo_lt hy; omega
        case rel => exact ⟨_, t, f, rfl, Hf.out, Nat.lt_succ_self _, hIn.fr (((Fr.refl [] wn).alloc _).alloc _) (by simp), hMn.fr (((Fr.refl [] wn).alloc _).alloc _) (by simp), ((Fr.andThen hF ht.fr (by simp)).alloc _).alloc _, least_no (hB.inc.imp (fun h e => by omega)) hL (mem_todo hy) hk⟩
      · have hk : kl (y.1, y.2.1.start) (t, f.start) = false := by simp [kl, bl, *]
        go_roundg ((todo lb (seen.push y.2.2)).length + 1)
        case measure => have := todo_lt hy; omega
        case rel => exact ⟨_, t, f, rfl, Hf.out, Nat.lt_succ_self _, hIn.fr (((Fr.refl [] wn).alloc _).alloc _) (by simp), hMn.fr (((Fr.refl [] wn).alloc _).alloc _) (by simp), ((Fr.andThen hF ht.fr (by simp)).alloc _).alloc _, least_no (hB.inc.imp (fun h e => by omega)) hL (mem_todo hy) hk⟩
      · have hk : kl (y.1, y.2.1.start) (t, f.start) = true := by simp [kl, bl, *]
        go_roundg ((todo lb (seen.push y.2.2)).length + 1)
        case measure => have := todo_lt hy; omega
        case rel => exact ⟨_, y.1, y.2.1, rfl, get_lb Hlb.out hB.nodup (mem_todo hy), Nat.lt_succ_self _, hIn.fr (((Fr.refl [] wn).alloc _).alloc _) (by simp), hMn.fr (((Fr.refl [] wn).alloc _).alloc _) (by simp), ((Fr.andThen hF ht.fr (by simp)).alloc _).alloc _, least_yes Hlb.out (hB.inc.imp (fun h e => by omega)) hB.nodup Hf.out hL (mem_todo hy) hk⟩
  · have hroom' : (all1.length : Int) ≤ (c.drop n).room := by omega
    repeat still_step
    refine wpStill_nil ?_
    clear hln
    go_wp2
    go_ret
    refine ⟨A', c', g5', .inl ?_⟩
    rw [Hk.out]
    exact ⟨hroom', rfl, h9, f9⟩
end
end Go.Proofs.Ythegggfpofdcdaa
