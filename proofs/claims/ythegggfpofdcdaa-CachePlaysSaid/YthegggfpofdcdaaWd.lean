/- Walks: Get of an answer that is kept. Conditions: each theorem's own. -/
import Derived.Test.YthegggfpofdcdaaWc
namespace Go.Proofs.Ythegggfpofdcdaa
open Go.RowKit Go.Sig
section
variable {b m1 m2 : Nat} {c : CacheM} {w : World}
theorem get_yes (tok : ByteArray) (now : Int) (k : Kp) (h : CacheAt w b m1 m2 c) (hn : I64 now) (hg : aget tok c.all = some k) (hl : liveB k.start now c.short = true) :
   Calls Try.prog 18 #[.pointer (some ⟨b, 0, none⟩), .string tok, .int .i64 now] w (GetYes w k) := by
  have hc := h.cells
  have hs := h.r1
  have hks := h.r5 _ (mem_of_aget hg)
  have hst := h.str _ (mem_of_aget hg)
  have hlive := fun w => live_t k.start now c.short w hks hn ⟨by omega, by omega⟩
  rw [hl] at hlive
  go_enter Try.func18, Try.ntmps18
  go_wp2_with (refine wpList_map_get_ok (h.nilfr (Fr.alloc (Fr.refl _ _) _)).all k9 u56 z69 tok rfl rfl rfl rfl ?_; simp only [hg, Option.map_some, Option.getD_some, Option.isSome_some])
  go_quiet ((go_at_call 24; exact quiet_left (hlive _)))
  go_wp2_with fail
  refine calls_gen (fun W => Blk W w.heap.size 32 #[.int .i64 0, .int .i64 0, .int .i64 0, .slice none 0 0, .string ⟨#[]⟩, .string ⟨#[]⟩, .bool false, .bool false] ∧
    Blk W (w.heap.size + 1 + 1) 32 #[.int .i64 k.a.why, .int .i64 k.a.access, .int .i64 k.a.refresh, .slice k.a.sa k.a.sl k.a.sc, .string k.a.client, .string k.a.user, .bool k.a.active, .bool k.a.wait] ∧ Fr [] w W) ⟨?_, ?_, ?_⟩ ?_
  · repeat (first | (with_reducible refine Blk.new' _ _ ?_; simp; done) | with_reducible refine Blk.alloc ?_ _ | with_reducible refine Blk.drewN ?_ _)
  · repeat (first | (with_reducible refine Blk.new' _ _ ?_; simp; done) | with_reducible refine Blk.alloc ?_ _ | with_reducible refine Blk.drewN ?_ _)
  · repeat (first | with_reducible exact Fr.refl _ _ | with_reducible refine Fr.alloc ?_ _ | with_reducible refine Fr.drew ?_ | with_reducible refine Fr.drewN ?_ _ | (with_reducible refine Fr.setCell ?_ ?_ _; rotate_left; simp))
  clear hc
  rintro W ⟨B1, B2, fW⟩
  have hW : w.heap.size + 1 + 1 < W.heap.size := B2.lt
  refine (clone_t _ _ _ k.str W (hst.strs.fr fW (fun _ _ _ => by simp)) hst.nil (by have := hst.le; omega)).mono ?_
  rintro e w2 ⟨A', c', rfl, s2, n2, f2, g2, _⟩
  have c1 := (B1.fr f2 (by simp)).c8
  have c2 := (B2.fr f2 (by simp)).c8
  have hF : Fr [] w w2 := fW.trans f2
  have hw2 := (B2.fr f2 (by simp)).lt
  clear B1 B2
  go_wp2
  have hlo : w.heap.size < W.heap.size := by omega
  refine bodyPost_ret (v := .tuple #[Ans.val { k.a with sa := A', sc := c' }, .bool true]) (by simp [results, Try.results18, go_sem, Ans.val, c1, c2]) rfl ⟨A', c', rfl, ⟨s2.fr (S := [w.heap.size, w.heap.size + 1 + 1]) ?_ ?_, n2, hst.le⟩, ?_, fun a ha => by have := g2 a ha; omega⟩
  · repeat (first | with_reducible exact Fr.refl _ _ | (with_reducible refine Fr.setCell ?_ ?_ _; rotate_left; simp))
  · intro _ a ha
    have := g2 a ha
    simp
    omega
  · repeat (first | with_reducible exact hF | (with_reducible refine Fr.setCell ?_ ?_ _; rotate_left; simp; try omega))
end
end Go.Proofs.Ythegggfpofdcdaa
