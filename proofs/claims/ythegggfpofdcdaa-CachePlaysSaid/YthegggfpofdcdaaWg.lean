/- Walks: the chapter's example. Conditions: none. -/
import Derived.Test.YthegggfpofdcdaaWb
import Derived.Test.YthegggfpofdcdaaWd
import Derived.Test.YthegggfpofdcdaaWf
namespace Go.Proofs.Ythegggfpofdcdaa
open Go.RowKit Go.Sig

def yesA : Ans := ⟨0, 0, 0, none, 0, 0, ⟨#[]⟩, ⟨#[]⟩, true, false⟩
theorem yes_ok (w : World) : ScOk w yesA [] := ⟨Rd.nil _ _ _, fun _ => rfl, by decide⟩
@[reducible] def tT : ByteArray := ⟨#[116]⟩
@[reducible] def tF : ByteArray := ⟨#[102]⟩

set_option maxHeartbeats 800000 in
theorem known_t (w : World) : Calls Try.prog 8 #[] w fun e w' => e = .returned (.bool true) ∧ Fr [] w w' := by
  go_enter Try.func8, Try.ntmps8
  go_wp2_with fail
  refine (new_good 10 2 w (by decide) (by decide) (by decide) (by decide)).mono ?_
  rintro e w1 ⟨b, m1, m2, rfl, h1, f1, lb, lm1, lm2⟩
  have hb1 := h1.blk.lt
  have hm1 := h1.way.lt
  have hm2 := h1.all.lt
  go_wp2_with fail
  have B1 : Blk (w1.alloc (.cells yesA.arr 32)) w1.heap.size 32 yesA.arr := Blk.new _ _ _
  have F1 : Fr [b, m1, m2] w1 (w1.alloc (.cells yesA.arr 32)) := (Fr.refl _ _).alloc _
  refine (ask_t tT tF 5 (h1.alloc _) (by decide) (by constructor <;> decide)).mono ?_
  rintro e w2 ⟨he, h2, f2⟩
  obtain rfl : e = .returned (.int .i64 1) := he
  have B2 := B1.fr f2 (by simp; omega)
  have F2 := F1.trans f2
  clear B1 F1 f2 h1
  have c2 := B2.c8
  go_wp2_with fail
  refine (fill_kept 1 yesA [] 14 ⟨tF, 5, tT⟩ h2 (by constructor <;> decide) (by rfl) rfl (show liveB 5 14 10 = true by decide) (yes_ok _)).mono ?_
  rintro e w3 ⟨A', c', _, hk⟩
  have hlen : ((CacheM.keep (CacheM.ask ⟨10, 2, 0, [], []⟩ tT tF 5) 1 ⟨tF, 5, tT⟩ (yesA.re A' c') []).length : Int) = 1 := rfl
  rcases hk with ⟨_, rfl, h3, f3⟩ | ⟨hk, _⟩
  rotate_left
  · rw [hlen] at hk
    exact absurd hk (by decide)
  have B3 := B2.fr f3 (by simp; omega)
  have F3 := F2.trans f3
  clear B2 F2 f3 h2 c2 hlen
  have c3 := B3.c8
  go_wp2_with fail
  refine (get_yes tT 14 ⟨tF, 5, yesA.re A' c', []⟩ h3 (by constructor <;> decide) (by rfl) (show liveB 5 14 10 = true by decide)).mono ?_
  rintro e w4 ⟨A2, c2', rfl, _, f4, _⟩
  have h4 := h3.nilfr f4
  have B4 := B3.fr f4 (by simp)
  have F4 := F3.trans f4.nil
  clear B3 F3 f4 h3 c3
  have c4 := B4.c8
  unfold Ans.val
  go_wp2_with fail
  have h4a := h4.alloc (.cells (yesA.re A2 c2').arr 32)
  have B4a := B4.alloc (.cells (yesA.re A2 c2').arr 32)
  have F4a := F4.alloc (.cells (yesA.re A2 c2').arr 32)
  clear h4 B4 F4 c4
  refine (get_old tT 15 ⟨tF, 5, yesA.re A' c', []⟩ h4a (by constructor <;> decide) (by rfl) (show liveB 5 15 10 = false by decide)).mono ?_
  rintro e w5 ⟨rfl, f5⟩
  have h5 := h4a.nilfr f5
  have B5 := B4a.fr f5 (by simp)
  have F5 := F4a.trans f5.nil
  clear h4a B4a F4a f5
  have c5 := B5.c8
  unfold Ans.val
  go_wp2_with fail
  have h5a := h5.alloc (.cells Ans.zero.arr 32)
  have B5a := B5.alloc (.cells Ans.zero.arr 32)
  have F5a := F5.alloc (.cells Ans.zero.arr 32)
  clear h5 B5 F5 c5
  refine (ask_t tT tF 20 h5a (show (1 : Int) < 4000000000 by decide) (by constructor <;> decide)).mono ?_
  rintro e w6 ⟨he, h6, f6⟩
  obtain rfl : e = .returned (.int .i64 2) := he
  have B6 := B5a.fr f6 (by simp; omega)
  have F6 := F5a.trans f6
  clear h5a B5a F5a f6
  have c6 := B6.c8
  go_wp2_with fail
  refine (void_t b m1 m2 _ tF w6 h6).mono ?_
  rintro e w7 ⟨rfl, h7, f7⟩
  have B7 := B6.fr f7 (by simp; omega)
  have F7 := F6.trans f7
  clear h6 B6 F6 f7 c6
  have c7 := B7.c8
  go_wp2_with fail
  refine (fill_none 2 yesA 20 h7 rfl).mono ?_
  rintro e w8 ⟨rfl, h8, f8⟩
  have F8 := F7.trans f8
  clear h7 B7 F7 f8 c7
  go_wp2_with fail
  refine (count_t h8).mono ?_
  rintro e w9 ⟨he, rfl⟩
  obtain rfl : e = .returned (.int .i64 0) := he
  go_wp2_with fail
  go_ret
  exact ⟨rfl, f1.andThen F8 (by simp; omega)⟩
end Go.Proofs.Ythegggfpofdcdaa
