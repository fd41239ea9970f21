/- Walks of the law: a text with its length ahead; an append in a region that draws its order. Conditions: each theorem's own. -/
import Derived.Test.YtlhkkffljjbdmaaUy
namespace Go.Proofs.Ytlhkkffljjbdmaa
open Go.RowKit Go.Sig

set_option maxRecDepth 100000 in
theorem lsized_t (w : World) (s : ByteArray) (hs : s.size ≤ 1000000) :
   Calls Try.prog 48 #[.string s] w fun e w' => ∃ A c, e = .returned (.slice A (4 + s.size) c) ∧ Byts w' A (4 + s.size) (szd s) ∧ 4 + s.size ≤ c ∧ (∀ ad, A = some ad → w.heap.size ≤ ad.block) ∧ Fr [] w w' := by
  obtain ⟨i, hi, hz, h1, hb⟩ := info_parts infoU8
  have hbc := Lib.hid (be4_cells s.size hs)
  go_enter Try.func48, Try.ntmps48
  have hB := Blk.new w 5 #[.int .u8 ((s.size : Int) / 16777216), .int .u8 ((s.size : Int) / 65536), .int .u8 ((s.size : Int) / 256 % 256), .int .u8 ((s.size : Int) % 256)]
  go_wp2_with (refine wpList_append_str tBytes tStr hi hz h1 rfl hb hB rfl s (by simp; omega) rfl rfl rfl rfl ?_; intro A c w' hR hc hA hF)
  go_ret
  refine ⟨A, c, rfl, ?_, hc, fun ad e => ?_, ((Fr.refl _ _).alloc _).trans hF⟩
  · unfold Byts szd
    rw [List.map_append, hbc.out]
    exact hR
  · rcases hA ad e with h | h
    · rw [h]; exact Nat.le_refl _
    · simp at h; omega
/-- 'append(xs, ys...)' in a region that draws its order. -/
theorem wp_own_append {P : Program} {w : World} {e size n m c : Nat} {v z : Value} {xs news : List Value} {t : TypeId} {bytes : Nat} {A : Option Addr}
    {o : Oper} {a : Act} {K : Act → World → Prop} {Q : Exit → Act → World → Prop} (T : SliceTy P t e size bytes z) (h : Own w e size v n xs) (hr : Rd w size A m news)
    (h1 : ∀ u ∈ news, u.oneCell' = true) (hm : A = none → m = 0) (h63 : n + m ≤ maxLen) (hb : (n + m) * bytes ≤ 140737488355328)
    {s x : Operand} (hop : o.op = .call { callee := .builtin .append, args := #[s, x], argTypes := #[t, t] }) (hs : a.eval s = v) (hx : a.eval x = .slice A m c)
    (hK : ∀ v' w', Own w' e size v' (n + m) (xs ++ news) → Fr (rowOf v) w w' → (∀ g, g ∈ rowOf v' → g ∈ rowOf v ∨ g = w.heap.size) → K (a.put o.dst v') w') : Oper.wp P o a w K Q := by
  obtain ⟨v', w', hrun, r1, r2, r3⟩ := h.run_append (ty := o.type) (c := c) T hr h1 hm h63 hb
  unfold Oper.wp
  simp [execOp, hop, resolve, invoke, builtin, hs, hx, hrun, Result.andThen]
  exact hK v' w' r1 r2 r3
end Go.Proofs.Ytlhkkffljjbdmaa
