/- A link of a chain of comparisons, taken at one step: 'before || a.x != b.x'. Conditions: each theorem's own. -/
import Derived.Test.YtdeoinjjphdbmaaGreatMem
namespace Go.Sig
open Go

section
variable {P : Program} {ops : Array Oper} {Q : Exit → Act → World → Prop} {a : Act} {w : World} {rest : List Oper}
theorem wpList_val {o : Oper} {v : Value} (hw : Region.wanted o (yielded ops a.tmps) = true) (hr : (execOp a.eval o).run P w = .ok (.value v) w) (h : wpList P ops Q rest (a.put o.dst v) w) : wpList P ops Q (o :: rest) a w := by
  refine wpList_step fun K hK => ?_
  rw [if_pos hw]
  unfold Oper.wp
  rw [hr]
  exact hK _ _ h
theorem wpList_not {o : Oper} (hw : Region.wanted o (yielded ops a.tmps) = false) (h : wpList P ops Q rest (a.put o.dst undef) w) : wpList P ops Q (o :: rest) a w := wpList_step fun K hK => by
  rw [if_neg (by rw [hw]; decide)]
  exact hK _ _ h
theorem put_ne {d s : Nat} {v : Value} (h : d ≠ s) : (a.put (some d) v).tmps[s]? = a.tmps[s]? := by
  simp only [Act.put, Array.getElem?_setIfInBounds, if_neg h]
theorem put_eq {d : Nat} {v : Value} (h : d < a.tmps.size) : (a.put (some d) v).tmps[d]? = some v := by
  simp [Act.put, h]
theorem put_size {d : Option Nat} {v : Value} : (a.put d v).tmps.size = a.tmps.size := by
  cases d <;> simp [Act.put]
theorem eval_some {s : Nat} {v : Value} (h : a.tmps[s]? = some v) : a.eval (.tmp s) = v := by
  simp [Act.eval, h]
theorem wanted_none {o : Oper} {y : Nat → Option Bool} (h : o.guard = none) : Region.wanted o y = true := by simp [Region.wanted, h]
theorem wanted_some {o : Oper} {i m : Nat} {b c : Bool} (h : o.guard = some (i, c)) (hi : (ops[i]?).bind (·.dst) = some m) (ht : a.tmps[m]? = some (.bool b)) : Region.wanted o (yielded ops a.tmps) = (b == c) := by
  simp only [Region.wanted, h, yielded, hi, Option.bind_some, ht]
  cases b <;> cases c <;> rfl

/-- Seven operations: what came before; two cells and whether they differ, asked only where it isn't yet told (c: false) or is (c: true); what both say (x). -/
theorem wpList_link {o0 o1 o2 o3 o4 o5 o6 : Oper} {m f1 l1 f2 l2 n q s1 s2 i : Nat} (b c t x : Bool) {P1 P2 V1 V2 V3 V4 : Value}
    (hd : [o0.dst, o1.dst, o2.dst, o3.dst, o4.dst, o5.dst, o6.dst] = [some m, some f1, some l1, some f2, some l2, some n, some q])
    (hg : [o0.guard, o1.guard, o2.guard, o3.guard, o4.guard, o5.guard, o6.guard] = [none, some (i, c), some (i, c), some (i, c), some (i, c), some (i, c), none])
    (hi : (ops[i]?).bind (·.dst) = some m) (hne : [m, f1, l1, f2, l2, n].Nodup) (hs : [m, f1, l1, f2, l2, n].contains s1 = false ∧ [m, f1, l1, f2, l2, n].contains s2 = false)
    (hz : [m, f1, l1, f2, l2, n].all (· < a.tmps.size) = true) (e1 : a.tmps[s1]? = some P1) (e2 : a.tmps[s2]? = some P2)
    (r0 : (execOp a.eval o0).run P w = .ok (.value (.bool b)) w)
    (r1 : ∀ e : Act, e.eval (.tmp s1) = P1 → (execOp e.eval o1).run P w = .ok (.value V1) w) (r2 : ∀ e : Act, e.eval (.tmp f1) = V1 → (execOp e.eval o2).run P w = .ok (.value V2) w)
    (r3 : ∀ e : Act, e.eval (.tmp s2) = P2 → (execOp e.eval o3).run P w = .ok (.value V3) w) (r4 : ∀ e : Act, e.eval (.tmp f2) = V3 → (execOp e.eval o4).run P w = .ok (.value V4) w)
    (r5 : ∀ e : Act, e.eval (.tmp l1) = V2 → e.eval (.tmp l2) = V4 → (execOp e.eval o5).run P w = .ok (.value (.bool t)) w)
    (r6 : ∀ e : Act, e.eval (.tmp m) = .bool b → (b = c → e.eval (.tmp n) = .bool t) → (execOp e.eval o6).run P w = .ok (.value (.bool x)) w)
    (h : ∀ v1 v2 v3 v4 v5 : Value, wpList P ops Q rest (((((((a.put (some m) (.bool b)).put (some f1) v1).put (some l1) v2).put (some f2) v3).put (some l2) v4).put (some n) v5).put (some q) (.bool x)) w) :
    wpList P ops Q (o0 :: o1 :: o2 :: o3 :: o4 :: o5 :: o6 :: rest) a w := by
  simp only [List.cons.injEq, and_true] at hd hg
  obtain ⟨d0, d1, d2, d3, d4, d5, d6⟩ := hd
  obtain ⟨g0, g1, g2, g3, g4, g5, g6⟩ := hg
  simp only [List.nodup_cons, List.mem_cons, List.not_mem_nil, or_false, not_or, List.nodup_nil, not_false_eq_true, and_true] at hne
  obtain ⟨⟨n01, n02, n03, n04, n05⟩, ⟨n12, n13, n14, n15⟩, ⟨n23, n24, n25⟩, ⟨n34, n35⟩, n45⟩ := hne
  simp only [List.contains_eq_mem, List.mem_cons, List.not_mem_nil, or_false, decide_eq_false_iff_not, not_or] at hs
  obtain ⟨⟨a0, a1, a2, a3, a4, a5⟩, b0, b1, b2, b3, b4, b5⟩ := hs
  simp only [List.all_cons, List.all_nil, Bool.and_true, Bool.and_eq_true, decide_eq_true_eq] at hz
  obtain ⟨z0, z1, z2, z3, z4, z5⟩ := hz
  refine wpList_val (wanted_none g0) r0 ?_
  rw [d0]
  have t0 : (a.put (some m) (.bool b)).tmps[m]? = some (.bool b) := put_eq z0
  by_cases hb : b = c
  · have hbc : (b == c) = true := by rw [hb]; cases c <;> rfl
    refine wpList_val ((wanted_some g1 hi t0).trans hbc) (r1 _ (eval_some ((put_ne (Ne.symm a0)).trans e1))) ?_
    rw [d1]
    refine wpList_val ((wanted_some g2 hi ((put_ne (Ne.symm n01)).trans t0)).trans hbc) (r2 _ (eval_some (put_eq (by rw [put_size]; exact z1)))) ?_
    rw [d2]
    refine wpList_val ((wanted_some g3 hi ((put_ne (Ne.symm n02)).trans ((put_ne (Ne.symm n01)).trans t0))).trans hbc) (r3 _ (eval_some ((put_ne (Ne.symm b2)).trans ((put_ne (Ne.symm b1)).trans ((put_ne (Ne.symm b0)).trans e2))))) ?_
    rw [d3]
    refine wpList_val ((wanted_some g4 hi ((put_ne (Ne.symm n03)).trans ((put_ne (Ne.symm n02)).trans ((put_ne (Ne.symm n01)).trans t0)))).trans hbc) (r4 _ (eval_some (put_eq (by simp only [put_size]; exact z3)))) ?_
    rw [d4]
    refine wpList_val ((wanted_some g5 hi ((put_ne (Ne.symm n04)).trans ((put_ne (Ne.symm n03)).trans ((put_ne (Ne.symm n02)).trans ((put_ne (Ne.symm n01)).trans t0))))).trans hbc)
      (r5 _ (eval_some ((put_ne (Ne.symm n24)).trans ((put_ne (Ne.symm n23)).trans (put_eq (by simp only [put_size]; exact z2))))) (eval_some (put_eq (by simp only [put_size]; exact z4)))) ?_
    rw [d5]
    refine wpList_val (wanted_none g6) (r6 _ (eval_some ((put_ne (Ne.symm n05)).trans ((put_ne (Ne.symm n04)).trans ((put_ne (Ne.symm n03)).trans ((put_ne (Ne.symm n02)).trans ((put_ne (Ne.symm n01)).trans t0)))))) (fun _ => eval_some (put_eq (by simp only [put_size]; exact z5)))) ?_
    rw [d6]
    exact h _ _ _ _ _
  · have hbc : (b == c) = false := by cases b <;> cases c <;> first | rfl | exact absurd rfl hb
    refine wpList_not ((wanted_some g1 hi t0).trans hbc) ?_
    rw [d1]
    refine wpList_not ((wanted_some g2 hi ((put_ne (Ne.symm n01)).trans t0)).trans hbc) ?_
    rw [d2]
    refine wpList_not ((wanted_some g3 hi ((put_ne (Ne.symm n02)).trans ((put_ne (Ne.symm n01)).trans t0))).trans hbc) ?_
    rw [d3]
    refine wpList_not ((wanted_some g4 hi ((put_ne (Ne.symm n03)).trans ((put_ne (Ne.symm n02)).trans ((put_ne (Ne.symm n01)).trans t0)))).trans hbc) ?_
    rw [d4]
    refine wpList_not ((wanted_some g5 hi ((put_ne (Ne.symm n04)).trans ((put_ne (Ne.symm n03)).trans ((put_ne (Ne.symm n02)).trans ((put_ne (Ne.symm n01)).trans t0))))).trans hbc) ?_
    rw [d5]
    refine wpList_val (wanted_none g6) (r6 _ (eval_some ((put_ne (Ne.symm n05)).trans ((put_ne (Ne.symm n04)).trans ((put_ne (Ne.symm n03)).trans ((put_ne (Ne.symm n02)).trans ((put_ne (Ne.symm n01)).trans t0)))))) (fun q => absurd q hb)) ?_
    rw [d6]
    exact h _ _ _ _ _
/-- Five operations: what came before; one cell and what is asked of it. -/
theorem wpList_link1 {o0 o1 o2 o3 o4 : Oper} {m f1 l1 n q s1 i : Nat} (b c t x : Bool) {P1 V1 V2 : Value}
    (hd : [o0.dst, o1.dst, o2.dst, o3.dst, o4.dst] = [some m, some f1, some l1, some n, some q])
    (hg : [o0.guard, o1.guard, o2.guard, o3.guard, o4.guard] = [none, some (i, c), some (i, c), some (i, c), none])
    (hi : (ops[i]?).bind (·.dst) = some m) (hne : [m, f1, l1, n].Nodup) (hs : [m, f1, l1, n].contains s1 = false)
    (hz : [m, f1, l1, n].all (· < a.tmps.size) = true) (e1 : a.tmps[s1]? = some P1)
    (r0 : (execOp a.eval o0).run P w = .ok (.value (.bool b)) w)
    (r1 : ∀ e : Act, e.eval (.tmp s1) = P1 → (execOp e.eval o1).run P w = .ok (.value V1) w) (r2 : ∀ e : Act, e.eval (.tmp f1) = V1 → (execOp e.eval o2).run P w = .ok (.value V2) w)
    (r3 : ∀ e : Act, e.eval (.tmp l1) = V2 → (execOp e.eval o3).run P w = .ok (.value (.bool t)) w)
    (r4 : ∀ e : Act, e.eval (.tmp m) = .bool b → (b = c → e.eval (.tmp n) = .bool t) → (execOp e.eval o4).run P w = .ok (.value (.bool x)) w)
    (h : ∀ v1 v2 v3 : Value, wpList P ops Q rest (((((a.put (some m) (.bool b)).put (some f1) v1).put (some l1) v2).put (some n) v3).put (some q) (.bool x)) w) :
    wpList P ops Q (o0 :: o1 :: o2 :: o3 :: o4 :: rest) a w := by
  simp only [List.cons.injEq, and_true] at hd hg
  obtain ⟨d0, d1, d2, d3, d4⟩ := hd
  obtain ⟨g0, g1, g2, g3, g4⟩ := hg
  simp only [List.nodup_cons, List.mem_cons, List.not_mem_nil, or_false, not_or, List.nodup_nil, not_false_eq_true, and_true] at hne
  obtain ⟨⟨n01, n02, n03⟩, ⟨n12, n13⟩, n23⟩ := hne
  simp only [List.contains_eq_mem, List.mem_cons, List.not_mem_nil, or_false, decide_eq_false_iff_not, not_or] at hs
  obtain ⟨a0, a1, a2, a3⟩ := hs
  simp only [List.all_cons, List.all_nil, Bool.and_true, Bool.and_eq_true, decide_eq_true_eq] at hz
  obtain ⟨z0, z1, z2, z3⟩ := hz
  refine wpList_val (wanted_none g0) r0 ?_
  rw [d0]
  have t0 : (a.put (some m) (.bool b)).tmps[m]? = some (.bool b) := put_eq z0
  by_cases hb : b = c
  · have hbc : (b == c) = true := by rw [hb]; cases c <;> rfl
    refine wpList_val ((wanted_some g1 hi t0).trans hbc) (r1 _ (eval_some ((put_ne (Ne.symm a0)).trans e1))) ?_
    rw [d1]
    refine wpList_val ((wanted_some g2 hi ((put_ne (Ne.symm n01)).trans t0)).trans hbc) (r2 _ (eval_some (put_eq (by rw [put_size]; exact z1)))) ?_
    rw [d2]
    refine wpList_val ((wanted_some g3 hi ((put_ne (Ne.symm n02)).trans ((put_ne (Ne.symm n01)).trans t0))).trans hbc) (r3 _ (eval_some (put_eq (by simp only [put_size]; exact z2)))) ?_
    rw [d3]
    refine wpList_val (wanted_none g4) (r4 _ (eval_some ((put_ne (Ne.symm n03)).trans ((put_ne (Ne.symm n02)).trans ((put_ne (Ne.symm n01)).trans t0)))) (fun _ => eval_some (put_eq (by simp only [put_size]; exact z3)))) ?_
    rw [d4]
    exact h _ _ _
  · have hbc : (b == c) = false := by cases b <;> cases c <;> first | rfl | exact absurd rfl hb
    refine wpList_not ((wanted_some g1 hi t0).trans hbc) ?_
    rw [d1]
    refine wpList_not ((wanted_some g2 hi ((put_ne (Ne.symm n01)).trans t0)).trans hbc) ?_
    rw [d2]
    refine wpList_not ((wanted_some g3 hi ((put_ne (Ne.symm n02)).trans ((put_ne (Ne.symm n01)).trans t0))).trans hbc) ?_
    rw [d3]
    refine wpList_val (wanted_none g4) (r4 _ (eval_some ((put_ne (Ne.symm n03)).trans ((put_ne (Ne.symm n02)).trans ((put_ne (Ne.symm n01)).trans t0)))) (fun q => absurd q hb)) ?_
    rw [d4]
    exact h _ _ _
theorem ev_at {e : Act} {s : Nat} {v : Value} (h : e.eval (.tmp s) = v) : e.tmps[s]?.getD undef = v := by simpa [Act.eval] using h
theorem run_move {e : Act} {p : Operand} {d : Option Tmp} {ty : TypeId} {ps : String} {af : Array Edge} {g : Option (Nat × Bool)} : (execOp e.eval ⟨d, .move p, ty, ps, af, g⟩).run P w = .ok (.value (e.eval p)) w := rfl
theorem run_or {e : Act} {m n : Tmp} {b t : Bool} {d : Option Tmp} {ty : TypeId} {ps : String} {af : Array Edge} {g : Option (Nat × Bool)} (h1 : e.eval (.tmp m) = .bool b) (h2 : b = false → e.eval (.tmp n) = .bool t) :
    (execOp e.eval ⟨d, .pick (.tmp m) (.const (.bool true)) (.tmp n), ty, ps, af, g⟩).run P w = .ok (.value (.bool (b || t))) w := by
  have hc : e.eval (.const (.bool true)) = .bool true := rfl
  cases b with
  | true => simp [execOp, h1, asBool, hc]
  | false => simp [execOp, h1, asBool, h2 rfl, hc]
theorem run_and {e : Act} {m n : Tmp} {b t : Bool} {d : Option Tmp} {ty : TypeId} {ps : String} {af : Array Edge} {g : Option (Nat × Bool)} (h1 : e.eval (.tmp m) = .bool b) (h2 : b = true → e.eval (.tmp n) = .bool t) :
    (execOp e.eval ⟨d, .pick (.tmp m) (.tmp n) (.const (.bool false)), ty, ps, af, g⟩).run P w = .ok (.value (.bool (b && t))) w := by
  have hc : e.eval (.const (.bool false)) = .bool false := rfl
  cases b with
  | true => simp [execOp, h1, asBool, h2 rfl, hc]
  | false => simp [execOp, h1, asBool, hc]
end
end Go.Sig
