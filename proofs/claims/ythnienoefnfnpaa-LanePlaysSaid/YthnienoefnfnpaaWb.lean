/- Walks: Send: it returns what the model says, and a packet more lies in the lane. Conditions: each theorem's own. -/
import Derived.Test.YthnienoefnfnpaaWa
import Derived.Deep.RegionLaw
import Derived.Deep.DeepCutAuto
namespace Go.Proofs.Ythnienoefnfnpaa
open Go.RowKit Go.Sig

/-- 'append(xs, ys...)' as a step of a region that draws its order. -/
theorem step_own_append {P : Program} {w : World} {e size n m c : Nat} {v z : Value} {xs news : List Value} {t : TypeId} {bytes : Nat} {A : Option Addr}
    {ops : Array Oper} {o : Oper} {a : Act} {K : Act → World → Prop} {Q : Exit → Act → World → Prop} {E : Prop} (T : SliceTy P t e size bytes z) (h : Own w e size v n xs) (hr : Rd w size A m news)
    (h1 : ∀ u ∈ news, u.oneCell' = true) (hm : A = none → m = 0) (h63 : n + m ≤ maxLen) (hb : (n + m) * bytes ≤ 140737488355328)
    (hg : o.guard = none) {s x : Operand} (hop : o.op = .call { callee := .builtin .append, args := #[s, x], argTypes := #[t, t] }) (hs : a.eval s = v) (hx : a.eval x = .slice A m c)
    (hK : ∀ v' w', Own w' e size v' (n + m) (xs ++ news) → Fr (rowOf v) w w' → (∀ g, g ∈ rowOf v' → g ∈ rowOf v ∨ g = w.heap.size) → K (a.put o.dst v') w') :
    if Region.wanted o (yielded ops a.tmps) = true then Oper.wp P o a w K Q else E := by
  have hw : Region.wanted o (yielded ops a.tmps) = true := by simp [Region.wanted, hg]
  rw [if_pos hw]
  obtain ⟨v', w', hrun, r1, r2, r3⟩ := h.run_append (ty := o.type) (c := c) T hr h1 hm h63 hb
  unfold Oper.wp
  simp [execOp, hop, resolve, invoke, builtin, hs, hx, hrun, Result.andThen]
  exact hK v' w' r1 r2 r3

theorem rowOf_nodup (v : Value) : (rowOf v).Nodup := by
  unfold rowOf
  cases v.ownBlock <;> simp
theorem foot_nodup {b m : Nat} {v : Value} {ps : List (Pc × Pk)} : (footOf b m v ps).Nodup ↔ b ≠ m ∧ b ∉ rowOf v ∧ b ∉ Lb ps ∧ m ∉ rowOf v ∧ m ∉ Lb ps ∧ (Lb ps).Nodup ∧ ∀ x ∈ rowOf v, x ∉ Lb ps := by
  have := rowOf_nodup v
  constructor
  · intro h
    simp only [footOf, List.nodup_cons, List.nodup_append, List.mem_cons, List.mem_append, not_or] at h
    obtain ⟨⟨h1, h2, h3⟩, ⟨h4, h5⟩, _, h6, h7⟩ := h
    exact ⟨h1, h2, h3, h4, h5, h6, fun x hx hy => h7 x hx x hy rfl⟩
  · rintro ⟨h1, h2, h3, h4, h5, h6, h7⟩
    simp only [footOf, List.nodup_cons, List.nodup_append, List.mem_cons, List.mem_append, not_or]
    exact ⟨⟨h1, h2, h3⟩, ⟨h4, h5⟩, this, h6, fun x hx y hy e => h7 x hx (e ▸ hy)⟩
theorem Lb_append (ps qs : List (Pc × Pk)) : Lb (ps ++ qs) = Lb ps ++ Lb qs := by simp [Lb]
theorem rd_block3 {w : World} {p : Pc} : Rd (w.alloc (.cells p.arr 37)) 3 (some ⟨w.heap.size, 0, none⟩) 1 p.cells := by
  refine ⟨rfl, fun _ => ⟨w.heap.size, 0, rfl, fun j u hu => ?_⟩⟩
  rw [Nat.zero_add, (Blk.new w 37 p.arr).cell]
  simpa using hu
theorem cells_one (p : Pc) : ∀ u ∈ p.cells, u.oneCell' = true := by
  intro u hs
  simp only [Pc.cells, List.mem_cons, List.not_mem_nil, or_false] at hs
  rcases hs with rfl | rfl | rfl <;> rfl

section
variable {w w1 w2 : World} {b m : Nat} {v v' : Value} {ps : List (Pc × Pk)} {n : Int} {shut : List ((Int × Int) × Bool)} {p : Pc} {k : Pk}
theorem LaneIn.b_ne (h : LaneIn w b m v ps n shut) : b ∉ rowOf v := (foot_nodup.1 h.dist).2.1
theorem LaneIn.sent (h : LaneIn w b m v ps n shut) (f1 : Fr [] w w1) (hp : PkAt w1 p k) (hn : ∀ g ∈ rowOf p.val, w.heap.size ≤ g) {o : Obj} (q1 : Own w2 37 3 v' (ps.length + 1) (ps.flatMap (fun q => q.1.cells) ++ p.cells))
    (f2 : Fr (rowOf v) (w1.alloc o) w2) (hv : ∀ g ∈ rowOf v', g ∈ rowOf v ∨ g = (w1.alloc o).heap.size) (hf : ¬ 4096 ≤ ps.length) (hk : 0 ≤ k.src ∧ k.src < n ∧ 0 ≤ k.dst ∧ k.dst < n) :
    LaneIn (w2.setCell ⟨b, 1, none⟩ v') b m v' (ps ++ [(p, k)]) n shut ∧ Went w (w2.setCell ⟨b, 1, none⟩ v') (footOf b m v ps) (footOf b m v' (ps ++ [(p, k)])) := by
  obtain ⟨d1, d2, d3, d4, d5, d6, d7⟩ := foot_nodup.1 h.dist
  have hs1 := f1.size
  have hs2 := f2.size
  have hsz : (w1.alloc o).heap.size = w1.heap.size + 1 := by simp
  have hbl := h.blk.lt
  have hml := h.shut.lt
  have fa : Fr (rowOf v) w w2 := Fr.trans (f1.nil.alloc o) f2
  have f3 : Fr [b] w2 (w2.setCell ⟨b, 1, none⟩ v') := (Fr.refl _ _).setCell (by simp) _
  have hvl : ∀ g ∈ rowOf v, g < w.heap.size := h.own.lt
  have hpl : ∀ g ∈ rowOf p.val, g < w1.heap.size := hp.own.lt
  have hLb : ∀ g ∈ Lb ps, g < w.heap.size := fun g hg => h.lt g (by simp [footOf, hg])
  have hpv : ∀ g ∈ rowOf p.val, g ∉ rowOf v := fun g hg hh => by have := hn g hg; have := hvl g hh; omega
  have e1 : Lb [(p, k)] = rowOf p.val := by simp [Lb]
  refine ⟨⟨by simpa using (h.blk.fr fa d2).set 1 v', ?_, (h.shut.fr fa d4).fr f3 (by simpa using Ne.symm d1), ?_, ?_, h.r1, ?_, ?_⟩, ?_, ?_⟩
  · rw [List.length_append, List.flatMap_append]
    refine Own.fr (by simpa using q1) f3 (fun g hg => ?_)
    rcases hv g hg with h1 | h1
    · simp; rintro rfl; exact d2 h1
    · simp; omega
  · intro q hq
    rcases List.mem_append.1 hq with hq | hq
    · refine ((h.pks q hq).fr fa (fun g hg hh => d7 g hh (mem_Lb hq hg))).fr f3 (fun g hg => ?_)
      simp; rintro rfl; exact d3 (mem_Lb hq hg)
    · simp only [List.mem_singleton] at hq
      subst hq
      refine ((hp.fr ((Fr.refl [] _).alloc o) (by simp)).fr f2 hpv).fr f3 (fun g hg => ?_)
      have := hn g hg
      simp; omega
  · rw [foot_nodup, Lb_append, e1]
    have hnew : ∀ g ∈ rowOf v', g ∈ rowOf v ∨ w1.heap.size < g := fun g hg => (hv g hg).imp id (fun h => by omega)
    refine ⟨d1, fun hh => ?_, ?_, fun hh => ?_, ?_, ?_, ?_⟩
    · exact (hnew b hh).elim d2 (by omega)
    · simp only [List.mem_append, not_or]
      exact ⟨d3, fun hh => by have := hn _ hh; omega⟩
    · exact (hnew m hh).elim d4 (by omega)
    · simp only [List.mem_append, not_or]
      exact ⟨d5, fun hh => by have := hn _ hh; omega⟩
    · rw [List.nodup_append]
      exact ⟨d6, rowOf_nodup _, fun x hx y hy e => by have := hLb x hx; have := hn y hy; omega⟩
    · intro x hx
      simp only [List.mem_append, not_or]
      rcases hnew x hx with h1 | h1
      · exact ⟨d7 x h1, fun hh => hpv x hh h1⟩
      · exact ⟨fun hh => by have := hLb x hh; omega, fun hh => by have := hpl x hh; omega⟩
  · rw [List.length_append]; simp; omega
  · intro q hq
    rcases List.mem_append.1 hq with hq | hq
    · exact h.r3 q hq
    · simp only [List.mem_singleton] at hq
      subst hq
      exact hk
  · exact (fa.mono (fun g hg => by simp [footOf, hg])).andThen f3 (fun g hg => by simp at hg; subst hg; left; simp [footOf])
  · intro g hg
    simp only [footOf, Lb_append, e1, List.mem_cons, List.mem_append] at hg ⊢
    rcases hg with hg | hg | hg | hg | hg
    · exact .inl (.inl hg)
    · exact .inl (.inr (.inl hg))
    · rcases hv g hg with h1 | h1
      · exact .inl (.inr (.inr (.inl h1)))
      · exact .inr (by omega)
    · exact .inl (.inr (.inr (.inr hg)))
    · exact .inr (hn g hg)
end

def sendE (L : LaneM) (src dst : Int) (n : Nat) : Int :=
  if nodeB L.n src = true ∧ nodeB L.n dst = true then (if 65544 < n then 2 else if 4096 ≤ L.way.length then 8 else 0) else 6

section
variable {w : World} {b m : Nat} {v : Value} {ps : List (Pc × Pk)} {n : Int} {shut : List ((Int × Int) × Bool)}
theorem send_range (src dst : Int) (A : Option Addr) (k c : Nat) (h : LaneIn w b m v ps n shut) (h1 : I64 src) (h2 : I64 dst) (hn : ¬ (nodeB n src = true ∧ nodeB n dst = true)) :
   Calls Try.prog 8 #[.pointer (some ⟨b, 0, none⟩), .int .i64 src, .int .i64 dst, .slice A k c] w fun e w' => e = .returned (.int .i64 6) ∧ w = w' := by
  have hn1 := fun w (h : LaneIn w b m v ps n shut) => node_t src h h1
  have hn2 := fun w (h : LaneIn w b m v ps n shut) => node_t dst h h2
  cases hs : nodeB n src with
  | false =>
    rw [hs] at hn1
    go_enter Try.func8, Try.ntmps8
    go_wp2_with (go_at_call 28; refine (hn1 _ h).mono ?_; rintro e w' ⟨rfl, rfl⟩)
    go_ret
    exact ⟨rfl, rfl⟩
  | true =>
    have hd : nodeB n dst = false := by
      cases hd : nodeB n dst with
      | false => rfl
      | true => exact absurd ⟨hs, hd⟩ hn
    rw [hs] at hn1
    rw [hd] at hn2
    go_enter Try.func8, Try.ntmps8
    go_wp2_with fail
    refine (hn1 _ h).mono ?_
    rintro e w' ⟨rfl, rfl⟩
    go_wp2_with fail
    refine (hn2 _ h).mono ?_
    rintro e w' ⟨rfl, rfl⟩
    go_wp2
    go_ret
    exact ⟨rfl, rfl⟩
theorem send_long (src dst : Int) (A : Option Addr) (k c : Nat) (h : LaneIn w b m v ps n shut) (h1 : I64 src) (h2 : I64 dst) (hs : nodeB n src = true) (hd : nodeB n dst = true) (hk : 65544 < k) :
   Calls Try.prog 8 #[.pointer (some ⟨b, 0, none⟩), .int .i64 src, .int .i64 dst, .slice A k c] w fun e w' => e = .returned (.int .i64 2) ∧ w = w' := by
  have hn1 := fun w (h : LaneIn w b m v ps n shut) => node_t src h h1
  have hn2 := fun w (h : LaneIn w b m v ps n shut) => node_t dst h h2
  rw [hs] at hn1
  rw [hd] at hn2
  have hk' : (65544 : Int) < k := by omega
  go_enter Try.func8, Try.ntmps8
  go_wp2_with fail
  refine (hn1 _ h).mono ?_
  rintro e w' ⟨rfl, rfl⟩
  go_wp2_with fail
  refine (hn2 _ h).mono ?_
  rintro e w' ⟨rfl, rfl⟩
  go_wp2
  go_ret
  exact ⟨rfl, rfl⟩
theorem send_full (src dst : Int) (A : Option Addr) (k c : Nat) (h : LaneIn w b m v ps n shut) (h1 : I64 src) (h2 : I64 dst) (hs : nodeB n src = true) (hd : nodeB n dst = true) (hk : ¬ 65544 < k) (hf : 4096 ≤ ps.length) :
   Calls Try.prog 8 #[.pointer (some ⟨b, 0, none⟩), .int .i64 src, .int .i64 dst, .slice A k c] w fun e w' => e = .returned (.int .i64 8) ∧ w = w' := by
  have hn1 := fun w (h : LaneIn w b m v ps n shut) => node_t src h h1
  have hn2 := fun w (h : LaneIn w b m v ps n shut) => node_t dst h h2
  rw [hs] at hn1
  rw [hd] at hn2
  have hc := h.cells
  obtain ⟨A', c', rfl, -⟩ := h.own.form
  have hk' : (k : Int) ≤ 65544 := by omega
  have hf' : (4096 : Int) ≤ ps.length := by omega
  go_enter Try.func8, Try.ntmps8
  go_wp2_with fail
  refine (hn1 _ h).mono ?_
  rintro e w' ⟨rfl, rfl⟩
  go_wp2_with fail
  refine (hn2 _ h).mono ?_
  rintro e w' ⟨rfl, rfl⟩
  go_wp2
  go_ret
  exact ⟨rfl, rfl⟩

set_option maxRecDepth 100000 in
set_option maxHeartbeats 4000000 in
theorem send_ok (src dst : Int) (A : Option Addr) (k c : Nat) (l : List UInt8) (h : LaneIn w b m v ps n shut) (h1 : I64 src) (h2 : I64 dst) (hs : nodeB n src = true) (hd : nodeB n dst = true) (hk : ¬ 65544 < k) (hf : ¬ 4096 ≤ ps.length)
    (hb : Byts w A k l) (hA : A = none → k = 0) :
   Calls Try.prog 8 #[.pointer (some ⟨b, 0, none⟩), .int .i64 src, .int .i64 dst, .slice A k c] w fun e w' => e = .returned (.int .i64 0) ∧ ∃ v' p, LaneIn w' b m v' (ps ++ [(p, ⟨src, dst, l⟩)]) n shut ∧ Went w w' (footOf b m v ps) (footOf b m v' (ps ++ [(p, ⟨src, dst, l⟩)])) := by
  have hn1 := fun w (h : LaneIn w b m v ps n shut) => node_t src h h1
  have hn2 := fun w (h : LaneIn w b m v ps n shut) => node_t dst h h2
  rw [hs] at hn1
  rw [hd] at hn2
  have hc := h.cells
  obtain ⟨A', c', rfl, -⟩ := h.own.form
  have hk' : (k : Int) ≤ 65544 := by omega
  have hf' : (ps.length : Int) < 4096 := by omega
  go_enter Try.func8, Try.ntmps8
  go_wp2_with fail
  refine (hn1 _ h).mono ?_
  rintro e w' ⟨rfl, rfl⟩
  go_wp2_with fail
  refine (hn2 _ h).mono ?_
  rintro e w' ⟨rfl, rfl⟩
  go_upto_region 9 with (fail)
  have hb' := h.b_ne
  have hsr : 0 ≤ src ∧ src < n := by simpa [nodeB] using hs
  have hdr : 0 ≤ dst ∧ dst < n := by simpa [nodeB] using hd
  go_region_law (first
    | (refine step_own_append t33 ho (rd_block3 (w := w1) (p := ⟨src, dst, A2, k, c2⟩)) (cells_one ⟨src, dst, A2, k, c2⟩) ?_ ?_ ?_ rfl rfl rfl rfl (fun v' w2 q1 q2 q3 => ?_); (focus simp); (focus (unfold maxLen; omega)); (focus omega); obtain ⟨A3, c3, rfl, hA3⟩ := q1.form; have B2 := B1.fr q2 hb'; have c2' := B2.c3; have z2 := B2.frozen 1)
    | (go_simp; go_at_call 29; refine (own_t src dst A k c l _ (Rd.fr hb (Fr.refl [] _).drew (by simp [Off])) hA (by omega)).mono ?_; rintro e w1 ⟨A2, c2, rfl, o2, f2, g2⟩;
       have ho := ((h.own.fr f2.of_drew (by simp)).fr ((Fr.refl [] w1).alloc (.cells (Pc.arr ⟨src, dst, A2, k, c2⟩) 37)) (by simp));
       have B1 := (h.blk.fr f2.of_drew (by simp)).alloc (.cells (Pc.arr ⟨src, dst, A2, k, c2⟩) 37); have c1 := B1.c3; have cw := (h.blk.fr f2.of_drew (by simp)).c3))
  all_goals
    obtain ⟨r1, r2⟩ := h.sent (k := ⟨src, dst, l⟩) f2.of_drew ⟨rfl, rfl, o2, Nat.le_of_not_lt hk⟩ g2 q1 q2 q3 hf ⟨hsr.1, hsr.2, hdr.1, hdr.2⟩
    go_wp2
    go_ret
    exact ⟨rfl, _, _, r1, r2⟩
end

def LaneM.send (L : LaneM) (src dst : Int) (l : List UInt8) : LaneM := if sendE L src dst l.length = 0 then { L with way := L.way ++ [⟨src, dst, l⟩] } else L
def SendPost (w : World) (b : Nat) (F : List Nat) (L : LaneM) (src dst : Int) (l : List UInt8) (e : Ending) (w' : World) : Prop :=
  ∃ F', e = .returned (.int .i64 (sendE L src dst l.length)) ∧ LaneAt w' b F' (L.send src dst l) ∧ Went w w' F F' ∧ b ∈ F'
theorem LaneAt.b_mem {w : World} {b : Nat} {F : List Nat} {L : LaneM} (h : LaneAt w b F L) : b ∈ F := by
  obtain ⟨m, v, ps, h, _, rfl⟩ := h
  simp [footOf]
theorem send_t {w : World} {b : Nat} {F : List Nat} {L : LaneM} (src dst : Int) (A : Option Addr) (k c : Nat) (l : List UInt8) (h : LaneAt w b F L) (h1 : I64 src) (h2 : I64 dst) (hb : Byts w A k l) (hA : A = none → k = 0) :
   Calls Try.prog 8 #[.pointer (some ⟨b, 0, none⟩), .int .i64 src, .int .i64 dst, .slice A k c] w (SendPost w b F L src dst l) := by
  have hL := h
  obtain ⟨m, v, ps, h, hw, rfl⟩ := h
  have hkl : l.length = k := hb.length
  have hlen : L.way.length = ps.length := by rw [hw]; simp
  by_cases hn : nodeB L.n src = true ∧ nodeB L.n dst = true
  · by_cases hk : 65544 < k
    · refine (send_long src dst A k c h h1 h2 hn.1 hn.2 hk).mono ?_
      rintro e w' ⟨rfl, rfl⟩
      have he : sendE L src dst l.length = 2 := by simp [sendE, hn, hkl, hk]
      exact ⟨_, by rw [he], by simpa [LaneM.send, he] using hL, Went.refl _ _, by simp [footOf]⟩
    · by_cases hf : 4096 ≤ ps.length
      · refine (send_full src dst A k c h h1 h2 hn.1 hn.2 hk hf).mono ?_
        rintro e w' ⟨rfl, rfl⟩
        have he : sendE L src dst l.length = 8 := by simp [sendE, hn, hkl, hk, hlen, hf]
        exact ⟨_, by rw [he], by simpa [LaneM.send, he] using hL, Went.refl _ _, by simp [footOf]⟩
      · refine (send_ok src dst A k c l h h1 h2 hn.1 hn.2 hk hf hb hA).mono ?_
        rintro e w' ⟨rfl, v', p, g1, g2⟩
        have he : sendE L src dst l.length = 0 := by simp [sendE, hn, hkl, hk, hlen, hf]
        exact ⟨_, by rw [he], ⟨m, v', _, by simpa [LaneM.send, he] using g1, by simp [LaneM.send, he, hw], rfl⟩, g2, by simp [footOf]⟩
  · refine (send_range src dst A k c h h1 h2 hn).mono ?_
    rintro e w' ⟨rfl, rfl⟩
    have he : sendE L src dst l.length = 6 := by simp [sendE, hn]
    exact ⟨_, by rw [he], by simpa [LaneM.send, he] using hL, Went.refl _ _, by simp [footOf]⟩
end Go.Proofs.Ythnienoefnfnpaa
