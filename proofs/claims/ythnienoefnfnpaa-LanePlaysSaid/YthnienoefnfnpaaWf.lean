/- Walks: Next and its closure, Twice, At. Conditions: each theorem's own. -/
import Derived.Test.YthnienoefnfnpaaWe
namespace Go.Proofs.Ythnienoefnfnpaa
open Go.RowKit Go.Sig

theorem flat_get {α : Type} (f : α → List Value) (n : Nat) (hf : ∀ a, (f a).length = n) : ∀ (l : List α) (k j : Nat) (hk : k < l.length), j < n → (l.flatMap f)[k * n + j]? = (f l[k])[j]?
  | [], k, j, hk, _ => by simp at hk
  | a :: l, 0, j, _, hj => by
    simp only [List.flatMap_cons, Nat.zero_mul, Nat.zero_add, List.getElem_cons_zero]
    rw [List.getElem?_append_left (by rw [hf]; exact hj)]
  | a :: l, k + 1, j, hk, hj => by
    simp only [List.flatMap_cons, List.getElem_cons_succ]
    rw [List.getElem?_append_right (by rw [hf, Nat.add_mul]; omega), hf]
    have : (k + 1) * n + j - n = k * n + j := by rw [Nat.add_mul]; omega
    rw [this]
    exact flat_get f n hf l k j (by simpa using hk) hj

/-- The first packet whose link is open. -/
def nextL (shut : List ((Int × Int) × Bool)) : List Pk → Nat → Int
  | [], _ => -1
  | p :: l, i => if (aget (keyM p.src p.dst) shut).getD false then nextL shut l (i + 1) else i

section
variable {w : World} {b m : Nat} {v : Value} {ps : List (Pc × Pk)} {n : Int} {shut : List ((Int × Int) × Bool)} {F : List Nat} {L : LaneM}

theorem LaneIn.at (h : LaneIn w b m v ps n shut) {k : Nat} (hk : k < ps.length) : ∃ g cap, v = .slice (some ⟨g, 0, none⟩) ps.length cap ∧ w.cell? ⟨g, k * 3, none⟩ = some (.int .i64 ps[k].1.src) ∧ w.cell? ⟨g, k * 3 + 1, none⟩ = some (.int .i64 ps[k].1.dst) ∧ w.cell? ⟨g, k * 3 + 2, none⟩ = some (.slice ps[k].1.a ps[k].1.n ps[k].1.c) := by
  obtain ⟨A, cap, rfl, -⟩ := h.own.form
  have hr := h.own.rd
  have h2 := h.own.2
  rcases h2 with ⟨hv, h0⟩ | ⟨g, cap', cur, hv, _⟩
  · omega
  · injection hv with hv _ _
    subst hv
    obtain ⟨b', o, hA, hc⟩ := hr.2 (by omega)
    injection hA with hA
    injection hA with h1 h2 _
    subst h1 h2
    have hf : ∀ q : Pc × Pk, (q.1.cells).length = 3 := fun _ => rfl
    refine ⟨g, cap, rfl, ?_, ?_, ?_⟩
    · have := hc (k * 3 + 0) _ (by rw [flat_get _ 3 hf ps k 0 hk (by omega)]; rfl)
      simpa using this
    · have := hc (k * 3 + 1) _ (by rw [flat_get _ 3 hf ps k 1 hk (by omega)]; rfl)
      simpa using this
    · have := hc (k * 3 + 2) _ (by rw [flat_get _ 3 hf ps k 2 hk (by omega)]; rfl)
      simpa using this

theorem close_t (p : Pc) (g : Nat) (h : LaneIn w b m v ps n shut) (hg : w.cell? ⟨g, 0, none⟩ = some (.pointer (some ⟨b, 0, none⟩))) :
   Calls Try.prog 34 #[.agg #[.int .i64 p.src, .int .i64 p.dst, .slice p.a p.n p.c], .pointer (some ⟨g, 0, none⟩)] w fun e w' => e = .returned (.bool (!(aget (keyM p.src p.dst) shut).getD false)) ∧ Fr [] w w' := by
  have hlt := block_lt_of_cell hg
  have hc := h.cells
  go_enter Try.func34, Try.ntmps34
  go_upto_region 1 with (fail)
  have hB := Blk.new w 37 #[.int .i64 p.src, .int .i64 p.dst, .slice p.a p.n p.c]
  have B3 := hB.c3
  have fa : Fr [] w (w.alloc (.cells #[.int .i64 p.src, .int .i64 p.dst, .slice p.a p.n p.c] 37)) := (Fr.refl _ _).alloc _
  have hk0 : (w.alloc (.cells #[.int .i64 p.src, .int .i64 p.dst, .slice p.a p.n p.c] 37)).cell? ⟨g, 0, none⟩ = some (.pointer (some ⟨b, 0, none⟩)) ∧ (w.alloc (.cells #[.int .i64 p.src, .int .i64 p.dst, .slice p.a p.n p.c] 37)).cell? ⟨b, 2, none⟩ = some (.map (some m)) ∧ (w.alloc (.cells #[.int .i64 p.src, .int .i64 p.dst, .slice p.a p.n p.c] 37)).cell? ⟨w.heap.size, 0, none⟩ = some (.int .i64 p.src) ∧ (w.alloc (.cells #[.int .i64 p.src, .int .i64 p.dst, .slice p.a p.n p.c] 37)).cell? ⟨w.heap.size, 1, none⟩ = some (.int .i64 p.dst) :=
    ⟨(fa.cell hlt (by simp)).trans hg, (h.nilfr fa).cells.2.2.1, B3.1, B3.2.1⟩
  go_region_held3 (fun w' => w'.cell? ⟨g, 0, none⟩ = some (.pointer (some ⟨b, 0, none⟩)) ∧ w'.cell? ⟨b, 2, none⟩ = some (.map (some m)) ∧ w'.cell? ⟨w.heap.size, 0, none⟩ = some (.int .i64 p.src) ∧ w'.cell? ⟨w.heap.size, 1, none⟩ = some (.int .i64 p.dst))
    (first | exact hk0 | exact hk1)
    (first
      | (go_at_call 32; refine (key_t p.src p.dst _).mono ?_; rintro e w1 ⟨rfl, f1⟩; have l1 := h.nilfr (fa.trans f1.of_drew); have C1 := (hB.fr f1.of_drew (by simp)).c3; have hk1 := And.intro (((fa.trans f1.of_drew).cell hlt (by simp)).trans hg) (And.intro l1.cells.2.2.1 (And.intro C1.1 C1.2.1)); have hlk := l1.shut.run_lookup k66 u60 z4 (keyM p.src p.dst)))
  go_wp2
  go_ret
  exact ⟨rfl, fa.trans f1.of_drew⟩
theorem index_t (g : Nat) (h : LaneIn w b m v ps n shut) (hg : w.cell? ⟨g, 0, none⟩ = some (.pointer (some ⟨b, 0, none⟩))) :
   Calls Try.prog 33 #[v, .func (.func 34) #[] #[.pointer (some ⟨g, 0, none⟩)]] w fun e w' => e = .returned (.int .i64 (nextL shut (ps.map (·.2)) 0)) ∧ Fr [] w w' := by
  have hlt := block_lt_of_cell hg
  obtain ⟨A, cap, rfl, -⟩ := h.own.form
  have hr2 := h.r2
  go_enter Try.func33, Try.ntmps33
  go_wp2_with fail
  go_loopg [8] (ps.length + 1) (fun k s8 wr => ∃ i : Nat, s8 = .int .i64 i ∧ i ≤ ps.length ∧ ps.length - i < k ∧ nextL shut (ps.map (·.2)) 0 = nextL shut ((ps.map (·.2)).drop i) i ∧ Fr [] w wr)
  case atStart => exact ⟨0, rfl, by omega, by omega, rfl, Fr.refl _ _⟩
  case round =>
    obtain ⟨i, rfl, hi, hk, hN, hF⟩ := hrel
    have hr := h.nilfr hF
    by_cases hil : i < ps.length
    · obtain ⟨g', cap', hv, c0, c1, c2⟩ := hr.at hil
      injection hv with hv _ hv3
      subst hv hv3
      have hq := hr.pks _ (List.getElem_mem hil)
      have hs := hq.src
      have hd := hq.dst
      have hdrop : (ps.map (·.2)).drop i = ps[i].2 :: (ps.map (·.2)).drop (i + 1) := by
        rw [List.drop_eq_getElem_cons (by simpa using hil)]
        simp
      rw [hdrop, nextL] at hN
      rw [hs] at c0
      rw [hd] at c1
      clear hs hd
      generalize ps[i].2.src = p1 at *
      generalize ps[i].2.dst = p2 at *
      generalize ps[i].1.a = pa at *
      generalize ps[i].1.n = pn at *
      generalize ps[i].1.c = pc at *
      clear hq hdrop
      go_wp2_with fail
      refine (close_t ⟨p1, p2, pa, pn, pc⟩ g hr ((hF.cell hlt (by simp)).trans hg)).mono ?_
      rintro e W ⟨rfl, fW⟩
      cases hsh : (aget (keyM p1 p2) shut).getD false with
      | true =>
        rw [hsh] at hN
        simp only [Bool.not_true, if_true] at hN ⊢
        go_wp2
        go_roundg (ps.length - i)
        case measure => omega
        case rel => exact ⟨i + 1, by go_num, by omega, by omega, hN, hF.trans fW⟩
      | false =>
        rw [hsh] at hN
        simp only [Bool.not_false] at hN ⊢
        go_wp2
        go_ret
        refine ⟨?_, hF.trans fW⟩
        (try rw [hN])
        rfl
    · obtain rfl : i = ps.length := by omega
      go_wp2
      go_ret
      refine ⟨?_, hF⟩
      (try rw [hN])
      rw [List.drop_of_length_le (by simp)]
      rfl
def LaneM.next (L : LaneM) : Int := nextL L.shut L.way 0
theorem next_t (h : LaneAt w b F L) :
   Calls Try.prog 16 #[.pointer (some ⟨b, 0, none⟩)] w fun e w' => e = .returned (.int .i64 L.next) ∧ Fr [] w w' := by
  obtain ⟨m, v, ps, h, hw, rfl⟩ := h
  have fa : Fr [] w (w.alloc (.cells #[.pointer (some ⟨b, 0, none⟩)] 23)) := (Fr.refl _ _).alloc _
  have l1 := h.nilfr fa
  have hc := l1.cells
  have hg : (w.alloc (.cells #[.pointer (some ⟨b, 0, none⟩)] 23)).cell? ⟨w.heap.size, 0, none⟩ = some (.pointer (some ⟨b, 0, none⟩)) := by rw [(Blk.new w 23 _).cell]; rfl
  go_enter Try.func16, Try.ntmps16
  go_wp2_with fail
  refine (index_t w.heap.size l1 hg).mono ?_
  rintro e w2 ⟨rfl, f2⟩
  go_wp2
  go_ret
  exact ⟨by unfold LaneM.next; rw [hw]; rfl, fa.trans f2⟩

/-- What Twice sends. -/
def LaneM.twice (L : LaneM) (k : Int) : LaneM := if hasE L.way.length k = 0 then L.send (L.way.getD k.toNat default).src (L.way.getD k.toNat default).dst (L.way.getD k.toNat default).bs else L
def twiceE (L : LaneM) (k : Int) : Int := if hasE L.way.length k = 0 then sendE L (L.way.getD k.toNat default).src (L.way.getD k.toNat default).dst (L.way.getD k.toNat default).bs.length else 6
def TwicePost (w : World) (b : Nat) (F : List Nat) (L : LaneM) (k : Int) (e : Ending) (w' : World) : Prop :=
  ∃ F', e = .returned (.int .i64 (twiceE L k)) ∧ LaneAt w' b F' (L.twice k) ∧ Went w w' F F' ∧ b ∈ F'
theorem twice_t (k : Int) (h : LaneAt w b F L) (hk : I64 k) :
   Calls Try.prog 10 #[.pointer (some ⟨b, 0, none⟩), .int .i64 k] w (TwicePost w b F L k) := by
  have hL := h
  obtain ⟨m, v, ps, h, hw, rfl⟩ := h
  have hlen : L.way.length = ps.length := by rw [hw]; simp
  have hh := fun w (h : LaneIn w b m v ps L.n L.shut) => has_t k h hk
  have hc := h.cells
  by_cases h0 : hasE ps.length k = 0
  · obtain ⟨j, rfl, hj⟩ := hasE_zero h0
    rw [h0] at hh
    obtain ⟨g, cap, rfl, c0, c1, c2⟩ := h.at hj
    have hq := h.pks _ (List.getElem_mem hj)
    have hwj : L.way.getD j default = ps[j].2 := by rw [hw]; simp [List.getD, hj]
    have hr3 := h.r3 _ (List.getElem_mem hj)
    have hr1 := h.r1
    obtain ⟨hs, hd, hown, hle⟩ := hq
    have hnil : ps[j].1.a = none → ps[j].1.n = 0 := fun ha => by
      rcases hown.2 with ⟨_, h0⟩ | ⟨_, _, _, hv, _⟩
      · exact h0
      · unfold Pc.val at hv; rw [ha] at hv; cases hv
    have hbyt : Byts w ps[j].1.a ps[j].1.n ps[j].2.bs := hown.rd
    rw [hs] at c0
    rw [hd] at c1
    clear hs hd
    have hj2 := h.r2
    go_enter Try.func10, Try.ntmps10
    go_wp2_with fail
    refine (hh _ h).mono ?_
    rintro e w' ⟨rfl, rfl⟩
    go_wp2_with fail
    refine (send_t ps[j].2.src ps[j].2.dst ps[j].1.a ps[j].1.n ps[j].1.c ps[j].2.bs (hL.nilfr ((Fr.refl [] w).alloc _)) ⟨by omega, by omega⟩ ⟨by omega, by omega⟩ (Rd.fr hbyt ((Fr.refl [] w).alloc _) (by simp [Off])) hnil).mono ?_
    rintro e w2 ⟨F', rfl, g1, g2, g3⟩
    go_wp2
    go_ret
    have e1 : twiceE L j = sendE L ps[j].2.src ps[j].2.dst ps[j].2.bs.length := by
      unfold twiceE
      rw [hlen, if_pos h0, Int.toNat_natCast, hwj]
    have e2 : L.twice j = L.send ps[j].2.src ps[j].2.dst ps[j].2.bs := by
      unfold LaneM.twice
      rw [hlen, if_pos h0, Int.toNat_natCast, hwj]
    exact ⟨F', by rw [e1]; rfl, by rw [e2]; exact g1, (Went.quiet ((Fr.refl _ _).alloc _)).trans g2, g3⟩
  · have h6 := hasE_six h0
    rw [h6] at hh
    go_enter Try.func10, Try.ntmps10
    go_wp2_with fail
    refine (hh _ h).mono ?_
    rintro e w' ⟨rfl, rfl⟩
    go_wp2
    go_ret
    have e1 : twiceE L k = 6 := by unfold twiceE; rw [hlen, if_neg h0]
    have e2 : L.twice k = L := by unfold LaneM.twice; rw [hlen, if_neg h0]
    exact ⟨_, by rw [e1]; rfl, by rw [e2]; exact hL, Went.refl _ _, by simp [footOf]⟩
end
end Go.Proofs.Ythnienoefnfnpaa
