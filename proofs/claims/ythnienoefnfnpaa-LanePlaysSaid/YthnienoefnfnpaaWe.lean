/- Walks: Heal, Open, Next, Take, At, Twice: each returns what the model says. Conditions: each theorem's own. -/
import Derived.Test.YthnienoefnfnpaaWc
import Derived.Test.YthnienoefnfnpaaWd
namespace Go.Proofs.Ythnienoefnfnpaa
open Go.RowKit Go.Sig

theorem wpList_map_clear {κ ν : Type} {P : Program} {w : World} {m : Nat} {ek' : κ → Value} {ev : ν → Value} {l : List (κ × ν)} {mt kt et : TypeId} {ops : Array Oper} {rest : List Oper} {o : Oper} {a : Act} {Q : Exit → Act → World → Prop}
    (h : IsMap w m ek' ev l) (hmt : P.underlying mt = some (.map kt et)) (hg : o.guard = none) {xm : Operand}
    (hop : o.op = .call { callee := .builtin .clear, args := #[xm], argTypes := #[mt] })
    (hm : a.eval xm = .map (some m)) (hK : ∀ w', IsMap w' m ek' ev [] → Turned m w w' → wpList P ops Q rest (a.put o.dst (.tuple #[])) w') : wpList P ops Q (o :: rest) a w := by
  refine wpList_plain hg fun K' hK' => ?_
  obtain ⟨es, c, hb, _⟩ := h
  have hlt := lt_of_heap hb
  have hrun : (Builtin.clear_ #[mt] o.type #[.map (some m)]).run P w = .ok (.tuple #[]) { w with heap := w.heap.setIfInBounds m (.map #[] c) } := by
    simp [Builtin.clear_, run_underlying hmt, getObj, setObj, Sem.run, hb, Result.andThen]
  unfold Oper.wp
  simp [execOp, hop, resolve, invoke, builtin, hm, hrun, Result.andThen]
  exact hK' _ _ (hK _ ⟨#[], c, by simp [hlt], rfl, rfl, List.Pairwise.nil, fun _ h => by simp at h, List.nodup_nil⟩ (turned_set _ _ _))

def shutB (L : LaneM) (x y : Int) : Bool := (aget (keyM x y) L.shut).getD false
def openB (L : LaneM) (x y : Int) : Bool := nodeB L.n x && nodeB L.n y && !shutB L x y

section
variable {w : World} {b m : Nat} {v : Value} {ps : List (Pc × Pk)} {n : Int} {shut : List ((Int × Int) × Bool)} {F : List Nat} {L : LaneM}
theorem heal_t (h : LaneAt w b F L) :
   Calls Try.prog 18 #[.pointer (some ⟨b, 0, none⟩)] w fun e w' => e = .returned (.tuple #[]) ∧ ∃ F', LaneAt w' b F' { L with shut := [] } ∧ Went w w' F F' ∧ b ∈ F' := by
  obtain ⟨m, v, ps, h, hw, rfl⟩ := h
  have hc := h.cells
  go_enter Try.func18, Try.ntmps18
  go_wp2_with (refine wpList_map_clear h.shut u60 rfl rfl rfl (fun w2 r1 r2 => ?_))
  go_end0
  exact ⟨rfl, _, ⟨m, v, ps, h.turn r1 r2, hw ▸ rfl, rfl⟩, ⟨r2.fr.mono (by simp [footOf]), fun _ h => .inl h⟩, by simp [footOf]⟩

theorem open_t (x y : Int) (h : LaneAt w b F L) (hx : I64 x) (hy : I64 y) :
   Calls Try.prog 14 #[.pointer (some ⟨b, 0, none⟩), .int .i64 x, .int .i64 y] w fun e w' => e = .returned (.bool (openB L x y)) ∧ Fr [] w w' := by
  obtain ⟨m, v, ps, h, hw, rfl⟩ := h
  have hn1 := fun w (h : LaneIn w b m v ps L.n L.shut) => node_t x h hx
  have hn2 := fun w (h : LaneIn w b m v ps L.n L.shut) => node_t y h hy
  have hc := h.cells
  have hk := hc.2.2.1
  cases h1 : nodeB L.n x with
  | false =>
    rw [h1] at hn1
    have he : openB L x y = false := by simp [openB, h1]
    rw [he]
    go_enter Try.func14, Try.ntmps14
    go_upto_region 1 with (fail)
    go_quiet ((go_at_call 28; exact quiet_left (hn1 _ (h.nilfr ((Fr.refl [] w).drewN _)))))
    go_wp2
    go_ret
    exact ⟨rfl, (Fr.refl _ _).drewN _⟩
  | true =>
    rw [h1] at hn1
    cases h2 : nodeB L.n y with
    | false =>
      rw [h2] at hn2
      have he : openB L x y = false := by simp [openB, h2]
      rw [he]
      go_enter Try.func14, Try.ntmps14
      go_upto_region 1 with (fail)
      go_quiet (first | (go_at_call_of 28 x; exact quiet_left (hn1 _ (h.nilfr ((Fr.refl [] w).drewN _)))) | (go_at_call 28; exact quiet_left (hn2 _ (h.nilfr ((Fr.refl [] w).drewN _)))))
      go_wp2
      go_ret
      exact ⟨rfl, (Fr.refl _ _).drewN _⟩
    | true =>
      rw [h2] at hn2
      have he : openB L x y = !shutB L x y := by simp [openB, h1, h2]
      rw [he]
      go_enter Try.func14, Try.ntmps14
      go_upto_region 1 with (fail)
      go_region_held3 (fun w' => w'.cell? ⟨b, 2, none⟩ = some (.map (some m))) (first | exact hk | exact hk1)
        (first
          | (go_at_call_of 28 x; refine (hn1 _ (h.nilfr (Fr.refl [] w).drew)).mono ?_; rintro e w' ⟨rfl, rfl⟩)
          | (go_at_call_of 28 y; refine (hn2 _ (h.nilfr (Fr.refl [] w).drew)).mono ?_; rintro e w' ⟨rfl, rfl⟩)
          | (go_at_call 32; refine (key_t x y _).mono ?_; rintro e w1 ⟨rfl, f1⟩; have l1 := h.nilfr f1.of_drew; have hk1 := l1.cells.2.2.1; have hlk := l1.shut.run_lookup k66 u60 z4 (keyM x y)))
      go_wp2
      go_ret
      exact ⟨rfl, f1.of_drew⟩
end
end Go.Proofs.Ythnienoefnfnpaa
