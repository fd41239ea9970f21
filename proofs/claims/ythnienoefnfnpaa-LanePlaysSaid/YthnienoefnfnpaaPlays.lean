/- signetlaw11.LanePlays returns true for every input, and each argument reads afterwards as it read before. Conditions: none besides the row's own. -/
import Derived.Test.YthnienoefnfnpaaRows
import Derived.Test.YthnienoefnfnpaaOq
import Derived.Test.YthnienoefnfnpaaXg
namespace Go.Proofs.Ythnienoefnfnpaa
open Go.ChangeShapes Go.WideShapes Go.ChangeAt Go.RowKit Go.Sig

theorem own5 : ownKnob Try.prog.godebug = none := by kernel_rfl
theorem laidOut5 : laidOutB Try.prog = true := by kernel_rfl
theorem uu51 : Try.prog.underlying 51 = some (.struct (Try.prog.fieldsOf 51)) := by kernel_rfl
theorem cc51 : Try.prog.cellsOf 51 = 5 := by kernel_rfl
theorem uu43 : Try.prog.underlying 43 = some (.slice 51) := by kernel_rfl

section
variable {H : Type} {enc : TypeId × Value → H} {w : World} {base : Nat} {spare : Nat → Bool} {held : Bool}
theorem open_sp {fuel : Nat} {cs : List Value} {x : DataW H × List MemPlace} (h : DataW.trod enc Try.prog w base spare held fuel 51 cs = some x) : ∃ s : Sp, cs = s.cells ∧ SpOk w s := by
  obtain ⟨xs, n, _, _, hlen, hxl, hf⟩ := DataW.trod_struct uu51 h
  rw [cc51] at hlen
  match cs, hlen with
  | [v0, v1, v2, v3, v4], _ =>
    obtain ⟨y0, g0⟩ := field_of hf hxl (i := 0) (t := 3) (o := 0) (by kernel_rfl) cc3
    obtain ⟨y1, g1⟩ := field_of hf hxl (i := 1) (t := 3) (o := 1) (by kernel_rfl) cc3
    obtain ⟨y2, g2⟩ := field_of hf hxl (i := 2) (t := 3) (o := 2) (by kernel_rfl) cc3
    obtain ⟨y3, g3⟩ := field_of hf hxl (i := 3) (t := 5) (o := 3) (by kernel_rfl) cc5
    obtain ⟨y4, g4⟩ := field_of hf hxl (i := 4) (t := 22) (o := 4) (by kernel_rfl) cc22
    simp only [List.drop_succ_cons, List.drop_zero, List.take_succ_cons, List.take_zero] at g0 g1 g2 g3 g4
    obtain ⟨n0, e0, _, w0⟩ := DataW.trod_int uu3 g0
    obtain ⟨n1, e1, _, w1⟩ := DataW.trod_int uu3 g1
    obtain ⟨n2, e2, _, w2⟩ := DataW.trod_int uu3 g2
    obtain ⟨n3, e3, _, w3⟩ := DataW.trod_int uu5 g3
    obtain ⟨A, n4, c4, l, e4, hb, hA, hc, hm⟩ := open_byts g4
    simp only [List.cons.injEq, and_true] at e0 e1 e2 e3
    subst e0 e1 e2 e3 e4
    obtain ⟨hb1, hb2⟩ := bounds_u8 w3
    exact ⟨⟨n0, n1, n2, n3, A, n4, c4⟩, rfl, bounds_i64 w1, bounds_i64 w2, ⟨hb1, Int.lt_of_le_of_lt hb2 (by decide)⟩, ⟨l, hb⟩, hA⟩

theorem open_script {fuel : Nat} {v : Value} {x : DataW H × List MemPlace} (h : DataW.trod enc Try.prog w base spare held fuel 43 [v] = some x) :
    ∃ A n c ss, v = .slice A n c ∧ Script w A n ss := by
  rcases Deep.open_slice uu43 h with ⟨hcs, _⟩ | ⟨a, len, cap, m, n, D, Pl, hcs, _, hl, hm, hmm, _, hi⟩
  · simp only [List.cons.injEq, and_true] at hcs
    exact ⟨none, 0, 0, [], hcs, ⟨Rd.nil _ _ _, rfl, by simp, by omega⟩⟩
  · simp only [List.cons.injEq, and_true] at hcs
    have hlm : len ≤ m := by rw [hmm]; split <;> omega
    have hs : ∀ i, ∃ s : Sp, i < len → SpOk w s ∧ ∀ j u, s.cells[j]? = some u → w.cell? ((a.add (i * 5)).add j) = some u := by
      intro i
      by_cases hil : i < len
      · obtain ⟨cs', h1, h2⟩ := hi i (by omega)
        rw [cc51] at h1
        obtain ⟨s, rfl, hok⟩ := open_sp h2
        obtain ⟨_, hcl, hat⟩ := World.cells?_some h1
        refine ⟨s, fun _ => ⟨hok, fun j u hu => ?_⟩⟩
        rw [hat j (by have := (List.getElem?_eq_some_iff.1 hu).1; simpa using this)]
        exact hu
      · exact ⟨⟨0, 0, 0, 0, none, 0, 0⟩, fun h => absurd h hil⟩
    obtain ⟨f, hf⟩ : ∃ f : Nat → Sp, ∀ i, i < len → SpOk w (f i) ∧ ∀ j u, (f i).cells[j]? = some u → w.cell? ((a.add (i * 5)).add j) = some u := ⟨fun i => Classical.choose (hs i), fun i hi => Classical.choose_spec (hs i) hi⟩
    refine ⟨some a, len, cap, (List.range len).map f, hcs, ⟨⟨?_, fun hn => ?_⟩, by simp, ?_, by unfold maxLen at hm; omega⟩⟩
    · rw [List.flatMap_map]
      exact flat_len _ 5 (fun _ => rfl) len
    · have h0 := (hf 0 hn).2 0 _ rfl
      obtain ⟨b, o, spot⟩ := a
      have hspot : spot = none := by simpa [Addr.add] using World.cell?_spot h0
      subst hspot
      refine ⟨b, o, rfl, ?_⟩
      rw [List.flatMap_map]
      refine flat_range (fun i => (f i).cells) 5 (fun _ => rfl) (fun q v => w.cell? ⟨b, o + q, none⟩ = some v) len (fun i hi j u hu => ?_)
      have := (hf i hi).2 j u hu
      rw [Addr.add_lit, Addr.add_lit] at this
      rw [← Nat.add_assoc]
      exact this
    · intro s hs
      obtain ⟨i, hi, rfl⟩ := List.mem_map.1 hs
      exact (hf i (List.mem_range.1 hi)).1
end

theorem plays_walk (N : Int) (A : Option Addr) (n c : Nat) (ss : List Sp) (w : World) (h : Script w A n ss) :
   Calls Try.prog 5 #[.int .i64 N, .slice A n c] w fun e w' => e = .returned (.bool true) ∧ Fr [] w w' := by
  by_cases hN : 1 ≤ N ∧ N ≤ 32
  · exact plays_good N A n c ss h hN
  · exact plays_bad N A n c (by omega)

set_option maxRecDepth 100000 in
theorem plays_lifted (os : Os) (started : os.Started) (H : Type) (enc : TypeId × Value → H) :
    ReturnsInHanded {} Try.checked os 5 .any (Rows.lanePlaysSpec.pre6 enc Try.prog Try.f5 Rows.lanePlaysRow.domain false) (Rows.lanePlaysSpec.post enc Try.prog Try.f5 false true false false) := by
  refine returnsInHanded_of_change (C := Try.checked) own5 started (by kernel_rfl) Try.func5
    (ChangeSpec.witness6 (enc := enc) (C := Try.checked) false ⟨#[], #[.int .i64 0, .slice none 0 0], []⟩ 8 (by kernel_rfl) (by kernel_rfl) (by kernel_rfl) (by kernel_rfl)) ?_
  intro W base args ds gs before hval0 hW hcnd _
  have hval : ∀ (j : Nat) t v, Try.f5.params[j]? = some t → args[j]? = some v → Value.okWide Try.prog W .any base t v := hval0
  have hW' := hW
  obtain ⟨p, q, hA0, hV, rfl, hfz, hnd⟩ := hW
  have hA : DataW.TrodAll enc Try.prog W 0 (fun _ => true) true Try.f5.params.toList args.toList ds p := hA0
  rw [Try.params5] at hA hval
  obtain ⟨v0, vs0, d0, ds0, p0, q0, hargs, rfl, rfl, h0, r0⟩ := trodAll_cons hA
  obtain ⟨v1, vs1, d1, ds1, p1, q1, rfl, rfl, rfl, h1, r1⟩ := trodAll_cons r0
  obtain ⟨rfl, rfl, rfl⟩ := trodAll_nil r1
  obtain rfl : args = #[v0, v1] := by cases args; simp_all
  obtain ⟨rfl, rfl⟩ := trodVars_none hV
  obtain ⟨n0, rfl, rfl, rfl, w0⟩ := open_int uu3 (hval 0 3 v0 rfl rfl) h0
  obtain ⟨a1, len1, cap1, rfl⟩ := okWide_slice uu43 (hval 1 43 v1 rfl rfl)
  have k1 := h1
  have lt1 : ∀ x ∈ p1, x.block < W.heap.size := by obtain ⟨m, hm⟩ := k1; exact DataW.trod_lt m _ _ _ hm
  obtain ⟨A, n, c, ss, hv, hS⟩ : ∃ A n c ss, Value.slice a1 len1 cap1 = .slice A n c ∧ Script W A n ss := by
    obtain ⟨fuel, hf⟩ := h1
    exact open_script (by simpa [Value.cells] using hf)
  injection hv with e1 e2 e3
  subst e1 e2 e3
  clear hA0 hval0
  refine (plays_walk n0 a1 len1 cap1 ss W hS).mono fun e W' ⟨he, hF⟩ => ?_
  have bel := hF.below (Nat.le_refl _) (by simp)
  subst he
  exact ⟨_, rfl, _, _, _, [], _, [], hW', trodAll_mk1 (shut_bool uu4 _), (trodAll_cons_mk (shut_int uu3 w0) (trodAll_cons_mk (Below.trod laidOut5 (by kernel_rfl) (of_decide_eq_true (by kernel_rfl)) k1 bel lt1) trodAll_mk0)), rfl, bel.frame _, fun h => by cases h⟩

theorem plays_over : Rows.lanePlaysRow.holds Try.pinned (OpenSpec.ofChange Rows.lanePlaysSpec) :=
  OpenClaim.holds_of_wide 5 Try.f5 rfl rfl rfl rfl rfl rfl rfl ⟨rfl, rfl, rfl, rfl, rfl⟩ rfl rfl rfl rfl rfl (by kernel_rfl) Try.func5 (by kernel_rfl)
    (of_decide_eq_true (by kernel_rfl)) (by unfold Func.isWrapper; first | (rw [if_pos (by decide +kernel)]; kernel_rfl) | (rw [if_neg (by decide +kernel)]; exact ⟨rfl, rfl⟩))
    (fun os started H enc _ => plays_lifted os started H enc)

theorem plays_proved : Rows.LanePlaysSaid := plays_over
#print axioms plays_proved
end Go.Proofs.Ythnienoefnfnpaa
