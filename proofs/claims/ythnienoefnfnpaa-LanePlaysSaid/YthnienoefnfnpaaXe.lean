/- Walks: a step by both lanes: Take. Conditions: each theorem's own. -/
import Derived.Test.YthnienoefnfnpaaXd
namespace Go.Proofs.Ythnienoefnfnpaa
open Go.RowKit Go.Sig

theorem nextL_range (shut : List ((Int × Int) × Bool)) : ∀ (l : List Pk) (i : Nat), -1 ≤ nextL shut l i ∧ nextL shut l i ≤ i + l.length
  | [], i => by simp [nextL]
  | p :: l, i => by
    unfold nextL
    split
    · have := nextL_range shut l (i + 1)
      simp
      omega
    · simp
      omega
theorem next_I64 {w : World} {r : Nat} {G : List Nat} {L : LaneM} (h : RefAt w r G L) : I64 L.next := by
  obtain ⟨cs, v, qs, h, -⟩ := h
  have := nextL_range L.shut L.way 0
  have h2 := h.len
  have h3 := h.r2
  unfold LaneM.next I64
  omega
theorem PkAt.byts {w : World} {pc : Pc} {k : Pk} (h : PkAt w pc k) : Byts w pc.a pc.n k.bs := h.own.rd
section
variable {w : World} {b r : Nat} {F G : List Nat} {L : LaneM}

set_option maxRecDepth 100000 in
set_option maxHeartbeats 1000000 in
theorem do_1 (x y z : Int) (D : Option Addr) (n c : Nat) (h : Both w b F r G L) (hx : I64 x) :
   Calls Try.prog 19 #[.pointer (some ⟨b, 0, none⟩), .pointer (some ⟨r, 0, none⟩), .agg #[.int .i64 1, .int .i64 x, .int .i64 y, .int .u8 z, .slice D n c]] w (DoPost w b F r G) := by
  go_enter Try.func19, Try.ntmps19
  go_upto_region 3 with (fail)
  refine wp_gen (fun W => Blk W w.heap.size 51 #[.int .i64 1, .int .i64 x, .int .i64 y, .int .u8 z, .slice D n c] ∧ Blk W (w.heap.size + 1) 37 #[.int .i64 0, .int .i64 0, .slice none 0 0] ∧ Blk W (w.heap.size + 2) 37 #[.int .i64 0, .int .i64 0, .slice none 0 0] ∧ Fr [] w W) ⟨((Blk.new w 51 _).alloc _).alloc _, (Blk.new' _ _ (by simp)).alloc _, Blk.new' _ _ (by simp), (((Fr.refl _ _).alloc _).alloc _).alloc _⟩ ?_
  rintro W ⟨B5, B9, B10, fW⟩
  have hB := h.quiet fW
  have hFl : ∀ g ∈ F ++ G, g < w.heap.size := fun g hg => (List.mem_append.1 hg).elim (h.lane.lt g) (h.ref.lt g)
  obtain ⟨g5, HG⟩ : ∃ g, Hid (w.heap.size = g) := ⟨_, Lib.hid rfl⟩
  rw [HG.out] at B5 B9 B10 hFl ⊢
  have n5 : ∀ i, g5 + i ∉ F ++ G := fun i hi => by have := hFl _ hi; omega
  have c5 := blk5c B5
  have hl5 := B5.lt
  go_wp2_with fail
  refine (take_t x hB.lane hx).mono ?_
  rintro e w1 ⟨F1, pc, rfl, h1, g1, -, hz1, hy1⟩
  obtain ⟨r1, d1⟩ := hB.went g1
  have b9 := B9.fr g1.fr (fun hh => n5 1 (List.mem_append.2 (.inl hh)))
  have b10 := B10.fr g1.fr (fun hh => n5 2 (List.mem_append.2 (.inl hh)))
  have c9 := b9.c3
  have z9 := fun i => b9.frozen i
  have l9 := b9.lt
  obtain ⟨E, HE⟩ : ∃ E, Hid (takeE L x = E) := ⟨_, Lib.hid rfl⟩
  rw [HE.out]
  have n9 : g5 + 1 ∉ G := fun hh => n5 1 (List.mem_append.2 (.inr hh))
  have n10 : g5 + 2 ∉ G := fun hh => n5 2 (List.mem_append.2 (.inr hh))
  go_upto_region 14 with (fail)
  refine wp_gen (fun W1 => Blk W1 (g5 + 1) 37 pc.arr ∧ Fr [g5 + 1] w1 W1) ⟨?_, (((Fr.refl _ _).setCell (p := ⟨g5 + 1, 0, none⟩) (by simp) _).setCell (p := ⟨g5 + 1, 1, none⟩) (by simp) _).setCell (p := ⟨g5 + 1, 2, none⟩) (by simp) _⟩ ?_
  · simpa using ((b9.set 0 (.int .i64 pc.src)).set 1 (.int .i64 pc.dst)).set 2 (.slice pc.a pc.n pc.c)
  rintro W1 ⟨B9', f9⟩
  have hR1 := r1.fr f9 (fun x hx => by simp; rintro rfl; exact n9 hx)
  have b10' := b10.fr f9 (by simp)
  obtain ⟨cs1, v1, qs1, hRI, hGe1⟩ := hR1
  clear c9 z9 l9
  go_wp2_with fail
  refine (take_r x hRI hx).mono ?_
  rintro e w2 ⟨cs2, v2, qs2, pd, rfl, h2, f2, hs2, hz2, hy2⟩
  rw [HE.out]
  have hrG : r ∈ G := by rw [hGe1]; simp [refFoot]
  have n9r : g5 + 1 ≠ r := fun e => n9 (e ▸ hrG)
  have n10r : g5 + 2 ≠ r := fun e => n10 (e ▸ hrG)
  have b9' := B9'.fr f2 (by simpa using n9r)
  have b10'' := b10'.fr f2 (by simpa using n10r)
  have c10 := b10''.c3
  have z10 := fun i => b10''.frozen i
  have l10 := b10''.lt
  go_upto_region 28 with (fail)
  refine wp_gen (fun W2 => Blk W2 (g5 + 2) 37 pd.arr ∧ Fr [g5 + 2] w2 W2) ⟨?_, (((Fr.refl _ _).setCell (p := ⟨g5 + 2, 0, none⟩) (by simp) _).setCell (p := ⟨g5 + 2, 1, none⟩) (by simp) _).setCell (p := ⟨g5 + 2, 2, none⟩) (by simp) _⟩ ?_
  · simpa using ((b10''.set 0 (.int .i64 pd.src)).set 1 (.int .i64 pd.dst)).set 2 (.slice pd.a pd.n pd.c)
  rintro W2 ⟨B10', f10⟩
  have B9'' := b9'.fr f10 (by simp)
  have c9 := B9''.c3
  have c10 := B10'.c3
  have hgs := HG.out
  have hrF : r ∉ F1 := fun hh => d1 r hh hrG
  have n9F : g5 + 1 ∉ F1 := fun hh => (g1.sub _ hh).elim (fun h3 => n5 1 (List.mem_append.2 (.inl h3))) (fun h3 => by have := B9.lt; omega)
  have n10F : g5 + 2 ∉ F1 := fun hh => (g1.sub _ hh).elim (fun h3 => n5 2 (List.mem_append.2 (.inl h3))) (fun h3 => by have := B10.lt; omega)
  have hsW := f9.size
  have hsG2 : ∀ g ∈ refFoot r v2 qs2, g ∈ G ∨ W1.heap.size ≤ g := fun g hg => hGe1 ▸ hs2 g hg
  have B9lt := B9'.lt
  have B10lt := b10'.lt
  have n10G2 : g5 + 2 ∉ refFoot r v2 qs2 := fun hh => (hsG2 _ hh).elim n10 (fun h3 => by omega)
  have hBo : Both W2 b F1 r (refFoot r v2 qs2) (L.take x) :=
    ⟨((h1.fr f9 (fun x hx => by simp; rintro rfl; exact n9F hx)).fr f2 (fun x hx => by simp; rintro rfl; exact hrF hx)).fr f10 (fun x hx => by simp; rintro rfl; exact n10F hx),
      ⟨cs2, v2, qs2, h2.fr f10 (fun x hx => by simp; rintro rfl; exact n10G2 hx), rfl⟩,
      fun x hx hh => (hsG2 x hh).elim (d1 x hx) (fun h3 => by have := h1.lt x hx; omega)⟩
  have hwW := fW.size
  have hw1 := g1.fr.size
  have gB : Went w W2 (F ++ G) (F1 ++ refFoot r v2 qs2) := by
    refine ⟨((((fW.nil.trans (g1.fr.mono (fun i hi => List.mem_append.2 (.inl hi)))).andThen f9 (fun i hi => .inr (by simp at hi; omega))).andThen f2 (fun i hi => .inl (by simp at hi; subst hi; exact List.mem_append.2 (.inr hrG))))).andThen f10 (fun i hi => .inr (by simp at hi; omega)), fun x hx => ?_⟩
    rcases List.mem_append.1 hx with h3 | h3
    · exact (g1.sub x h3).imp (fun h4 => List.mem_append.2 (.inl h4)) (fun h4 => by omega)
    · exact (hsG2 x h3).imp (fun h4 => List.mem_append.2 (.inr h4)) (fun h4 => by omega)
  by_cases hE : takeE L x = 0
  · obtain ⟨hp, hpF⟩ := hy1 hE
    obtain ⟨hq, hqG⟩ := hy2 hE
    have hE0 : E = 0 := by rw [← HE.out]; exact hE
    have hpb : PkAt W2 pc (L.way.getD (x).toNat default) := by
      refine ((hp.fr f9 (fun x hx => ?_)).fr f2 (fun x hx => ?_)).fr f10 (fun x hx => ?_)
      · simp; rintro rfl; exact n5 1 (List.mem_append.2 (.inl (hpF _ hx).1))
      · simp; rintro rfl; exact h.apart _ (hpF _ hx).1 hrG
      · simp; rintro rfl; exact n5 2 (List.mem_append.2 (.inl (hpF _ hx).1))
    have hqb : PkAt W2 pd (L.way.getD (x).toNat default) := by
      refine hq.fr f10 (fun x hx => ?_)
      have : x ∈ G := by rw [hGe1]; simp only [refFoot, List.mem_cons, List.mem_append]; exact .inr (.inr (hqG x hx))
      simp; rintro rfl; exact n10 this
    obtain ⟨p1, p2, p3, p4⟩ := hpb
    obtain ⟨q1, q2, q3, q4⟩ := hqb
    rw [p1, p2] at c9
    rw [q1, q2] at c10
    have P3 := Lib.hid p3
    have Q3 := Lib.hid q3
    clear p1 p2 q1 q2 p3 q3 hy1 hy2 hz1 hz2 hE hp hq hE0
    go_wp2_with fail
    refine (same_t _ _ pc.a pc.n pc.c pd.a pd.n pd.c _ W2 P3.out.rd Q3.out.rd (by omega)).mono ?_
    rintro e w4 ⟨rfl, f4⟩
    go_wp2
    go_ret
    exact DoPost.mk h (Fr.refl _ _) hBo gB f4
  · obtain rfl := hz1 hE
    obtain rfl := hz2 hE
    have hE0 : E ≠ 0 := by rw [← HE.out]; exact hE
    clear hy1 hy2 hz1 hz2 hE hE0
    go_wp2_with fail
    refine (same_zero _).mono ?_
    rintro e w4 ⟨rfl, f4⟩
    go_wp2
    go_ret
    exact DoPost.mk h (Fr.refl _ _) hBo gB f4

set_option maxRecDepth 100000 in
set_option maxHeartbeats 1000000 in
theorem do_8 (x y z : Int) (D : Option Addr) (n c : Nat) (h : Both w b F r G L) :
   Calls Try.prog 19 #[.pointer (some ⟨b, 0, none⟩), .pointer (some ⟨r, 0, none⟩), .agg #[.int .i64 8, .int .i64 x, .int .i64 y, .int .u8 z, .slice D n c]] w (DoPost w b F r G) := by
  go_enter Try.func19, Try.ntmps19
  go_upto_region 3 with (fail)
  refine wp_gen (fun W => Blk W w.heap.size 51 #[.int .i64 8, .int .i64 x, .int .i64 y, .int .u8 z, .slice D n c] ∧ Blk W (w.heap.size + 1) 37 #[.int .i64 0, .int .i64 0, .slice none 0 0] ∧ Blk W (w.heap.size + 2) 37 #[.int .i64 0, .int .i64 0, .slice none 0 0] ∧ Fr [] w W) ⟨((Blk.new w 51 _).alloc _).alloc _, (Blk.new' _ _ (by simp)).alloc _, Blk.new' _ _ (by simp), (((Fr.refl _ _).alloc _).alloc _).alloc _⟩ ?_
  rintro W ⟨B5, B9, B10, fW⟩
  have hB := h.quiet fW
  have hFl : ∀ g ∈ F ++ G, g < w.heap.size := fun g hg => (List.mem_append.1 hg).elim (h.lane.lt g) (h.ref.lt g)
  obtain ⟨g5, HG⟩ : ∃ g, Hid (w.heap.size = g) := ⟨_, Lib.hid rfl⟩
  rw [HG.out] at B5 B9 B10 hFl ⊢
  have n5 : ∀ i, g5 + i ∉ F ++ G := fun i hi => by have := hFl _ hi; omega
  have c5 := blk5c B5
  have hl5 := B5.lt
  obtain ⟨cs0, v0, qs0, hR0, -⟩ := hB.ref
  have hIn := next_I64 hB.ref
  go_wp2_with fail
  refine (next_r hR0).mono ?_
  rintro e w0 ⟨rfl, f0⟩
  have hB0 := hB.quiet f0
  have E5 := B5.fr f0 (by simp)
  go_wp2_with fail
  refine (next_t hB0.lane).mono ?_
  rintro e w00 ⟨rfl, f00⟩
  have hB00 := hB0.quiet f00
  have fWW := (fW.trans f0).trans f00
  have D9 := (B9.fr f0 (by simp)).fr f00 (by simp)
  have D10 := (B10.fr f0 (by simp)).fr f00 (by simp)
  obtain ⟨K, HK⟩ : ∃ K, Hid (L.next = K) := ⟨_, Lib.hid rfl⟩
  have hKI : I64 K := HK.out ▸ hIn
  rw [HK.out]
  clear hB fW B9 B10 hB0 f0 f00 hR0 hIn E5 c5 B5 hl5
  have hB := hB00
  have fW := fWW
  have B9 := D9
  have B10 := D10
  clear hB00 fWW D9 D10
  go_wp2_with fail
  refine (take_t K hB.lane hKI).mono ?_
  rintro e w1 ⟨F1, pc, rfl, h1, g1, -, hz1, hy1⟩
  obtain ⟨r1, d1⟩ := hB.went g1
  have b9 := B9.fr g1.fr (fun hh => n5 1 (List.mem_append.2 (.inl hh)))
  have b10 := B10.fr g1.fr (fun hh => n5 2 (List.mem_append.2 (.inl hh)))
  have c9 := b9.c3
  have z9 := fun i => b9.frozen i
  have l9 := b9.lt
  obtain ⟨E, HE⟩ : ∃ E, Hid (takeE L K = E) := ⟨_, Lib.hid rfl⟩
  rw [HE.out]
  have n9 : g5 + 1 ∉ G := fun hh => n5 1 (List.mem_append.2 (.inr hh))
  have n10 : g5 + 2 ∉ G := fun hh => n5 2 (List.mem_append.2 (.inr hh))
  go_upto_region 14 with (fail)
  refine wp_gen (fun W1 => Blk W1 (g5 + 1) 37 pc.arr ∧ Fr [g5 + 1] w1 W1) ⟨?_, (((Fr.refl _ _).setCell (p := ⟨g5 + 1, 0, none⟩) (by simp) _).setCell (p := ⟨g5 + 1, 1, none⟩) (by simp) _).setCell (p := ⟨g5 + 1, 2, none⟩) (by simp) _⟩ ?_
  · simpa using ((b9.set 0 (.int .i64 pc.src)).set 1 (.int .i64 pc.dst)).set 2 (.slice pc.a pc.n pc.c)
  rintro W1 ⟨B9', f9⟩
  have hR1 := r1.fr f9 (fun x hx => by simp; rintro rfl; exact n9 hx)
  have b10' := b10.fr f9 (by simp)
  obtain ⟨cs1, v1, qs1, hRI, hGe1⟩ := hR1
  clear c9 z9 l9
  go_wp2_with fail
  refine (take_r K hRI hKI).mono ?_
  rintro e w2 ⟨cs2, v2, qs2, pd, rfl, h2, f2, hs2, hz2, hy2⟩
  rw [HE.out]
  have hrG : r ∈ G := by rw [hGe1]; simp [refFoot]
  have n9r : g5 + 1 ≠ r := fun e => n9 (e ▸ hrG)
  have n10r : g5 + 2 ≠ r := fun e => n10 (e ▸ hrG)
  have b9' := B9'.fr f2 (by simpa using n9r)
  have b10'' := b10'.fr f2 (by simpa using n10r)
  have c10 := b10''.c3
  have z10 := fun i => b10''.frozen i
  have l10 := b10''.lt
  go_upto_region 28 with (fail)
  refine wp_gen (fun W2 => Blk W2 (g5 + 2) 37 pd.arr ∧ Fr [g5 + 2] w2 W2) ⟨?_, (((Fr.refl _ _).setCell (p := ⟨g5 + 2, 0, none⟩) (by simp) _).setCell (p := ⟨g5 + 2, 1, none⟩) (by simp) _).setCell (p := ⟨g5 + 2, 2, none⟩) (by simp) _⟩ ?_
  · simpa using ((b10''.set 0 (.int .i64 pd.src)).set 1 (.int .i64 pd.dst)).set 2 (.slice pd.a pd.n pd.c)
  rintro W2 ⟨B10', f10⟩
  have B9'' := b9'.fr f10 (by simp)
  have c9 := B9''.c3
  have c10 := B10'.c3
  have hgs := HG.out
  have hrF : r ∉ F1 := fun hh => d1 r hh hrG
  have n9F : g5 + 1 ∉ F1 := fun hh => (g1.sub _ hh).elim (fun h3 => n5 1 (List.mem_append.2 (.inl h3))) (fun h3 => by have := B9.lt; omega)
  have n10F : g5 + 2 ∉ F1 := fun hh => (g1.sub _ hh).elim (fun h3 => n5 2 (List.mem_append.2 (.inl h3))) (fun h3 => by have := B10.lt; omega)
  have hsW := f9.size
  have hsG2 : ∀ g ∈ refFoot r v2 qs2, g ∈ G ∨ W1.heap.size ≤ g := fun g hg => hGe1 ▸ hs2 g hg
  have B9lt := B9'.lt
  have B10lt := b10'.lt
  have n10G2 : g5 + 2 ∉ refFoot r v2 qs2 := fun hh => (hsG2 _ hh).elim n10 (fun h3 => by omega)
  have hBo : Both W2 b F1 r (refFoot r v2 qs2) (L.take K) :=
    ⟨((h1.fr f9 (fun x hx => by simp; rintro rfl; exact n9F hx)).fr f2 (fun x hx => by simp; rintro rfl; exact hrF hx)).fr f10 (fun x hx => by simp; rintro rfl; exact n10F hx),
      ⟨cs2, v2, qs2, h2.fr f10 (fun x hx => by simp; rintro rfl; exact n10G2 hx), rfl⟩,
      fun x hx hh => (hsG2 x hh).elim (d1 x hx) (fun h3 => by have := h1.lt x hx; omega)⟩
  have hwW := fW.size
  have hw1 := g1.fr.size
  have gB : Went w W2 (F ++ G) (F1 ++ refFoot r v2 qs2) := by
    refine ⟨((((fW.nil.trans (g1.fr.mono (fun i hi => List.mem_append.2 (.inl hi)))).andThen f9 (fun i hi => .inr (by simp at hi; omega))).andThen f2 (fun i hi => .inl (by simp at hi; subst hi; exact List.mem_append.2 (.inr hrG))))).andThen f10 (fun i hi => .inr (by simp at hi; omega)), fun x hx => ?_⟩
    rcases List.mem_append.1 hx with h3 | h3
    · exact (g1.sub x h3).imp (fun h4 => List.mem_append.2 (.inl h4)) (fun h4 => by omega)
    · exact (hsG2 x h3).imp (fun h4 => List.mem_append.2 (.inr h4)) (fun h4 => by omega)
  by_cases hE : takeE L K = 0
  · obtain ⟨hp, hpF⟩ := hy1 hE
    obtain ⟨hq, hqG⟩ := hy2 hE
    have hE0 : E = 0 := by rw [← HE.out]; exact hE
    have hpb : PkAt W2 pc (L.way.getD (K).toNat default) := by
      refine ((hp.fr f9 (fun x hx => ?_)).fr f2 (fun x hx => ?_)).fr f10 (fun x hx => ?_)
      · simp; rintro rfl; exact n5 1 (List.mem_append.2 (.inl (hpF _ hx).1))
      · simp; rintro rfl; exact h.apart _ (hpF _ hx).1 hrG
      · simp; rintro rfl; exact n5 2 (List.mem_append.2 (.inl (hpF _ hx).1))
    have hqb : PkAt W2 pd (L.way.getD (K).toNat default) := by
      refine hq.fr f10 (fun x hx => ?_)
      have : x ∈ G := by rw [hGe1]; simp only [refFoot, List.mem_cons, List.mem_append]; exact .inr (.inr (hqG x hx))
      simp; rintro rfl; exact n10 this
    obtain ⟨p1, p2, p3, p4⟩ := hpb
    obtain ⟨q1, q2, q3, q4⟩ := hqb
    rw [p1, p2] at c9
    rw [q1, q2] at c10
    have P3 := Lib.hid p3
    have Q3 := Lib.hid q3
    clear p1 p2 q1 q2 p3 q3 hy1 hy2 hz1 hz2 hE hp hq hE0
    go_wp2_with fail
    refine (same_t _ _ pc.a pc.n pc.c pd.a pd.n pd.c _ W2 P3.out.rd Q3.out.rd (by omega)).mono ?_
    rintro e w4 ⟨rfl, f4⟩
    go_wp2
    go_ret
    exact DoPost.mk h (Fr.refl _ _) hBo gB f4
  · obtain rfl := hz1 hE
    obtain rfl := hz2 hE
    have hE0 : E ≠ 0 := by rw [← HE.out]; exact hE
    clear hy1 hy2 hz1 hz2 hE hE0
    go_wp2_with fail
    refine (same_zero _).mono ?_
    rintro e w4 ⟨rfl, f4⟩
    go_wp2
    go_ret
    exact DoPost.mk h (Fr.refl _ _) hBo gB f4
end
end Go.Proofs.Ythnienoefnfnpaa
