/- The document's lane in memory; walks: node, Own, At. Conditions: each theorem's own. -/
import Derived.Test.YthnienoefnfnpaaRow
import Derived.Test.YthnienoefnfnpaaWn
import Derived.Test.YthnienoefnfnpaaWk
import Derived.Outline
import Derived.Deep.RegionHeld3
namespace Go.Proofs.Ythnienoefnfnpaa
open Go.RowKit Go.Sig

/-- The document's lane in memory: its model is the same record. -/
structure RefIn (w : World) (r : Nat) (cs : Array Value) (v : Value) (qs : List (Pc × Pk)) (L : LaneM) : Prop where
  blk : Blk w r 48 cs
  size : cs.size = 1026
  c0 : cs[0]? = some (.int .i64 L.n)
  c1 : cs[1]? = some v
  sh : ∀ a b : Nat, a < 32 → b < 32 → cs[2 + a * 32 + b]? = some (.bool (shutB L a b))
  own : Own w 37 3 v qs.length (qs.flatMap fun q => q.1.cells)
  pks : ∀ q ∈ qs, PkAt w q.1 q.2
  way : L.way = qs.map (·.2)
  d1 : r ∉ rowOf v
  d2 : r ∉ Lb qs
  d3 : ∀ x ∈ rowOf v, x ∉ Lb qs
  r1 : 1 ≤ L.n ∧ L.n ≤ 32
  r2 : qs.length ≤ 4096
  r3 : ∀ q ∈ qs, 0 ≤ q.2.src ∧ q.2.src < L.n ∧ 0 ≤ q.2.dst ∧ q.2.dst < L.n
def refFoot (r : Nat) (v : Value) (qs : List (Pc × Pk)) : List Nat := r :: (rowOf v ++ Lb qs)
def RefAt (w : World) (r : Nat) (G : List Nat) (L : LaneM) : Prop := ∃ cs v qs, RefIn w r cs v qs L ∧ G = refFoot r v qs

section
variable {w w' : World} {r : Nat} {cs : Array Value} {v : Value} {qs : List (Pc × Pk)} {L : LaneM} {S G : List Nat}
theorem RefIn.lt (h : RefIn w r cs v qs L) : ∀ g ∈ refFoot r v qs, g < w.heap.size := by
  intro g hg
  simp only [refFoot, List.mem_cons, List.mem_append] at hg
  rcases hg with rfl | hg | hg
  · exact h.blk.lt
  · exact h.own.lt g hg
  · obtain ⟨q, hq, hg⟩ := List.mem_flatMap.1 hg
    exact (h.pks q hq).own.lt g hg
theorem RefIn.fr (h : RefIn w r cs v qs L) (hf : Fr S w w') (hS : ∀ g ∈ refFoot r v qs, g ∉ S) : RefIn w' r cs v qs L :=
  { h with
    blk := h.blk.fr hf (hS r (by simp [refFoot]))
    own := h.own.fr hf (fun g hg => hS g (by simp [refFoot, hg]))
    pks := fun q hq => (h.pks q hq).fr hf (fun g hg => hS g (by simp only [refFoot, List.mem_cons, List.mem_append]; exact .inr (.inr (mem_Lb hq hg)))) }
theorem RefIn.nilfr (h : RefIn w r cs v qs L) (hf : Fr [] w w') : RefIn w' r cs v qs L := h.fr hf (fun _ _ => by simp)
theorem RefAt.lt (h : RefAt w r G L) : ∀ g ∈ G, g < w.heap.size := by
  obtain ⟨cs, v, qs, h, rfl⟩ := h
  exact h.lt
theorem RefAt.fr (h : RefAt w r G L) (hf : Fr S w w') (hS : ∀ g ∈ G, g ∉ S) : RefAt w' r G L := by
  obtain ⟨cs, v, qs, h, rfl⟩ := h
  exact ⟨cs, v, qs, h.fr hf hS, rfl⟩
theorem RefAt.nilfr (h : RefAt w r G L) (hf : Fr [] w w') : RefAt w' r G L := h.fr hf (fun _ _ => by simp)
theorem RefAt.mem (h : RefAt w r G L) : r ∈ G := by
  obtain ⟨cs, v, qs, h, rfl⟩ := h
  simp [refFoot]
theorem RefIn.len (h : RefIn w r cs v qs L) : L.way.length = qs.length := by rw [h.way]; simp
theorem RefIn.cells (h : RefIn w r cs v qs L) : w.cell? ⟨r, 0, none⟩ = some (.int .i64 L.n) ∧ w.cell? ⟨r, 1, none⟩ = some v ∧ w.frozen? ⟨r, 1, none⟩ = false ∧ r < w.heap.size :=
  ⟨by rw [h.blk.cell]; exact h.c0, by rw [h.blk.cell]; exact h.c1, h.blk.frozen 1, h.blk.lt⟩
theorem RefIn.shut (h : RefIn w r cs v qs L) {a b : Nat} (ha : a < 32) (hb : b < 32) : w.cell? ⟨r, 2 + a * 32 + b, none⟩ = some (.bool (shutB L a b)) := by
  rw [h.blk.cell]
  exact h.sh a b ha hb
theorem RefIn.at (h : RefIn w r cs v qs L) {k : Nat} (hk : k < qs.length) : ∃ g cap, v = .slice (some ⟨g, 0, none⟩) qs.length cap ∧ g < w.heap.size ∧ w.cell? ⟨g, k * 3, none⟩ = some (.int .i64 qs[k].2.src) ∧ w.cell? ⟨g, k * 3 + 1, none⟩ = some (.int .i64 qs[k].2.dst) ∧ w.cell? ⟨g, k * 3 + 2, none⟩ = some (.slice qs[k].1.a qs[k].1.n qs[k].1.c) := by
  obtain ⟨g, cap, hv, hg, c0, c1, c2⟩ := own_at h.own rfl hk
  obtain ⟨hs, hd, -⟩ := h.pks _ (List.getElem_mem hk)
  rw [hs] at c0
  rw [hd] at c1
  exact ⟨g, cap, hv, hg, c0, c1, c2⟩

theorem node_r (k : Int) (h : RefIn w r cs v qs L) (hk : I64 k) :
   Calls Try.prog 46 #[.pointer (some ⟨r, 0, none⟩), .int .i64 k] w fun e w' => e = .returned (.bool (nodeB L.n k)) ∧ w = w' := by
  have hc := h.cells
  by_cases h0 : 0 ≤ k
  · go_enter Try.func46, Try.ntmps46
    go_wp2
    go_ret
    exact ⟨ret_bool (by unfold nodeB; simp [h0]), rfl⟩
  · have h0' : decide (0 ≤ k) = false := by simpa using h0
    go_enter Try.func46, Try.ntmps46
    go_wp2
    go_ret
    exact ⟨ret_bool (by unfold nodeB; simp; omega), rfl⟩

theorem own_r (src dst : Int) (A : Option Addr) (n c : Nat) (l : List UInt8) (w : World) (h : Byts w A n l) (hA : A = none → n = 0) (hn : n ≤ 1048576) :
   Calls Try.prog 47 #[.agg #[.int .i64 src, .int .i64 dst, .slice A n c]] w (OwnPost w src dst n l) := by
  have hl := h.length
  go_enter Try.func47, Try.ntmps47
  go_upto_region 1 with (fail)
  refine wp_gen (fun W => Blk W w.heap.size 37 #[.int .i64 src, .int .i64 dst, .slice A n c] ∧ Blk W (w.heap.size + 1) 37 #[.int .i64 0, .int .i64 0, .slice none 0 0] ∧ Fr [] w W ∧ W.heap.size = w.heap.size + 2) ⟨(Blk.new w 37 _).alloc _, Blk.new' _ _ (by simp), ((Fr.refl _ _).alloc _).alloc _, by simp⟩ ?_
  rintro W ⟨B1, B2, fW, sW⟩
  have hr : Byts W A n l := Rd.fr h fW (by simp [Off])
  have hgz := Lib.hid (rfl : w.heap.size = w.heap.size)
  generalize hgE : w.heap.size = g at B1 B2 sW ⊢
  have HG := Lib.hid hgE
  clear hgE hgz
  have hk0 := B1.c3
  have hlt1 := B1.lt
  have HS := Lib.hid sW
  clear sW
  go_region_held3 (fun w' => w'.cell? ⟨g, 0, none⟩ = some (.int .i64 src) ∧ w'.cell? ⟨g, 1, none⟩ = some (.int .i64 dst) ∧ w'.cell? ⟨g, 2, none⟩ = some (.slice A n c))
    (first | exact hk0 | exact hk1 | go_keep)
    ((refine step_own_append t22 ((Own.made W #[] 5 1 0 0 (Nat.le_refl _) (by decide) rfl).fr ((Fr.refl [] _).drew) (by simp)) (Rd.fr hr ((Fr.refl [] _).alloc _).drew (by simp [Off])) (bv_one l) hA ?_ (by omega) rfl rfl rfl rfl (fun v' w2 q1 q2 q3 => ?_); (focus (unfold maxLen; omega)); obtain ⟨A3, c3, rfl, hA3⟩ := q1.form; have f2 : Fr [] W w2 := (((Fr.refl [] W).alloc _).drew).andThen q2 (fun i hi => .inr (by simp [rowOf, Value.ownBlock] at hi; omega)); have B1' := B1.fr f2 (by simp); have B2' := B2.fr f2 (by simp); have hk1 := B1'.c3; have hk2 := B2'.c3; have z2 := fun i => B2'.frozen i))
  go_wp2
  simp only [Nat.zero_add, Nat.zero_mul, List.take_zero, List.nil_append] at q1
  have f3 : Fr [g + 1] w2 (((w2.setCell ⟨g + 1, 0, none⟩ (.int .i64 src)).setCell ⟨g + 1, 1, none⟩ (.int .i64 dst)).setCell ⟨g + 1, 2, none⟩ (.slice A3 n c3)) := (((Fr.refl _ _).setCell (by simp) _).setCell (by simp) _).setCell (by simp) _
  have E2 : Blk (((w2.setCell ⟨g + 1, 0, none⟩ (.int .i64 src)).setCell ⟨g + 1, 1, none⟩ (.int .i64 dst)).setCell ⟨g + 1, 2, none⟩ (.slice A3 n c3)) (g + 1) 37 #[.int .i64 src, .int .i64 dst, .slice A3 n c3] := by simpa using ((B2'.set 0 (.int .i64 src)).set 1 (.int .i64 dst)).set 2 (.slice A3 n c3)
  have e2 := E2.c3
  have hS' := HS.out
  have hG' := HG.out
  have hgo : ∀ x ∈ rowOf (Value.slice A3 n c3), W.heap.size ≤ x := fun x hx => by
    rcases q3 x (by simpa using hx) with h1 | h1
    · simp [rowOf, Value.ownBlock] at h1; omega
    · simp at h1; omega
  refine bodyPost_ret (v := .agg (Pc.arr ⟨src, dst, A3, n, c3⟩)) (by simp [results, Try.results47, go_sem, e2]) rfl ⟨A3, c3, rfl, Own.fr q1 f3 (fun x hx => by have := hgo x hx; simp; omega), (fW.trans f2).andThen f3 (fun x hx => .inr (by simp at hx; omega)), fun x hx => by have := hgo x hx; omega⟩

/-- A packet as it is told by the document's lane. -/
def AtPost (w : World) (G : List Nat) (L : LaneM) (k : Int) (e : Ending) (w' : World) : Prop :=
  ∃ pc : Pc, e = .returned (.tuple #[.agg #[.int .i64 pc.src, .int .i64 pc.dst, .slice pc.a pc.n pc.c], .int .i64 (hasE L.way.length k)]) ∧ Fr [] w w' ∧
    (hasE L.way.length k ≠ 0 → pc = Pc.zero) ∧ (hasE L.way.length k = 0 → PkAt w' pc (L.way.getD k.toNat default) ∧ ∀ g ∈ rowOf pc.val, g ∈ G)

theorem at_r_no (k : Int) (h : RefIn w r cs v qs L) (hk : I64 k) (h6 : hasE L.way.length k = 6) :
   Calls Try.prog 44 #[.pointer (some ⟨r, 0, none⟩), .int .i64 k] w (AtPost w (Lb qs) L k) := by
  have hc := h.cells
  obtain ⟨A, c, rfl, -⟩ := h.own.form
  have hlen := h.len
  have h1 : k < 0 ∨ (qs.length : Int) ≤ k := by
    rw [hlen] at h6
    unfold hasE at h6
    split at h6
    · assumption
    · cases h6
  have hB := (Blk.new w 37 #[.int .i64 0, .int .i64 0, .slice none 0 0]).c3
  have hz := fun i => (Blk.new w 37 #[.int .i64 0, .int .i64 0, .slice none 0 0]).frozen i
  have H6 := Lib.hid h6
  clear h6 hlen
  by_cases h0 : k < 0
  · go_enter Try.func44, Try.ntmps44
    go_wp2
    refine bodyPost_ret (v := .tuple #[.agg #[.int .i64 0, .int .i64 0, .slice none 0 0], .int .i64 6]) (by simp [results, Try.results44, go_sem]) rfl ⟨Pc.zero, by rw [H6.out], ?_, fun _ => rfl, fun h => by rw [H6.out] at h; cases h⟩
    repeat (first | with_reducible exact Fr.refl _ _ | with_reducible refine Fr.alloc ?_ _ | (with_reducible refine Fr.setCell ?_ ?_ _; rotate_left; simp))
  · have h2 : (qs.length : Int) ≤ k := by omega
    have h0' : decide (k < 0) = false := by simpa using h0
    go_enter Try.func44, Try.ntmps44
    go_wp2
    refine bodyPost_ret (v := .tuple #[.agg #[.int .i64 0, .int .i64 0, .slice none 0 0], .int .i64 6]) (by simp [results, Try.results44, go_sem]) rfl ⟨Pc.zero, by rw [H6.out], ?_, fun _ => rfl, fun h => by rw [H6.out] at h; cases h⟩
    repeat (first | with_reducible exact Fr.refl _ _ | with_reducible refine Fr.alloc ?_ _ | (with_reducible refine Fr.setCell ?_ ?_ _; rotate_left; simp))

theorem at_r_yes (j : Nat) (h : RefIn w r cs v qs L) (hj : j < qs.length) :
   Calls Try.prog 44 #[.pointer (some ⟨r, 0, none⟩), .int .i64 j] w (AtPost w (Lb qs) L j) := by
  have h0 : hasE L.way.length j = 0 := hasE_in (by rw [h.len]; exact hj)
  have hr2 := h.r2
  have fa : Fr [] w (w.alloc (.cells #[.int .i64 0, .int .i64 0, .slice none 0 0] 37)) := (Fr.refl _ _).alloc _
  have l1 := h.nilfr fa
  obtain ⟨g, cap, rfl, hgl, c0, c1, c2⟩ := l1.at hj
  have hc := l1.cells
  obtain ⟨hs, hd, hown, hle⟩ := l1.pks _ (List.getElem_mem hj)
  have hwj : L.way.getD j default = qs[j].2 := by rw [h.way]; simp [List.getD, hj]
  have hz := fun i => (Blk.new w 37 #[.int .i64 0, .int .i64 0, .slice none 0 0]).frozen i
  have hB := Blk.new w 37 #[.int .i64 0, .int .i64 0, .slice none 0 0]
  have H0 := Lib.hid h0
  have HW := Lib.hid hwj
  have HS := Lib.hid hs
  have HD := Lib.hid hd
  clear h0 hs hd hwj
  go_enter Try.func44, Try.ntmps44
  go_wp2
  refine bodyPost_ret (v := .tuple #[.agg #[.int .i64 qs[j].2.src, .int .i64 qs[j].2.dst, .slice qs[j].1.a qs[j].1.n qs[j].1.c], .int .i64 0]) (by simp [results, Try.results44, go_sem]) rfl ⟨⟨qs[j].2.src, qs[j].2.dst, qs[j].1.a, qs[j].1.n, qs[j].1.c⟩, by rw [H0.out], ?_, fun h => absurd H0.out h, fun _ => ⟨?_, fun g hg => ?_⟩⟩
  · exact (Fr.refl _ _).alloc _
  · rw [Int.toNat_natCast, HW.out]
    exact ⟨rfl, rfl, (h.pks _ (List.getElem_mem hj)).own.fr ((Fr.refl [] _).alloc _) (by simp), hle⟩
  · exact mem_Lb (List.getElem_mem hj) hg
theorem at_r (k : Int) (h : RefIn w r cs v qs L) (hk : I64 k) :
   Calls Try.prog 44 #[.pointer (some ⟨r, 0, none⟩), .int .i64 k] w (AtPost w (Lb qs) L k) := by
  by_cases h0 : hasE L.way.length k = 0
  · obtain ⟨j, rfl, hj⟩ := hasE_zero h0
    exact at_r_yes j h (by rw [← h.len]; exact hj)
  · exact at_r_no k h hk (hasE_six h0)
theorem next_r (h : RefIn w r cs v qs L) :
   Calls Try.prog 36 #[.pointer (some ⟨r, 0, none⟩)] w fun e w' => e = .returned (.int .i64 L.next) ∧ Fr [] w w' := by
  have hr2 := h.r2
  have hway := h.way
  obtain ⟨A, c, rfl, -⟩ := h.own.form
  go_enter Try.func36, Try.ntmps36
  go_wp2_with fail
  go_loopg [3] (qs.length + 1) (fun k s3 wr => ∃ i : Nat, s3 = .int .i64 i ∧ i ≤ qs.length ∧ qs.length - i < k ∧ Fr [] w wr ∧ L.next = nextL L.shut (L.way.drop i) i)
  case atStart => exact ⟨0, rfl, by omega, by omega, Fr.refl _ _, by simp [LaneM.next]⟩
  case round =>
    obtain ⟨i, rfl, hi, hk, hF, hn⟩ := hrel
    have hR := h.nilfr hF
    have hc := hR.cells
    by_cases hlt : i < qs.length
    · obtain ⟨g, cap, hv, hgl, c0, c1, c2⟩ := hR.at hlt
      injection hv with hv _ hv3
      subst hv hv3
      obtain ⟨p1, p2, p3, p4⟩ := hR.r3 _ (List.getElem_mem hlt)
      have hr1 := hR.r1
      obtain ⟨sa, hsa⟩ : ∃ sa : Nat, qs[i].2.src = sa := ⟨qs[i].2.src.toNat, by omega⟩
      obtain ⟨da, hda⟩ : ∃ da : Nat, qs[i].2.dst = da := ⟨qs[i].2.dst.toNat, by omega⟩
      have hsh := hR.shut (a := sa) (b := da) (by omega) (by omega)
      have hdr : L.way.drop i = qs[i].2 :: L.way.drop (i + 1) := by
        rw [List.drop_eq_getElem_cons (by rw [h.len]; exact hlt)]
        simp [hway]
      rw [hdr] at hn
      unfold nextL at hn
      rw [hsa, hda] at hn
      rw [hsa] at c0
      rw [hda] at c1
      have b1 : sa < 32 := by omega
      have b2 : da < 32 := by omega
      unfold shutB at hsh
      have HN := Lib.hid hn
      clear hn hdr hway hsa hda p1 p2 p3 p4
      cases hb : (aget (keyM sa da) L.shut).getD false with
      | true =>
        rw [hb] at hsh
        go_wp2_with fail
        go_quiet (fail)
        go_wp2
        go_roundg (qs.length - i)
        case measure => omega
        case rel => exact ⟨i + 1, by go_num, by omega, by omega, hF.drewN _, by rw [HN.out, if_pos hb]⟩
      | false =>
        rw [hb] at hsh
        go_wp2_with fail
        go_quiet (fail)
        go_wp2
        go_ret
        exact ⟨ret_int (by rw [HN.out, hb]; rfl), hF.drewN _⟩
    · have hin : i = qs.length := by omega
      have hlt' : (qs.length : Int) ≤ i := by omega
      have hnx : L.next = -1 := by
        rw [hn, List.drop_of_length_le (by rw [h.len]; omega)]
        rfl
      have HN := Lib.hid hnx
      clear hn hnx hway hin
      go_wp2
      go_ret
      exact ⟨ret_int HN.out.symm, hF⟩

theorem open_r (x y : Int) (h : RefIn w r cs v qs L) (hx : I64 x) (hy : I64 y) :
   Calls Try.prog 43 #[.pointer (some ⟨r, 0, none⟩), .int .i64 x, .int .i64 y] w fun e w' => e = .returned (.bool (openB L x y)) ∧ Fr [] w w' := by
  have hn1 := fun w (h : RefIn w r cs v qs L) => node_r x h hx
  have hn2 := fun w (h : RefIn w r cs v qs L) => node_r y h hy
  have hc := h.cells
  have hr1 := h.r1
  cases h1 : nodeB L.n x with
  | false =>
    rw [h1] at hn1
    go_enter Try.func43, Try.ntmps43
    go_wp2_with fail
    refine (hn1 _ h).mono ?_
    rintro e w' ⟨rfl, rfl⟩
    go_wp2
    go_ret
    exact ⟨ret_bool (by simp [openB, h1]), Fr.refl _ _⟩
  | true =>
    cases h2 : nodeB L.n y with
    | false =>
      rw [h1] at hn1
      rw [h2] at hn2
      go_enter Try.func43, Try.ntmps43
      go_wp2_with fail
      refine (hn1 _ h).mono ?_
      rintro e w' ⟨rfl, rfl⟩
      go_wp2_with fail
      refine (hn2 _ h).mono ?_
      rintro e w' ⟨rfl, rfl⟩
      go_wp2
      go_ret
      exact ⟨ret_bool (by simp [openB, h2]), Fr.refl _ _⟩
    | true =>
      obtain ⟨p1, p2⟩ : 0 ≤ x ∧ x < L.n := by simpa [nodeB] using h1
      obtain ⟨p3, p4⟩ : 0 ≤ y ∧ y < L.n := by simpa [nodeB] using h2
      obtain ⟨sa, rfl⟩ : ∃ sa : Nat, x = sa := ⟨x.toNat, by omega⟩
      obtain ⟨da, rfl⟩ : ∃ da : Nat, y = da := ⟨y.toNat, by omega⟩
      have b1 : sa < 32 := by omega
      have b2 : da < 32 := by omega
      have hsh := h.shut b1 b2
      rw [h1] at hn1
      rw [h2] at hn2
      have HO := Lib.hid (show openB L sa da = !shutB L sa da by simp [openB, h1, h2])
      clear p1 p2 p3 p4 h1 h2
      generalize shutB L sa da = sb at *
      go_enter Try.func43, Try.ntmps43
      go_wp2_with fail
      refine (hn1 _ h).mono ?_
      rintro e w' ⟨rfl, rfl⟩
      go_wp2_with fail
      refine (hn2 _ h).mono ?_
      rintro e w' ⟨rfl, rfl⟩
      go_wp2
      go_ret
      exact ⟨ret_bool HO.out.symm, Fr.refl _ _⟩

/-- Both places of a link. -/
def set2 (cs : Array Value) (x y : Nat) (s : Bool) : Array Value := (cs.setIfInBounds (2 + x * 32 + y) (.bool s)).setIfInBounds (2 + y * 32 + x) (.bool s)
theorem keyM_iff (a b x y : Int) : keyM a b = keyM x y ↔ (a = x ∧ b = y) ∨ (a = y ∧ b = x) := by
  unfold keyM
  simp only [Prod.mk.injEq]
  omega
theorem shutB_link {L : LaneM} {x y : Int} {s : Bool} (he : linkE L x y = 0) (a b : Int) : shutB (L.link x y s) a b = if (a = x ∧ b = y) ∨ (a = y ∧ b = x) then s else shutB L a b := by
  unfold shutB LaneM.link
  rw [if_pos he]
  by_cases hk : keyM a b = keyM x y
  · rw [if_pos ((keyM_iff a b x y).1 hk)]
    simp only [hk, aget_aset_same, Option.getD_some]
  · rw [if_neg (fun h => hk ((keyM_iff a b x y).2 h))]
    simp only [aget_aset_other hk]
theorem set2_get {cs : Array Value} (hs : cs.size = 1026) {x y : Nat} (s : Bool) (hx : x < 32) (hy : y < 32) (f : Nat → Nat → Bool) (h : ∀ a b : Nat, a < 32 → b < 32 → cs[2 + a * 32 + b]? = some (.bool (f a b))) :
    ∀ a b : Nat, a < 32 → b < 32 → (set2 cs x y s)[2 + a * 32 + b]? = some (.bool (if (a = x ∧ b = y) ∨ (a = y ∧ b = x) then s else f a b)) := by
  intro a b ha hb
  unfold set2
  simp only [Array.getElem?_setIfInBounds, Array.size_setIfInBounds, hs]
  by_cases h1 : a = y ∧ b = x
  · obtain ⟨rfl, rfl⟩ := h1
    rw [if_pos rfl, if_pos (by omega), if_pos (.inr ⟨rfl, rfl⟩)]
  · rw [if_neg (by omega)]
    by_cases h2 : a = x ∧ b = y
    · obtain ⟨rfl, rfl⟩ := h2
      rw [if_pos rfl, if_pos (by omega), if_pos (.inl ⟨rfl, rfl⟩)]
    · rw [if_neg (by omega), if_neg (by omega)]
      exact h a b ha hb

theorem link_n' (L : LaneM) (x y : Int) (s : Bool) : (L.link x y s).n = L.n ∧ (L.link x y s).way = L.way := by
  unfold LaneM.link
  split <;> exact ⟨rfl, rfl⟩
def LinkRPost (w : World) (r : Nat) (v : Value) (qs : List (Pc × Pk)) (L : LaneM) (x y : Int) (s : Bool) (e : Ending) (w' : World) : Prop :=
  e = .returned (.int .i64 (linkE L x y)) ∧ (∃ cs', RefIn w' r cs' v qs (L.link x y s)) ∧ Fr [r] w w'
theorem link_r (x y : Int) (s : Bool) (h : RefIn w r cs v qs L) (hx : I64 x) (hy : I64 y) :
   Calls Try.prog 41 #[.pointer (some ⟨r, 0, none⟩), .int .i64 x, .int .i64 y, .bool s] w (LinkRPost w r v qs L x y s) := by
  have hn1 := fun w (h : RefIn w r cs v qs L) => node_r x h hx
  have hn2 := fun w (h : RefIn w r cs v qs L) => node_r y h hy
  have hc := h.cells
  have hr1 := h.r1
  cases h1 : nodeB L.n x with
  | false =>
    rw [h1] at hn1
    have he : linkE L x y = 6 := by simp [linkE, h1]
    have H := Lib.hid he
    have hp : LinkRPost w r v qs L x y s (.returned (.int .i64 6)) w := ⟨by rw [he], ⟨cs, by simpa [LaneM.link, he] using h⟩, Fr.refl _ _⟩
    clear he
    go_enter Try.func41, Try.ntmps41
    go_wp2_with fail
    refine (hn1 _ h).mono ?_
    rintro e w' ⟨rfl, rfl⟩
    go_wp2
    go_ret
    exact hp
  | true =>
    cases h2 : nodeB L.n y with
    | false =>
      rw [h1] at hn1
      rw [h2] at hn2
      have he : linkE L x y = 6 := by simp [linkE, h2]
      have hp : LinkRPost w r v qs L x y s (.returned (.int .i64 6)) w := ⟨by rw [he], ⟨cs, by simpa [LaneM.link, he] using h⟩, Fr.refl _ _⟩
      clear he
      go_enter Try.func41, Try.ntmps41
      go_wp2_with fail
      refine (hn1 _ h).mono ?_
      rintro e w' ⟨rfl, rfl⟩
      go_wp2_with fail
      refine (hn2 _ h).mono ?_
      rintro e w' ⟨rfl, rfl⟩
      go_wp2
      go_ret
      exact hp
    | true =>
      by_cases hxy : x = y
      · subst hxy
        rw [h1] at hn1
        have he : linkE L x x = 6 := by simp [linkE]
        have hp : LinkRPost w r v qs L x x s (.returned (.int .i64 6)) w := ⟨by rw [he], ⟨cs, by simpa [LaneM.link, he] using h⟩, Fr.refl _ _⟩
        clear he
        go_enter Try.func41, Try.ntmps41
        go_wp2_with fail
        refine (hn1 _ h).mono ?_
        rintro e w' ⟨rfl, rfl⟩
        go_wp2_with fail
        refine (hn1 _ h).mono ?_
        rintro e w' ⟨rfl, rfl⟩
        go_wp2
        go_ret
        exact hp
      · obtain ⟨p1, p2⟩ : 0 ≤ x ∧ x < L.n := by simpa [nodeB] using h1
        obtain ⟨p3, p4⟩ : 0 ≤ y ∧ y < L.n := by simpa [nodeB] using h2
        obtain ⟨sa, rfl⟩ : ∃ sa : Nat, x = sa := ⟨x.toNat, by omega⟩
        obtain ⟨da, rfl⟩ : ∃ da : Nat, y = da := ⟨y.toNat, by omega⟩
        have b1 : sa < 32 := by omega
        have b2 : da < 32 := by omega
        have hsh := h.shut b1 b2
        have hsh2 := h.shut b2 b1
        have hz := fun i => h.blk.frozen i
        have he : linkE L sa da = 0 := by simp [linkE, h1, h2]; omega
        have hsb := shutB_link (s := s) he
        have hp : RefIn ((w.setCell ⟨r, 2 + sa * 32 + da, none⟩ (.bool s)).setCell ⟨r, 2 + da * 32 + sa, none⟩ (.bool s)) r (set2 cs sa da s) v qs (L.link sa da s) := by
          have f3 : Fr [r] w ((w.setCell ⟨r, 2 + sa * 32 + da, none⟩ (.bool s)).setCell ⟨r, 2 + da * 32 + sa, none⟩ (.bool s)) := ((Fr.refl _ _).setCell (by simp) _).setCell (by simp) _
          obtain ⟨e1, e2⟩ := link_n' L sa da s
          refine ⟨(h.blk.set _ _).set _ _, by simp [set2, h.size], ?_, ?_, ?_, ?_, ?_, by rw [e2]; exact h.way, h.d1, h.d2, h.d3, by rw [e1]; exact h.r1, h.r2, by rw [e1]; exact h.r3⟩
          · rw [e1, ← h.c0]
            unfold set2
            rw [Array.getElem?_setIfInBounds, if_neg (by omega), Array.getElem?_setIfInBounds, if_neg (by omega)]
          · rw [← h.c1]
            unfold set2
            rw [Array.getElem?_setIfInBounds, if_neg (by omega), Array.getElem?_setIfInBounds, if_neg (by omega)]
          · intro a b ha hb
            rw [set2_get h.size s b1 b2 (fun a b => shutB L a b) h.sh a b ha hb, hsb]
            congr 2
            simp only [Int.ofNat_inj, Int.natCast_inj]
          · exact h.own.fr f3 (fun x hx => by simp; rintro rfl; exact h.d1 hx)
          · exact fun q hq => (h.pks q hq).fr f3 (fun x hx => by simp; rintro rfl; exact h.d2 (mem_Lb hq hx))
        have HE := Lib.hid he
        have HP := Lib.hid hp
        rw [h1] at hn1
        rw [h2] at hn2
        clear he hp hsb p1 p2 p3 p4 h1 h2
        obtain ⟨zf, hzf⟩ : ∃ v', ((w.setCell ⟨r, 2 + sa * 32 + da, none⟩ (.bool s))).cell? ⟨r, 2 + da * 32 + sa, none⟩ = some v' := by
          exact cell?_setCell_some (w := w) (p := ⟨r, 2 + sa * 32 + da, none⟩) (x := .bool s) (q := ⟨r, 2 + da * 32 + sa, none⟩) hsh2
        go_enter Try.func41, Try.ntmps41
        go_wp2_with fail
        refine (hn1 _ h).mono ?_
        rintro e w' ⟨rfl, rfl⟩
        go_wp2_with fail
        refine (hn2 _ h).mono ?_
        rintro e w' ⟨rfl, rfl⟩
        have hne : ¬ (sa : Int) = da := hxy
        go_wp2
        go_ret
        exact ⟨by rw [HE.out]; rfl, ⟨_, HP.out⟩, ((Fr.refl _ _).setCell (by simp) _).setCell (by simp) _⟩
end
end Go.Proofs.Ythnienoefnfnpaa
