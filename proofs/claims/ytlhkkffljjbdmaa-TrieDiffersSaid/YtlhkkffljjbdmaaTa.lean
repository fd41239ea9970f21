/- Nodes of a trie in memory, and the first walks over them. Conditions: each theorem's own. -/
import Derived.Test.YtlhkkffljjbdmaaSf
import Derived.Test.YtlhkkffljjbdmaaTp
namespace Go.Proofs.Ytlhkkffljjbdmaa
open Go.RowKit Go.Sig

/-! ### Nodes -/
def pairCells (l : List Pr) : List Value := l.flatMap fun y => [.string y.1, .string y.2]
def nodeCells (D : List UInt8) (s k : Value) (n : Nat) : Array Value := (D.map bv ++ [s, k, .int .i64 n]).toArray
def nilP : Value := .pointer none
/-- A node that holds its pairs itself. -/
def LeafAt (w : World) (X : List Nat) (D : List UInt8) (l : List Pr) (p : Value) : Prop :=
  ∃ g A c, p = .pointer (some ⟨g, 0, none⟩) ∧ g ∉ X ∧ Blk w g 84 (nodeCells D (.slice A l.length c) nilP l.length) ∧ Rd w 2 A l.length (pairCells l) ∧ l.length ≤ c ∧ (0 < l.length → Off X A)
/-- A node of sixteen. -/
def BranchAt (w : World) (X : List Nat) (D : List UInt8) (n : Nat) (ps : List Value) (p : Value) : Prop :=
  ∃ g k, p = .pointer (some ⟨g, 0, none⟩) ∧ g ∉ X ∧ k ∉ X ∧ Blk w g 84 (nodeCells D (.slice none 0 0) (.pointer (some ⟨k, 0, none⟩)) n) ∧ Blk w k 109 ps.toArray ∧ ps.length = 16
/-- A node of these pairs at the depth 64 - f, apart from the blocks of X. -/
def NodeAt (w : World) (X : List Nat) : Nat → List Pr → Value → Prop
  | 0, l, p => byLen l (p = nilP) (fun y => LeafAt w X (leaf1 y) [y] p) (LeafAt w X (leafN l) l p)
  | f + 1, l, p => byLen l (p = nilP) (fun y => LeafAt w X (leaf1 y) [y] p) (∃ ps, BranchAt w X (dig (f + 1) l) l.length ps p ∧ ∀ i, i < 16 → NodeAt w X f (kid f l i) (ps.getD i undef))
theorem node_nil {w : World} {X : List Nat} {f : Nat} {p : Value} : NodeAt w X f [] p ↔ p = nilP := by cases f <;> exact Iff.rfl
theorem node_one {w : World} {X : List Nat} {f : Nat} {y : Pr} {p : Value} : NodeAt w X f [y] p ↔ LeafAt w X (leaf1 y) [y] p := by cases f <;> exact Iff.rfl
theorem node_leaf {w : World} {X : List Nat} {l : List Pr} {p : Value} (h : 2 ≤ l.length) : NodeAt w X 0 l p ↔ LeafAt w X (leafN l) l p := by
  unfold NodeAt
  rw [byLen_two h]
theorem node_branch {w : World} {X : List Nat} {f : Nat} {l : List Pr} {p : Value} (h : 2 ≤ l.length) :
    NodeAt w X (f + 1) l p ↔ ∃ ps, BranchAt w X (dig (f + 1) l) l.length ps p ∧ ∀ i, i < 16 → NodeAt w X f (kid f l i) (ps.getD i undef) := by
  show byLen l _ _ _ ↔ _
  rw [byLen_two h]

/-- What lies apart from X, and X grows by what is new. -/
structure Apart (w w' : World) (X Y S : List Nat) : Prop where
  fr : Fr S w w'
  writes : ∀ s, s ∈ S → s ∈ X ∨ w.heap.size ≤ s
  grows : ∀ y, y ∈ Y → y ∈ X ∨ w.heap.size ≤ y
section
variable {w w' : World} {X Y S : List Nat}
theorem Apart.not (h : Apart w w' X Y S) {g : Nat} (hg : g ∉ X) (hl : g < w.heap.size) : g ∉ S ∧ g ∉ Y :=
  ⟨fun hs => (h.writes g hs).elim hg (by omega), fun hs => (h.grows g hs).elim hg (by omega)⟩
theorem LeafAt.go (h : Apart w w' X Y S) {D : List UInt8} {l : List Pr} {p : Value} (hL : LeafAt w X D l p) : LeafAt w' Y D l p := by
  obtain ⟨g, A, c, rfl, hg, hB, hR, hc, hA⟩ := hL
  have h1 := h.not hg hB.lt
  have hoff : 0 < l.length → Off S A ∧ Off Y A := fun h0 => ⟨fun ad e => (h.not (hA h0 ad e) (Rd.lt hR (by decide) h0 ad e)).1, fun ad e => (h.not (hA h0 ad e) (Rd.lt hR (by decide) h0 ad e)).2⟩
  exact ⟨g, A, c, rfl, h1.2, hB.fr h.fr h1.1, Rd.fr hR h.fr fun h0 => (hoff h0).1, hc, fun h0 => (hoff h0).2⟩
theorem NodeAt.go (h : Apart w w' X Y S) : ∀ {f : Nat} {l : List Pr} {p : Value}, NodeAt w X f l p → NodeAt w' Y f l p
  | f, [], p, hN => by rw [node_nil] at hN ⊢; exact hN
  | f, [y], p, hN => by rw [node_one] at hN ⊢; exact hN.go h
  | 0, y :: z :: l, p, hN => by
    rw [node_leaf (by simp)] at hN ⊢
    exact hN.go h
  | f + 1, y :: z :: l, p, hN => by
    rw [node_branch (by simp)] at hN ⊢
    obtain ⟨ps, ⟨g, k, rfl, hg, hk, hB, hK, hl⟩, hkids⟩ := hN
    have h1 := h.not hg hB.lt
    have h2 := h.not hk hK.lt
    exact ⟨ps, ⟨g, k, rfl, h1.2, h2.2, hB.fr h.fr h1.1, hK.fr h.fr h2.1, hl⟩, fun i hi => (hkids i hi).go h⟩
/-- What is written is in X or new. -/
theorem NodeAt.fr {f : Nat} {l : List Pr} {p : Value} (hN : NodeAt w X f l p) (hf : Fr S w w') (hS : ∀ s, s ∈ S → s ∈ X ∨ w.heap.size ≤ s) : NodeAt w' X f l p := hN.go ⟨hf, hS, fun _y hy => .inl hy⟩
theorem NodeAt.fr0 {f : Nat} {l : List Pr} {p : Value} (hN : NodeAt w X f l p) (hf : Fr [] w w') : NodeAt w' X f l p := hN.fr hf (by simp)
end
theorem nodeCells_size {D : List UInt8} {s k : Value} {n : Nat} (h : D.length = 32) : (nodeCells D s k n).size = 35 := by simp [nodeCells, h]
theorem nodeCells_dig {D : List UInt8} {s k : Value} {n : Nat} : Sub (nodeCells D s k n) 0 (D.map bv) := by
  intro j v hv
  have hj := (List.getElem?_eq_some_iff.1 hv).1
  rw [Nat.zero_add]
  simp only [nodeCells, List.getElem?_toArray]
  rw [List.getElem?_append_left hj]
  exact hv
theorem nodeCells_at {D : List UInt8} {s k : Value} {n : Nat} (h : D.length = 32) : (nodeCells D s k n)[32]? = some s ∧ (nodeCells D s k n)[33]? = some k ∧ (nodeCells D s k n)[34]? = some (.int .i64 n) := by
  have hm : (D.map bv).length = 32 := by rw [List.length_map, h]
  refine ⟨?_, ?_, ?_⟩ <;> simp only [nodeCells, List.getElem?_toArray] <;> rw [List.getElem?_append_right (by omega), hm] <;> rfl
theorem sha_len (l : List UInt8) : (sha l).length = 32 := rfl

/-! ### Walks -/
set_option maxRecDepth 100000 in
theorem nib_eq (b : UInt8) (k : Nat) : bits .and .i64 (wrap64 ((b.toNat : Int) / 2 ^ (4 - k % 2 * 4))) 15 = ((b.toNat / 2 ^ (4 - k % 2 * 4) % 16 : Nat) : Int) := by
  have hm : k % 2 = 0 ∨ k % 2 = 1 := by omega
  have hb := b.toNat_lt
  have key : ∀ n : Nat, n < 256 → bits .and .i64 (wrap64 (n : Int)) 15 = ((n % 16 : Nat) : Int) := by decide +kernel
  rcases hm with h | h <;> rw [h]
  · have := key (b.toNat / 16) (by omega)
    simpa using this
  · have := key b.toNat (by omega)
    simpa using this
set_option maxRecDepth 100000 in
theorem at_t (w : World) (d : List UInt8) (k : Nat) (hd : d.length = 32) (hk : k < 64) :
   Calls Try.prog 37 #[.agg (digCells d), .int .i64 k] w fun e w' => e = .returned (.int .i64 (nib d k)) ∧ Fr [] w w' := by
  have hsz := digCells_size hd
  go_enter Try.func37, Try.ntmps37
  go_upto_region 1 with (fail)
  refine wp_gen (fun W => Blk W w.heap.size 80 (digCells d) ∧ Fr [] w W) ⟨Blk.new _ _ _, (Fr.refl _ _).alloc _⟩ ?_
  rintro W ⟨hB, fW⟩
  have hc : W.cell? ⟨w.heap.size, k / 2, none⟩ = some (.int .u8 ((d.getD (k / 2) 0).toNat : Int)) := by
    rw [hB.cell]
    unfold digCells
    rw [List.getElem?_toArray, List.getElem?_map, List.getElem?_eq_getElem (show k / 2 < d.length by omega)]
    simp [List.getD, List.getElem?_eq_getElem (show k / 2 < d.length by omega), bv]
  have e1 : ((k : Int) / 2).toNat = k / 2 := by omega
  have e2 : (k : Int).tdiv 2 = (k : Int) / 2 := Int.tdiv_eq_ediv_of_nonneg (by omega)
  have e3 : (k : Int).tmod 2 = (k : Int) % 2 := Int.tmod_eq_emod_of_nonneg (by omega)
  have b1 : (k : Int) / 2 < 32 := by omega
  have b0 : 0 ≤ (k : Int) / 2 := by omega
  have p0 : (0 : Int) ≤ 4 - (k : Int) % 2 * 4 := by omega
  have p1 : (4 - (k : Int) % 2 * 4).toNat = 4 - k % 2 * 4 := by omega
  have hn := Lib.hid (nib_eq (d.getD (k / 2) 0) k)
  go_wp2
  go_ret
  exact ⟨ret_int hn.out, fW⟩
theorem nsum_t (w : World) (X : List Nat) (f : Nat) (l : List Pr) (p : Value) (hN : NodeAt w X f l p) :
   Calls Try.prog 45 #[p] w fun e w' => e = .returned (.agg (digCells (dig f l))) ∧ Fr [] w w' := by
  have hlen := dig_length f l
  have hcase : p = nilP ∧ l = [] ∨ ∃ g s k n, p = .pointer (some ⟨g, 0, none⟩) ∧ Blk w g 84 (nodeCells (dig f l) s k n) := by
    match f, l, hN with
    | f, [], hN => exact .inl ⟨node_nil.1 hN, rfl⟩
    | f, [y], hN =>
      obtain ⟨g, A, c, hp, _, hB, _⟩ := node_one.1 hN
      exact .inr ⟨g, _, _, _, hp, by rw [dig_one]; exact hB⟩
    | 0, y :: z :: l, hN =>
      obtain ⟨g, A, c, hp, _, hB, _⟩ := (node_leaf (by simp)).1 hN
      exact .inr ⟨g, _, _, _, hp, hB⟩
    | f + 1, y :: z :: l, hN =>
      obtain ⟨ps, ⟨g, k, hp, _, _, hB, _⟩, _⟩ := (node_branch (by simp)).1 hN
      exact .inr ⟨g, _, _, _, hp, hB⟩
  clear hN
  rcases hcase with ⟨rfl, rfl⟩ | ⟨g, s, k, n, rfl, hB⟩
  · unfold nilP
    rw [dig_nil] at hlen ⊢
    obtain ⟨D, HDD⟩ : ∃ x, Hid (List.replicate 32 (0 : UInt8) = x) := ⟨_, Lib.hid rfl⟩
    rw [HDD.out] at hlen ⊢
    go_enter Try.func45, Try.ntmps45
    go_upto_region 1 with (fail)
    refine wp_gen (fun W => (∃ zs, Blk W w.heap.size 42 zs ∧ zs.size = 32) ∧ Fr [] w W) ⟨⟨_, Blk.new _ _ _, rfl⟩, (Fr.refl _ _).alloc _⟩ ?_
    rintro W ⟨⟨zs, hD, hz⟩, fW⟩
    obtain ⟨gd, HGD⟩ : ∃ x, Hid (w.heap.size = x) := ⟨_, Lib.hid rfl⟩
    rw [HGD.out] at hD ⊢
    go_wp2_with (first
      | (refine wpList_build_k rfl 42 _ rfl (cells := digCells (List.replicate 32 0)) ?_ ?_; (focus kernel_rfl); rw [HDD.out])
      | refine wpList_store_row rfl 42 _ _ rfl gd (digCells D) rfl rfl 42 zs hD (infoDigA hlen) (by rw [hz, digCells_size hlen]) (digCells_one D) ?_)
    exact bodyPost_ret (v := .agg (digCells D)) (results_cell_row rfl _ _ gd 42 (digCells D) (0, 0) _ rfl (Blk.setRow hD _) uDig rfl (infoDigA hlen)) rfl ⟨rfl, fW.setRow (.inr (by have := HGD.out; omega)) _⟩
  · obtain ⟨D, HDD⟩ : ∃ x, Hid (dig f l = x) := ⟨_, Lib.hid rfl⟩
    rw [HDD.out] at hlen hB ⊢
    go_enter Try.func45, Try.ntmps45
    go_upto_region 1 with (fail)
    refine wp_gen (fun W => (∃ zs, Blk W w.heap.size 42 zs ∧ zs.size = 32) ∧ Fr [] w W) ⟨⟨_, Blk.new _ _ _, rfl⟩, (Fr.refl _ _).alloc _⟩ ?_
    rintro W ⟨⟨zs, hD, hz⟩, fW⟩
    have hBW := hB.fr fW (by simp)
    obtain ⟨gd, HGD⟩ : ∃ x, Hid (w.heap.size = x) := ⟨_, Lib.hid rfl⟩
    rw [HGD.out] at hD ⊢
    go_wp2_with (first
      | refine wpList_load_at rfl 42 _ rfl rfl hBW nodeCells_dig uDig rfl (infoDigL hlen) ?_
      | refine wpList_store_row rfl 42 _ _ rfl gd (digCells D) rfl rfl 42 zs hD (infoDigA hlen) (by rw [hz, digCells_size hlen]) (digCells_one D) ?_)
    exact bodyPost_ret (v := .agg (digCells D)) (results_cell_row rfl _ _ gd 42 (digCells D) (0, 0) _ rfl (Blk.setRow hD _) uDig rfl (infoDigA hlen)) rfl ⟨rfl, fW.setRow (.inr (by have := HGD.out; omega)) _⟩

/-- 'append(b, s...)', s a text, b a full row. -/
theorem run_append_str {P : Program} {w : World} {t u ty e : TypeId} {i : TypeInfo} {z : Value} (ht : P.underlying t = some (.slice e)) (hu : P.underlying u = some .string) (hi : P.info? e = some i) (hz : i.zero = some z)
    (h1 : i.size = 1) (_hzs : z.cells.size = 1) (hb : i.bytes = 1) {g n : Nat} {cur : Array Value} (hB : Blk w g e cur) (hn : cur.size = n) (s : ByteArray) (hmax : n + s.size ≤ 1000000000) :
    ∃ A c w', (Builtin.append_ #[t, u] ty #[.slice (some ⟨g, 0, none⟩) n n, .string s]).run P w = .ok (.slice A (n + s.size) c) w' ∧ Rd w' 1 A (n + s.size) (cur.toList ++ s.data.toList.map bv) ∧ n + s.size ≤ c ∧
      (∀ ad, A = some ad → ad.block = g ∨ w.heap.size ≤ ad.block) ∧ Fr [] w w' := by
  have hcells : ∀ j v, cur.toList[j]? = some v → w.cell? ((⟨g, 0, none⟩ : Addr).add j) = some v := fun j v hv => by
    rw [Addr.add_lit, Nat.zero_add, hB.cell, ← Array.getElem?_toList]
    exact hv
  have hds : s.data.toList.length = s.size := by rw [Array.length_toList]; rfl
  by_cases h0 : s.size = 0
  · have hd : s.data.toList = [] := List.eq_nil_of_length_eq_zero (by rw [hds, h0])
    refine ⟨some ⟨g, 0, none⟩, n, w, ?_, ?_, by omega, fun ad e => by cases e; exact .inl rfl, Fr.refl _ _⟩
    · have hx : s.data.extract 0 0 = #[] := by simp
      simp [Builtin.append_, run_underlying ht, run_underlying hu, sizeOf, typeInfo, hi, Builtin.lenOf, Builtin.firstCells, h0, storeCells]
    · rw [hd, h0]
      refine ⟨by simp [hn], fun _ => ⟨g, 0, rfl, fun j v hv => ?_⟩⟩
      rw [Nat.zero_add, hB.cell, ← Array.getElem?_toList]
      simpa using hv
  · have hn' : ¬ (n + s.size ≤ n) := by omega
    have h63' : ¬ (9223372036854775807 < ((n : Int) + (s.size : Int))) := by omega
    have hfit := growslice_fits (need := n + s.size) (old := n) (bytes := 1) (by omega) (by omega)
    have h48' : ¬ (281474976710656 < Builtin.nextslicecap (n + s.size) n * i.bytes) := by rw [hb]; omega
    have hld := run_loadCells_list (P := P) w.drew ⟨g, 0, none⟩ cur.toList (by simpa using hcells)
    rw [show cur.toList.length = n * i.size by simp [h1, hn]] at hld
    have hx : (Array.map (fun b : UInt8 => Value.int IntKind.u8 (b.toNat : Int)) s.data).extract 0 s.size = Array.map (fun b : UInt8 => Value.int IntKind.u8 (b.toNat : Int)) s.data := by
      have hs : s.size = (Array.map (fun b : UInt8 => Value.int IntKind.u8 (b.toNat : Int)) s.data).size := by rw [Array.size_map]; rfl
      rw [hs, Array.extract_size]
    refine ⟨some ⟨w.heap.size, 0, none⟩, grownCap w (n + s.size) n e, w.drew.alloc (.cells (cur ++ s.data.map bv ++ Builtin.zeroCells z.cells (grownCap w (n + s.size) n e - (n + s.size))) e), ?_, ?_, grownCap_ge _ _ _ _, fun ad e => by cases e; exact .inr (Nat.le_refl _), ((Fr.refl _ _).drew).alloc _⟩
    · simp [Builtin.append_, run_underlying ht, run_underlying hu, sizeOf, typeInfo, zeroValue, hi, hz, Builtin.lenOf, hn', h63', h48', Question.forced, hld, newRow, grownCap, Builtin.firstCells]
      rw [hx]
      rfl
    · refine ⟨by simp [hn, hds], fun _ => ⟨w.heap.size, 0, rfl, fun j v hv => ?_⟩⟩
      rw [Nat.zero_add]
      refine ((Blk.new w.drew e _).cell j).trans ?_
      rw [← Array.getElem?_toList]
      have hj := (List.getElem?_eq_some_iff.1 hv).1
      simp only [Array.toList_append, Array.toList_map]
      rw [List.getElem?_append_left hj]
      exact hv
theorem wpList_append_str {P : Program} {w : World} {ops : Array Oper} {rest : List Oper} {op : Oper} {a : Act} {Q : Exit → Act → World → Prop} {t u e : TypeId} {i : TypeInfo} {z : Value} (ht : P.underlying t = some (.slice e)) (hu : P.underlying u = some .string) (hi : P.info? e = some i) (hz : i.zero = some z)
    (h1 : i.size = 1) (hzs : z.cells.size = 1) (hb : i.bytes = 1) {g n : Nat} {cur : Array Value} (hB : Blk w g e cur) (hn : cur.size = n) (str : ByteArray) (hmax : n + str.size ≤ 1000000000)
    (hgd : op.guard = none) {s x : Operand} (ho : op.op = .call { callee := .builtin .append, args := #[s, x], argTypes := #[t, u] }) (hs : a.eval s = .slice (some ⟨g, 0, none⟩) n n) (hx : a.eval x = .string str)
    (hK : ∀ A c w', Rd w' 1 A (n + str.size) (cur.toList ++ str.data.toList.map bv) → n + str.size ≤ c → (∀ ad, A = some ad → ad.block = g ∨ w.heap.size ≤ ad.block) → Fr [] w w' → wpList P ops Q rest (a.put op.dst (.slice A (n + str.size) c)) w') : wpList P ops Q (op :: rest) a w := by
  refine wpList_plain hgd fun K' hK' => ?_
  obtain ⟨A, c, w', hrun, r1, r2, r3, r4⟩ := run_append_str (P := P) (ty := op.type) ht hu hi hz h1 hzs hb hB hn str hmax
  unfold Oper.wp
  simp [execOp, ho, resolve, invoke, builtin, hs, hx, hrun, Result.andThen]
  exact hK' _ _ (hK A c w' r1 r2 r3 r4)
theorem infoU8 : (Try.prog.info? 5).map (fun i => (i.zero, i.size, i.bytes)) = some (some (.int .u8 0), 1, 1) := by kernel_rfl
theorem tStr : Try.prog.underlying 9 = some .string := by kernel_rfl
theorem be4_cells (n : Nat) (h : n ≤ 1000000) : (be4 n).map bv = [.int .u8 ((n : Int) / 16777216), .int .u8 ((n : Int) / 65536), .int .u8 ((n : Int) / 256 % 256), .int .u8 ((n : Int) % 256)] := by
  simp only [be4, List.map_cons, List.map_nil, bv, UInt8.toNat_ofNat']
  have e1 : ((n / 16777216 % 2 ^ 8 : Nat) : Int) = (n : Int) / 16777216 := by omega
  have e2 : ((n / 65536 % 2 ^ 8 : Nat) : Int) = (n : Int) / 65536 := by omega
  have e3 : ((n / 256 % 2 ^ 8 : Nat) : Int) = (n : Int) / 256 % 256 := by omega
  have e4 : ((n % 2 ^ 8 : Nat) : Int) = (n : Int) % 256 := by omega
  rw [e1, e2, e3, e4]
set_option maxRecDepth 100000 in
theorem sized_t (w : World) (s : ByteArray) (hs : s.size ≤ 1000000) :
   Calls Try.prog 75 #[.string s] w fun e w' => ∃ A c, e = .returned (.slice A (4 + s.size) c) ∧ Byts w' A (4 + s.size) (szd s) ∧ 4 + s.size ≤ c ∧ (∀ ad, A = some ad → w.heap.size ≤ ad.block) ∧ Fr [] w w' := by
  obtain ⟨i, hi, hz, h1, hb⟩ := info_parts infoU8
  have hbc := Lib.hid (be4_cells s.size hs)
  go_enter Try.func75, Try.ntmps75
  have hB := Blk.new w 5 #[.int .u8 ((s.size : Int) / 16777216), .int .u8 ((s.size : Int) / 65536), .int .u8 ((s.size : Int) / 256 % 256), .int .u8 ((s.size : Int) % 256)]
  go_wp2_with (refine wpList_append_str tBytes tStr hi hz h1 rfl hb hB rfl s (by simp; omega) rfl rfl rfl rfl ?_; intro A c w' hR hc hA hF)
  go_ret
  refine ⟨A, c, rfl, ?_, hc, fun ad e => ?_, ((Fr.refl _ _).alloc _).trans hF⟩
  · unfold Byts szd
    rw [List.map_append, hbc.out]
    exact hR
  · rcases hA ad e with h | h
    · rw [h]; exact Nat.le_refl _
    · simp at h; omega
end Go.Proofs.Ytlhkkffljjbdmaa
