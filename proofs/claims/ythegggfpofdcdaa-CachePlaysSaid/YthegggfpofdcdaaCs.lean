/- A script of calls as it lies in memory. Conditions: none. -/
import Derived.Test.YthegggfpofdcdaaCm
namespace Go.Proofs.Ythegggfpofdcdaa
open Go.RowKit Go.Sig

structure StepM where
  kind : Int
  token : ByteArray
  family : ByteArray
  n : Int
  now : Int
  a : Ans
  sc : List ByteArray
@[reducible] def StepM.cells (s : StepM) : List Value := [.int .i64 s.kind, .string s.token, .string s.family, .int .i64 s.n, .int .i64 s.now,
  .int .i64 s.a.why, .int .i64 s.a.access, .int .i64 s.a.refresh, .slice s.a.sa s.a.sl s.a.sc, .string s.a.client, .string s.a.user, .bool s.a.active, .bool s.a.wait]

structure StepOk (w : World) (s : StepM) : Prop where
  k : I64 s.kind
  n : I64 s.n
  now : I64 s.now
  strs : Strs w s.a.sa s.a.sl s.sc
  nil : s.a.sa = none → s.a.sl = 0
structure Script (w : World) (A : Option Addr) (len : Nat) (ss : List StepM) : Prop where
  rd : Rd w 13 A len (ss.flatMap StepM.cells)
  length : ss.length = len
  ok : ∀ s ∈ ss, StepOk w s
  le : len ≤ 9223372036854775807

def greatB (ss : List StepM) : Bool := (ss.take 80).any fun s => decide (50 < s.a.sl)

theorem flat_get {α : Type} (f : α → List Value) (n : Nat) (hf : ∀ a, (f a).length = n) : ∀ (l : List α) (k j : Nat) (d : α), k < l.length → j < n → (l.flatMap f)[k * n + j]? = (f (l.getD k d))[j]?
  | [], k, j, d, hk, _ => by simp at hk
  | a :: l, 0, j, d, _, hj => by
    simp only [List.flatMap_cons, Nat.zero_mul, Nat.zero_add, List.getD_cons_zero]
    rw [List.getElem?_append_left (by rw [hf]; exact hj)]
  | a :: l, k + 1, j, d, hk, hj => by
    simp only [List.flatMap_cons, List.getD_cons_succ]
    rw [List.getElem?_append_right (by rw [hf, Nat.add_mul]; omega), hf]
    have : (k + 1) * n + j - n = k * n + j := by rw [Nat.add_mul]; omega
    rw [this]
    exact flat_get f n hf l k j d (by simpa using hk) hj

instance : Inhabited StepM := ⟨⟨0, ⟨#[]⟩, ⟨#[]⟩, 0, 0, Ans.zero, []⟩⟩

theorem Script.at {w : World} {A : Option Addr} {len k : Nat} {ss : List StepM} (h : Script w A len ss) (hk : k < len) : ∃ b o, A = some ⟨b, o, none⟩ ∧ ∀ j v, (ss.getD k default).cells[j]? = some v → w.cell? ⟨b, o + k * 13 + j, none⟩ = some v := by
  obtain ⟨b, o, hA, hc⟩ := h.rd.2 (by omega)
  refine ⟨b, o, hA, fun j v hv => ?_⟩
  rw [Nat.add_assoc]
  refine hc _ _ ?_
  rw [flat_get StepM.cells 13 (fun _ => rfl) ss k j default (by rw [h.length]; exact hk) (by have := (List.getElem?_eq_some_iff.1 hv).1; simpa using this)]
  exact hv
theorem StepOk.fr {w w' : World} {s : StepM} (h : StepOk w s) (hf : Fr [] w w') : StepOk w' s := ⟨h.k, h.n, h.now, h.strs.fr hf (fun _ _ _ => by simp), h.nil⟩
theorem Script.fr {w w' : World} {A : Option Addr} {len : Nat} {ss : List StepM} (h : Script w A len ss) (hf : Fr [] w w') : Script w' A len ss :=
  ⟨h.rd.fr hf (fun _ _ _ => by simp), h.length, fun s hs => (h.ok s hs).fr hf, h.le⟩
theorem t22 : SliceTy Try.prog 22 34 13 144 (.agg #[.int .i64 0, .string ⟨#[]⟩, .string ⟨#[]⟩, .int .i64 0, .int .i64 0, .int .i64 0, .int .i64 0, .int .i64 0, .slice none 0 0, .string ⟨#[]⟩, .string ⟨#[]⟩, .bool false, .bool false]) := ⟨by kernel_rfl, by kernel_rfl, rfl, by decide⟩
theorem Own.off9 {w : World} {e size n : Nat} {v : Value} {xs : List Value} (h : Own w e size v n xs) (he : e ≠ 9) {A : Option Addr} (hA : Ty9 w A) : Off (rowOf v) A := by
  intro ad ha hm
  obtain ⟨cs, fr, hh⟩ := hA ad ha
  rcases h.2 with ⟨rfl, _⟩ | ⟨g, cap, cur, rfl, _, hg, _⟩
  · simp [rowOf, Value.ownBlock] at hm
  · simp [rowOf, Value.ownBlock] at hm
    rw [hm, hg] at hh
    simp only [Option.some.injEq, Obj.cells.injEq] at hh
    exact he hh.2.1
theorem cells_one (l : List StepM) : ∀ u ∈ l.flatMap StepM.cells, u.oneCell' = true := by
  intro u hu
  obtain ⟨s, _, hs⟩ := List.mem_flatMap.1 hu
  simp only [StepM.cells, List.mem_cons, List.not_mem_nil, or_false] at hs
  rcases hs with rfl | rfl | rfl | rfl | rfl | rfl | rfl | rfl | rfl | rfl | rfl | rfl | rfl <;> rfl
theorem rd_block {w : World} {g : Nat} {t : TypeId} {s : StepM} {cs : Array Value} (h : Blk w g t cs) (hc : cs = s.cells.toArray) : Rd w 13 (some ⟨g, 0, none⟩) 1 s.cells := by
  refine ⟨rfl, fun _ => ⟨g, 0, rfl, fun j u hu => ?_⟩⟩
  rw [Nat.zero_add, h.cell, hc]
  simpa using hu
end Go.Proofs.Ythegggfpofdcdaa
