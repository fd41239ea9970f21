/- A map's key of two numbers. Conditions: none. -/
import Derived.Test.YthnienoefnfnpaaLm
namespace Go.Proofs.Ythnienoefnfnpaa
open Go.RowKit Go.Sig
theorem u66 : Try.prog.underlying 66 = some (.array 2 3) := by kernel_rfl
theorem u3 : Try.prog.underlying 3 = some (.int .i64) := by kernel_rfl
theorem i3 : (Try.prog.info? 3).map (·.size) = some 1 := by kernel_rfl
theorem run_size3 (w : World) : (sizeOf 3).run Try.prog w = .ok 1 w := by kernel_rfl
theorem part0 (a b : Int) (w : World) : (part 3 #[.int .i64 a, .int .i64 b] 0).run Try.prog w = .ok (.int .i64 a) w := by kernel_rfl
theorem part1 (a b : Int) (w : World) : (part 3 #[.int .i64 a, .int .i64 b] 1).run Try.prog w = .ok (.int .i64 b) w := by kernel_rfl
theorem check3 (e : Bool) (a : Int) (w : World) : (Instr.checkKey e 9999 3 (.int .i64 a)).run Try.prog w = .ok () w := by
  rw [Instr.checkKey]
  simp only [Sem.run_bind, run_underlying u3, Result.andThen_ok]
  rfl
theorem check66 (e : Bool) (a b : Int) (w : World) : (Instr.checkKey e 10000 66 (ek (a, b))).run Try.prog w = .ok () w := by
  rw [Instr.checkKey]
  simp [run_underlying u66, Sem.run_bind, Result.andThen, ek, run_size3, List.range', part0, part1, check3]
theorem eq3 (a b : Int) (w : World) : (Op.equalIn 9999 3 (.int .i64 a) (.int .i64 b)).run Try.prog w = .ok (a == b) w := by
  rw [Op.equalIn]
  simp [run_underlying u3, Sem.run_bind, Result.andThen]
theorem eq66 (a b c d : Int) (w : World) : (Op.equal 66 (ek (a, b)) (ek (c, d))).run Try.prog w = .ok (a == c && b == d) w := by
  unfold Op.equal
  show (Op.equalIn 10000 66 _ _).run _ _ = _
  rw [Op.equalIn]
  simp [run_underlying u66, Sem.run_bind, Result.andThen, ek, run_size3, List.range', part0, part1, eq3]
  by_cases h1 : a = c <;> by_cases h2 : b = d <;> simp [h1, h2, part1, eq3, Result.andThen]
theorem find66 (k : Int × Int) : ∀ (ks : List (Int × Int)) (es : List MapEntry) (i : Nat) (w : World), es.map (·.key) = ks.map ek → (Instr.findAsking 66 (ek k) es i).run Try.prog w = .ok (fnd k ks es i) w
  | [], [], i, w, _ => by simp [Instr.findAsking, fnd]
  | [], _ :: _, _, _, h => by simp at h
  | _ :: _, [], _, _, h => by simp at h
  | a :: ks, e :: es, i, w, h => by
    simp only [List.map_cons, List.cons.injEq] at h
    have ih := find66 k ks es (i + 1) w h.2
    have he := eq66 k.1 k.2 a.1 a.2 w
    simp only [Instr.findAsking, Sem.run_bind, h.1, he, Result.andThen_ok, fnd]
    by_cases h1 : a = k
    · subst h1; simp
    · have : (k.1 == a.1 && k.2 == a.2) = false := by
        rw [Bool.eq_false_iff]
        intro hh
        simp at hh
        exact h1 (Prod.ext hh.1.symm hh.2.symm)
      rw [this]
      simp [h1, ih]
theorem k66 : KeyOk Try.prog 66 ek where
  check e k w := check66 e k.1 k.2 w
  find k ks es w h := by
    cases es with
    | nil =>
      cases ks with
      | nil => simp [Instr.findKey, run_underlying u66, Instr.findNow, fnd]
      | cons a ks => simp at h
    | cons e es =>
      cases ks with
      | nil => simp at h
      | cons a ks =>
        have := find66 k (a :: ks) (e :: es) 0 w h
        simp only [List.map_cons, List.cons.injEq] at h
        simp only [Instr.findKey, Sem.run_bind, run_underlying u66, Result.andThen_ok, Instr.findNow, h.1, Instr.sameNow]
        exact this
  same k := by simp [Instr.sameBits, ek]
end Go.Proofs.Ythnienoefnfnpaa
