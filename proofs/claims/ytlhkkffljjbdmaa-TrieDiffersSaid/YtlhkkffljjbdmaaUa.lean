/- Walks of the reference's table: Get, Fits, Del, Put. Conditions: each theorem's own. -/
import Derived.Test.YtlhkkffljjbdmaaTr
import Derived.Test.YtlhkkffljjbdmaaTp
namespace Go.Proofs.Ytlhkkffljjbdmaa
open Go.RowKit Go.Sig

theorem rd_pr (y : Pr) {w : World} {g : Nat} {t : TypeId} (h : Blk w g t #[.string y.1, .string y.2]) : Rd w 2 (some ⟨g, 0, none⟩) 1 (pairCells [y]) := by
  refine ⟨rfl, fun _ => ⟨g, 0, rfl, fun j u hu => ?_⟩⟩
  rw [h.cell, Nat.zero_add]
  simpa [pairCells] using hu
/-- A list under way, in a row of its own. -/
def AccIn (w wr : World) (s : Value) (out : List Pr) : Prop :=
  ∃ A c, s = .slice A out.length c ∧ Own wr 66 2 (.slice A out.length c) out.length (pairCells out) ∧ (∀ g, g ∈ rowOf (.slice A out.length c) → w.heap.size ≤ g) ∧ Fr [] w wr
theorem AccIn.nil {w wr : World} (hF : Fr [] w wr) : AccIn w wr (.slice none 0 0) [] := ⟨none, 0, rfl, Own.nil _ _ _, by simp [rowOf, Value.ownBlock], hF⟩
theorem AccIn.push {w wr w2 : World} {o : Obj} {A A2 : Option Addr} {c c2 : Nat} {out : List Pr} {y : Pr} (hR : ∀ g, g ∈ rowOf (.slice A out.length c) → w.heap.size ≤ g) (hF : Fr [] w wr)
    (p1 : Own w2 66 2 (.slice A2 (out.length + 1) c2) (out.length + 1) (pairCells out ++ pairCells [y])) (p2 : Fr (rowOf (.slice A out.length c)) (wr.alloc o) w2)
    (p3 : ∀ g, g ∈ rowOf (.slice A2 (out.length + 1) c2) → g ∈ rowOf (.slice A out.length c) ∨ g = (wr.alloc o).heap.size) : AccIn w w2 (.slice A2 (out.length + 1) c2) (out ++ [y]) := by
  have hl : (out ++ [y]).length = out.length + 1 := by simp
  refine ⟨A2, c2, by rw [hl], ?_, ?_, (hF.alloc _).andThen p2 (fun x hx => .inr (hR x hx))⟩
  · rw [hl, pairCells_append]
    exact p1
  · rw [hl]
    exact fun g hg => (p3 g hg).elim (hR g) (fun e => by rw [e]; exact Nat.le_trans hF.size (by simp))
/-- What is asked of a list that a callee makes: its own, or new. -/
def ListPost (w : World) (v : Value) (l : List Pr) (er : Value) (e : Ending) (w' : World) : Prop :=
  ∃ v', e = .returned (.tuple #[v', er]) ∧ Own w' 66 2 v' l.length (pairCells l) ∧ Fr [] w w' ∧ ∀ g, g ∈ rowOf v' → g ∈ rowOf v ∨ w.heap.size ≤ g

set_option maxHeartbeats 1000000 in
theorem rget_t (w : World) (A : Option Addr) (n c : Nat) (l : List Pr) (hR : Rd w 2 A n (pairCells l)) (hn : l.length = n) (hmax : n ≤ 1048576) (s : ByteArray) :
   Calls Try.prog 41 #[.slice A n c, .string s] w fun e w' => e = .returned (.tuple #[.string ((aget s l).getD ⟨#[]⟩), .bool (aget s l).isSome]) ∧ w = w' := by
  go_enter Try.func41, Try.ntmps41
  go_wp2_with fail
  go_loopg [6] (n + 1) (fun gk s6 wr => ∃ (i : Nat), s6 = .int .i64 i ∧ i ≤ n ∧ n - i < gk ∧ aget s (l.drop i) = aget s l ∧ w = wr)
  case atStart => exact ⟨0, rfl, by omega, by omega, by simp, rfl⟩
  case round =>
    obtain ⟨i, rfl, hi, hk, hag2, rfl⟩ := hrel
    have hag2h := Lib.hid hag2
    clear hag2
    by_cases hlt : i < n
    · have hlt' : (i : Int) < n := by omega
      have hlth := Lib.hid hlt
      have hi' : i < l.length := by omega
      obtain ⟨b, o, rfl, hcell⟩ := hR.2 (by omega)
      have hp := pairCells_at hi'
      have cn := hcell _ _ hp.1
      have cv := hcell _ _ hp.2
      rw [← Nat.add_assoc] at cv
      have hdr := Lib.hid (List.drop_eq_getElem_cons hi')
      have hRh := Lib.hid hR
      clear hp hcell hR
      obtain ⟨⟨y1, y2⟩, hy⟩ : ∃ z, Hid (l[i] = z) := ⟨_, Lib.hid rfl⟩
      rw [hy.out] at cn cv hdr
      simp only at cn cv
      have htb := toList_beq y1 s
      by_cases hyk : y1 = s
      · have hyh := Lib.hid hyk
        rw [show decide (y1 = s) = true by simpa using hyk] at htb
        clear hyk
        go_wp2
        go_ret2
        have e : aget s l = some y2 := by
          rw [← hag2h.out, hdr.out]
          simp [aget, hyh.out]
        rw [e]
        exact ⟨rfl, rfl⟩
      · have hyh := Lib.hid hyk
        rw [show decide (y1 = s) = false by simpa using hyk] at htb
        clear hyk
        go_wp2
        go_roundg (n - i)
        case measure => omega
        case rel =>
          refine ⟨i + 1, by go_num, by have := hlth.out; omega, by have := hlth.out; omega, ?_, rfl⟩
          rw [← hag2h.out, hdr.out]
          simp [aget, hyh.out]
    · have hin : i = n := by omega
      have hge : ¬ (i : Int) < n := by omega
      have e : aget s l = none := by
        rw [← hag2h.out, List.drop_of_length_le (by omega)]
        rfl
      clear hlt hk
      go_wp2
      go_ret2
      exact ⟨rfl, rfl⟩

theorem rfits_t (k v : ByteArray) (w : World) (hk : k.size ≤ 9223372036854775807) (hv : v.size ≤ 9223372036854775807) : Calls Try.prog 49 #[.string k, .string v] w fun e w' => e = .returned (.int .i64 (fitsE k v)) ∧ w = w' := by
  by_cases h1 : k.size < 1
  · have h1i : (k.size : Int) < 1 := by omega
    have e : fitsE k v = 1 := by unfold fitsE; rw [if_pos (.inl h1)]
    rw [e]
    go_enter Try.func49, Try.ntmps49
    go_wp2
    go_ret
    exact ⟨rfl, rfl⟩
  · have h1i : ¬ (k.size : Int) < 1 := by omega
    by_cases h2 : 64 < k.size
    · have h2i : (64 : Int) < k.size := by omega
      have e : fitsE k v = 1 := by unfold fitsE; rw [if_pos (.inr h2)]
      rw [e]
      go_enter Try.func49, Try.ntmps49
      go_wp2
      go_ret
      exact ⟨rfl, rfl⟩
    · have h2i : ¬ (64 : Int) < k.size := by omega
      by_cases h3 : 60000 < v.size
      · have h3i : (60000 : Int) < v.size := by omega
        have e : fitsE k v = 2 := by unfold fitsE; rw [if_neg (by omega), if_pos h3]
        rw [e]
        go_enter Try.func49, Try.ntmps49
        go_wp2
        go_ret
        exact ⟨rfl, rfl⟩
      · have h3i : ¬ (60000 : Int) < v.size := by omega
        have e : fitsE k v = 0 := by unfold fitsE; rw [if_neg (by omega), if_neg h3]
        rw [e]
        go_enter Try.func49, Try.ntmps49
        go_wp2
        go_ret
        exact ⟨rfl, rfl⟩

set_option maxHeartbeats 2000000 in
theorem rdel_t (w : World) (v : Value) (l : List Pr) (hO : Own w 66 2 v l.length (pairCells l)) (hmax : l.length ≤ 1048576) (k : ByteArray) :
   Calls Try.prog 40 #[v, .string k] w (ListPost w v (del k l) (.int .i64 (errRes (aget k l)))) := by
  obtain ⟨A, c, rfl, hA⟩ := hO.form
  obtain ⟨n, hn⟩ : ∃ n, l.length = n := ⟨_, rfl⟩
  rw [hn] at hO hmax ⊢
  have hR := hO.rd
  have hget := rget_t w A n c l hR hn hmax k
  cases hag : aget k l with
  | none =>
    rw [hag] at hget
    have hOh := Lib.hid hO
    rw [show (Option.getD (none : Option ByteArray) ⟨#[]⟩) = ⟨#[]⟩ from rfl, show (none : Option ByteArray).isSome = false from rfl] at hget
    rw [del_absent hag]
    clear hO hR hag
    go_enter Try.func40, Try.ntmps40
    go_wp2_with fail
    refine hget.mono ?_
    rintro e w2 ⟨rfl, rfl⟩
    go_wp2
    go_ret2
    exact ⟨_, rfl, by rw [hn]; exact hOh.out, Fr.refl _ _, fun g hg => .inl hg⟩
  | some a =>
    rw [hag] at hget
    rw [show (Option.getD (some a) ⟨#[]⟩) = a from rfl, show (some a).isSome = true from rfl] at hget
    have hOh := Lib.hid hO
    clear hO hag
    go_enter Try.func40, Try.ntmps40
    go_wp2_with fail
    refine hget.mono ?_
    rintro e w2 ⟨rfl, rfl⟩
    go_wp2_with fail
    go_loopg [8, 9] (n + 1) (fun gk s8 s9 wr => ∃ (i : Nat), s9 = .int .i64 i ∧ i ≤ n ∧ n - i < gk ∧ AccIn w wr s8 (del k (l.take i)))
    case atStart => exact ⟨0, rfl, by omega, by omega, AccIn.nil (Fr.refl _ _)⟩
    case round =>
      obtain ⟨i, rfl, hi, hk, A2, c2, rfl, O2, R2, F2⟩ := hrel
      have hle := del_take_le (k := k) (l := l) (j := i)
      by_cases hlt : i < n
      · have hlt' : (i : Int) < n := by omega
        have hlth := Lib.hid hlt
        have hi' : i < l.length := by omega
        have hRr := Rd.fr hR F2 (by simp [Off])
        obtain ⟨b, o, rfl, hcell⟩ := hRr.2 (by omega)
        have hp := pairCells_at hi'
        have cn := hcell _ _ hp.1
        have cv := hcell _ _ hp.2
        rw [← Nat.add_assoc] at cv
        have hdt := Lib.hid (del_take (k := k) hi')
        have hRh := Lib.hid hR
        clear hp hcell hR hRr
        obtain ⟨⟨y1, y2⟩, hy⟩ : ∃ z, Hid (l[i] = z) := ⟨_, Lib.hid rfl⟩
        rw [hy.out] at cn cv hdt
        simp only at cn cv hdt
        obtain ⟨out, ho⟩ : ∃ z, Hid (del k (l.take i) = z) := ⟨_, Lib.hid rfl⟩
        rw [ho.out] at O2 R2 hle hdt ⊢
        have htb := toList_beq y1 k
        by_cases hyk : y1 = k
        · have hyh := Lib.hid hyk
          rw [show decide (y1 = k) = true by simpa using hyk] at htb
          have htb2 : (y1.toList != k.toList) = false := by simp [bne, htb]
          clear hyk
          go_wp2
          go_roundg (n - i)
          case measure => omega
          case rel =>
            refine ⟨i + 1, by go_num, by have := hlth.out; omega, by have := hlth.out; omega, ?_⟩
            rw [hdt.out, if_pos hyh.out, List.append_nil]
            exact ⟨A2, c2, rfl, O2, R2, F2⟩
        · have hyh := Lib.hid hyk
          rw [show decide (y1 = k) = false by simpa using hyk] at htb
          have htb2 : (y1.toList != k.toList) = true := by simp [bne, htb]
          clear hyk
          go_wp2_with (refine wpList_own_append tPairs (O2.fr ((Fr.refl [] _).alloc _) (by simp)) (rd_pr (y1, y2) (Blk.new _ _ _)) (pairCells_one _) (by simp) (by unfold maxLen; omega) (by omega) rfl rfl rfl rfl (fun v2 w2 p1 p2 p3 => ?_); obtain ⟨A3, c3, rfl, hA3⟩ := p1.form)
          go_roundg (n - i)
          case measure => omega
          case rel =>
            refine ⟨i + 1, by go_num, by have := hlth.out; omega, by have := hlth.out; omega, ?_⟩
            rw [hdt.out, if_neg hyh.out]
            exact AccIn.push R2 F2 p1 p2 p3
      · have hin : i = n := by omega
        have hge : ¬ (i : Int) < n := by omega
        have e : l.take i = l := List.take_of_length_le (by omega)
        rw [e] at O2 R2 hle ⊢
        clear hlt hk
        go_wp2
        go_ret2
        exact ⟨_, rfl, O2, F2, fun g hg => .inr (R2 g hg)⟩
end Go.Proofs.Ytlhkkffljjbdmaa
