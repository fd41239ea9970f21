/- The walk of LaneFull: it returns true. Conditions: the theorem's own. -/
import Derived.Test.YthnienoefnfnpaaWh
namespace Go.Proofs.Ythnienoefnfnpaa
open Go.RowKit Go.Sig

/-- A lane of two nodes, all its packets short. -/
structure Two (L : LaneM) : Prop where
  n : L.n = 2
  pks : ∀ p ∈ L.way, nodeB 2 p.src = true ∧ nodeB 2 p.dst = true ∧ p.bs.length ≤ 64

theorem count_at {w : World} {b : Nat} {F : List Nat} {L : LaneM} (h : LaneAt w b F L) :
   Calls Try.prog 11 #[.pointer (some ⟨b, 0, none⟩)] w fun e w' => e = .returned (.int .i64 L.way.length) ∧ w = w' := by
  obtain ⟨m, v, ps, h, hw, rfl⟩ := h
  refine (count_t h).mono ?_
  rintro e w' ⟨rfl, rfl⟩
  exact ⟨by rw [hw]; simp, rfl⟩
theorem Two.sendE {L : LaneM} (h : Two L) {s d : Int} {n : Nat} (h1 : nodeB 2 s = true) (h2 : nodeB 2 d = true) (hn : n ≤ 64) : sendE L s d n = if 4096 ≤ L.way.length then 8 else 0 := by
  unfold Go.Proofs.Ythnienoefnfnpaa.sendE
  rw [h.n, if_pos ⟨h1, h2⟩, if_neg (by omega)]
theorem Two.send {L : LaneM} (h : Two L) {s d : Int} {l : List UInt8} (h1 : nodeB 2 s = true) (h2 : nodeB 2 d = true) (hn : l.length ≤ 64) : Two (L.send s d l) ∧ (L.send s d l).way.length = if 4096 ≤ L.way.length then L.way.length else L.way.length + 1 := by
  unfold LaneM.send
  rw [h.sendE h1 h2 hn]
  by_cases h4 : 4096 ≤ L.way.length
  · rw [if_pos h4, if_pos h4, if_neg (by decide)]
    exact ⟨h, rfl⟩
  · rw [if_neg h4, if_neg h4, if_pos rfl]
    refine ⟨⟨h.n, fun p hp => ?_⟩, by simp⟩
    rcases List.mem_append.1 hp with hp | hp
    · exact h.pks p hp
    · simp only [List.mem_singleton] at hp
      subst hp
      exact ⟨h1, h2, hn⟩
theorem Two.at {L : LaneM} (h : Two L) {k : Nat} (hk : k < L.way.length) : nodeB 2 (L.way.getD k default).src = true ∧ nodeB 2 (L.way.getD k default).dst = true ∧ (L.way.getD k default).bs.length ≤ 64 := by
  have : L.way.getD k default = L.way[k] := by simp [List.getD, hk]
  rw [this]
  exact h.pks _ (List.getElem_mem hk)
theorem hasE_in {n : Nat} {k : Nat} (h : k < n) : hasE n (k : Int) = 0 := by unfold hasE; rw [if_neg (by omega)]
theorem Two.twice {L : LaneM} (h : Two L) {k : Nat} (hk : k < L.way.length) : twiceE L k = (if 4096 ≤ L.way.length then 8 else 0) ∧ Two (L.twice k) ∧ (L.twice k).way.length = if 4096 ≤ L.way.length then L.way.length else L.way.length + 1 := by
  obtain ⟨h1, h2, h3⟩ := h.at hk
  unfold twiceE LaneM.twice
  rw [if_pos (hasE_in hk), if_pos (hasE_in hk), Int.toNat_natCast]
  exact ⟨h.sendE h1 h2 h3, (h.send h1 h2 h3).1, (h.send h1 h2 h3).2⟩
theorem Two.drop {L : LaneM} (h : Two L) {k : Nat} (hk : k < L.way.length) : Two (L.drop k) ∧ (L.drop k).way.length = L.way.length - 1 := by
  unfold LaneM.drop
  rw [if_pos (hasE_in hk), Int.toNat_natCast]
  exact ⟨⟨h.n, fun p hp => h.pks p ((List.eraseIdx_sublist _ _).subset hp)⟩, List.length_eraseIdx_of_lt hk⟩

theorem Went.base {a b : World} {F F' : List Nat} (h : Went a b F F') {B : Nat} (hF : ∀ g ∈ F, B ≤ g) (hB : B ≤ a.heap.size) : ∀ g ∈ F', B ≤ g := fun g hg => (h.sub g hg).elim (hF g) (fun hh => Nat.le_trans hB hh)

set_option maxRecDepth 100000 in
theorem full_walk (A : Option Addr) (n c : Nat) (l : List UInt8) (k : Int) (w : World) (h : Byts w A n l) (hA : A = none → n = 0) (hnc : n ≤ c) (hk : I64 k) :
   Calls Try.prog 3 #[.slice A n c, .int .i64 k] w fun e w' => e = .returned (.bool true) ∧ Fr [] w w' := by
  have hl := h.length
  go_enter Try.func3, Try.ntmps3
  go_wp2_with fail
  refine (new_good 2 _ (by decide)).mono ?_
  rintro e w1 ⟨b, F, rfl, h1, f1, n1, hb1⟩
  have r1 : Byts w1 A n l := Rd.fr h f1 (by simp [Off])
  go_upto_if 15 with (fail)
  go_cut [0] from 13 to 17 (fun s0 wx => ∃ (n' : Nat) (l' : List UInt8), s0 = .slice A n' c ∧ Byts wx A n' l' ∧ (A = none → n' = 0) ∧ n' ≤ 64 ∧ n' ≤ n ∧ wx = w1)
  case first =>
    by_cases h64 : 64 < n
    · have h64' : (64 : Int) < n := by omega
      have hc0 : ¬ c = 0 := by omega
      have hc1 : 64 ≤ c := by omega
      go_wp2
      go_meet
      refine ⟨64, l.take 64, rfl, ?_, fun ha => by have := hA ha; omega, by omega, by omega, rfl⟩
      refine ⟨by simp; omega, fun _ => ?_⟩
      obtain ⟨b', o, hA', hcl⟩ := r1.2 (by omega)
      refine ⟨b', o, hA', fun j u hu => hcl j u ?_⟩
      rw [List.getElem?_map] at hu ⊢
      obtain ⟨x, hx, rfl⟩ := Option.map_eq_some_iff.1 hu
      have hj : j < 64 := by
        have := (List.getElem?_eq_some_iff.1 hx).1
        simp at this
        omega
      rw [List.getElem?_take_of_lt hj] at hx
      rw [hx]
      rfl
    · have h64' : (n : Int) ≤ 64 := by omega
      go_wp2
      go_meet
      exact ⟨n, l, rfl, r1, hA, by omega, by omega, rfl⟩
  case rest =>
    obtain ⟨n', l', rfl, r2, hA', hn', hnn, rfl⟩ := hcut
    have hl' := r2.length
    have hofs : ∀ F, (∀ g ∈ F, w.heap.size ≤ g) → 0 < n' → Off F A := fun F n1 hp ad had hh => by
      have h3 := Rd.lt h (by omega) (by omega) ad had
      have h4 := n1 _ hh
      omega
    have hoff := hofs F n1
    clear r1
    go_wp2_with fail
    go_loopg [7] (4097) (fun k s7 wr => ∃ (i : Nat) (L : LaneM) (F' : List Nat), s7 = .int .i64 i ∧ i ≤ 4096 ∧ 4096 - i < k ∧ Two L ∧ L.way.length = i ∧ LaneAt wr b F' L ∧ Went wc wr F F')
    case atStart => exact ⟨0, ⟨2, [], []⟩, F, rfl, by omega, by omega, ⟨rfl, by simp⟩, rfl, h1, Went.refl _ _⟩
    case round =>
      obtain ⟨i, L, F', rfl, hi, hk', hT, hLi, hL, hG⟩ := hrel
      have r3 : Byts wr A n' l' := Rd.fr r2 hG.fr hoff
      by_cases hil : i < 4096
      · have hil' : (i : Int) < 4096 := by omega
        go_wp2_with fail
        have hp1 : nodeB 2 ((i : Int) % 2) = true := by unfold nodeB; simp; omega
        refine (send_t ((i : Int) % 2) 1 A n' c l' hL ⟨by omega, by omega⟩ (by constructor <;> decide) r3 hA').mono ?_
        rintro e w2 ⟨F2, rfl, h2, g2, hb2⟩
        rw [hT.sendE hp1 (by decide) (by omega), if_neg (by omega)]
        obtain ⟨t1, t2⟩ := hT.send (l := l') hp1 (by decide : nodeB 2 1 = true) (by omega)
        rw [if_neg (by omega)] at t2
        go_wp2
        go_roundg (4096 - i)
        case measure => omega
        case rel => exact ⟨i + 1, _, F2, by go_num, by omega, by omega, t1, by omega, h2, hG.trans g2⟩
      · obtain rfl : i = 4096 := by omega
        obtain ⟨j, hj, hj'⟩ : ∃ j : Nat, wrap64 ((IntKind.u64.wrap k).tmod 4096) = (j : Int) ∧ j < 4096 := by
          refine ⟨((IntKind.u64.wrap k) % 4096).toNat, ?_, ?_⟩
          · have h0 : 0 ≤ IntKind.u64.wrap k := by rw [IntKind.wrap_u64]; omega
            rw [Int.tmod_eq_emod_of_nonneg h0]
            unfold wrap64
            omega
          · omega
        have fz : Fr [] w wr := f1.andThen hG.fr (fun g hg => .inr (n1 g hg))
        have hsub : ∀ g ∈ F', w.heap.size ≤ g := fun g hg => (hG.sub g hg).elim (n1 g) (fun hh => Nat.le_trans f1.size hh)
        clear r2 hG f1 h1
        go_wp2_with fail
        rw [hj]
        refine (known_t _).mono ?_
        rintro e w2 ⟨rfl, f2⟩
        have r4 := Rd.fr r3 f2 (by simp [Off])
        have hL2 := hL.nilfr f2
        go_wp2_with fail
        refine (send_t 0 1 A n' c l' hL2 (by constructor <;> decide) (by constructor <;> decide) r4 hA').mono ?_
        rintro e w3 ⟨F3, rfl, h3, g3, hb3⟩
        rw [hT.sendE (by decide) (by decide) (by omega), if_pos (by omega)]
        obtain ⟨t3, u3⟩ := hT.send (s := 0) (d := 1) (l := l') (by decide) (by decide) (by omega)
        rw [if_pos (by omega), hLi] at u3
        have f3 := (fz.trans f2).andThen g3.fr (fun g hg => .inr (hsub g hg))
        have s3 := g3.base hsub (fz.trans f2).size
        have r5 := Rd.fr r4 g3.fr (hofs F' hsub)
        generalize L.send 0 1 l' = L3 at *
        clear hT hLi hL hL2 f2 g3 r3 r4 fz hsub
        go_wp2_with fail
        refine (twice_t (j : Int) h3 ⟨by omega, by omega⟩).mono ?_
        rintro e w4 ⟨F4, rfl, h4, g4, hb4⟩
        obtain ⟨e4, t4, u4⟩ := t3.twice (k := j) (by omega)
        rw [if_pos (by omega)] at e4 u4
        rw [e4]
        have f4 := f3.andThen g4.fr (fun g hg => .inr (s3 g hg))
        have s4 := g4.base s3 f3.size
        have r6 := Rd.fr r5 g4.fr (hofs F3 s3)
        generalize L3.twice j = L4 at *
        clear h3 g4 f3 r5
        go_wp2_with fail
        refine (count_at h4).mono ?_
        rintro e w5 ⟨rfl, rfl⟩
        rw [u4, u3]
        go_wp2_with fail
        refine (drop_t (j : Int) h4 ⟨by omega, by omega⟩).mono ?_
        rintro e w5 ⟨F5, rfl, h5, g5, hb5⟩
        rw [hasE_in (by omega)]
        obtain ⟨t5, u5⟩ := t4.drop (k := j) (by omega)
        have f5 := f4.andThen g5.fr (fun g hg => .inr (s4 g hg))
        have s5 := g5.base s4 f4.size
        have r7 := Rd.fr r6 g5.fr (hofs F4 s4)
        generalize L4.drop j = L5 at *
        clear h4 g5 f4 r6 s3 e4
        go_wp2_with fail
        refine (twice_t 0 h5 (by constructor <;> decide)).mono ?_
        rintro e w6 ⟨F6, rfl, h6, g6, hb6⟩
        obtain ⟨e6, t6, u6⟩ := t5.twice (k := 0) (by omega)
        rw [if_neg (by omega)] at e6 u6
        rw [show ((0 : Nat) : Int) = 0 from rfl] at e6 t6 u6
        rw [e6]
        have f6 := f5.andThen g6.fr (fun g hg => .inr (s5 g hg))
        have s6 := g6.base s5 f5.size
        have r8 := Rd.fr r7 g6.fr (hofs F5 s5)
        generalize L5.twice 0 = L6 at *
        clear h5 g6 f5 r7 s4 e6
        go_wp2_with fail
        refine (send_t 0 1 A n' c l' h6 (by constructor <;> decide) (by constructor <;> decide) r8 hA').mono ?_
        rintro e w7 ⟨F7, rfl, h7, g7, hb7⟩
        rw [t6.sendE (by decide) (by decide) (by omega), if_pos (by omega)]
        obtain ⟨t7, u7⟩ := t6.send (s := 0) (d := 1) (l := l') (by decide) (by decide) (by omega)
        rw [if_pos (by omega)] at u7
        have f7 := f6.andThen g7.fr (fun g hg => .inr (s6 g hg))
        have hlen : (L6.send 0 1 l').way.length = 4096 := by omega
        generalize L6.send 0 1 l' = L7 at *
        clear h6 g7 f6 r8 s5
        go_wp2_with fail
        refine (count_at h7).mono ?_
        rintro e w8 ⟨rfl, rfl⟩
        rw [hlen]
        go_wp2
        go_ret
        exact ⟨rfl, f7⟩
end Go.Proofs.Ythnienoefnfnpaa
