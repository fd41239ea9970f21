/- Walks of the law: a trie and the document's pairs, behind calls. Conditions: each theorem's own. -/
import Derived.Test.YtlhkkffljjbdmaaUj
import Derived.Test.YtlhkkffljjbdmaaUb
namespace Go.Proofs.Ytlhkkffljjbdmaa
open Go.RowKit Go.Sig

/-- A call: its kind, a name, a value. -/
abbrev St := Int × ByteArray × ByteArray
def stepCells (ss : List St) : List Value := ss.flatMap fun s => [.int .i64 s.1, .string s.2.1, .string s.2.2]
theorem stepCells_at : ∀ {ss : List St} {i : Nat} (h : i < ss.length), (stepCells ss)[i * 3]? = some (.int .i64 ss[i].1) ∧ (stepCells ss)[i * 3 + 1]? = some (.string ss[i].2.1) ∧ (stepCells ss)[i * 3 + 2]? = some (.string ss[i].2.2)
  | s :: ss, 0, h => ⟨rfl, rfl, rfl⟩
  | s :: ss, i + 1, h => by
    have := stepCells_at (ss := ss) (i := i) (by simpa using h)
    rw [show (i + 1) * 3 = i * 3 + 3 by omega]
    exact this
def stepM (s : St) (l : List Pr) : List Pr := if s.1 = 0 then putM s.2.1 s.2.2 l else if s.1 = 1 then del s.2.1 l else l
def playM (ss : List St) : List Pr := ss.foldl (fun l s => stepM s l) []
theorem stepM_good {s : St} {l : List Pr} (h : Good l) : Good (stepM s l) := by
  unfold stepM
  split
  · exact putM_good h
  · split
    · exact del_good h
    · exact h
theorem good_nil : Good [] := ⟨List.Pairwise.nil, fun y hy => by simp at hy, by simp⟩
theorem playM_good (ss : List St) : Good (playM ss) := by
  have key : ∀ (ss : List St) (l : List Pr), Good l → Good (ss.foldl (fun l s => stepM s l) l) := by
    intro ss
    induction ss with
    | nil => exact fun l h => h
    | cons s ss ih => exact fun l h => ih _ (stepM_good h)
  exact key ss [] good_nil
theorem playM_snoc {ss : List St} {i : Nat} (h : i < ss.length) : playM (ss.take (i + 1)) = stepM ss[i] (playM (ss.take i)) := by
  unfold playM
  rw [List.take_succ_eq_append_getElem h, List.foldl_append]
  rfl
/-- A trie and the document's pairs in memory. -/
def PlIn (w wr : World) (X : List Nat) (t : Nat) (s : Value) (l : List Pr) : Prop :=
  TrieIn wr (t :: X) t l ∧ ∃ A c, s = .slice A l.length c ∧ Own wr 66 2 (.slice A l.length c) l.length (pairCells l) ∧ (∀ g, g ∈ rowOf (.slice A l.length c) → w.heap.size ≤ g ∧ g ≠ t) ∧ Fr [] w wr ∧ w.heap.size ≤ t
theorem PlIn.fr0 {w wr w2 : World} {X : List Nat} {t : Nat} {s : Value} {l : List Pr} (h : PlIn w wr X t s l) (hF : Fr [] wr w2) : PlIn w w2 X t s l := by
  obtain ⟨hT, A, c, rfl, h1, h2, h3, h4⟩ := h
  exact ⟨hT.fr0 hF, A, c, rfl, h1.fr hF (by simp), h2, h3.trans hF, h4⟩
theorem PlIn.step {w wr w2 w3 : World} {X : List Nat} {t : Nat} {s v : Value} {l m : List Pr} (h : PlIn w wr X t s l) (hT : TrieIn w2 (t :: X) t m) (hF : Fr [t] wr w2)
    (hO : Own w3 66 2 v m.length (pairCells m)) (hF3 : Fr [] w2 w3) (hr : ∀ g, g ∈ rowOf v → g ∈ rowOf s ∨ w2.heap.size ≤ g) : PlIn w w3 X t v m := by
  obtain ⟨_, A, c, rfl, h1, h2, h3, h4⟩ := h
  obtain ⟨A3, c3, rfl, hA3⟩ := hO.form
  have htl : t < w2.heap.size := by obtain ⟨p, hB, _⟩ := hT; exact hB.lt
  have hw2 := h3.size
  have hw3 := hF.size
  exact ⟨hT.fr0 hF3, A3, c3, rfl, hO, fun g hg => (hr g hg).elim (h2 g) (fun hh => ⟨by omega, by omega⟩), h3.andThen (hF.trans hF3.nil) (fun x hx => .inr (by simp at hx; omega)), h4⟩
theorem PlIn.mid {w wr w2 : World} {X : List Nat} {t : Nat} {s : Value} {l : List Pr} (h : PlIn w wr X t s l) (hF : Fr [t] wr w2) : Own w2 66 2 s l.length (pairCells l) := by
  obtain ⟨_, A, c, rfl, h1, h2, h3, h4⟩ := h
  exact h1.fr hF (fun g hg hx => (h2 g hg).2 (by simpa using hx))
theorem PlIn.rd {w wr : World} {X : List Nat} {t n c : Nat} {A : Option Addr} {l : List Pr} (h : PlIn w wr X t (.slice A n c) l) : Rd wr 2 A n (pairCells l) ∧ l.length = n := by
  obtain ⟨_, A1, c1, hs, h1, h2, h3, h4⟩ := h
  injection hs with e1 e2 e3
  subst e1 e2 e3
  exact ⟨h1.rd, rfl⟩
def PlayPost (w : World) (X : List Nat) (l : List Pr) (e : Ending) (w' : World) : Prop :=
  ∃ t A n c, e = .returned (.tuple #[.pointer (some ⟨t, 0, none⟩), .slice A n c, .bool true]) ∧ PlIn w w' X t (.slice A n c) l
theorem sub_cell {w wr : World} {a : Addr} {v : Value} (hF : Fr [] w wr) (h : w.cell? a = some v) : wr.cell? a = some v := (hF.cell (block_lt_of_cell h) (by simp)).trans h

set_option maxRecDepth 100000 in
set_option maxHeartbeats 4000000 in
theorem play_t (w : World) (X : List Nat) (hX : ∀ g ∈ X, g < w.heap.size) (A : Option Addr) (n c : Nat) (ss : List St) (hR : Rd w 3 A n (stepCells ss)) (hn : ss.length = n) (hmax : n ≤ 150000000000000)
   (hs : ∀ s ∈ ss, s.2.1.size ≤ 150000000000000 ∧ s.2.2.size ≤ 150000000000000) :
   Calls Try.prog 16 #[.slice A n c] w (PlayPost w X (playM (ss.take 40))) := by
  have hsh := Lib.hid hs
  clear hs
  go_enter Try.func16, Try.ntmps16
  go_wp2_with fail
  refine (new_t w X hX none 0 0 [] (Rd.nil _ _ _) rfl (by omega) (by simp)).mono ?_
  rintro e W ⟨fW, hcase⟩
  rcases hcase with ⟨_, t, rfl, hwt, hT, hG⟩ | ⟨h, _⟩
  case inr => exact absurd rfl h
  have hP0 : PlIn w W X t (.slice none 0 0) (playM (ss.take 0)) := ⟨hT, none, 0, rfl, Own.nil _ _ _, by simp [rowOf, Value.ownBlock], fW, hwt⟩
  have hRh := Lib.hid hR
  clear hT hG fW hX hR
  go_wp2_with fail
  go_loopg [7, 8, 9, 10, 11, 12, 13, 14, 15] 42 (fun gk s7 s8 s9 s10 s11 s12 s13 s14 s15 wr => ∃ (i : Nat), s8 = .int .i64 i ∧ i ≤ n ∧ i ≤ 40 ∧ 41 - i < gk ∧ PlIn w wr X t s7 (playM (ss.take i)))
  case atStart => exact ⟨0, rfl, by omega, by omega, by omega, hP0⟩
  case round =>
    clear hP0
    obtain ⟨i, rfl, hi, hi40, hk, hP⟩ := hrel
    have hPh := Lib.hid hP
    have hGh := Lib.hid (playM_good (ss.take i))
    obtain ⟨A7, n7, c7, hs7⟩ : ∃ A n c, u7 = Value.slice A n c := by
      obtain ⟨_, A, c, h, _⟩ := hP
      exact ⟨A, _, c, h⟩
    subst hs7
    by_cases hlt : i < n
    · have hlt' : (i : Int) < n := by omega
      have hlth := Lib.hid hlt
      by_cases h40 : i < 40
      · have h40' : (i : Int) < 40 := by omega
        have h40h := Lib.hid h40
        have hi' : i < ss.length := by omega
        have hFw : Fr [] w wr := by obtain ⟨_, A, c, _, h1, h2, h3, h4⟩ := hP; exact h3
        have hRr := Rd.fr hRh.out hFw (by simp [Off])
        obtain ⟨b, o, rfl, hcell⟩ := hRr.2 (by omega)
        have hp := stepCells_at hi'
        have ck := hcell _ _ hp.1
        have cn := hcell _ _ hp.2.1
        have cv := hcell _ _ hp.2.2
        rw [← Nat.add_assoc] at cn cv
        have hsz := hsh.out ss[i] (List.getElem_mem hi')
        have hsn := Lib.hid (playM_snoc hi')
        have hlen := hGh.out.few
        have hn7 := hP.rd.2
        have hris := Lib.hid hGh.out.rising
        clear hcell hp hRr hP hFw
        obtain ⟨⟨k, s1, s2⟩, hst⟩ : ∃ z, Hid (ss[i] = z) := ⟨_, Lib.hid rfl⟩
        rw [hst.out] at ck cn cv hsz hsn
        obtain ⟨l, hl⟩ : ∃ z, Hid (playM (ss.take i) = z) := ⟨_, Lib.hid rfl⟩
        rw [hl.out] at hsn hPh hGh hlen hn7 hris
        simp only at ck cn cv hsz
        go_upto_region 9 with (fail)
        refine wp_gen (fun W3 => Blk W3 wr.heap.size 75 #[.int .i64 k, .string s1, .string s2] ∧ Fr [] wr W3) ⟨Blk.new _ _ _, (Fr.refl _ _).alloc _⟩ ?_
        rintro W3 ⟨hB3, F3⟩
        obtain ⟨g3, HG3⟩ : ∃ z, Hid (wr.heap.size = z) := ⟨_, Lib.hid rfl⟩
        rw [HG3.out] at hB3 ⊢
        have hP3 := Lib.hid (hPh.out.fr0 F3)
        have hB3h := Lib.hid hB3
        obtain ⟨e0, e1, e2⟩ := hB3.c3
        have hgl := hB3.lt
        have htw : t < wr.heap.size := by obtain ⟨⟨p, hB, _⟩, _⟩ := hPh.out; exact hB.lt
        have htg : g3 ≠ t := by have := HG3.out; omega
        have hg3h := Lib.hid HG3.out
        clear ck cn cv F3 hB3 htw
        by_cases hk0 : k = 0
        · subst hk0
          have hst2 := Lib.hid (show stepM (0, s1, s2) l = putM s1 s2 l from rfl)
          have hput := put_t W3 (t :: X) t l s1 s2 hsz.1 (by omega) hP3.out.1 hGh.out
          obtain ⟨pe, HPE⟩ : ∃ z, Hid (putE s1 s2 l = z) := ⟨_, Lib.hid rfl⟩
          rw [HPE.out] at hput
          go_wp2_with fail
          refine hput.mono ?_
          rintro e W4 ⟨rfl, hT4, F4⟩
          obtain ⟨e0, e1, e2⟩ := (hB3h.out.fr F4 (by simpa using htg)).c3
          have hgl := (hB3h.out.fr F4 (by simpa using htg)).lt
          have hO4 := hP3.out.mid F4
          rw [hn7] at hO4
          have hrput := rput_t W4 (.slice A7 n7 c7) l (by rw [hn7]; exact hO4) (by omega) hris.out s1 s2 (by omega) (by omega)
          rw [HPE.out] at hrput
          have hT4h := Lib.hid hT4
          have F4h := Lib.hid F4
          clear hput hT4 F4 hO4
          go_wp2_with fail
          refine hrput.mono ?_
          rintro e W5 ⟨v5, rfl, O5, F5, R5⟩
          obtain ⟨A5, c5, rfl, hA5⟩ := O5.form
          have hP5 := Lib.hid (hP3.out.step hT4h.out F4h.out O5 F5 R5)
          have hcnt := count_t W5 (t :: X) t _ hP5.out.1
          obtain ⟨m5, HM5⟩ : ∃ z, Hid ((putM s1 s2 l).length = z) := ⟨_, Lib.hid rfl⟩
          rw [HM5.out] at hcnt ⊢
          rw [HM5.out] at hP5
          clear hrput O5 F5 R5 hA5 e0 e1 e2
          go_wp2_with (go_at_call 14; refine hcnt.mono ?_; rintro e w' ⟨rfl, rfl⟩)
          go_roundg (41 - i)
          case measure => omega
          case rel =>
            refine ⟨i + 1, by go_num, by have := hlth.out; omega, by have := h40h.out; omega, by have := h40h.out; omega, ?_⟩
            rw [hsn.out, hst2.out]
            exact hP5.out
        · have hk0' : (k == 0) = false := by simpa using hk0
          have hk0h := Lib.hid hk0
          clear hk0
          by_cases hk1 : k = 1
          · subst hk1
            have hst2 := Lib.hid (show stepM (1, s1, s2) l = del s1 l from rfl)
            have hdel := del_t W3 (t :: X) t l s1 hsz.1 hP3.out.1 hGh.out
            obtain ⟨pe, HPE⟩ : ∃ z, Hid (errRes (aget s1 l) = z) := ⟨_, Lib.hid rfl⟩
            rw [HPE.out] at hdel
            clear hk0'
            go_wp2_with fail
            refine hdel.mono ?_
            rintro e W4 ⟨rfl, hT4, F4⟩
            obtain ⟨e0, e1, e2⟩ := (hB3h.out.fr F4 (by simpa using htg)).c3
            have hgl := (hB3h.out.fr F4 (by simpa using htg)).lt
            have hO4 := hP3.out.mid F4
            rw [hn7] at hO4
            have hrdel := rdel_t W4 (.slice A7 n7 c7) l (by rw [hn7]; exact hO4) (by omega) s1
            rw [HPE.out] at hrdel
            have hT4h := Lib.hid hT4
            have F4h := Lib.hid F4
            clear hdel hT4 F4 hO4
            go_wp2_with fail
            refine hrdel.mono ?_
            rintro e W5 ⟨v5, rfl, O5, F5, R5⟩
            obtain ⟨A5, c5, rfl, hA5⟩ := O5.form
            have hP5 := Lib.hid (hP3.out.step hT4h.out F4h.out O5 F5 R5)
            have hcnt := count_t W5 (t :: X) t _ hP5.out.1
            obtain ⟨m5, HM5⟩ : ∃ z, Hid ((del s1 l).length = z) := ⟨_, Lib.hid rfl⟩
            rw [HM5.out] at hcnt ⊢
            rw [HM5.out] at hP5
            clear hrdel O5 F5 R5 hA5 e0 e1 e2
            go_wp2_with (go_at_call 14; refine hcnt.mono ?_; rintro e w' ⟨rfl, rfl⟩)
            go_roundg (41 - i)
            case measure => omega
            case rel =>
              refine ⟨i + 1, by go_num, by have := hlth.out; omega, by have := h40h.out; omega, by have := h40h.out; omega, ?_⟩
              rw [hsn.out, hst2.out]
              exact hP5.out
          · have hk1' : (k == 1) = false := by simpa using hk1
            have hst2 := Lib.hid (show stepM (k, s1, s2) l = l by unfold stepM; rw [if_neg hk0h.out, if_neg hk1])
            clear hk1
            have hcnt := fun (W : World) (hF : Fr [] W3 W) => count_t W (t :: X) t l (hP3.out.fr0 hF).1
            rw [hn7] at hcnt
            have hcnth := Lib.hid hcnt
            clear hcnt
            by_cases hk2 : k = 2
            · subst hk2
              have hget := get_t W3 (t :: X) t l s1 hsz.1 hP3.out.1 hGh.out.rising hGh.out.small
              have hrget := fun (W : World) (hF : Fr [] W3 W) => rget_t W A7 n7 c7 l ((hP3.out.fr0 hF).rd).1 hn7 (by omega) s1
              have hrgeth := Lib.hid hrget
              unfold getRes at hget
              obtain ⟨ov, HOV⟩ : ∃ z, Hid ((aget s1 l).getD ⟨#[]⟩ = z) := ⟨_, Lib.hid rfl⟩
              obtain ⟨ob, HOB⟩ : ∃ z, Hid ((aget s1 l).isSome = z) := ⟨_, Lib.hid rfl⟩
              rw [HOV.out, HOB.out] at hget
              rw [HOV.out, HOB.out] at hrgeth
              clear hk0' hk1' hrget
              cases ob with
              | true =>
                rw [if_pos rfl] at hget
                go_wp2_with fail
                refine hget.mono ?_
                rintro e W4 ⟨rfl, F4⟩
                obtain ⟨e0, e1, e2⟩ := (hB3h.out.fr F4 (by simp)).c3
                have hgl := (hB3h.out.fr F4 (by simp)).lt
                go_wp2_with fail
                refine (hrgeth.out _ F4).mono ?_
                rintro e W5 ⟨rfl, rfl⟩
                have hcnt := hcnth.out _ F4
                have hP5 := Lib.hid (hP3.out.fr0 F4)
                clear e0 e1 e2 hget F4
                go_wp2_with (go_at_call 14; refine hcnt.mono ?_; rintro e w' ⟨rfl, rfl⟩)
                go_roundg (41 - i)
                case measure => omega
                case rel =>
                  refine ⟨i + 1, by go_num, by have := hlth.out; omega, by have := h40h.out; omega, by have := h40h.out; omega, ?_⟩
                  rw [hsn.out, hst2.out]
                  exact hP5.out
              | false =>
                rw [if_neg (by decide)] at hget
                go_wp2_with fail
                refine hget.mono ?_
                rintro e W4 ⟨rfl, F4⟩
                obtain ⟨e0, e1, e2⟩ := (hB3h.out.fr F4 (by simp)).c3
                have hgl := (hB3h.out.fr F4 (by simp)).lt
                go_wp2_with fail
                refine (hrgeth.out _ F4).mono ?_
                rintro e W5 ⟨rfl, rfl⟩
                have hcnt := hcnth.out _ F4
                have hP5 := Lib.hid (hP3.out.fr0 F4)
                clear e0 e1 e2 hget F4
                go_wp2_with (go_at_call 14; refine hcnt.mono ?_; rintro e w' ⟨rfl, rfl⟩)
                go_roundg (41 - i)
                case measure => omega
                case rel =>
                  refine ⟨i + 1, by go_num, by have := hlth.out; omega, by have := h40h.out; omega, by have := h40h.out; omega, ?_⟩
                  rw [hsn.out, hst2.out]
                  exact hP5.out
            · have hk2' : (k == 2) = false := by simpa using hk2
              have hcnt := hcnth.out _ (Fr.refl _ _)
              clear hk2
              go_wp2_with (go_at_call 14; refine hcnt.mono ?_; rintro e w' ⟨rfl, rfl⟩)
              go_roundg (41 - i)
              case measure => omega
              case rel =>
                refine ⟨i + 1, by go_num, by have := hlth.out; omega, by have := h40h.out; omega, by have := h40h.out; omega, ?_⟩
                rw [hsn.out, hst2.out]
                exact hP3.out
      · have h40' : ¬ (i : Int) < 40 := by omega
        have e : ss.take i = ss.take 40 := by rw [show i = 40 by omega]
        rw [e] at hPh
        clear hlt h40 hk hi hi40 hP
        go_wp2_with fail
        exact bodyPost_ret (results_tmp3 rfl _ _ _) rfl ⟨t, A7, n7, c7, rfl, hPh.out⟩
    · have hin : i = n := by omega
      have hge : ¬ (i : Int) < n := by omega
      have e : ss.take i = ss.take 40 := by rw [List.take_of_length_le (by omega), List.take_of_length_le (by omega)]
      rw [e] at hPh
      clear hlt hk hi40 hP
      go_wp2_with fail
      exact bodyPost_ret (results_tmp3 rfl _ _ _) rfl ⟨t, A7, n7, c7, rfl, hPh.out⟩
end Go.Proofs.Ytlhkkffljjbdmaa
