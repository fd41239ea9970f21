/- Walks of the trie: Under; all pairs, by a range over a function. Conditions: each theorem's own. -/
import Derived.Test.YtlhkkffljjbdmaaUd
import Derived.Test.YtlhkkffljjbdmaaUa
namespace Go.Proofs.Ytlhkkffljjbdmaa
open Go.RowKit Go.Sig

/-- What Under tells. -/
def undR (l : List Pr) (ns : List Int) : List Pr := if badI ns then [] else underL l ns
theorem undR_rising {l : List Pr} {ns : List Int} (h : Rising l) : Rising (undR l ns) := by
  unfold undR
  split
  · exact List.Pairwise.nil
  · exact underL_rising h
theorem undR_le {l : List Pr} {ns : List Int} : (undR l ns).length ≤ l.length := by
  unfold undR
  split
  · simp
  · exact List.length_filter_le _ _
set_option maxHeartbeats 1000000 in
theorem under2_t (w : World) (X : List Nat) (t : Nat) (l : List Pr) (hT : TrieIn w X t l) (hr : Rising l) (hsm : Small l) (A : Option Addr) (n c : Nat) (ns : List Int) (hR : Rd w 1 A n (intCells ns)) (hn : ns.length = n) (hmax : n ≤ 150000000000000) :
   Calls Try.prog 20 #[.pointer (some ⟨t, 0, none⟩), .slice A n c] w fun e w' => ∃ v, e = .returned (.tuple #[v, .int .i64 (nodeE ns)]) ∧ Own w' 66 2 v (undR l ns).length (pairCells (undR l ns)) ∧ Fr [] w w' ∧ ∀ g, g ∈ rowOf v → w.heap.size ≤ g := by
  have hund := under_t w X t l hT hsm A n c ns hR hn hmax
  have hrr := Lib.hid (undR_rising (ns := ns) hr)
  have hrl : (undR l ns).length ≤ 100000 := Nat.le_trans undR_le (Nat.le_trans hsm.2 (by decide))
  clear hT
  go_enter Try.func20, Try.ntmps20
  go_wp2_with fail
  refine hund.mono ?_
  rintro e W2 ⟨v, rfl, hU, F2⟩
  have hv : ∃ p f, v = .tuple #[p, .int .i64 (nodeE ns)] ∧ NodeAt W2 X f (undR l ns) p := by
    unfold UnderOk at hU
    unfold nodeE undR
    cases hb : badI ns with
    | true =>
      rw [hb] at hU
      exact ⟨nilP, 0, hU, node_nil.2 rfl⟩
    | false =>
      rw [hb] at hU
      obtain ⟨p, hp, hN⟩ := hU
      exact ⟨p, _, hp, hN⟩
  obtain ⟨p, f, rfl, hN⟩ := hv
  have hris := rising_t W2 X f (undR l ns) p hN hrr.out hrl
  obtain ⟨er, HER⟩ : ∃ x, Hid (nodeE ns = x) := ⟨_, Lib.hid rfl⟩
  rw [HER.out]
  clear hU hund hN
  go_wp2_with (go_at_call 46; refine hris.mono ?_; rintro e W3 ⟨v3, rfl, r1, r2, r3⟩)
  go_ret2
  exact ⟨v3, congrArg (fun x => Ending.returned (Value.tuple #[v3, .int .i64 x])) HER.out.symm, r1, F2.trans r2, fun g hg => Nat.le_trans F2.size (r3 g hg)⟩

set_option maxHeartbeats 1000000 in
/-- One more pair, into the list of a captured variable. -/
theorem pairs1_t (w : World) (lb : Nat) (v : Value) (out : List Pr) (y : Pr) (hB : Blk w lb 36 #[v]) (hO : Own w 66 2 v out.length (pairCells out)) (hlb : lb ∉ rowOf v) (hmax : out.length ≤ 1000000) :
   Calls Try.prog 43 #[.agg #[.string y.1, .string y.2], .pointer (some ⟨lb, 0, none⟩)] w fun e w' => e = .returned (.bool true) ∧ ∃ v', Blk w' lb 36 #[v'] ∧ Own w' 66 2 v' (out ++ [y]).length (pairCells (out ++ [y])) ∧ Fr (lb :: rowOf v) w w' ∧ ∀ g, g ∈ rowOf v' → g ∈ rowOf v ∨ w.heap.size ≤ g := by
  obtain ⟨y1, y2⟩ := y
  obtain ⟨A, c, rfl, hA⟩ := hO.form
  go_enter Try.func43, Try.ntmps43
  go_upto_region 1 with (fail)
  refine wp_gen (fun W => Blk W w.heap.size 66 #[.string y1, .string y2] ∧ Fr [] w W) ⟨Blk.new _ _ _, (Fr.refl _ _).alloc _⟩ ?_
  rintro W ⟨hP, fW⟩
  obtain ⟨gp, HGP⟩ : ∃ x, Hid (w.heap.size = x) := ⟨_, Lib.hid rfl⟩
  rw [HGP.out] at hP ⊢
  have d1 := (hP.cell 0)
  have d2 := (hP.cell 1)
  simp only [List.getElem?_toArray, List.getElem?_cons_zero, List.getElem?_cons_succ] at d1 d2
  have hpl := hP.lt
  have hBW := hB.fr fW (by simp)
  have cl := hBW.cell 0
  simp only [List.getElem?_toArray, List.getElem?_cons_zero] at cl
  have hll := hBW.lt
  have hOW := hO.fr fW (by simp)
  have hBf := Lib.hid (fun (o : Obj) (w2 : World) (hF : Fr (rowOf (.slice A out.length c)) (W.alloc o) w2) => And.intro (hBW.alloc o).lt ((hBW.alloc o).fr hF hlb))
  clear hB hP hO hBW
  go_wp2_with (refine wpList_own_append tPairs (hOW.fr ((Fr.refl [] _).alloc _) (by simp)) (rd_pr (y1, y2) (Blk.new _ _ _)) (pairCells_one _) (by simp) (by unfold maxLen; omega) (by omega) rfl rfl rfl rfl (fun v2 w2 p1 p2 p3 => ?_); obtain ⟨hl2, hB2⟩ := hBf.out _ w2 p2; have hl3 := hB2.lt; have cz := hB2.cell 0; have hfz := hB2.frozen 0; simp only [List.getElem?_toArray, List.getElem?_cons_zero] at cz; obtain ⟨A3, c3, rfl, hA3⟩ := p1.form)
  go_ret
  have F2 : Fr (lb :: rowOf (.slice A out.length c)) w w2 := fW.nil.trans (((Fr.refl _ _).alloc _).trans (p2.mono (fun i hi => List.mem_cons_of_mem _ hi)))
  refine ⟨rfl, _, hB2.set 0 _, ?_, F2.setCell (.inl (by simp)) _, fun g hg => (p3 g hg).imp id (fun e => by rw [e]; exact Nat.le_trans fW.size (by simp))⟩
  have hlv : lb ∉ rowOf (.slice A3 (out.length + 1) c3) := fun hh => (p3 lb hh).elim hlb (fun e => by simp at e; omega)
  rw [List.length_append, pairCells_append]
  exact p1.fr ((Fr.refl [lb] w2).setCell (.inl (by simp)) _) (fun g hg => by simp; rintro rfl; exact hlv hg)

def AllPost (w : World) (lb : Nat) (l : List Pr) (e : Ending) (w' : World) : Prop :=
  e = .returned (.tuple #[]) ∧ ∃ v, Blk w' lb 36 #[v] ∧ Own w' 66 2 v l.length (pairCells l) ∧ Fr [lb] w w' ∧ ∀ g, g ∈ rowOf v → w.heap.size ≤ g
set_option maxHeartbeats 2000000 in
theorem all1_t (w : World) (X : List Nat) (t tb lb : Nat) (l : List Pr) (hT : TrieIn w X t l) (hr : Rising l) (hsm : Small l) (hB : Blk w tb 22 #[.pointer (some ⟨t, 0, none⟩)]) (hL : Blk w lb 36 #[.slice none 0 0]) :
   Calls Try.prog 61 #[.func (.func 43) #[] #[.pointer (some ⟨lb, 0, none⟩)], .pointer (some ⟨tb, 0, none⟩)] w (AllPost w lb l) := by
  have eg : ∀ args w, (callFunc 43 args).run Try.prog w = .ok (.enter 43 args) w := enters_of Try.func43 (by kernel_rfl) rfl
  obtain ⟨p, hTB, hN, htX, hX⟩ := hT
  have ct := hTB.cell 0
  have cb := hB.cell 0
  simp only [List.getElem?_toArray, List.getElem?_cons_zero] at ct cb
  have htl := hTB.lt
  have hbl := hB.lt
  have hris := rising_t w X 64 l p hN hr (Nat.le_trans hsm.2 (by decide))
  have hlen := hsm.2
  clear hTB hN hB
  go_enter Try.func61, Try.ntmps61
  go_wp2_with (go_at_call 46; refine hris.mono ?_; rintro e W ⟨rv, rfl, r1, r2, r3⟩; obtain ⟨A, c, rfl, hA⟩ := r1.form)
  have hL2 := hL.fr r2 (by simp)
  have hR := r1.rd
  have hLl := hL2.lt
  have hF2 := Lib.hid r2
  have hlbw := hL.lt
  obtain ⟨n, hn⟩ : ∃ n, l.length = n := ⟨_, rfl⟩
  rw [hn] at hR r3 hlen ⊢
  have hAo : 0 < n → Off [lb] A := fun _ ad e => by
    rcases hA with h | ⟨g, h, _⟩
    · rw [h] at e; cases e
    · rw [h] at e
      cases e
      have := r3 g (by rw [h]; simp [rowOf, Value.ownBlock])
      simp
      omega
  clear hris r1 r2 r3 hL hA ct cb
  go_loopg [4, 13] (n + 1) (fun gk s4 s13 wr => ∃ (i : Nat) (v : Value), s13 = .int .i64 i ∧ i ≤ n ∧ n - i < gk ∧ Blk wr lb 36 #[v] ∧ Own wr 66 2 v (l.take i).length (pairCells (l.take i)) ∧ (∀ g ∈ rowOf v, W.heap.size ≤ g) ∧ Fr [lb] W wr)
  case atStart => exact ⟨0, _, rfl, by omega, by omega, hL2, Own.nil _ _ _, by simp [rowOf, Value.ownBlock], Fr.refl _ _⟩
  case round =>
    clear hL2
    obtain ⟨i, v, rfl, hi, hk, hB, hO, hv, hF⟩ := hrel
    by_cases hlt : i < n
    · have hlt' : (i : Int) < n := by omega
      have hlth := Lib.hid hlt
      have hi' : i < l.length := by omega
      have hRr := Rd.fr hR hF hAo
      obtain ⟨b, o, rfl, hcell⟩ := hRr.2 (by omega)
      have hp := pairCells_at hi'
      have cn := hcell _ _ hp.1
      have cv := hcell _ _ hp.2
      rw [← Nat.add_assoc] at cv
      have htk := Lib.hid (List.take_succ_eq_append_getElem hi')
      have hlv : lb ∉ rowOf v := fun h => by have := hv lb h; omega
      have htl2 : (l.take i).length ≤ 1000000 := by rw [List.length_take]; omega
      have hcall := Lib.hid (fun (w3 : World) (h3 : Fr [] wr w3) => pairs1_t w3 lb v (l.take i) l[i] (hB.fr h3 (by simp)) (hO.fr h3 (by simp)) hlv htl2)
      have hvh := Lib.hid hv
      have hFh := Lib.hid hF
      have hlvh := Lib.hid hlv
      clear hcell hp hRr hB hO hv hF hlv
      obtain ⟨⟨y1, y2⟩, hy⟩ : ∃ z, Hid (l[i] = z) := ⟨_, Lib.hid rfl⟩
      rw [hy.out] at cn cv htk hcall
      simp only at cn cv
      have hbl2 := block_lt_of_cell cn
      go_upto_region 4 with (fail)
      refine wp_gen (fun W3 => Blk W3 wr.heap.size 66 #[.string y1, .string y2] ∧ Fr [] wr W3) ⟨Blk.new _ _ _, (Fr.refl _ _).alloc _⟩ ?_
      rintro W3 ⟨hBp, F3⟩
      obtain ⟨gp, HGP⟩ : ∃ x, Hid (wr.heap.size = x) := ⟨_, Lib.hid rfl⟩
      rw [HGP.out] at hBp ⊢
      have d1 := (hBp.cell 0)
      have d2 := (hBp.cell 1)
      simp only [List.getElem?_toArray, List.getElem?_cons_zero, List.getElem?_cons_succ] at d1 d2
      have hpl := hBp.lt
      have hc := hcall.out W3 F3
      clear cn cv hBp
      go_wp2_with (go_at_fn 43; refine hc.mono ?_; rintro e w4 ⟨rfl, v4, s1, s2, s3, s4⟩)
      go_roundg (n - i)
      case measure => omega
      case rel =>
        refine ⟨i + 1, v4, by go_num, by have := hlth.out; omega, by have := hlth.out; omega, s1, by rw [htk.out]; exact s2, fun g hg => ?_, ?_⟩
        · rcases s4 g hg with h | h
          · exact hvh.out g h
          · have := hFh.out.size; have := F3.size; omega
        · refine hFh.out.andThen (F3.nil.trans s3) (fun x hx => ?_)
          rcases List.mem_cons.1 hx with h | h
          · exact .inl (by simp [h])
          · exact .inr (hvh.out x h)
    · have hin : i = n := by omega
      have hge : ¬ (i : Int) < n := by omega
      have e : l.take i = l := List.take_of_length_le (by omega)
      rw [e] at hO
      clear hlt hk
      go_wp2
      go_end0
      exact ⟨rfl, v, hB, hO, hF2.out.nil.trans hF, fun g hg => Nat.le_trans hF2.out.size (hv g hg)⟩
theorem allT_t (w : World) (t : Nat) : Calls Try.prog 42 #[.pointer (some ⟨t, 0, none⟩)] w fun e w' => e = .returned (.func (.func 61) #[] #[.pointer (some ⟨w.heap.size, 0, none⟩)]) ∧ w' = w.alloc (.cells #[.pointer (some ⟨t, 0, none⟩)] 22) := by
  go_enter Try.func42, Try.ntmps42
  go_wp2
  go_ret
  exact ⟨rfl, rfl⟩
set_option maxHeartbeats 1000000 in
theorem pairs_t (w : World) (X : List Nat) (t : Nat) (l : List Pr) (hT : TrieIn w X t l) (hr : Rising l) (hsm : Small l) : Calls Try.prog 18 #[.pointer (some ⟨t, 0, none⟩)] w (RisePost w l) := by
  have eg : ∀ args w, (callFunc 61 args).run Try.prog w = .ok (.enter 61 args) w := enters_of Try.func61 (by kernel_rfl) rfl
  have hall := Lib.hid (fun (tb lb : Nat) (W : World) (hF : Fr [] w W) => all1_t W X t tb lb l (hT.fr0 hF) hr hsm)
  go_enter Try.func18, Try.ntmps18
  go_upto_region 3 with (go_at_call 42; refine (allT_t _ _).mono ?_; rintro e w' ⟨rfl, rfl⟩)
  refine wp_gen (fun W => Blk W w.heap.size 36 #[.slice none 0 0] ∧ Blk W (w.heap.size + 1) 22 #[.pointer (some ⟨t, 0, none⟩)] ∧ Fr [] w W) ⟨(Blk.new _ _ _).alloc _, Blk.new' _ _ (by simp), ((Fr.refl _ _).alloc _).alloc _⟩ ?_
  rintro W ⟨hL, hB, fW⟩
  obtain ⟨lb, HLB⟩ : ∃ x, Hid (w.heap.size = x) := ⟨_, Lib.hid rfl⟩
  rw [HLB.out] at hL hB ⊢
  have hc := hall.out _ _ W fW hB hL
  clear hall hL hB
  go_wp2_with (go_at_fn 61; refine hc.mono ?_; rintro e w4 ⟨rfl, v4, s1, s2, s3, s4⟩; have cl := s1.cell 0; simp only [List.getElem?_toArray, List.getElem?_cons_zero] at cl)
  go_ret
  exact ⟨_, rfl, s2, (fW.nil.trans s3).mono' (fun z hz => .inr (by have := HLB.out; simp at hz; omega)), fun g hg => Nat.le_trans fW.size (s4 g hg)⟩
end Go.Proofs.Ytlhkkffljjbdmaa
