/- Walks of the trie: the digest under a prefix; a trie of pairs. Conditions: each theorem's own. -/
import Derived.Test.YtlhkkffljjbdmaaTo
namespace Go.Proofs.Ytlhkkffljjbdmaa
open Go.RowKit Go.Sig

theorem results_cell_tmp {P : Program} {fn : Func} {p q : Tmp} {ty : TypeId} (h : fn.results = #[.cell p ty, .tmp q]) (tmps : Array Value) (w : World) (g : Nat) (t : TypeId) (cs : Array Value) (fr : Nat × Nat) (d : TypeDesc)
    (hp : tmps.getD p undef = .pointer (some ⟨g, 0, none⟩)) (hg : w.heap[g]? = some (.cells cs t fr))
    (hu : P.underlying ty = some d) (hd : (match d with | .struct _ | .array _ _ => true | _ => false) = true) (hi : (P.info? ty).map (·.size) = some cs.size) {v : Value} (hv : tmps.getD q undef = v) :
    (results fn tmps).run P w = .ok (.tuple #[.agg cs, v]) w := by
  subst hv
  have hp' : tmps[p]?.getD undef = .pointer (some ⟨g, 0, none⟩) := by simpa using hp
  simp [results, h, hp', asAddr, run_loadVar_row w g t ty cs fr d hg hu hd hi]
/-- What Node tells. -/
def nodeD (l : List Pr) (ns : List Int) : List UInt8 := if badI ns then List.replicate 32 0 else dig (64 - ns.length) (underL l ns)
def nodeE (ns : List Int) : Int := if badI ns then 6 else 0
theorem nodeD_length (l : List Pr) (ns : List Int) : (nodeD l ns).length = 32 := by
  unfold nodeD
  split
  · rfl
  · exact dig_length _ _

set_option maxRecDepth 100000 in
set_option maxHeartbeats 1000000 in
theorem node_t (w : World) (X : List Nat) (t : Nat) (l : List Pr) (hT : TrieIn w X t l) (hsm : Small l) (A : Option Addr) (n c : Nat) (ns : List Int) (hR : Rd w 1 A n (intCells ns)) (hn : ns.length = n) (hmax : n ≤ 150000000000000) :
   Calls Try.prog 19 #[.pointer (some ⟨t, 0, none⟩), .slice A n c] w fun e w' => e = .returned (.tuple #[.agg (digCells (nodeD l ns)), .int .i64 (nodeE ns)]) ∧ Fr [] w w' := by
  have hund := fun (W : World) (hF : Fr [] w W) => under_t W X t l (hT.fr0 hF) hsm A n c ns (Rd.fr hR hF (by simp [Off])) hn hmax
  have hundh := Lib.hid hund
  have hTh := Lib.hid hT
  have hdl := nodeD_length l ns
  clear hund hT
  go_enter Try.func19, Try.ntmps19
  go_upto_region 1 with (fail)
  refine wp_gen (fun W => (∃ zs, Blk W w.heap.size 42 zs ∧ zs.size = 32) ∧ Fr [] w W) ⟨⟨_, Blk.new _ _ _, rfl⟩, (Fr.refl _ _).alloc _⟩ ?_
  rintro W ⟨⟨zs, hD, hz⟩, fW⟩
  obtain ⟨gd, HGD⟩ : ∃ x, Hid (w.heap.size = x) := ⟨_, Lib.hid rfl⟩
  rw [HGD.out] at hD ⊢
  go_wp2_with fail
  refine (hundh.out W fW).mono ?_
  rintro e W2 ⟨v, rfl, hU, F2⟩
  have hv : ∃ p f l2, v = .tuple #[p, .int .i64 (nodeE ns)] ∧ NodeAt W2 X f l2 p ∧ dig f l2 = nodeD l ns := by
    unfold UnderOk at hU
    unfold nodeE nodeD
    cases hb : badI ns with
    | true =>
      rw [hb] at hU
      exact ⟨nilP, 0, [], hU, node_nil.2 rfl, dig_nil 0⟩
    | false =>
      rw [hb] at hU
      obtain ⟨p, hp, hN⟩ := hU
      exact ⟨p, _, _, hp, hN, rfl⟩
  obtain ⟨p, f, l2, rfl, hN, hdg⟩ := hv
  have hns := nsum_t W2 X f l2 p hN
  rw [hdg] at hns
  have hD2 := hD.fr F2 (by simp)
  obtain ⟨D, HDD⟩ : ∃ x, Hid (nodeD l ns = x) := ⟨_, Lib.hid rfl⟩
  obtain ⟨er, HER⟩ : ∃ x, Hid (nodeE ns = x) := ⟨_, Lib.hid rfl⟩
  rw [HDD.out] at hns hdl
  rw [HER.out]
  clear hU hN hdg
  go_wp2_with (first
    | (go_at_call 45; refine hns.mono ?_; rintro e W3 ⟨rfl, F3⟩)
    | refine wpList_store_row rfl 42 _ _ rfl gd (digCells D) rfl rfl 42 zs (hD2.fr F3 (by simp)) (infoDigA hdl) (by rw [hz, digCells_size hdl]) (digCells_one D) ?_)
  exact bodyPost_ret (v := .tuple #[.agg (digCells D), .int .i64 er]) (results_cell_tmp (p := 4) (q := 5) rfl _ _ gd 42 (digCells D) (0, 0) _ rfl (Blk.setRow (hD2.fr F3 (by simp)) _) uDig rfl (infoDigA hdl) rfl) rfl ⟨by rw [HDD.out, HER.out], ((fW.trans F2).trans F3).setRow (.inr (by have := HGD.out; omega)) _⟩

/-- What New answers, and the table. -/
def newR : List Pr → List Pr → Int × List Pr
  | [], l => (0, l)
  | y :: ys, l => if putE y.1 y.2 l = 0 then newR ys (put y l) else (putE y.1 y.2 l, l)
/-- What New leaves: a trie, or an error. -/
def NewPost (w : World) (X : List Nat) (R : Int × List Pr) (e : Ending) (w' : World) : Prop :=
  Fr [] w w' ∧ ((R.1 = 0 ∧ ∃ t, e = .returned (.tuple #[.pointer (some ⟨t, 0, none⟩), .int .i64 0]) ∧ w.heap.size ≤ t ∧ TrieIn w' (t :: X) t R.2 ∧ Good R.2) ∨ (R.1 ≠ 0 ∧ e = .returned (.tuple #[nilP, .int .i64 R.1])))
set_option maxRecDepth 100000 in
set_option maxHeartbeats 1000000 in
theorem new_t (w : World) (X : List Nat) (hX : ∀ g ∈ X, g < w.heap.size) (A : Option Addr) (n c : Nat) (ps : List Pr) (hR : Rd w 2 A n (pairCells ps)) (hn : ps.length = n) (hmax : n ≤ 150000000000000) (hs : ∀ y ∈ ps, y.1.size ≤ 1000000 ∧ y.2.size ≤ 1000000) :
   Calls Try.prog 10 #[.slice A n c] w (NewPost w X (newR ps [])) := by
  obtain ⟨R, HR⟩ : ∃ R, Hid (newR ps [] = R) := ⟨_, Lib.hid rfl⟩
  rw [HR.out]
  go_enter Try.func10, Try.ntmps10
  go_upto_region 2 with (fail)
  refine wp_gen (fun W => Blk W w.heap.size 78 #[nilP] ∧ Fr [] w W) ⟨Blk.new _ _ _, (Fr.refl _ _).alloc _⟩ ?_
  rintro W ⟨hB, fW⟩
  obtain ⟨t, HT⟩ : ∃ x, Hid (w.heap.size = x) := ⟨_, Lib.hid rfl⟩
  rw [HT.out] at hB ⊢
  have hT0 : TrieIn W (t :: X) t [] := ⟨nilP, hB, node_nil.2 rfl, by simp, fun g hg => (List.mem_cons.1 hg).elim (fun e => by rw [e]; exact hB.lt) (fun h => Nat.lt_of_lt_of_le (hX g h) fW.size)⟩
  have hG0 : Good [] := ⟨List.Pairwise.nil, fun y hy => by simp at hy, by simp⟩
  have hAt : 0 < n → Off [t] A := fun h0 ad e => by
    have := Rd.lt hR (by decide) h0 ad e
    rw [HT.out] at this
    simp
    omega
  have hRW := Rd.fr hR fW (by simp [Off])
  clear hB hR
  go_wp2_with fail
  go_loopg [6, 7, 12] (n + 1) (fun gk s6 s7 s12 wr => ∃ (i : Nat) (l : List Pr), s12 = .int .i64 i ∧ i ≤ n ∧ n - i < gk ∧ TrieIn wr (t :: X) t l ∧ Good l ∧ newR (ps.drop i) l = R ∧ Fr [t] W wr)
  case atStart => exact ⟨0, [], rfl, by omega, by omega, hT0, hG0, by rw [List.drop_zero]; exact HR.out, Fr.refl _ _⟩
  case round =>
    clear hT0 hG0
    obtain ⟨i, l, rfl, hi, hk, hTi, hGi, hRi, hF⟩ := hrel
    have hTih := Lib.hid hTi
    have hGih := Lib.hid hGi
    have hRih := Lib.hid hRi
    have hFh := Lib.hid hF
    by_cases hlt : i < n
    · have hlt' : (i : Int) < n := by omega
      have hlth := Lib.hid hlt
      have hi' : i < ps.length := by omega
      have hRr := Rd.fr hRW hF hAt
      obtain ⟨b, o, rfl, hcell⟩ := hRr.2 (by omega)
      have hp := pairCells_at hi'
      have cn := hcell _ _ hp.1
      have cv := hcell _ _ hp.2
      rw [← Nat.add_assoc] at cv
      have hsy := hs ps[i] (List.getElem_mem hi')
      have hdr := Lib.hid (List.drop_eq_getElem_cons hi')
      clear hcell hp hRr hTi hGi hRi hF
      obtain ⟨⟨y1, y2⟩, hy⟩ : ∃ z, Hid (ps[i] = z) := ⟨_, Lib.hid rfl⟩
      rw [hy.out] at cn cv hdr hsy
      simp only at cn cv hsy
      have hput := fun (W' : World) (h : TrieIn W' (t :: X) t l) => put_t W' (t :: X) t l y1 y2 (by omega) (by omega) h hGih.out
      have hputh := Lib.hid hput
      clear hput
      go_upto_region 5 with (fail)
      refine wp_gen (fun W3 => Blk W3 wr.heap.size 66 #[.string y1, .string y2] ∧ Fr [] wr W3) ⟨Blk.new _ _ _, (Fr.refl _ _).alloc _⟩ ?_
      rintro W3 ⟨hBp, F3⟩
      have d1 := (hBp.cell 0)
      have d2 := (hBp.cell 1)
      simp only [List.getElem?_toArray, List.getElem?_cons_zero, List.getElem?_cons_succ] at d1 d2
      have hpl := hBp.lt
      clear cn cv
      go_wp2_with fail
      refine (hputh.out W3 (hTih.out.fr0 F3)).mono ?_
      rintro e W4 ⟨rfl, hT4, F4⟩
      by_cases he : putE y1 y2 l = 0
      · have e2 : putM y1 y2 l = put (y1, y2) l := by unfold putM; rw [if_pos he]
        have hG4 := Lib.hid (putM_good (k := y1) (v := y2) hGih.out)
        rw [e2] at hT4 hG4
        have hT4h := Lib.hid hT4
        have heh := Lib.hid he
        rw [he]
        clear he e2 hT4
        go_wp2
        go_roundg (n - i)
        case measure => omega
        case rel =>
          refine ⟨i + 1, put (y1, y2) l, by go_num, by have := hlth.out; omega, by have := hlth.out; omega, hT4h.out, hG4.out, ?_, hFh.out.trans (F3.nil.trans F4)⟩
          have := hRih.out
          rw [hdr.out] at this
          unfold newR at this
          rwa [if_pos heh.out] at this
      · have hR2 : R = (putE y1 y2 l, l) := by
          have := hRih.out
          rw [hdr.out] at this
          unfold newR at this
          rw [if_neg he] at this
          exact this.symm
        obtain ⟨pe, HPE⟩ : ∃ z, Hid (putE y1 y2 l = z) := ⟨_, Lib.hid rfl⟩
        rw [HPE.out] at he hR2 ⊢
        have he1 : (pe != 0) = true := by simpa using he
        have heh := Lib.hid he
        have hR2h := Lib.hid hR2
        clear he hR2 hT4
        go_wp2
        go_ret2
        have FE := (fW.nil.trans (hFh.out.trans (F3.nil.trans F4))).mono' (S' := []) (fun z hz => .inr (by have := HT.out; simp at hz; omega))
        refine ⟨FE, .inr ?_⟩
        rw [hR2h.out]
        exact ⟨heh.out, rfl⟩
    · have hin : i = n := by omega
      have hge : ¬ (i : Int) < n := by omega
      have hR2 : R = (0, l) := by
        rw [← hRi, List.drop_of_length_le (by omega)]
        rfl
      have hR2h := Lib.hid hR2
      clear hlt hk hTi hGi hRi hF hR2
      go_wp2
      go_ret2
      have FE := (fW.nil.trans hFh.out).mono' (S' := []) (fun z hz => .inr (by have := HT.out; simp at hz; omega))
      refine ⟨FE, .inl ?_⟩
      rw [hR2h.out]
      exact ⟨rfl, t, rfl, Nat.le_of_eq HT.out, hTih.out, hGih.out⟩
end Go.Proofs.Ytlhkkffljjbdmaa
