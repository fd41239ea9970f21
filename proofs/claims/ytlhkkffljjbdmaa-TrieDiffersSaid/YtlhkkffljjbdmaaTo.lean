/- Walks of the trie: the node under a prefix, and its digest. Conditions: each theorem's own. -/
import Derived.Test.YtlhkkffljjbdmaaTn
namespace Go.Proofs.Ytlhkkffljjbdmaa
open Go.RowKit Go.Sig

def badI (ns : List Int) : Bool := decide (64 < ns.length) || ns.any outI
/-- What under tells. -/
def UnderOk (w : World) (X : List Nat) (l : List Pr) (ns : List Int) (v : Value) : Prop :=
  if badI ns then v = .tuple #[nilP, .int .i64 6] else ∃ p, v = .tuple #[p, .int .i64 0] ∧ NodeAt w X (64 - ns.length) (underL l ns) p
theorem underL_more {l : List Pr} {ns : List Int} {i : Nat} (h : underL l (ns.take i) = []) : underL l ns = [] := by
  unfold underL at h ⊢
  rw [List.filter_eq_nil_iff] at h ⊢
  intro y hy hb
  refine h y hy ?_
  have key : ∀ (ms : List Int) (j i : Nat), begins (pathOf y.1) j ms = true → begins (pathOf y.1) j (ms.take i) = true := by
    intro ms
    induction ms with
    | nil => intro j i _; simp [begins]
    | cons k ms ih =>
      intro j i hb
      cases i with
      | zero => rfl
      | succ i =>
        simp only [begins, Bool.and_eq_true] at hb
        simp only [List.take_succ_cons, begins, Bool.and_eq_true]
        exact ⟨hb.1, ih _ _ hb.2⟩
  exact key ns 0 i hb
theorem under_one {l : List Pr} {ns : List Int} {i : Nat} {y : Pr} (h : underL l (ns.take i) = [y]) : underL l ns = if begins (pathOf y.1) 0 ns then [y] else [] := by
  have key : ∀ (z : Pr) (ms : List Int) (j i : Nat), begins (pathOf z.1) j ms = true → begins (pathOf z.1) j (ms.take i) = true := by
    intro z ms
    induction ms with
    | nil => intro j i _; simp [begins]
    | cons k ms ih =>
      intro j i hb
      cases i with
      | zero => rfl
      | succ i =>
        simp only [begins, Bool.and_eq_true] at hb
        simp only [List.take_succ_cons, begins, Bool.and_eq_true]
        exact ⟨hb.1, ih _ _ hb.2⟩
  have e : underL l ns = (underL l (ns.take i)).filter fun y => begins (pathOf y.1) 0 ns := by
    unfold underL
    rw [List.filter_filter]
    apply List.filter_congr
    intro z _
    cases hz : begins (pathOf z.1) 0 ns with
    | false => rfl
    | true => simp [key z ns 0 i hz]
  rw [e, h]
  simp [List.filter_cons]
theorem begins_from {d : List UInt8} {ns : List Int} : ∀ {i : Nat}, begins d 0 (ns.take i) = true → i ≤ ns.length → (∀ j, i ≤ j → ∀ h : j < ns.length, (nib d j : Int) = ns[j]) → begins d 0 ns = true := by
  intro i h hi hall
  have key : ∀ m, i + m ≤ ns.length → begins d 0 (ns.take (i + m)) = true := by
    intro m
    induction m with
    | zero => intro _; exact h
    | succ m ih =>
      intro hm
      rw [show i + (m + 1) = (i + m) + 1 by omega, begins_take (by omega), ih (by omega), Nat.zero_add]
      simpa using hall (i + m) (by omega) (by omega)
  have := key (ns.length - i) (by omega)
  rwa [show i + (ns.length - i) = ns.length by omega, List.take_length] at this
theorem begins_not {d : List UInt8} {ns : List Int} {j : Nat} (h : j < ns.length) (hne : (nib d j : Int) ≠ ns[j]) : begins d 0 ns = false := by
  have key : ∀ (ms : List Int) (a i : Nat) (hi : i < ms.length), (nib d (a + i) : Int) ≠ ms[i] → begins d a ms = false := by
    intro ms
    induction ms with
    | nil => intro a i hi; simp at hi
    | cons k ms ih =>
      intro a i hi hne
      cases i with
      | zero =>
        simp only [begins]
        have : decide ((nib d a : Int) = k) = false := by simpa using hne
        rw [this]
        rfl
      | succ i =>
        simp only [begins, ih (a + 1) i (by simpa using hi) (by rw [show a + 1 + i = a + (i + 1) by omega]; simpa using hne), Bool.and_false]
  exact key ns 0 j h (by rw [Nat.zero_add]; exact hne)

set_option maxRecDepth 100000 in
set_option maxHeartbeats 4000000 in
theorem under_t (w : World) (X : List Nat) (t : Nat) (l : List Pr) (hT : TrieIn w X t l) (hsm : Small l) (A : Option Addr) (n c : Nat) (ns : List Int) (hR : Rd w 1 A n (intCells ns)) (hn : ns.length = n) (hmax : n ≤ 150000000000000) :
   Calls Try.prog 44 #[.pointer (some ⟨t, 0, none⟩), .slice A n c] w fun e w' => ∃ v, e = .returned v ∧ UnderOk w' X l ns v ∧ Fr [] w w' := by
  obtain ⟨p, hB, hN, htX, hX⟩ := hT
  have hct := hB.cell 0
  simp only [List.getElem?_toArray, List.getElem?_cons_zero] at hct
  have htl := hB.lt
  by_cases h64 : 64 < n
  · have h64i : (64 : Int) < n := by omega
    have hbad : badI ns = true := by unfold badI; rw [hn]; simp [h64]
    have hbh := Lib.hid hbad
    clear hbad
    go_enter Try.func44, Try.ntmps44
    go_wp2
    go_ret2
    exact ⟨_, rfl, by unfold UnderOk; rw [if_pos hbh.out]; rfl, Fr.refl _ _⟩
  · have h64i : ¬ (64 : Int) < n := by omega
    have hhas := hasI_t w A n c ns hR hn hmax
    cases hany : ns.any outI with
    | true =>
      rw [hany] at hhas
      have hbad : badI ns = true := by unfold badI; rw [hany]; simp
      have hbh := Lib.hid hbad
      clear hbad hany
      go_enter Try.func44, Try.ntmps44
      go_wp2_with (go_at_call 62; refine hhas.mono ?_; rintro e w' ⟨rfl, rfl⟩)
      go_ret2
      exact ⟨_, rfl, by unfold UnderOk; rw [if_pos hbh.out]; rfl, Fr.refl _ _⟩
    | false =>
      rw [hany] at hhas
      have hbad : badI ns = false := by unfold badI; rw [hany, hn]; simpa using h64
      have hbh := Lib.hid hbad
      have hin : ∀ i, ∀ h : i < ns.length, 0 ≤ ns[i] ∧ ns[i] ≤ 15 := by
        intro i h
        have := (List.any_eq_false.1 hany) ns[i] (List.getElem_mem h)
        unfold outI at this
        simp at this
        omega
      have hinh := Lib.hid hin
      have hNh := Lib.hid hN
      clear hbad hany hin hN
      go_enter Try.func44, Try.ntmps44
      go_upto_block 0 with (go_at_call 62; refine hhas.mono ?_; rintro e w' ⟨rfl, rfl⟩)
      go_wp2_with fail
      go_loopg [6, 7, 8, 9, 10, 26] (n + 1) (fun gk s6 s7 s8 s9 s10 s26 wr => ∃ (i : Nat), s26 = .int .i64 i ∧ i ≤ n ∧ n - i < gk ∧ NodeAt wr X (64 - i) (underL l (ns.take i)) s6 ∧ Fr [] w wr)
      case atStart => exact ⟨0, rfl, by omega, by omega, by rw [List.take_zero, underL_nil]; exact hNh.out, Fr.refl _ _⟩
      case round =>
        obtain ⟨i, rfl, hi, hk, hNi, hF⟩ := hrel
        by_cases hlt : i < n
        · have hlt' : (i : Int) < n := by omega
          have hlth := Lib.hid hlt
          have hi' : i < ns.length := by omega
          have hRr := Rd.fr hR hF (by simp [Off])
          obtain ⟨b, o, rfl, hcell⟩ := hRr.2 (by omega)
          have hcellh := Lib.hid (fun (j : Nat) (hj : j < ns.length) => hcell j (.int .i64 ns[j]) (by rw [intCells, List.getElem?_map, List.getElem?_eq_getElem hj]; rfl))
          have ck := hcellh.out i hi'
          have hkr := hinh.out i hi'
          obtain ⟨f, hf⟩ : ∃ f, 64 - i = f + 1 := ⟨63 - i, by omega⟩
          have hfi : 63 - f = i := by omega
          rw [hf] at hNi
          have hukh := Lib.hid (fun (k : Nat) (hk : ns[i] = (k : Int)) => underL_kid (l := l) hi' hk hfi)
          have hls : (underL l (ns.take i)).length ≤ 10000 := Nat.le_trans (List.length_filter_le _ _) hsm.2
          have hsub : ∀ y ∈ underL l (ns.take i), y ∈ l := fun y hy => (List.mem_filter.1 hy).1
          have hcase : (underL l (ns.take i) = [] ∧ u6 = nilP) ∨ (∃ y, underL l (ns.take i) = [y] ∧ LeafAt wr X (leaf1 y) [y] u6) ∨ ∃ ps D', D'.length = 32 ∧ BranchAt wr X D' (underL l (ns.take i)).length ps u6 ∧ ∀ j, j < 16 → NodeAt wr X f (kid f (underL l (ns.take i)) j) (ps.getD j undef) := by
            match h : underL l (ns.take i), hNi with
            | [], hN' => exact .inl ⟨rfl, node_nil.1 hN'⟩
            | [y], hN' => exact .inr (.inl ⟨y, rfl, node_one.1 hN'⟩)
            | y :: z :: l', hN' =>
              obtain ⟨ps, h1, h2⟩ := (node_branch (by simp)).1 hN'
              exact .inr (.inr ⟨ps, _, dig_length _ _, h1, h2⟩)
          have hFh := Lib.hid hF
          clear hNi hcell
          rcases hcase with ⟨h0, rfl⟩ | ⟨y, hy, hL⟩ | ⟨ps, D', hD', ⟨gq, kq, rfl, hgq, hkq, hBq, hKq, hps⟩, hkids⟩
          · have h0h := Lib.hid (underL_more h0)
            unfold nilP
            clear h0 hsub
            go_wp2
            go_ret2
            refine ⟨_, rfl, ?_, hFh.out⟩
            unfold UnderOk
            rw [if_neg (by rw [hbh.out]; simp), h0h.out]
            exact ⟨_, rfl, node_nil.2 rfl⟩
          · obtain ⟨gq, A1, c1, rfl, hgq, hBq, hR1, hc1, hA1⟩ := hL
            have hLh : Hid (LeafAt wr X (leaf1 y) [y] (.pointer (some ⟨gq, 0, none⟩))) := ⟨gq, A1, c1, rfl, hgq, hBq, hR1, hc1, hA1⟩
            obtain ⟨b1, o1, rfl, hcell1⟩ := hR1.2 (by simp)
            have hcn := hcell1 0 (.string y.1) rfl
            rw [Nat.add_zero] at hcn
            have c32 := (hBq.cell 32).trans (nodeCells_at (sha_len _)).1
            have c33 := (hBq.cell 33).trans (nodeCells_at (sha_len _)).2.1
            have hql := hBq.lt
            unfold nilP at c33
            rw [show ([y] : List Pr).length = 1 from rfl] at c32
            have hys := (hsm.1 y (hsub y (by rw [hy]; simp))).1
            have hyh := Lib.hid hy
            have hbg := Lib.hid (show begins (pathOf y.1) 0 (ns.take i) = true by
              have : y ∈ underL l (ns.take i) := by rw [hy]; simp
              simpa using (List.mem_filter.1 this).2)
            obtain ⟨cW, cC, hcv, hcF, hcB, hcS, hcc⟩ := conv_any y.1
            obtain ⟨D, HD⟩ : ∃ z, Hid (pathOf y.1 = z) := ⟨_, Lib.hid rfl⟩
            have hsD := Lib.hid (show sha y.1.data.toList = D from HD.out)
            have hDl : D.length = 32 := by rw [← HD.out]; rfl
            have hcFh := Lib.hid (hcF wr)
            have hcBh := Lib.hid (hcB wr wr.heap.size rfl)
            have hcch := Lib.hid (hcc wr)
            clear hy hsub hcell1 hcF hcB hcc hBq hR1
            go_wp2_with fail
            refine (sum1_t (cW wr) _ _ _ _ hcBh.out hcch.out (by omega)).mono ?_
            rintro e W2 ⟨rfl, F2⟩
            rw [hsD.out]
            have F12 := hcFh.out.trans F2
            have ck2 := cell_fr F12 ck
            have hbl := block_lt_of_cell ck2
            clear hcFh hcBh hcch hcv hcS F2 ck c32 c33 hcn
            go_upto_region 12 with (refine wpList_store_row rfl 80 _ _ rfl W2.heap.size (digCells D) rfl rfl 80 _ (Blk.new W2 80 _) (by rw [digCells_size hDl]; kernel_rfl) (by rw [digCells_size hDl]; rfl) (digCells_one D) ?_)
            refine wp_gen (fun W3 => Blk W3 W2.heap.size 80 (digCells D) ∧ Fr [] W2 W3) ⟨Blk.setRow (Blk.new W2 80 _) _, ((Fr.refl _ _).alloc _).setRow (.inr (Nat.le_refl _)) _⟩ ?_
            rintro W3 ⟨hBe, F3⟩
            obtain ⟨ge, HGE⟩ : ∃ z, Hid (W2.heap.size = z) := ⟨_, Lib.hid rfl⟩
            rw [HGE.out] at hBe ⊢
            have hcell3 := Lib.hid (fun (j : Nat) (hj : j < ns.length) => cell_fr (F12.trans F3) (hcellh.out j hj))
            have f13 := Lib.hid (F12.trans F3)
            clear ck2 hbl F12 F3 hRr
            go_wp2_with fail
            go_loopg [10] (n + 1) (fun gj s10 wq => ∃ (j : Nat), s10 = .int .i64 j ∧ i ≤ j ∧ j ≤ n ∧ n - j < gj ∧ (∀ m, i ≤ m → m < j → ∀ h : m < ns.length, (nib D m : Int) = ns[m]) ∧ Fr [] W3 wq)
            case atStart => exact ⟨i, rfl, by omega, by omega, by omega, fun m h1 h2 => by omega, Fr.refl _ _⟩
            case round =>
              obtain ⟨j, rfl, hij, hjn, hkj, hall, hFq⟩ := hrel
              have hallh := Lib.hid hall
              have hFqh := Lib.hid hFq
              clear hall hFq
              by_cases hjl : j < n
              · have hjl' : (j : Int) < n := by omega
                have hjlh := Lib.hid hjl
                have hj' : j < ns.length := by omega
                have cj := cell_fr hFqh.out (hcell3.out j hj')
                have hrg := range_blk (hBe.fr hFqh.out (by simp))
                have hj64 : j < 64 := by omega
                have hu := uPath
                have hi2 := infoPathL hDl
                have hbll := block_lt_of_cell cj
                have hgel := (hBe.fr hFqh.out (by simp)).lt
                obtain ⟨kj, hkjj⟩ : ∃ z, Hid (ns[j] = z) := ⟨_, Lib.hid rfl⟩
                rw [hkjj.out] at cj
                have hatt := fun W' => at_t W' D j hDl hj64
                obtain ⟨nj, HNJ⟩ : ∃ z, Hid ((nib D j : Int) = z) := ⟨_, Lib.hid rfl⟩
                rw [HNJ.out] at hatt
                have hatth := Lib.hid hatt
                clear hatt
                go_upto_region 15 with (fail)
                go_region_held_law (fun w' => w'.cell? ⟨b, o + j, none⟩ = some (.int .i64 kj) ∧ w'.rangeAt ge 0 (D.map bv)) ((first | exact ⟨cj, hrg⟩ | exact ⟨m1, m2⟩))
                  (first
                    | (try go_simp
                       go_at_call 37
                       refine (hatth.out _).mono ?_
                       rintro e w' ⟨rfl, F5⟩
                       have F6 : Fr [] wr w' := F5.of_drew
                       have m1 := cell_fr F6 cj
                       have m2 := range_fr0 F6 hrg
                       dsimp only))
                by_cases hne : nj = kj
                · have hneh := Lib.hid hne
                  have hne1 : (nj != kj) = false := by simpa using hne
                  clear hne
                  go_wp2
                  go_roundg (n - j)
                  case measure => omega
                  case rel =>
                    refine ⟨j + 1, by go_num, by omega, by have := hjlh.out; omega, by have := hjlh.out; omega, fun m h1 h2 h => ?_, hFqh.out.trans F6⟩
                    by_cases e : m = j
                    · subst e
                      rw [HNJ.out, hkjj.out]
                      exact hneh.out
                    · exact hallh.out m h1 (by omega) h
                · have hneh := Lib.hid hne
                  have hne1 : (nj != kj) = true := by simpa using hne
                  clear hne
                  go_wp2
                  go_ret2
                  refine ⟨_, rfl, ?_, hFh.out.trans (f13.out.trans (hFqh.out.trans F6))⟩
                  unfold UnderOk
                  rw [if_neg (by rw [hbh.out]; simp), under_one hyh.out, if_neg (by
                    rw [HD.out, begins_not hj' (by rw [HNJ.out, hkjj.out]; exact hneh.out)]
                    simp)]
                  exact ⟨_, rfl, node_nil.2 rfl⟩
              · have hjn' : j = n := by omega
                have hge : ¬ (j : Int) < n := by omega
                clear hjl hkj
                go_wp2
                go_ret2
                refine ⟨_, rfl, ?_, hFh.out.trans (f13.out.trans hFqh.out)⟩
                unfold UnderOk
                rw [if_neg (by rw [hbh.out]; simp), under_one hyh.out, if_pos (by
                  have h1 := hbg.out
                  rw [HD.out] at h1 ⊢
                  exact begins_from h1 (by omega) (fun m h1 h => hallh.out m h1 (by omega) h))]
                exact ⟨_, rfl, node_one.2 (LeafAt.go ⟨f13.out.trans hFqh.out, by simp, fun y hy => .inl hy⟩ hLh)⟩
          · obtain ⟨k, hk2⟩ : ∃ k : Nat, ns[i] = (k : Int) := ⟨ns[i].toNat, by omega⟩
            have huk := Lib.hid (hukh.out k hk2)
            have hk16 : k < 16 := by omega
            have hk16i : (k : Int) < 16 := by omega
            rw [hk2] at ck
            have c33 := (hBq.cell 33).trans (nodeCells_at hD').2.1
            have ckk : wr.cell? ⟨kq, k, none⟩ = some (ps.getD k undef) := by
              rw [hKq.cell, List.getElem?_toArray]
              exact getD_some (by omega)
            have hql := hBq.lt
            have hkl := hKq.lt
            have hNk := Lib.hid (hkids k hk16)
            obtain ⟨pk, HPK⟩ : ∃ z, Hid (ps.getD k undef = z) := ⟨_, Lib.hid rfl⟩
            rw [HPK.out] at ckk hNk
            have hk2h := Lib.hid hk2
            have hfh := Lib.hid hf
            clear hkids hsub hk2 hkr hf hBq hKq
            go_wp2
            go_roundg (n - i)
            case measure => omega
            case rel =>
              refine ⟨i + 1, by go_num, by have := hlth.out; omega, by have := hlth.out; omega, ?_, hFh.out⟩
              rw [huk.out, show 64 - (i + 1) = f by have := hfh.out; omega]
              exact hNk.out
        · have hin : i = n := by omega
          have hge : ¬ (i : Int) < n := by omega
          have hNih := Lib.hid hNi
          have hFh := Lib.hid hF
          clear hlt hk hNi hF
          go_wp2
          go_ret2
          refine ⟨_, rfl, ?_, hFh.out⟩
          have h1 := hNih.out
          rw [List.take_of_length_le (by omega), hin, ← hn] at h1
          unfold UnderOk
          rw [if_neg (by rw [hbh.out]; simp)]
          exact ⟨_, rfl, h1⟩
end Go.Proofs.Ytlhkkffljjbdmaa
