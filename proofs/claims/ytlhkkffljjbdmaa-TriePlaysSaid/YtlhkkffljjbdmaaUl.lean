/- Walk of the law TriePlays. Conditions: each theorem's own. -/
import Derived.Test.YtlhkkffljjbdmaaUk
namespace Go.Proofs.Ytlhkkffljjbdmaa
open Go.RowKit Go.Sig

theorem ints_nil (w : World) : Rd w 1 none 0 (intCells []) := Rd.nil _ _ _
theorem nodeE_ok {ns : List Int} (h : badI ns = false) : nodeE ns = 0 := by unfold nodeE; rw [h]; rfl
theorem nodeE_bad {ns : List Int} (h : badI ns = true) : nodeE ns = 6 := by unfold nodeE; rw [if_pos h]
theorem nodeD_ok {l : List Pr} {ns : List Int} (h : badI ns = false) : nodeD l ns = dig (64 - ns.length) (underL l ns) := by unfold nodeD; rw [h]; rfl
theorem nodeD_bad {l : List Pr} {ns : List Int} (h : badI ns = true) : nodeD l ns = List.replicate 32 0 := by unfold nodeD; rw [if_pos h]
theorem nodeD_root (l : List Pr) : nodeD l [] = dig 64 l := by rw [nodeD_ok rfl, underL_nil]; rfl
theorem undR_ok {l : List Pr} {ns : List Int} (h : badI ns = false) : undR l ns = underL l ns := by unfold undR; rw [h]; rfl
theorem undR_bad {l : List Pr} {ns : List Int} (h : badI ns = true) : undR l ns = [] := by unfold undR; rw [if_pos h]
theorem badI_len {ns : List Int} (h : badI ns = false) : ns.length ≤ 64 := by
  unfold badI at h
  simp at h
  exact h.1
/-- The digest, by the depth. -/
theorem digest_at {w : World} {A : Option Addr} {n c m : Nat} {l : List Pr} (hm : m ≤ 64) (hR : Rd w 2 A n (pairCells l)) (hn : l.length = n) (hs : Small l) :
   Calls Try.prog 23 #[.slice A n c, .int .i64 (m : Int)] w fun e w' => e = .returned (.agg (digCells (dig (64 - m) l))) ∧ Fr [] w w' := by
  have := digest_t (64 - m) (by omega) w A n c l hR hn hs
  rwa [show 64 - (64 - m) = m by omega] at this

theorem wpList_want {P : Program} {ops : Array Oper} {rest : List Oper} {o : Oper} {a : Act} {w : World} {Q : Exit → Act → World → Prop} (hw : Region.wanted o (yielded ops a.tmps) = true)
    (h : ∀ K : Act → World → Prop, (∀ a w, wpList P ops Q rest a w → K a w) → o.wp P a w K Q) : wpList P ops Q (o :: rest) a w :=
  wpList_step fun K hK => by rw [if_pos hw]; exact h K hK
theorem wpList_load_want {P : Program} {ops : Array Oper} {rest : List Oper} {o : Oper} {a : Act} {w : World} {Q : Exit → Act → World → Prop} (hw : Region.wanted o (yielded ops a.tmps) = true) (ty : TypeId) (x : Operand) (ho : o.op = .load ty x) {g off : Nat} (hx : a.eval x = .pointer (some ⟨g, off, none⟩)) {t : TypeId} {cs : Array Value} {ys : List Value} {d : TypeDesc} (hg : Blk w g t cs) (hs : Sub cs off ys)
    (hu : P.underlying ty = some d) (hd : (match d with | .struct _ | .array _ _ => true | _ => false) = true) (hi : (P.info? ty).map (·.size) = some ys.length)
    (h : wpList P ops Q rest (a.put o.dst (.agg ys.toArray)) w) : wpList P ops Q (o :: rest) a w :=
  wpList_want hw fun _ hK => wp_load_at ty x ho hx hg hs hu hd hi (hK _ _ h)
set_option maxRecDepth 100000 in
set_option maxHeartbeats 4000000 in
theorem plays_t (w : World) (A : Option Addr) (n c : Nat) (ss : List St) (hR : Rd w 3 A n (stepCells ss)) (hn : ss.length = n) (hmax : n ≤ 150000000000000)
   (hs : ∀ s ∈ ss, s.2.1.size ≤ 150000000000000 ∧ s.2.2.size ≤ 150000000000000) (B : Option Addr) (m d : Nat) (ns : List Int) (hB : Rd w 1 B m (intCells ns)) (hm : ns.length = m) (hmm : m ≤ 150000000000000) :
   Calls Try.prog 4 #[.slice A n c, .slice B m d] w fun e w' => e = .returned (.bool true) ∧ Fr [] w w' := by
  have hplay := play_t w [] (by simp) A n c ss hR hn hmax hs
  have hG := Lib.hid (playM_good (ss.take 40))
  obtain ⟨l, hl⟩ : ∃ z, Hid (playM (ss.take 40) = z) := ⟨_, Lib.hid rfl⟩
  rw [hl.out] at hplay hG
  clear hR hs
  go_enter Try.func4, Try.ntmps4
  go_wp2_with fail
  refine hplay.mono ?_
  rintro e W1 ⟨t, A1, n1, c1, rfl, hP⟩
  have hn1 := hP.rd.2
  have hlen := hG.out.few
  have hPh := Lib.hid hP
  have f1 : Hid (Fr [] w W1) := by obtain ⟨_, A, c, _, h1, h2, h3, h4⟩ := hP; exact Lib.hid h3
  clear hplay hP
  go_wp2_with fail
  refine (known_t _).mono ?_
  rintro e W2 ⟨rfl, F2⟩
  have hP2 := Lib.hid (hPh.out.fr0 F2)
  have f2 := Lib.hid (f1.out.trans F2)
  clear F2
  go_wp2_with fail
  refine (pairs_t W2 _ t l hP2.out.1 hG.out.rising hG.out.small).mono ?_
  rintro e W3 ⟨v3, rfl, O3, F3, R3⟩
  obtain ⟨A3, c3, rfl, hA3⟩ := O3.form
  have hP3 := Lib.hid (hP2.out.fr0 F3)
  have f3 := Lib.hid (f2.out.trans F3)
  have hsame := rsame_t W3 A3 A1 l.length n1 c3 c1 l l O3.rd rfl hP3.out.rd.1 hn1 (by omega) (by omega)
  rw [decide_eq_true rfl] at hsame
  rw [hn1] at hsame ⊢
  clear F3 R3 O3 hA3
  go_wp2_with fail
  refine hsame.mono ?_
  rintro e W4 ⟨rfl, F4⟩
  have hP4 := Lib.hid (hP3.out.fr0 F4)
  have f4 := Lib.hid (f3.out.trans F4)
  have hB4 := Rd.fr hB f4.out (by simp [Off])
  have hnode := node_t W4 _ t l hP4.out.1 hG.out.small B m d ns hB4 hm hmm
  have hlD := nodeD_length l ns
  clear F4 hsame hB4
  cases hbad : badI ns with
  | true =>
    rw [nodeE_bad hbad, nodeD_bad hbad] at hnode
    rw [nodeD_bad hbad] at hlD
    obtain ⟨Z, HZ⟩ : ∃ z, Hid (List.replicate 32 (0 : UInt8) = z) := ⟨_, Lib.hid rfl⟩
    rw [HZ.out] at hlD hnode
    have hbadh := Lib.hid hbad
    clear hbad
    go_wp2_with fail
    refine hnode.mono ?_
    rintro e W5 ⟨rfl, F5⟩
    have hP5 := Lib.hid (hP4.out.fr0 F5)
    have f5 := Lib.hid (f4.out.trans F5)
    clear F5 hnode
    go_upto_region 5 with (refine wpList_store_row rfl 42 _ _ rfl W5.heap.size (digCells Z) rfl rfl 42 _ (Blk.new W5 42 _) (infoDigA hlD) (by rw [digCells_size hlD]; rfl) (digCells_one Z) ?_)
    refine wp_gen (fun W6 => Blk W6 W5.heap.size 42 (digCells Z) ∧ Fr [] W5 W6) ⟨Blk.setRow (Blk.new W5 42 _) _, ((Fr.refl _ _).alloc _).setRow (.inr (Nat.le_refl _)) _⟩ ?_
    rintro W6 ⟨hB6, F6⟩
    obtain ⟨g5, HG5⟩ : ∃ x, Hid (W5.heap.size = x) := ⟨_, Lib.hid rfl⟩
    rw [HG5.out] at hB6 ⊢
    have hP6 := Lib.hid (hP5.out.fr0 F6)
    have f6 := Lib.hid (f5.out.trans F6)
    have hund := under2_t W6 _ t l hP6.out.1 hG.out.rising hG.out.small B m d ns (Rd.fr hB f6.out (by simp [Off])) hm hmm
    rw [nodeE_bad hbadh.out, undR_bad hbadh.out] at hund
    clear F6
    go_wp2_with fail
    refine hund.mono ?_
    rintro e W7 ⟨v7, rfl, O7, F7, R7⟩
    obtain ⟨A7, c7, rfl, hA7⟩ := O7.form
    have f7 := Lib.hid (f6.out.trans F7)
    have hB7 := hB6.fr F7 (by simp)
    have hpre := rprefix_t W7 B m d ns (Rd.fr hB f7.out (by simp [Off])) hm hmm
    rw [hbadh.out] at hpre
    have heq2 := eql_dig Z Z hlD hlD
    rw [beq_self_eq_true] at heq2
    have hlit : (Z.map bv).toArray = #[.int .u8 0, .int .u8 0, .int .u8 0, .int .u8 0, .int .u8 0, .int .u8 0, .int .u8 0, .int .u8 0, .int .u8 0, .int .u8 0, .int .u8 0, .int .u8 0, .int .u8 0, .int .u8 0, .int .u8 0, .int .u8 0, .int .u8 0, .int .u8 0, .int .u8 0, .int .u8 0, .int .u8 0, .int .u8 0, .int .u8 0, .int .u8 0, .int .u8 0, .int .u8 0, .int .u8 0, .int .u8 0, .int .u8 0, .int .u8 0, .int .u8 0, .int .u8 0] := by rw [← HZ.out]; rfl
    have heq3 : ∀ w, (binOp .eql 42 (.agg (Z.map bv).toArray) (.agg #[.int .u8 0, .int .u8 0, .int .u8 0, .int .u8 0, .int .u8 0, .int .u8 0, .int .u8 0, .int .u8 0, .int .u8 0, .int .u8 0, .int .u8 0, .int .u8 0, .int .u8 0, .int .u8 0, .int .u8 0, .int .u8 0, .int .u8 0, .int .u8 0, .int .u8 0, .int .u8 0, .int .u8 0, .int .u8 0, .int .u8 0, .int .u8 0, .int .u8 0, .int .u8 0, .int .u8 0, .int .u8 0, .int .u8 0, .int .u8 0, .int .u8 0, .int .u8 0])).run Try.prog w = .ok (.bool true) w := fun w => by
      rw [← hlit]
      exact heq2 w
    clear hlit heq2
    clear hund O7 F7 R7 hA7 hB6 hP6
    go_wp2_with (first
      | (go_at_call 21; refine hpre.mono ?_; rintro e w' ⟨rfl, rfl⟩)
      | (refine wpList_load_want (by kernel_rfl) 42 _ rfl rfl hB7 (sub_self _) uDig rfl (by rw [Array.length_toList, digCells_size hlD]; kernel_rfl) ?_; rw [Array.toArray_toList]; unfold digCells))
    go_ret
    exact ⟨rfl, f7.out⟩
  | false =>
    rw [nodeE_ok hbad, nodeD_ok hbad] at hnode
    rw [nodeD_ok hbad] at hlD
    have hm64 := badI_len hbad
    rw [hm] at hnode hlD hm64
    have hdig := fun (W : World) (A : Option Addr) (n c : Nat) (hR : Rd W 2 A n (pairCells (underL l ns))) (hn : (underL l ns).length = n) => digest_at (c := c) hm64 hR hn (underL_good hG.out).small
    have hdigR := fun (W : World) (A : Option Addr) (n c : Nat) (hR : Rd W 2 A n (pairCells l)) (hn : l.length = n) => digest_at (m := 0) (c := c) (by decide) hR hn hG.out.small
    have hulen : (underL l ns).length ≤ 4096 := (underL_good (ns := ns) hG.out).few
    obtain ⟨D1, HD1⟩ : ∃ z, Hid (dig (64 - m) (underL l ns) = z) := ⟨_, Lib.hid rfl⟩
    rw [HD1.out] at hnode hlD
    simp only [HD1.out] at hdig
    have hbadh := Lib.hid hbad
    have hdigh := Lib.hid hdig
    clear hbad hdig
    go_wp2_with fail
    refine hnode.mono ?_
    rintro e W5 ⟨rfl, F5⟩
    have hP5 := Lib.hid (hP4.out.fr0 F5)
    have f5 := Lib.hid (f4.out.trans F5)
    clear F5 hnode
    go_upto_region 5 with (refine wpList_store_row rfl 42 _ _ rfl W5.heap.size (digCells D1) rfl rfl 42 _ (Blk.new W5 42 _) (infoDigA hlD) (by rw [digCells_size hlD]; rfl) (digCells_one D1) ?_)
    refine wp_gen (fun W6 => Blk W6 W5.heap.size 42 (digCells D1) ∧ Fr [] W5 W6) ⟨Blk.setRow (Blk.new W5 42 _) _, ((Fr.refl _ _).alloc _).setRow (.inr (Nat.le_refl _)) _⟩ ?_
    rintro W6 ⟨hB6, F6⟩
    obtain ⟨g5, HG5⟩ : ∃ x, Hid (W5.heap.size = x) := ⟨_, Lib.hid rfl⟩
    rw [HG5.out] at hB6 ⊢
    have hP6 := Lib.hid (hP5.out.fr0 F6)
    have f6 := Lib.hid (f5.out.trans F6)
    have hund := under2_t W6 _ t l hP6.out.1 hG.out.rising hG.out.small B m d ns (Rd.fr hB f6.out (by simp [Off])) hm hmm
    rw [nodeE_ok hbadh.out, undR_ok hbadh.out] at hund
    obtain ⟨u, HU⟩ : ∃ z, Hid (underL l ns = z) := ⟨_, Lib.hid rfl⟩
    rw [HU.out] at hund hulen hdigh
    clear F6
    go_wp2_with fail
    refine hund.mono ?_
    rintro e WA ⟨vA, rfl, OA, FA, RA⟩
    obtain ⟨AA, cA, rfl, hAA⟩ := OA.form
    have fA := Lib.hid (f6.out.trans FA)
    have hBA := hB6.fr FA (by simp)
    have hPA := Lib.hid (hP6.out.fr0 FA)
    have hpre := rprefix_t WA B m d ns (Rd.fr hB fA.out (by simp [Off])) hm hmm
    rw [hbadh.out] at hpre
    have hru := runder_t WA A1 B n1 m c1 d l ns hPA.out.rd.1 hn1 (by omega) (fun y hy => by have := (hG.out.fits y hy).1; omega) (Rd.fr hB fA.out (by simp [Off])) hm hm64
    rw [HU.out] at hru
    have OAh := Lib.hid OA
    clear hund OA FA RA hAA hB6 hP6
    go_wp2_with (go_at_call 21; refine hpre.mono ?_; rintro e w' ⟨rfl, rfl⟩)
    refine hru.mono ?_
    rintro e WB ⟨vB, rfl, OB, FB, RB⟩
    obtain ⟨AB, cB, rfl, hAB⟩ := OB.form
    have fB := Lib.hid (fA.out.trans FB)
    have hBB := hBA.fr FB (by simp)
    have hPB := Lib.hid (hPA.out.fr0 FB)
    have OAB := Lib.hid (OAh.out.fr FB (by simp))
    have OBh := Lib.hid OB
    have hnr := node_t WB _ t l hPB.out.1 hG.out.small none 0 0 [] (ints_nil _) rfl (by decide)
    rw [nodeE_ok rfl, nodeD_root] at hnr
    have hlR := dig_length 64 l
    obtain ⟨D2, HD2⟩ : ∃ z, Hid (dig 64 l = z) := ⟨_, Lib.hid rfl⟩
    rw [HD2.out] at hnr hlR
    simp only [show 64 - 0 = 64 from rfl, HD2.out] at hdigR
    have hdigRh := Lib.hid hdigR
    clear hru hpre OB FB RB hAB hBA hPA OAh hdigR
    go_wp2_with fail
    refine hnr.mono ?_
    rintro e WC ⟨rfl, FC⟩
    have fC := Lib.hid (fB.out.trans FC)
    have hBC := hBB.fr FC (by simp)
    have hPC := Lib.hid (hPB.out.fr0 FC)
    have OAC := Lib.hid (OAB.out.fr FC (by simp))
    have OBC := Lib.hid (OBh.out.fr FC (by simp))
    clear hnr FC hBB hPB OAB OBh
    go_upto_region 10 with (refine wpList_store_row rfl 42 _ _ rfl WC.heap.size (digCells D2) rfl rfl 42 _ (Blk.new WC 42 _) (infoDigA hlR) (by rw [digCells_size hlR]; rfl) (digCells_one D2) ?_)
    refine wp_gen (fun W7 => Blk W7 WC.heap.size 42 (digCells D2) ∧ Fr [] WC W7) ⟨Blk.setRow (Blk.new WC 42 _) _, ((Fr.refl _ _).alloc _).setRow (.inr (Nat.le_refl _)) _⟩ ?_
    rintro W7 ⟨hB7, F7⟩
    obtain ⟨g9, HG9⟩ : ∃ x, Hid (WC.heap.size = x) := ⟨_, Lib.hid rfl⟩
    rw [HG9.out] at hB7 ⊢
    have f7 := Lib.hid (fC.out.trans F7)
    have hB57 := hBC.fr F7 (by simp)
    have hP7 := Lib.hid (hPC.out.fr0 F7)
    have OA7 := Lib.hid (OAC.out.fr F7 (by simp))
    have OB7 := Lib.hid (OBC.out.fr F7 (by simp))
    have r1 := range_blk hB57
    have r2 := range_blk hB7
    have hi1 := infoDigL hlD
    have hi2 := infoDigL hlR
    have heq1 := eql_dig D1 D1 hlD hlD
    have heq2 := eql_dig D2 D2 hlR hlR
    rw [beq_self_eq_true] at heq1 heq2
    obtain ⟨mu, HMU⟩ : ∃ z, Hid (u.length = z) := ⟨_, Lib.hid rfl⟩
    rw [HMU.out] at hulen ⊢
    have hsame2 := Lib.hid (fun (W : World) (hF : Fr [] W7 W) => rsame_t W AA AB mu mu cA cB u u (Rd.fr (by have := OA7.out.rd; rw [HMU.out] at this; exact this) hF (by simp [Off])) HMU.out (Rd.fr (by have := OB7.out.rd; rw [HMU.out] at this; exact this) hF (by simp [Off])) HMU.out (by omega) (by omega))
    have hsamed := Lib.hid (show decide (u = u) = true from decide_eq_true rfl)
    have hdig1 := Lib.hid (fun (W : World) (hF : Fr [] W7 W) => hdigh.out W AB mu cB (Rd.fr (by have := OB7.out.rd; rw [HMU.out] at this; exact this) hF (by simp [Off])) HMU.out)
    have hdig2 := Lib.hid (fun (W : World) (hF : Fr [] W7 W) => hdigRh.out W A1 n1 c1 (Rd.fr hP7.out.rd.1 hF (by simp [Off])) hn1)
    have hg5l := hB57.lt
    have hg9l := hB7.lt
    clear hB57 hB7 F7 hBC hPC OAC OBC
    refine wp_region_held_drew (S := fun w' => w'.rangeAt g5 0 (D1.map bv) ∧ w'.rangeAt g9 0 (D2.map bv)) (by kernel_rfl) ⟨r1, r2⟩ ?_
    intro hHeld
    refine wpAnyH_take (i := 0) (v := ?_) rfl (by kernel_rfl) (by kernel_rfl) (by kernel_rfl) (fun _ _ _ h => h) (Or.inl ⟨by kernel_rfl, ?_⟩) hHeld ?_
    rotate_left
    · (intro w hSw; (try dsimp only at hSw); go_simp <;> with_reducible rfl)
    try simp only [Act.put, List.setIfInBounds_toArray, List.set_cons_zero, List.set_cons_succ]
    refine wpAnyH_take (i := 1) (v := ?_) rfl (by kernel_rfl) (by kernel_rfl) (by kernel_rfl) (fun _ _ _ h => h) (Or.inl ⟨by kernel_rfl, ?_⟩) hHeld ?_
    rotate_left
    · (intro w hSw; (try dsimp only at hSw); go_simp <;> with_reducible rfl)
    try simp only [Act.put, List.setIfInBounds_toArray, List.set_cons_zero, List.set_cons_succ]
    refine wpAnyH_take (i := 2) (v := ?_) rfl (by kernel_rfl) (by kernel_rfl) (by kernel_rfl) (fun _ _ _ h => h) (Or.inl ⟨by kernel_rfl, ?_⟩) hHeld ?_
    rotate_left
    · (intro w hSw; (try dsimp only at hSw); go_simp <;> with_reducible rfl)
    try simp only [Act.put, List.setIfInBounds_toArray, List.set_cons_zero, List.set_cons_succ]
    refine wpAnyH_take (i := 3) (v := ?_) rfl (by kernel_rfl) (by kernel_rfl) (by kernel_rfl) (fun _ _ _ h => h) (Or.inl ⟨by kernel_rfl, ?_⟩) hHeld ?_
    rotate_left
    · (intro w hSw; (try dsimp only at hSw); go_simp <;> with_reducible rfl)
    try simp only [Act.put, List.setIfInBounds_toArray, List.set_cons_zero, List.set_cons_succ]
    refine wpAnyH_take (i := 4) (v := ?_) rfl (by kernel_rfl) (by kernel_rfl) (by kernel_rfl) (fun _ _ _ h => h) (Or.inl ⟨by kernel_rfl, ?_⟩) hHeld ?_
    rotate_left
    · (intro w hSw; (try dsimp only at hSw); go_simp <;> with_reducible rfl)
    try simp only [Act.put, List.setIfInBounds_toArray, List.set_cons_zero, List.set_cons_succ]
    refine wpAnyH_take (i := 5) (v := ?_) rfl (by kernel_rfl) (by kernel_rfl) (by kernel_rfl) (fun _ _ _ h => h) (Or.inl ⟨by kernel_rfl, ?_⟩) hHeld ?_
    rotate_left
    · (intro w hSw; (try dsimp only at hSw); go_simp <;> with_reducible rfl)
    try simp only [Act.put, List.setIfInBounds_toArray, List.set_cons_zero, List.set_cons_succ]
    refine wpAnyH_take (i := 6) (v := ?_) rfl (by kernel_rfl) (by kernel_rfl) (by kernel_rfl) (fun _ _ _ h => h) (Or.inl ⟨by kernel_rfl, ?_⟩) hHeld ?_
    rotate_left
    · (intro w hSw; (try dsimp only at hSw); go_simp <;> with_reducible rfl)
    try simp only [Act.put, List.setIfInBounds_toArray, List.set_cons_zero, List.set_cons_succ]
    refine wpAnyH_take (i := 7) (v := ?_) rfl (by kernel_rfl) (by kernel_rfl) (by kernel_rfl) (fun _ _ _ h => h) (Or.inl ⟨by kernel_rfl, ?_⟩) hHeld ?_
    rotate_left
    · (intro w hSw; (try dsimp only at hSw); go_simp <;> with_reducible rfl)
    try simp only [Act.put, List.setIfInBounds_toArray, List.set_cons_zero, List.set_cons_succ]
    refine wpAnyH_take (i := 8) (v := ?_) rfl (by kernel_rfl) (by kernel_rfl) (by kernel_rfl) (fun _ _ _ h => h) (Or.inl ⟨by kernel_rfl, ?_⟩) hHeld ?_
    rotate_left
    · (intro w hSw; (try dsimp only at hSw); go_simp <;> with_reducible rfl)
    try simp only [Act.put, List.setIfInBounds_toArray, List.set_cons_zero, List.set_cons_succ]
    refine wpAnyH_take (i := 9) (v := ?_) rfl (by kernel_rfl) (by kernel_rfl) (by kernel_rfl) (fun _ _ _ h => h) (Or.inl ⟨by kernel_rfl, ?_⟩) hHeld ?_
    rotate_left
    · (intro w hSw; (try dsimp only at hSw); go_simp <;> with_reducible rfl)
    try simp only [Act.put, List.setIfInBounds_toArray, List.set_cons_zero, List.set_cons_succ]
    refine wpAnyH_take (i := 10) (v := ?_) rfl (by kernel_rfl) (by kernel_rfl) (by kernel_rfl) (fun _ _ _ h => h) (Or.inl ⟨by kernel_rfl, ?_⟩) hHeld ?_
    rotate_left
    · (intro w hSw; (try dsimp only at hSw); go_simp <;> with_reducible rfl)
    try simp only [Act.put, List.setIfInBounds_toArray, List.set_cons_zero, List.set_cons_succ]
    refine wpAnyH_take (i := 11) (v := ?_) rfl (by kernel_rfl) (by kernel_rfl) (by kernel_rfl) (fun _ _ _ h => h) (Or.inl ⟨by kernel_rfl, ?_⟩) hHeld ?_
    rotate_left
    · (intro w hSw; (try dsimp only at hSw); go_simp <;> with_reducible rfl)
    try simp only [Act.put, List.setIfInBounds_toArray, List.set_cons_zero, List.set_cons_succ]
    refine wpAnyH_take (i := 12) (v := ?_) rfl (by kernel_rfl) (by kernel_rfl) (by kernel_rfl) (fun _ _ _ h => h) (Or.inl ⟨by kernel_rfl, ?_⟩) hHeld ?_
    rotate_left
    · (intro w hSw; (try dsimp only at hSw); go_simp <;> with_reducible rfl)
    try simp only [Act.put, List.setIfInBounds_toArray, List.set_cons_zero, List.set_cons_succ]
    refine wpAnyH_ready (rs := [13]) (by kernel_rfl) (by simp) ?_
    refine AllReadyH.cons rfl (fun K hK => ?_) AllReadyH.nil
    go_simp
    go_wp2_with fail
    refine (hsame2.out _ (Fr.refl _ _).drew).mono ?_
    rintro e Y1 ⟨rfl, G1⟩
    rw [hsamed.out]
    have K1 : Fr [] W7 Y1 := G1.of_drew
    dsimp only
    refine hK.out _ _ ⟨range_fr0 K1 r1, range_fr0 K1 r2⟩ (fun hHeld => ?_)
    clear hK K
    try simp only [Act.put, List.setIfInBounds_toArray, List.set_cons_zero, List.set_cons_succ]
    refine wpAnyH_take (i := 14) (v := ?_) rfl (by kernel_rfl) (by kernel_rfl) (by kernel_rfl) (fun _ _ _ h => h) (Or.inl ⟨by kernel_rfl, ?_⟩) hHeld ?_
    rotate_left
    · (intro w hSw; (try dsimp only at hSw); go_simp <;> with_reducible rfl)
    try simp only [Act.put, List.setIfInBounds_toArray, List.set_cons_zero, List.set_cons_succ]
    refine wpAnyH_take (i := 15) (v := ?_) rfl (by kernel_rfl) (by kernel_rfl) (by kernel_rfl) (fun _ _ _ h => h) (Or.inl ⟨by kernel_rfl, ?_⟩) hHeld ?_
    rotate_left
    · (intro w hSw; (try dsimp only at hSw); go_simp <;> with_reducible rfl)
    try simp only [Act.put, List.setIfInBounds_toArray, List.set_cons_zero, List.set_cons_succ]
    refine wpAnyH_take (i := 16) rfl (by kernel_rfl) (by kernel_rfl) (by kernel_rfl) (fun _ _ _ h => h) (yieldsIf_load_mid (by kernel_rfl) 42 _ rfl g5 0 rfl (D1.map bv) _ (fun w h => h.1) uDig rfl hi1) hHeld ?_
    try simp only [Act.put, List.setIfInBounds_toArray, List.set_cons_zero, List.set_cons_succ]
    refine wpAnyH_take (i := 17) (v := ?_) rfl (by kernel_rfl) (by kernel_rfl) (by kernel_rfl) (fun _ _ _ h => h) (Or.inl ⟨by kernel_rfl, ?_⟩) hHeld ?_
    rotate_left
    · (intro w hSw; (try dsimp only at hSw); go_simp <;> with_reducible rfl)
    try simp only [Act.put, List.setIfInBounds_toArray, List.set_cons_zero, List.set_cons_succ]
    refine wpAnyH_take (i := 18) (v := ?_) rfl (by kernel_rfl) (by kernel_rfl) (by kernel_rfl) (fun _ _ _ h => h) (Or.inl ⟨by kernel_rfl, ?_⟩) hHeld ?_
    rotate_left
    · (intro w hSw; (try dsimp only at hSw); go_simp <;> with_reducible rfl)
    try simp only [Act.put, List.setIfInBounds_toArray, List.set_cons_zero, List.set_cons_succ]
    refine wpAnyH_take (i := 19) (v := ?_) rfl (by kernel_rfl) (by kernel_rfl) (by kernel_rfl) (fun _ _ _ h => h) (Or.inl ⟨by kernel_rfl, ?_⟩) hHeld ?_
    rotate_left
    · (intro w hSw; (try dsimp only at hSw); go_simp <;> with_reducible rfl)
    try simp only [Act.put, List.setIfInBounds_toArray, List.set_cons_zero, List.set_cons_succ]
    refine wpAnyH_ready (rs := [20]) (by kernel_rfl) (by simp) ?_
    refine AllReadyH.cons rfl (fun K hK => ?_) AllReadyH.nil
    go_simp
    go_wp2_with fail
    refine (hdig1.out _ K1).mono ?_
    rintro e Y2 ⟨rfl, G2⟩
    have K2 : Fr [] W7 Y2 := K1.trans G2
    unfold digCells
    dsimp only
    refine hK.out _ _ ⟨range_fr0 K2 r1, range_fr0 K2 r2⟩ (fun hHeld => ?_)
    clear hK K
    try simp only [Act.put, List.setIfInBounds_toArray, List.set_cons_zero, List.set_cons_succ]
    refine wpAnyH_take (i := 21) (v := ?_) rfl (by kernel_rfl) (by kernel_rfl) (by kernel_rfl) (fun _ _ _ h => h) (Or.inl ⟨by kernel_rfl, ?_⟩) hHeld ?_
    rotate_left
    · (intro w hSw; (try dsimp only at hSw); go_simp <;> with_reducible rfl)
    try simp only [Act.put, List.setIfInBounds_toArray, List.set_cons_zero, List.set_cons_succ]
    refine wpAnyH_take (i := 22) (v := ?_) rfl (by kernel_rfl) (by kernel_rfl) (by kernel_rfl) (fun _ _ _ h => h) (Or.inl ⟨by kernel_rfl, ?_⟩) hHeld ?_
    rotate_left
    · (intro w hSw; (try dsimp only at hSw); go_simp <;> with_reducible rfl)
    try simp only [Act.put, List.setIfInBounds_toArray, List.set_cons_zero, List.set_cons_succ]
    refine wpAnyH_take (i := 23) (v := ?_) rfl (by kernel_rfl) (by kernel_rfl) (by kernel_rfl) (fun _ _ _ h => h) (Or.inl ⟨by kernel_rfl, ?_⟩) hHeld ?_
    rotate_left
    · (intro w hSw; (try dsimp only at hSw); go_simp <;> with_reducible rfl)
    try simp only [Act.put, List.setIfInBounds_toArray, List.set_cons_zero, List.set_cons_succ]
    refine wpAnyH_take (i := 24) rfl (by kernel_rfl) (by kernel_rfl) (by kernel_rfl) (fun _ _ _ h => h) (yieldsIf_load_mid (by kernel_rfl) 42 _ rfl g9 0 rfl (D2.map bv) _ (fun w h => h.2) uDig rfl hi2) hHeld ?_
    try simp only [Act.put, List.setIfInBounds_toArray, List.set_cons_zero, List.set_cons_succ]
    refine wpAnyH_take (i := 25) (v := ?_) rfl (by kernel_rfl) (by kernel_rfl) (by kernel_rfl) (fun _ _ _ h => h) (Or.inl ⟨by kernel_rfl, ?_⟩) hHeld ?_
    rotate_left
    · (intro w hSw; (try dsimp only at hSw); go_simp <;> with_reducible rfl)
    try simp only [Act.put, List.setIfInBounds_toArray, List.set_cons_zero, List.set_cons_succ]
    refine wpAnyH_ready (rs := [26]) (by kernel_rfl) (by simp) ?_
    refine AllReadyH.cons rfl (fun K hK => ?_) AllReadyH.nil
    go_simp
    go_wp2_with fail
    refine (hdig2.out _ K2).mono ?_
    rintro e Y3 ⟨rfl, G3⟩
    have K3 : Fr [] W7 Y3 := K2.trans G3
    unfold digCells
    dsimp only
    refine hK.out _ _ ⟨range_fr0 K3 r1, range_fr0 K3 r2⟩ (fun hHeld => ?_)
    clear hK K
    try simp only [Act.put, List.setIfInBounds_toArray, List.set_cons_zero, List.set_cons_succ]
    refine wpAnyH_take (i := 27) (v := ?_) rfl (by kernel_rfl) (by kernel_rfl) (by kernel_rfl) (fun _ _ _ h => h) (Or.inl ⟨by kernel_rfl, ?_⟩) hHeld ?_
    rotate_left
    · (intro w hSw; (try dsimp only at hSw); go_simp <;> with_reducible rfl)
    try simp only [Act.put, List.setIfInBounds_toArray, List.set_cons_zero, List.set_cons_succ]
    refine wpAnyH_take (i := 28) (v := ?_) rfl (by kernel_rfl) (by kernel_rfl) (by kernel_rfl) (fun _ _ _ h => h) (Or.inl ⟨by kernel_rfl, ?_⟩) hHeld ?_
    rotate_left
    · (intro w hSw; (try dsimp only at hSw); go_simp <;> with_reducible rfl)
    try simp only [Act.put, List.setIfInBounds_toArray, List.set_cons_zero, List.set_cons_succ]
    refine wpAnyH_take (i := 29) (v := ?_) rfl (by kernel_rfl) (by kernel_rfl) (by kernel_rfl) (fun _ _ _ h => h) (Or.inl ⟨by kernel_rfl, ?_⟩) hHeld ?_
    rotate_left
    · (intro w hSw; (try dsimp only at hSw); go_simp <;> with_reducible rfl)
    try simp only [Act.put, List.setIfInBounds_toArray, List.set_cons_zero, List.set_cons_succ]
    simp only [List.getElem_toArray, List.getElem_cons_succ, List.getElem_cons_zero, Act.put, List.setIfInBounds_toArray, List.set_cons_zero, List.set_cons_succ]
    refine wpAnyH_done (by kernel_rfl) ?_ _
    go_wp2
    go_ret
    exact ⟨rfl, f7.out.trans K3⟩
end Go.Proofs.Ytlhkkffljjbdmaa
