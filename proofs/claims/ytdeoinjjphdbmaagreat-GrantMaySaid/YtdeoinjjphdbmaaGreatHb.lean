/- Walk: a token is revoked. Conditions: each theorem's own. -/
import Derived.Test.YtdeoinjjphdbmaaGreatHa
namespace Go.Proofs.YtdeoinjjphdbmaaGreat
open Go.RowKit Go.Sig

theorem Br.len8 {w0 w : World} {p mb : Nat} {room : Int} {X : List Nat} {b : GBk} {c : GCmd} {A : Option Addr} {n d : Nat} {x : FA} {is : Bool} (h : Br w0 w p mb room X b c A n d x is) : x.ts.length ≤ 8 := by
  rw [h.fam.len]
  cases is with
  | true => exact h.famOk.1.tokens
  | false => rw [h.zero rfl]; decide
set_option maxRecDepth 100000 in
set_option maxHeartbeats 4000000 in
theorem revoke_t {w0 w : World} {p mb : Nat} {room : Int} {X : List Nat} {b : GBk} {c : GCmd} {A : Option Addr} {n d : Nat} {x : FA} {is : Bool} (h : Br w0 w p mb room X b c A n d x is) :
    Calls Tryz.prog 43 #[.pointer (some ⟨p, 0, none⟩), .agg (cmdV c A n d), x.val, .bool is] w (AnsPost w0 mb X (revokeM c b)) := by
  have hh := Lib.hid h
  clear h
  unfold cmdV FA.val FA.cells
  have hzs : ∃ zs : Array Value, zs.size = 8 ∧ Hid (zs = (AA.mk (noA 0) none 0).cells) := ⟨_, rfl, Lib.hid rfl⟩
  obtain ⟨zs, hz, hzh⟩ := hzs
  go_enter Tryz.func43, Tryz.ntmps43
  go_upto_region 1 with (fail)
  refine wp_gen (fun W => Blk W w.heap.size 30 (cmdV c A n d) ∧ Blk W (w.heap.size + 1) 39 x.cells ∧ Blk W (w.heap.size + 1 + 1) 33 zs ∧ Fr [] w W) ⟨((Blk.new _ _ _).alloc _).alloc _, (Blk.new' _ _ (by simp)).alloc _, by rw [hzh.out]; exact Blk.new' _ _ (by simp), (((Fr.refl _ _).alloc _).alloc _).alloc _⟩ ?_
  rintro W ⟨hC, hB, hR, fW⟩
  obtain ⟨gc, HGC⟩ : ∃ z, Hid (w.heap.size = z) := ⟨_, Lib.hid rfl⟩
  have hgw : w.heap.size ≤ gc := by have := HGC.out; omega
  rw [HGC.out] at hC hB hR ⊢
  obtain ⟨gf, HGF⟩ : ∃ z, Hid (gc + 1 = z) := ⟨_, Lib.hid rfl⟩
  rw [HGF.out] at hB hR ⊢
  obtain ⟨gr, HGR⟩ : ∃ z, Hid (gf + 1 = z) := ⟨_, Lib.hid rfl⟩
  rw [HGR.out] at hR ⊢
  have hfr : gf ≠ gr := by have := HGF.out; have := HGR.out; omega
  have hcr : gc ≠ gr := by have := HGF.out; have := HGR.out; omega
  have hcf : gc ≠ gf := by have := HGF.out; omega
  have hgf : w.heap.size ≤ gf := by have := HGF.out; omega
  have hgr : w.heap.size ≤ gr := by have := HGF.out; have := HGR.out; omega
  have hYw : ∀ g ∈ [gc, gf, gr], w.heap.size ≤ g := fun g hg => by
    simp only [List.mem_cons, List.not_mem_nil, or_false] at hg
    omega
  obtain ⟨hFO, hbY, hxY, hW, hP, F0⟩ := br_pre hh.out fW [gc, gf, gr] hYw
  have hmw : mb < w0.heap.size := hh.out.hb.lt
  have hw0w : w0.heap.size ≤ w.heap.size := hh.out.F0.size
  have hgr0 : w0.heap.size ≤ gr := by omega
  have hCh := Lib.hid hC
  have hBh := Lib.hid hB
  have hRh := Lib.hid hR
  have hFOh := Lib.hid hFO
  have hbYh := Lib.hid hbY
  have hxYh := Lib.hid hxY
  have hWh := Lib.hid hW
  have hPh := Lib.hid hP
  have F0h := Lib.hid F0
  have fWh := Lib.hid fW
  have hrl := hR.lt
  have hYwh := Lib.hid hYw
  clear hC hR hFO hbY hxY hW hP F0 fW hYw
  obtain ⟨c0, c1, c2, c3, c4, c5, c6, c7, c8, c9, c10, hfl⟩ := fam_cells hB
  obtain ⟨d0, d1, d2, d3, d4, d5, d6, d7, d8, d9, d10, d11, d12, hcl⟩ := cmdV_cells hCh.out
  clear c0 c2 c3 c4 c5 c6 c8 c10 d0 d1 d5 d6 d7 d8 d9 d10 d11 d12
  have hget := Lib.hid hh.out.get
  cases is with
  | false =>
    have hres := Lib.hid (show revokeM c b = (b, noA 0) by unfold revokeM; rw [hget.out]; rfl)
    go_wp2_with (refine wpList_store_row rfl 33 _ _ rfl gr _ rfl rfl 33 zs hRh.out infoAns (by rw [hz]; rfl) (by kernel_rfl) ?_)
    refine bodyPost_ret (results_cell_row rfl _ _ gr 33 _ (0, 0) _ rfl (Blk.setRow hRh.out _) uAns rfl infoAns) rfl ?_
    exact ans_no (a := noA 0) hbYh.out F0h.out.nil ((Fr.refl [gr] W).setRow (.inl (by simp)) _) (fun g hg => by simp at hg; rw [hg]; exact ⟨by simp, hgr0⟩) hmw rfl hres.out
  | true =>
    have hg := Lib.hid (show aget c.family b = some x.f by rw [hget.out, if_pos rfl])
    by_cases hcl1 : x.f.client = c.client
    · have hcb : (x.f.client.toList == c.client.toList) = true := by rw [toList_beq]; simp [hcl1]
      have hcle := Lib.hid hcl1
      have htok := token_t W x c.token c.serial (hxYh.out.mono (by simp)) (by have := hh.out.len8; omega)
      clear hcl1 c7 c9
      go_wp2_with (refine wpList_load_at rfl 39 _ rfl rfl hB (sub_self _) uFam rfl (infoFamL _) ?_; rw [Array.toArray_toList])
      refine htok.mono ?_
      rintro e V2 ⟨FV, hcase⟩
      have FVh := Lib.hid FV
      clear htok hcb c1 d2 d3 hcl hB hrl FV hfl
      rcases hcase with ⟨ht, rfl⟩ | ⟨t, ht, _, rfl⟩
      · have hth := Lib.hid ht
        clear ht
        unfold zeroIss
        go_upto_region 4 with (refine wpList_store_row rfl 55 _ _ rfl V2.heap.size _ rfl rfl 55 _ (Blk.new _ _ _) infoIss (by kernel_rfl) (by kernel_rfl) ?_)
        refine wp_gen (fun W2 => Fr [] W W2) (FVh.out.trans (((Fr.refl [] V2).alloc _).setRow (.inr (Nat.le_refl _)) _)) ?_
        rintro W2 F2
        have F2h := Lib.hid F2
        have hB2h := Lib.hid (hBh.out.fr F2 (by simp))
        have hR2h := Lib.hid (hRh.out.fr F2 (by simp))
        have hC2h := Lib.hid (hCh.out.fr F2 (by simp))
        obtain ⟨c0, c1, c2, c3, c4, c5, c6, c7, c8, c9, c10, hfl⟩ := fam_cells hB2h.out
        obtain ⟨d0, d1, d2, d3, d4, d5, d6, d7, d8, d9, d10, d11, d12, hcl⟩ := cmdV_cells hC2h.out
        have hrl2 := hR2h.out.lt
        have z9 := hB2h.out.frozen 9
        clear F2 c0 c1 c2 c3 c4 c5 c6 c8 c10 d0 d1 d4 d5 d6 d7 d8 d9 d10 d11 d12
        by_cases h1 : c.token = 1
        · have hb1 : (c.token == 1) = true := by rw [beq_iff_eq]; exact h1
          by_cases h2 : c.serial = 0
          · have hb2 : (c.serial == 0) = true := by rw [beq_iff_eq]; exact h2
            by_cases h3 : x.f.code = 0
            · have hb3 : (x.f.code != 0) = false := by rw [bne_eq_false_iff_eq]; exact h3
              have hres := Lib.hid (show revokeM c b = (b, ⟨0, 0, 0, [], nilB, nilB, false, x.f.revoked⟩) by
                unfold revokeM; rw [hg.out]; simp only; rw [if_neg (show ¬(x.f.client ≠ c.client) from fun h => h hcle.out), hth.out, if_neg (by simp [h3])])
              clear h1 h2 h3
              go_wp2_with (refine wpList_store_row rfl 33 _ _ rfl gr _ rfl rfl 33 zs hR2h.out infoAns (by rw [hz]; rfl) (by kernel_rfl) ?_)
              refine bodyPost_ret (results_cell_row rfl _ _ gr 33 _ (0, 0) _ rfl (Blk.setRow hR2h.out _) uAns rfl infoAns) rfl ?_
              exact ans_no (a := ⟨0, 0, 0, [], nilB, nilB, false, x.f.revoked⟩) (hbYh.out.fr F2h.out (by simp) (by simp)) (F0h.out.trans F2h.out).nil ((Fr.refl [gr] W2).setRow (.inl (by simp)) _) (fun g hg => by simp at hg; rw [hg]; exact ⟨by simp, hgr0⟩) hmw rfl hres.out
            · have hb3 : (x.f.code != 0) = true := by rw [bne_iff_ne]; exact h3
              have hres := Lib.hid (show revokeM c b = (fallM x.f b, ⟨0, 0, 0, [], nilB, nilB, false, true⟩) by
                unfold revokeM; rw [hg.out]; simp only; rw [if_neg (show ¬(x.f.client ≠ c.client) from fun h => h hcle.out), if_pos (.inr ⟨h1, h2, h3⟩)])
              clear h1 h2 h3
              go_upto_region 6 with (fail)
              have hB5 := hB2h.out.set 9 (.bool true)
              have F5 : Fr [gf] W2 (W2.setCell ⟨gf, 9, none⟩ (.bool true)) := (Fr.refl [gf] W2).setCell (p := ⟨gf, 9, none⟩) (.inl (by simp)) _
              have hB5' : Blk (W2.setCell ⟨gf, 9, none⟩ (.bool true)) gf 39 (FA.mk { x.f with revoked := true } x.sA x.sc x.tA x.tc x.ts x.lA x.lc).cells := hB5
              have hx5 : FamIn (W2.setCell ⟨gf, 9, none⟩ (.bool true)) (X ++ [gc, gf, gr]) (FA.mk { x.f with revoked := true } x.sA x.sc x.tA x.tc x.ts x.lA x.lc) := by
                have h := (hxYh.out.fr F2h.out.nil).fr (F5.mono (S' := X ++ [gc, gf, gr]) (by simp))
                exact ⟨h.ts, h.scope, h.toks, h.leases, h.each⟩
              have hb5 := (hbYh.out.fr F2h.out (by simp) (by simp)).fr F5 (fun g hg => .inl (by simp at hg; simp [hg])) (by simp; omega)
              have hP5 := (hPh.out.fr F2h.out (by simp)).fr F5 (by have := hh.out.hp.lt; have := hh.out.F0.size; simp; omega)
              have hR5 := (hRh.out.fr F2h.out (by simp)).fr F5 (by simp; omega)
              have FT5 := (F0h.out.trans F2h.out).andThen F5 (fun g hg => .inr (by simp at hg; omega))
              refine wp_gen (fun W5 => Blk W5 gf 39 (FA.mk { x.f with revoked := true } x.sA x.sc x.tA x.tc x.ts x.lA x.lc).cells ∧ FamIn W5 (X ++ [gc, gf, gr]) (FA.mk { x.f with revoked := true } x.sA x.sc x.tA x.tc x.ts x.lA x.lc) ∧ BkIn W5 mb (X ++ [gc, gf, gr]) b ∧ Blk W5 p 77 #[.map (some mb), .int .i64 room] ∧ Blk W5 gr 33 zs ∧ Fr [] w0 W5) ⟨hB5', hx5, hb5, hP5, hR5, FT5⟩ ?_
              clear hB5 F5 hB5' hx5 hb5 hP5 hR5 FT5 c9 z9 hfl
              rintro W5 ⟨hB5, hx5, hb5, hP5, hR5, FT5⟩
              have hfall := fall_t W5 p mb room (X ++ [gc, gf, gr]) b hP5 hb5 _ hx5 (List.mem_append.2 (.inl hh.out.hmb))
              have hB5h := Lib.hid hB5
              have hR5h := Lib.hid hR5
              have FT5h := Lib.hid FT5
              clear hx5 hb5 hP5 hR5 FT5
              go_wp2_with (refine wpList_load_at rfl 39 _ rfl rfl hB5 (sub_self _) uFam rfl (infoFamL _) ?_; rw [Array.toArray_toList])
              refine hfall.mono ?_
              rintro e W6 ⟨rfl, hb6, F6⟩
              have hB6 := hB5h.out.fr F6 (by simp; omega)
              have c9 := hB6.cell 9
              have hfl := hB6.lt
              unfold FA.cells at c9
              simp only [List.getElem?_toArray, List.getElem?_cons_zero, List.getElem?_cons_succ] at c9
              have hR6 := hR5h.out.fr F6 (by simp; omega)
              have hrl6 := hR6.lt
              have hb6h := Lib.hid hb6
              have FT6 := Lib.hid (FT5h.out.nil.trans F6)
              clear hb6 F6 hB6 hB5 hfall
              go_wp2_with (refine wpList_store_row rfl 33 _ _ rfl gr _ rfl rfl 33 zs hR6 infoAns (by rw [hz]; rfl) (by kernel_rfl) ?_)
              refine bodyPost_ret (results_cell_row rfl _ _ gr 33 _ (0, 0) _ rfl (Blk.setRow hR6 _) uAns rfl infoAns) rfl ?_
              exact ans_no (a := ⟨0, 0, 0, [], nilB, nilB, false, true⟩) hb6h.out FT6.out ((Fr.refl [gr] W6).setRow (.inl (by simp)) _) (fun g hg => by simp at hg; rw [hg]; exact ⟨by simp, hgr0⟩) hmw rfl hres.out
          · have hb2 : (c.serial == 0) = false := by rw [beq_eq_false_iff_ne]; exact h2
            have hres := Lib.hid (show revokeM c b = (b, ⟨0, 0, 0, [], nilB, nilB, false, x.f.revoked⟩) by
              unfold revokeM; rw [hg.out]; simp only; rw [if_neg (show ¬(x.f.client ≠ c.client) from fun h => h hcle.out), hth.out, if_neg (by simp [h2])])
            clear h1 h2
            go_wp2_with (refine wpList_store_row rfl 33 _ _ rfl gr _ rfl rfl 33 zs hR2h.out infoAns (by rw [hz]; rfl) (by kernel_rfl) ?_)
            refine bodyPost_ret (results_cell_row rfl _ _ gr 33 _ (0, 0) _ rfl (Blk.setRow hR2h.out _) uAns rfl infoAns) rfl ?_
            exact ans_no (a := ⟨0, 0, 0, [], nilB, nilB, false, x.f.revoked⟩) (hbYh.out.fr F2h.out (by simp) (by simp)) (F0h.out.trans F2h.out).nil ((Fr.refl [gr] W2).setRow (.inl (by simp)) _) (fun g hg => by simp at hg; rw [hg]; exact ⟨by simp, hgr0⟩) hmw rfl hres.out
        · have hb1 : (c.token == 1) = false := by rw [beq_eq_false_iff_ne]; exact h1
          have hres := Lib.hid (show revokeM c b = (b, ⟨0, 0, 0, [], nilB, nilB, false, x.f.revoked⟩) by
            unfold revokeM; rw [hg.out]; simp only; rw [if_neg (show ¬(x.f.client ≠ c.client) from fun h => h hcle.out), hth.out, if_neg (by simp [h1])])
          clear h1
          go_wp2_with (refine wpList_store_row rfl 33 _ _ rfl gr _ rfl rfl 33 zs hR2h.out infoAns (by rw [hz]; rfl) (by kernel_rfl) ?_)
          refine bodyPost_ret (results_cell_row rfl _ _ gr 33 _ (0, 0) _ rfl (Blk.setRow hR2h.out _) uAns rfl infoAns) rfl ?_
          exact ans_no (a := ⟨0, 0, 0, [], nilB, nilB, false, x.f.revoked⟩) (hbYh.out.fr F2h.out (by simp) (by simp)) (F0h.out.trans F2h.out).nil ((Fr.refl [gr] W2).setRow (.inl (by simp)) _) (fun g hg => by simp at hg; rw [hg]; exact ⟨by simp, hgr0⟩) hmw rfl hres.out
      · have hres := Lib.hid (show revokeM c b = (fallM x.f b, ⟨0, 0, 0, [], nilB, nilB, false, true⟩) by
          unfold revokeM; rw [hg.out]; simp only; rw [if_neg (show ¬(x.f.client ≠ c.client) from fun h => h hcle.out), ht, if_pos (.inl rfl)])
        clear ht
        unfold TA.val
        go_upto_region 4 with (refine wpList_store_row rfl 55 _ _ rfl V2.heap.size _ rfl rfl 55 _ (Blk.new _ _ _) infoIss (by kernel_rfl) (by kernel_rfl) ?_)
        refine wp_gen (fun W2 => Fr [] W W2) (FVh.out.trans (((Fr.refl [] V2).alloc _).setRow (.inr (Nat.le_refl _)) _)) ?_
        rintro W2 F2
        have F2h := Lib.hid F2
        have hB2h := Lib.hid (hBh.out.fr F2 (by simp))
        have hR2h := Lib.hid (hRh.out.fr F2 (by simp))
        have hC2h := Lib.hid (hCh.out.fr F2 (by simp))
        obtain ⟨c0, c1, c2, c3, c4, c5, c6, c7, c8, c9, c10, hfl⟩ := fam_cells hB2h.out
        obtain ⟨d0, d1, d2, d3, d4, d5, d6, d7, d8, d9, d10, d11, d12, hcl⟩ := cmdV_cells hC2h.out
        have hrl2 := hR2h.out.lt
        have z9 := hB2h.out.frozen 9
        clear F2 c0 c1 c2 c3 c4 c5 c6 c8 c10 d0 d1 d4 d5 d6 d7 d8 d9 d10 d11 d12
        go_upto_region 6 with (fail)
        have hB5 := hB2h.out.set 9 (.bool true)
        have F5 : Fr [gf] W2 (W2.setCell ⟨gf, 9, none⟩ (.bool true)) := (Fr.refl [gf] W2).setCell (p := ⟨gf, 9, none⟩) (.inl (by simp)) _
        have hB5' : Blk (W2.setCell ⟨gf, 9, none⟩ (.bool true)) gf 39 (FA.mk { x.f with revoked := true } x.sA x.sc x.tA x.tc x.ts x.lA x.lc).cells := hB5
        have hx5 : FamIn (W2.setCell ⟨gf, 9, none⟩ (.bool true)) (X ++ [gc, gf, gr]) (FA.mk { x.f with revoked := true } x.sA x.sc x.tA x.tc x.ts x.lA x.lc) := by
          have h := (hxYh.out.fr F2h.out.nil).fr (F5.mono (S' := X ++ [gc, gf, gr]) (by simp))
          exact ⟨h.ts, h.scope, h.toks, h.leases, h.each⟩
        have hb5 := (hbYh.out.fr F2h.out (by simp) (by simp)).fr F5 (fun g hg => .inl (by simp at hg; simp [hg])) (by simp; omega)
        have hP5 := (hPh.out.fr F2h.out (by simp)).fr F5 (by have := hh.out.hp.lt; have := hh.out.F0.size; simp; omega)
        have hR5 := (hRh.out.fr F2h.out (by simp)).fr F5 (by simp; omega)
        have FT5 := (F0h.out.trans F2h.out).andThen F5 (fun g hg => .inr (by simp at hg; omega))
        refine wp_gen (fun W5 => Blk W5 gf 39 (FA.mk { x.f with revoked := true } x.sA x.sc x.tA x.tc x.ts x.lA x.lc).cells ∧ FamIn W5 (X ++ [gc, gf, gr]) (FA.mk { x.f with revoked := true } x.sA x.sc x.tA x.tc x.ts x.lA x.lc) ∧ BkIn W5 mb (X ++ [gc, gf, gr]) b ∧ Blk W5 p 77 #[.map (some mb), .int .i64 room] ∧ Blk W5 gr 33 zs ∧ Fr [] w0 W5) ⟨hB5', hx5, hb5, hP5, hR5, FT5⟩ ?_
        clear hB5 F5 hB5' hx5 hb5 hP5 hR5 FT5 c9 z9 hfl
        rintro W5 ⟨hB5, hx5, hb5, hP5, hR5, FT5⟩
        have hfall := fall_t W5 p mb room (X ++ [gc, gf, gr]) b hP5 hb5 _ hx5 (List.mem_append.2 (.inl hh.out.hmb))
        have hB5h := Lib.hid hB5
        have hR5h := Lib.hid hR5
        have FT5h := Lib.hid FT5
        clear hx5 hb5 hP5 hR5 FT5
        go_wp2_with (refine wpList_load_at rfl 39 _ rfl rfl hB5 (sub_self _) uFam rfl (infoFamL _) ?_; rw [Array.toArray_toList])
        refine hfall.mono ?_
        rintro e W6 ⟨rfl, hb6, F6⟩
        have hB6 := hB5h.out.fr F6 (by simp; omega)
        have c9 := hB6.cell 9
        have hfl := hB6.lt
        unfold FA.cells at c9
        simp only [List.getElem?_toArray, List.getElem?_cons_zero, List.getElem?_cons_succ] at c9
        have hR6 := hR5h.out.fr F6 (by simp; omega)
        have hrl6 := hR6.lt
        have hb6h := Lib.hid hb6
        have FT6 := Lib.hid (FT5h.out.nil.trans F6)
        clear hb6 F6 hB6 hB5 hfall
        go_wp2_with (refine wpList_store_row rfl 33 _ _ rfl gr _ rfl rfl 33 zs hR6 infoAns (by rw [hz]; rfl) (by kernel_rfl) ?_)
        refine bodyPost_ret (results_cell_row rfl _ _ gr 33 _ (0, 0) _ rfl (Blk.setRow hR6 _) uAns rfl infoAns) rfl ?_
        exact ans_no (a := ⟨0, 0, 0, [], nilB, nilB, false, true⟩) hb6h.out FT6.out ((Fr.refl [gr] W6).setRow (.inl (by simp)) _) (fun g hg => by simp at hg; rw [hg]; exact ⟨by simp, hgr0⟩) hmw rfl hres.out
    · have hcb : (x.f.client.toList == c.client.toList) = false := by rw [toList_beq]; simp [hcl1]
      have hres := Lib.hid (show revokeM c b = (b, noA 0) by unfold revokeM; rw [hg.out]; simp only; rw [if_pos hcl1])
      clear hcl1
      go_wp2_with (refine wpList_store_row rfl 33 _ _ rfl gr _ rfl rfl 33 zs hRh.out infoAns (by rw [hz]; rfl) (by kernel_rfl) ?_)
      refine bodyPost_ret (results_cell_row rfl _ _ gr 33 _ (0, 0) _ rfl (Blk.setRow hRh.out _) uAns rfl infoAns) rfl ?_
      exact ans_no (a := noA 0) hbYh.out F0h.out.nil ((Fr.refl [gr] W).setRow (.inl (by simp)) _) (fun g hg => by simp at hg; rw [hg]; exact ⟨by simp, hgr0⟩) hmw rfl hres.out
end Go.Proofs.YtdeoinjjphdbmaaGreat
