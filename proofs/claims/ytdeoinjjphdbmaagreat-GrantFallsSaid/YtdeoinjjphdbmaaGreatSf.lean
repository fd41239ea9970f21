/- Walks of the hash: All, Sum, and a hash that is told bytes. Conditions: each theorem's own. -/
import Derived.Test.YtdeoinjjphdbmaaGreatSe
namespace Go.Proofs.YtdeoinjjphdbmaaGreat
open Go.RowKit Go.Sig

/-- A part: where its bytes lie, and they. -/
abbrev Part := (Option Addr × Nat × Nat) × List UInt8
def Part.val (p : Part) : Value := .slice p.1.1 p.1.2.1 p.1.2.2
def Part.Ok (w : World) (p : Part) : Prop := Byts w p.1.1 p.1.2.1 p.2 ∧ p.1.2.1 ≤ p.1.2.2
theorem Part.Ok.fr {w w' : World} {p : Part} {S : List Nat} (h : p.Ok w) (hf : Fr S w w') (hS : ∀ x, x ∈ S → w.heap.size ≤ x) : p.Ok w' := by
  refine ⟨Rd.fr h.1 hf fun h0 ad e hx => ?_, h.2⟩
  have h1 := Rd.lt h.1 (by decide) h0 ad e
  have h2 := hS _ hx
  omega
theorem part_one (ps : List Part) : ∀ u ∈ ps.map Part.val, u.oneCell' = true := by
  intro u hu
  obtain ⟨_, _, rfl⟩ := List.mem_map.1 hu
  rfl
theorem tBss : Tryz.prog.underlying 191 = some (.slice 119) := by kernel_rfl
theorem infoStateL {cs : Array Value} (h : cs.size = 73) : (Tryz.prog.info? 194).map (·.size) = some cs.toList.length := by rw [Array.length_toList, h]; kernel_rfl
theorem infoStateA {cs : Array Value} (h : cs.size = 73) : (Tryz.prog.info? 194).map (·.size) = some cs.size := by rw [h]; kernel_rfl
theorem sub_self (cs : Array Value) : Sub cs 0 cs.toList := by
  intro j v hv
  simpa using hv

set_option maxRecDepth 100000 in
set_option maxHeartbeats 4000000 in
theorem all_t (w : World) (A : Option Addr) (n c : Nat) (ps : List Part) (h62 : n ≤ 150000000000000) (hb : Rd w 1 A n (ps.map Part.val)) (hps : ∀ p ∈ ps, p.Ok w) (hmax : (ps.flatMap (·.2)).length ≤ 150000000000000) :
   Calls Tryz.prog 139 #[.slice A n c] w fun e w' => e = .returned (.agg (digCells (sha (ps.flatMap (·.2))))) ∧ Fr [] w w' := by
  have hn : ps.length = n := by have := hb.1; simpa using this
  go_enter Tryz.func139, Tryz.ntmps139
  go_upto_region 1 with (fail)
  refine wp_gen (fun W => (∃ zs, Blk W w.heap.size 149 zs ∧ zs.size = 32) ∧ Fr [] w W) ⟨⟨_, Blk.new _ _ _, rfl⟩, (Fr.refl _ _).alloc _⟩ ?_
  rintro W ⟨⟨zs, hD, hz⟩, fW⟩
  obtain ⟨gd, HGD⟩ : ∃ x, Hid (w.heap.size = x) := ⟨_, Lib.hid rfl⟩
  rw [HGD.out] at hD ⊢
  go_wp2_with fail
  refine (begun_t W).mono ?_
  rintro _ W1 ⟨rfl, F1⟩
  have hD1 := hD.fr F1 (by simp)
  have f1 := fW.trans F1
  go_wp2_with (refine wpList_store_row rfl 194 _ _ rfl W1.heap.size initCells rfl rfl 194 Tryz.zeroCells194 (Blk.new W1 194 _) infoState zState initOne ?_)
  refine wp_gen (fun W2 => StIn W2 W1.heap.size 194 [] ∧ Fr [] W1 W2) ⟨⟨initCells, Blk.setRow (Blk.new W1 194 _) _, st_init⟩, ((Fr.refl _ _).alloc _).setRow (.inr (Nat.le_refl _)) _⟩ ?_
  rintro W2 ⟨S2, F2⟩
  have hD2 := hD1.fr F2 (by simp)
  have f2 := f1.trans F2
  have hgdl := hD1.lt
  obtain ⟨g, HG⟩ : ∃ x, Hid (W1.heap.size = x) := ⟨_, Lib.hid rfl⟩
  have hgw : w.heap.size ≤ g := by rw [← HG.out]; exact f1.size
  rw [HG.out] at S2 hgdl ⊢
  clear hD hD1 F1 fW F2 f1
  have hb2 := Rd.fr hb f2 (fun _ => by simp [Off])
  have hps2 : ∀ p ∈ ps, p.Ok W2 := fun p hp => (hps p hp).fr f2 (by simp)
  have hW2 := S2.lt
  have hAg : 0 < n → Off [g] A := fun h0 ad e => by
    have := Rd.lt hb (by decide) h0 ad e
    simp
    omega
  have hpg : ∀ p ∈ ps, 0 < p.1.2.1 → Off [g] p.1.1 := fun p hp h0 ad e => by
    have := Rd.lt (hps p hp).1 (by decide) h0 ad e
    simp
    omega
  go_loopg [5, 9] (n + 1) (fun k s5 s9 wr => ∃ (i : Nat), s9 = .int .i64 i ∧ i ≤ n ∧ n - i < k ∧ StIn wr g 194 ((ps.take i).flatMap (·.2)) ∧ Fr [g] W2 wr)
  case atStart => exact ⟨0, rfl, by omega, by omega, by simpa using S2, Fr.refl _ _⟩
  case round =>
    clear S2
    obtain ⟨i, rfl, hi, hk, S3, F3⟩ := hrel
    by_cases hlt : i < n
    · have hlt' : (i : Int) < n := by omega
      have hlth := Lib.hid hlt
      have hbr := Rd.fr hb2 F3 hAg
      obtain ⟨b, o, rfl, hc⟩ := hbr.2 (by omega)
      have hi' : i < ps.length := by omega
      have hci := hc i (ps[i].val) (by rw [List.getElem?_map, List.getElem?_eq_getElem hi']; rfl)
      have hp := hps2 ps[i] (List.getElem_mem hi')
      have hpr := Rd.fr hp.1 F3 (hpg _ (List.getElem_mem hi'))
      have hpo := hpg ps[i] (List.getElem_mem hi')
      have htot : ((ps.take i).flatMap (·.2)).length + ps[i].1.2.1 ≤ 4611686018427387904 := by
        have e : ps.flatMap (·.2) = (ps.take i).flatMap (·.2) ++ (ps.drop i).flatMap (·.2) := by rw [← List.flatMap_append, List.take_append_drop]
        have e2 : ps.drop i = ps[i] :: ps.drop (i + 1) := List.drop_eq_getElem_cons hi'
        have e3 := Byts.length hp.1
        rw [e, e2, List.flatMap_cons] at hmax
        simp only [List.length_append] at hmax
        omega
      have htk : ps.take (i + 1) = ps.take i ++ [ps[i]] := by rw [List.take_succ_eq_append_getElem hi']
      have htkh := Lib.hid htk
      clear htk hc
      have hpc := hp.2
      obtain ⟨p, hpp⟩ : ∃ x, Hid (ps[i] = x) := ⟨_, Lib.hid rfl⟩
      rw [hpp.out] at hci hpr hpo htot htkh hpc
      obtain ⟨⟨B, m, d⟩, l⟩ := p
      unfold Part.val at hci
      simp only at hci hpr hpo htot hpc
      have hgl3 := S3.lt
      go_wp2_with fail
      refine (write_t wr g 194 _ l B m d S3 hpr hpo hpc htot).mono ?_
      rintro _ w4 ⟨rfl, F4, S4⟩
      go_wp2
      go_roundg (n - i)
      case measure => omega
      case rel =>
        refine ⟨i + 1, by go_num, by have := hlth.out; omega, by have := hlth.out; omega, ?_, F3.trans F4⟩
        rw [htkh.out, List.flatMap_append]
        simpa using S4
    · have hin : i = n := by omega
      subst hin
      rw [List.take_of_length_le (Nat.le_of_eq hn)] at S3
      have hD3 := hD2.fr F3 (by simp; omega)
      have f3 : Fr [] w wr := f2.andThen F3 (fun x hx => .inr (by simp at hx; omega))
      obtain ⟨cs, hB3, hO3⟩ := S3
      obtain ⟨L, HL⟩ : ∃ x, Hid (ps.flatMap (·.2) = x) := ⟨_, Lib.hid rfl⟩
      rw [HL.out] at hO3 hmax
      have hge : ¬ (i : Int) < i := by omega
      clear hlt hk
      go_wp2_with (first | (refine wpList_load_at rfl 194 _ rfl rfl hB3 (sub_self cs) uState rfl (infoStateL hO3.1) ?_; rw [Array.toArray_toList]) | fail)
      refine (sum_t wr L cs hO3 hmax).mono ?_
      rintro _ w5 ⟨rfl, F5⟩
      have hD5 := hD3.fr F5 (by simp)
      have hlen := sha_length L
      obtain ⟨D, HDD⟩ : ∃ x, Hid (sha L = x) := ⟨_, Lib.hid rfl⟩
      rw [HDD.out] at hlen ⊢
      go_wp2_with (refine wpList_store_row rfl 149 _ _ rfl gd (digCells D) rfl rfl 149 zs hD5 (infoDigA hlen) (by rw [hz, digCells_size hlen]) (digCells_one D) ?_)
      exact bodyPost_ret (v := .agg (digCells D)) (results_cell_row rfl _ _ gd 149 (digCells D) (0, 0) _ rfl (Blk.setRow hD5 _) uDig rfl (infoDigA hlen)) rfl ⟨by rw [HL.out, HDD.out], (f3.trans F5).setRow (.inr (by have := HGD.out; omega)) _⟩

theorem sum1_t (w : World) (A : Option Addr) (n c : Nat) (l : List UInt8) (hb : Byts w A n l) (hc : n ≤ c) (hmax : n ≤ 150000000000000) :
   Calls Tryz.prog 117 #[.slice A n c] w fun e w' => e = .returned (.agg (digCells (sha l))) ∧ Fr [] w w' := by
  have hlb := hb.length
  go_enter Tryz.func117, Tryz.ntmps117
  go_upto_region 1 with (fail)
  refine wp_gen (fun W => (∃ zs, Blk W w.heap.size 149 zs ∧ zs.size = 32) ∧ Fr [] w W) ⟨⟨_, Blk.new _ _ _, rfl⟩, (Fr.refl _ _).alloc _⟩ ?_
  rintro W ⟨⟨zs, hD, hz⟩, fW⟩
  obtain ⟨gd, HGD⟩ : ∃ x, Hid (w.heap.size = x) := ⟨_, Lib.hid rfl⟩
  rw [HGD.out] at hD ⊢
  go_wp2_with fail
  have F2 : Fr [] W (W.alloc (.cells #[.slice A n c] 119)) := (Fr.refl _ _).alloc _
  have hR : Rd (W.alloc (.cells #[.slice A n c] 119)) 1 (some ⟨W.heap.size, 0, none⟩) 1 ([(((A, n, c), l) : Part)].map Part.val) :=
    ⟨rfl, fun _ => ⟨_, 0, rfl, fun j u hu => by
      rw [Nat.zero_add, (Blk.new W 119 #[.slice A n c]).cell]
      have hj : j = 0 := by have := (List.getElem?_eq_some_iff.1 hu).1; simp at this; omega
      subst hj
      simpa [Part.val] using hu⟩⟩
  refine (all_t _ _ 1 1 [((A, n, c), l)] (by decide) hR (fun p hp => ?_) (by simp; omega)).mono ?_
  · simp at hp
    subst hp
    exact ⟨Rd.fr (Rd.fr hb fW (by simp [Off])) F2 (by simp [Off]), hc⟩
  rintro _ w3 ⟨rfl, F3⟩
  have hD3 := (hD.fr F2 (by simp)).fr F3 (by simp)
  have f3 := (fW.trans F2).trans F3
  have e : List.flatMap (fun (x : Part) => x.2) [((A, n, c), l)] = l := by simp
  rw [e]
  have hlen := sha_length l
  obtain ⟨D, HDD⟩ : ∃ x, Hid (sha l = x) := ⟨_, Lib.hid rfl⟩
  rw [HDD.out] at hlen ⊢
  go_wp2_with (refine wpList_store_row rfl 149 _ _ rfl gd (digCells D) rfl rfl 149 zs hD3 (infoDigA hlen) (by rw [hz, digCells_size hlen]) (digCells_one D) ?_)
  exact bodyPost_ret (v := .agg (digCells D)) (results_cell_row rfl _ _ gd 149 (digCells D) (0, 0) _ rfl (Blk.setRow hD3 _) uDig rfl (infoDigA hlen)) rfl ⟨by rw [HDD.out], f3.setRow (.inr (by have := HGD.out; omega)) _⟩
end Go.Proofs.YtdeoinjjphdbmaaGreat
