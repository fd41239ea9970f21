/- Walks: methods by their names; what may be a challenge. Conditions: each theorem's own. -/
import Derived.Test.YtdeoinjjphdbmaaGreatGf
namespace Go.Proofs.YtdeoinjjphdbmaaGreat
open Go.RowKit Go.Sig

def methA : Value := .agg #[.string sPlain, .func (.func 115) #[] #[], .func (.func 109) #[] #[]]
def methB : Value := .agg #[.string sS256, .func (.func 116) #[] #[], .func (.func 119) #[] #[]]
def methN : Value := .agg #[.string ⟨#[]⟩, .nilFunc, .nilFunc]
/-- What find tells. -/
def FindPost (w : World) (name : ByteArray) (e : Ending) (w' : World) : Prop :=
  Fr [] w w' ∧ ((name = sPlain ∧ e = .returned (.tuple #[methA, .bool true])) ∨ (name = sS256 ∧ e = .returned (.tuple #[methB, .bool true])) ∨ (name ≠ sPlain ∧ name ≠ sS256 ∧ e = .returned (.tuple #[methN, .bool false])))
theorem uMeth : Tryz.prog.underlying 129 = some (.struct (Tryz.prog.fieldsOf 129)) := by kernel_rfl
theorem infoMeth {a b c : Value} : (Tryz.prog.info? 129).map (·.size) = some (#[a, b, c] : Array Value).size := by kernel_rfl
theorem results_meth {fn : Func} {p q : Tmp} (h : fn.results = #[.cell p 129, .tmp q]) (tmps : Array Value) (w : World) (g : Nat) (t : TypeId) (x y z : Value)
    (hp : tmps.getD p undef = .pointer (some ⟨g, 0, none⟩)) (hg : w.heap[g]? = some (.cells #[x, y, z] t (0, 0))) :
    (results fn tmps).run Tryz.prog w = .ok (.tuple #[.agg #[x, y, z], tmps.getD q undef]) w := by
  have hp' : tmps[p]?.getD undef = .pointer (some ⟨g, 0, none⟩) := by simpa using hp
  have hl := run_loadVar_row w g t 129 #[x, y, z] (0, 0) _ hg uMeth rfl infoMeth
  simp [results, h, hp', asAddr, hl]
set_option maxRecDepth 100000 in
set_option maxHeartbeats 4000000 in
theorem find_t (w : World) (name : ByteArray) : Calls Tryz.prog 101 #[.string name] w (FindPost w name) := by
  go_enter Tryz.func101, Tryz.ntmps101
  go_upto_region 1 with (fail)
  refine wp_gen (fun W => (∃ zs, Blk W w.heap.size 129 zs ∧ zs.size = 3) ∧ Fr [] w W) ⟨⟨_, Blk.new _ _ _, by kernel_rfl⟩, (Fr.refl _ _).alloc _⟩ ?_
  rintro W ⟨⟨zs, hR, hz⟩, fW⟩
  obtain ⟨gr, HGR⟩ : ∃ z, Hid (w.heap.size = z) := ⟨_, Lib.hid rfl⟩
  rw [HGR.out] at hR ⊢
  go_upto_block 0 with (fail)
  refine wp_gen (fun W2 => (∃ ty, Blk W2 W.heap.size ty #[.string sPlain, .func (.func 115) #[] #[], .func (.func 109) #[] #[], .string sS256, .func (.func 116) #[] #[], .func (.func 119) #[] #[]]) ∧ Fr [] W W2) ⟨⟨_, Blk.new _ _ _⟩, (Fr.refl _ _).alloc _⟩ ?_
  rintro W2 ⟨⟨ty, hS⟩, f2⟩
  obtain ⟨gs, HGS⟩ : ∃ z, Hid (W.heap.size = z) := ⟨_, Lib.hid rfl⟩
  obtain ⟨pl, hpl⟩ : ∃ z, Hid (sPlain = z) := ⟨_, Lib.hid rfl⟩
  obtain ⟨qs, hqs⟩ : ∃ z, Hid (sS256 = z) := ⟨_, Lib.hid rfl⟩
  rw [HGS.out, hpl.out, hqs.out] at hS
  rw [HGS.out]
  have hR2 := hR.fr f2 (by simp)
  have fw2 := Lib.hid (fW.trans f2)
  have hcells := Lib.hid (fun (W3 : World) (hF : Fr [] W2 W3) => show W3.cell? ⟨gs, 0, none⟩ = some (.string pl) ∧ W3.cell? ⟨gs, 1, none⟩ = some (.func (.func 115) #[] #[]) ∧ W3.cell? ⟨gs, 2, none⟩ = some (.func (.func 109) #[] #[]) ∧ W3.cell? ⟨gs, 3, none⟩ = some (.string qs) ∧ W3.cell? ⟨gs, 4, none⟩ = some (.func (.func 116) #[] #[]) ∧ W3.cell? ⟨gs, 5, none⟩ = some (.func (.func 119) #[] #[]) ∧ gs < W3.heap.size by
    have h := hS.fr hF (by simp)
    exact ⟨h.cell 0, h.cell 1, h.cell 2, h.cell 3, h.cell 4, h.cell 5, h.lt⟩)
  obtain ⟨c0, c1, c2, c3, c4, c5, hgl⟩ := hcells.out W2 (Fr.refl _ _)
  clear hR hS fW f2
  go_wp2_with fail
  refine wp_loop_rounds 3 ?_
  rw [rounds_succ]
  go_upto_region 4 with (refine wpList_store_row rfl 129 _ _ rfl W2.heap.size #[.string pl, .func (.func 115) #[] #[], .func (.func 109) #[] #[]] rfl rfl 129 _ (Blk.new _ _ _) infoMeth (by kernel_rfl) (by kernel_rfl) ?_)
  refine wp_gen (fun W3 => Blk W3 W2.heap.size 129 #[.string pl, .func (.func 115) #[] #[], .func (.func 109) #[] #[]] ∧ Fr [] W2 W3) ⟨Blk.setRow (Blk.new _ _ _) _, ((Fr.refl _ _).alloc _).setRow (.inr (Nat.le_refl _)) _⟩ ?_
  rintro W3 ⟨hM, f3⟩
  obtain ⟨gm, HGM⟩ : ∃ z, Hid (W2.heap.size = z) := ⟨_, Lib.hid rfl⟩
  rw [HGM.out] at hM ⊢
  have hR3 := hR2.fr f3 (by simp)
  obtain ⟨e0, e1, e2⟩ := hM.c3
  have hgl := hM.lt
  have hrl := hR3.lt
  have h1 := toList_beq pl name
  have h2 := toList_beq qs name
  by_cases hp : pl = name
  · rw [decide_eq_true hp] at h1
    have hph := Lib.hid hp
    clear hp h2
    go_wp2_with (refine wpList_store_row rfl 129 _ _ rfl gr #[.string pl, .func (.func 115) #[] #[], .func (.func 109) #[] #[]] rfl rfl 129 zs hR3 infoMeth (by rw [hz]; rfl) (by kernel_rfl) ?_)
    refine bodyPost_ret (v := .tuple #[methA, .bool true]) ?_ rfl ⟨(fw2.out.trans f3).setRow (.inr (Nat.le_of_eq HGR.out)) _, .inl ⟨by rw [hpl.out]; exact hph.out.symm, rfl⟩⟩
    unfold methA
    rw [hpl.out]
    refine (results_meth (p := 2) (q := 3) ?_ _ _ gr 129 _ _ _ ?_ (Blk.setRow hR3 _)).trans ?_ <;> rfl
  · rw [decide_eq_false hp] at h1
    have hph := Lib.hid hp
    have f3h := Lib.hid (fw2.out.trans f3)
    obtain ⟨c0, c1, c2, c3, c4, c5, hgl2⟩ := hcells.out W3 f3
    clear hp
    go_wp2_with fail
    rw [rounds_succ]
    go_upto_region 4 with (refine wpList_store_row rfl 129 _ _ rfl W3.heap.size #[.string qs, .func (.func 116) #[] #[], .func (.func 119) #[] #[]] rfl rfl 129 _ (Blk.new _ _ _) infoMeth (by kernel_rfl) (by kernel_rfl) ?_)
    refine wp_gen (fun W4 => Blk W4 W3.heap.size 129 #[.string qs, .func (.func 116) #[] #[], .func (.func 119) #[] #[]] ∧ Fr [] W3 W4) ⟨Blk.setRow (Blk.new _ _ _) _, ((Fr.refl _ _).alloc _).setRow (.inr (Nat.le_refl _)) _⟩ ?_
    rintro W4 ⟨hM4, f4⟩
    obtain ⟨g4, HG4⟩ : ∃ z, Hid (W3.heap.size = z) := ⟨_, Lib.hid rfl⟩
    rw [HG4.out] at hM4 ⊢
    have hR4 := hR3.fr f4 (by simp)
    obtain ⟨e0, e1, e2⟩ := hM4.c3
    have hgl := hM4.lt
    have hrl := hR4.lt
    have f4h := Lib.hid (f3h.out.trans f4)
    clear h1
    by_cases hq : qs = name
    · rw [decide_eq_true hq] at h2
      have hqh := Lib.hid hq
      clear hq
      go_wp2_with (refine wpList_store_row rfl 129 _ _ rfl gr #[.string qs, .func (.func 116) #[] #[], .func (.func 119) #[] #[]] rfl rfl 129 zs hR4 infoMeth (by rw [hz]; rfl) (by kernel_rfl) ?_)
      refine bodyPost_ret (v := .tuple #[methB, .bool true]) ?_ rfl ⟨f4h.out.setRow (.inr (Nat.le_of_eq HGR.out)) _, .inr (.inl ⟨by rw [hqs.out]; exact hqh.out.symm, rfl⟩)⟩
      unfold methB
      rw [hqs.out]
      refine (results_meth (p := 2) (q := 3) ?_ _ _ gr 129 _ _ _ ?_ (Blk.setRow hR4 _)).trans ?_ <;> rfl
    · rw [decide_eq_false hq] at h2
      have hqh := Lib.hid hq
      clear hq
      go_wp2_with fail
      rw [rounds_succ]
      go_wp2_with (refine wpList_store_row rfl 129 _ _ rfl gr #[.string ⟨#[]⟩, .nilFunc, .nilFunc] rfl rfl 129 zs hR4 infoMeth (by rw [hz]; rfl) (by kernel_rfl) ?_)
      refine bodyPost_ret (v := .tuple #[.agg #[.string ⟨#[]⟩, .nilFunc, .nilFunc], .bool false]) ?_ rfl ⟨f4h.out.setRow (.inr (Nat.le_of_eq HGR.out)) _, .inr (.inr ⟨by rw [hpl.out]; exact fun e => hph.out e.symm, by rw [hqs.out]; exact fun e => hqh.out e.symm, rfl⟩)⟩
      refine (results_meth (p := 2) (q := 3) ?_ _ _ gr 129 _ _ _ ?_ (Blk.setRow hR4 _)).trans ?_ <;> rfl
end Go.Proofs.YtdeoinjjphdbmaaGreat
