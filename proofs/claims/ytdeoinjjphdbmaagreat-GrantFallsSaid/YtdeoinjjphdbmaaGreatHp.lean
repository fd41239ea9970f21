/- Walks: the document's 'the same?', at what is the same. Conditions: each theorem's own. -/
import Derived.Test.YtdeoinjjphdbmaaGreatHk
namespace Go.Proofs.YtdeoinjjphdbmaaGreat
open Go.RowKit Go.Sig

set_option maxRecDepth 100000 in
set_option maxHeartbeats 2000000 in
theorem rsames_t (w : World) (A B : Option Addr) (n c d : Nat) (a : List ByteArray) (hA : Rd w 1 A n (strCells a)) (hn : a.length = n) (hB : Rd w 1 B n (strCells a)) (hmax : n ≤ 1048576) :
   Calls Tryz.prog 29 #[.slice A n c, .slice B n d] w fun e w' => e = .returned (.bool true) ∧ Fr [] w w' := by
  go_enter Tryz.func29, Tryz.ntmps29
  go_wp2_with fail
  go_loopg [5] (n + 1) (fun gk s5 wr => ∃ (i : Nat), s5 = .int .i64 i ∧ i ≤ n ∧ n - i < gk ∧ Fr [] w wr)
  case atStart => exact ⟨0, rfl, by omega, by omega, Fr.refl _ _⟩
  case round =>
    obtain ⟨i, rfl, hi, hk, hF⟩ := hrel
    have hFh := Lib.hid hF
    by_cases hlt : i < n
    · have hlt' : (i : Int) < n := by omega
      have hlth := Lib.hid hlt
      have ha' : i < a.length := by omega
      have hAr := Rd.fr hA hF (by simp [Off])
      have hBr := Rd.fr hB hF (by simp [Off])
      obtain ⟨ba, oa, rfl, hcella⟩ := hAr.2 (by omega)
      obtain ⟨bb, ob, rfl, hcellb⟩ := hBr.2 (by omega)
      have hpa : (strCells a)[i]? = some (.string a[i]) := by unfold strCells; rw [List.getElem?_map, List.getElem?_eq_getElem ha']; rfl
      have cn := hcella _ _ hpa
      have dn := hcellb _ _ hpa
      clear hpa hcella hcellb hA hB hAr hBr hF
      obtain ⟨y, hy⟩ : ∃ z, Hid (a[i] = z) := ⟨_, Lib.hid rfl⟩
      rw [hy.out] at cn dn
      have h1 := toList_beq y y
      rw [decide_eq_true rfl] at h1
      go_upto_region 6 with (fail)
      go_quiet (fail)
      go_wp2
      go_roundg (n - i)
      case measure => omega
      case rel => exact ⟨i + 1, by go_num, by have := hlth.out; omega, by have := hlth.out; omega, hFh.out.drewN _⟩
    · have hin : i = n := by omega
      have hge : ¬ (i : Int) < n := by omega
      clear hlt hk hF
      go_wp2
      go_ret
      exact ⟨rfl, hFh.out⟩
set_option maxRecDepth 100000 in
set_option maxHeartbeats 2000000 in
theorem rints_t (w : World) (A B : Option Addr) (n c d : Nat) (a : List Int) (hA : Rd w 1 A n (intCells a)) (hn : a.length = n) (hB : Rd w 1 B n (intCells a)) (hmax : n ≤ 1048576) :
   Calls Tryz.prog 52 #[.slice A n c, .slice B n d] w fun e w' => e = .returned (.bool true) ∧ Fr [] w w' := by
  go_enter Tryz.func52, Tryz.ntmps52
  go_wp2_with fail
  go_loopg [5] (n + 1) (fun gk s5 wr => ∃ (i : Nat), s5 = .int .i64 i ∧ i ≤ n ∧ n - i < gk ∧ Fr [] w wr)
  case atStart => exact ⟨0, rfl, by omega, by omega, Fr.refl _ _⟩
  case round =>
    obtain ⟨i, rfl, hi, hk, hF⟩ := hrel
    have hFh := Lib.hid hF
    by_cases hlt : i < n
    · have hlt' : (i : Int) < n := by omega
      have hlth := Lib.hid hlt
      have ha' : i < a.length := by omega
      have hAr := Rd.fr hA hF (by simp [Off])
      have hBr := Rd.fr hB hF (by simp [Off])
      obtain ⟨ba, oa, rfl, hcella⟩ := hAr.2 (by omega)
      obtain ⟨bb, ob, rfl, hcellb⟩ := hBr.2 (by omega)
      have hpa : (intCells a)[i]? = some (.int .i64 a[i]) := intCells_at ha'
      have cn := hcella _ _ hpa
      have dn := hcellb _ _ hpa
      clear hpa hcella hcellb hA hB hAr hBr hF
      obtain ⟨y, hy⟩ : ∃ z, Hid (a[i] = z) := ⟨_, Lib.hid rfl⟩
      rw [hy.out] at cn dn
      have h1 : (y == y) = true := beq_self_eq_true y
      go_upto_region 6 with (fail)
      go_quiet (fail)
      go_wp2
      go_roundg (n - i)
      case measure => omega
      case rel => exact ⟨i + 1, by go_num, by have := hlth.out; omega, by have := hlth.out; omega, hFh.out.drewN _⟩
    · have hin : i = n := by omega
      have hge : ¬ (i : Int) < n := by omega
      clear hlt hk hF
      go_wp2
      go_ret
      exact ⟨rfl, hFh.out⟩
set_option maxRecDepth 100000 in
set_option maxHeartbeats 2000000 in
theorem rtoks_t (w : World) (A B : Option Addr) (n c d : Nat) (a b : List TA) (hA : Rd w 3 A n (tokCells a)) (hn : a.length = n) (hB : Rd w 3 B n (tokCells b)) (hab : a.map (·.tok) = b.map (·.tok)) (hmax : n ≤ 1048576)
    (ha : ∀ t ∈ a, Rd w 1 t.A t.tok.scope.length (strCells t.tok.scope)) (hb : ∀ t ∈ b, Rd w 1 t.A t.tok.scope.length (strCells t.tok.scope)) (hs : ∀ t ∈ a, t.tok.scope.length ≤ 1048576) :
   Calls Tryz.prog 51 #[.slice A n c, .slice B n d] w fun e w' => e = .returned (.bool true) ∧ Fr [] w w' := by
  have hah := Lib.hid ha
  have hbh := Lib.hid hb
  have hsh := Lib.hid hs
  have habh := Lib.hid hab
  have hAh := Lib.hid hA
  have hBh := Lib.hid hB
  clear ha hb hs hab hA hB
  go_enter Tryz.func51, Tryz.ntmps51
  go_wp2_with fail
  go_loopg [5] (n + 1) (fun gk s5 wr => ∃ (i : Nat), s5 = .int .i64 i ∧ i ≤ n ∧ n - i < gk ∧ Fr [] w wr)
  case atStart => exact ⟨0, rfl, by omega, by omega, Fr.refl _ _⟩
  case round =>
    obtain ⟨i, rfl, hi, hk, hF⟩ := hrel
    have hFh := Lib.hid hF
    by_cases hlt : i < n
    · have hlt' : (i : Int) < n := by omega
      have hlth := Lib.hid hlt
      have ha' : i < a.length := by omega
      have hbl : b.length = n := by have := congrArg List.length habh.out; simpa [hn] using this.symm
      have hb' : i < b.length := by omega
      have hAr := Rd.fr hAh.out hF (by simp [Off])
      have hBr := Rd.fr hBh.out hF (by simp [Off])
      have hsa := Lib.hid (Rd.fr (hah.out _ (List.getElem_mem ha')) hF (by simp [Off]))
      have hsb := Rd.fr (hbh.out _ (List.getElem_mem hb')) hF (by simp [Off])
      have hsl := hsh.out _ (List.getElem_mem ha')
      have hte : a[i].tok = b[i].tok := by
        have h1 := congrArg (fun l => l[i]?) habh.out
        simpa [List.getElem?_eq_getElem ha', List.getElem?_eq_getElem hb'] using h1
      rw [← hte] at hsb
      have hsbh := Lib.hid hsb
      obtain ⟨ba, oa, rfl, hcella⟩ := hAr.2 (by omega)
      obtain ⟨bb, ob, rfl, hcellb⟩ := hBr.2 (by omega)
      obtain ⟨p0, p1, p2⟩ := tokCells_at ha'
      obtain ⟨q0, q1, q2⟩ := tokCells_at hb'
      rw [← hte] at q0 q1 q2
      have c0 := hcella _ _ p0
      have c1 := hcella _ _ p1
      have c2 := hcella _ _ p2
      have e0 := hcellb _ _ q0
      have e1 := hcellb _ _ q1
      have e2 := hcellb _ _ q2
      rw [← Nat.add_assoc] at c1 c2 e1 e2
      clear p0 p1 p2 q0 q1 q2 hcella hcellb hAr hBr hF hte hsb
      obtain ⟨x, hx⟩ : ∃ z, Hid (a[i] = z) := ⟨_, Lib.hid rfl⟩
      obtain ⟨y, hy⟩ : ∃ z, Hid (b[i] = z) := ⟨_, Lib.hid rfl⟩
      rw [hx.out] at c0 c1 c2 e0 e1 e2 hsl hsa hsbh
      rw [hy.out] at e1 hsbh
      obtain ⟨⟨kd, sc, us⟩, xA, xc⟩ := x
      obtain ⟨yt, yA, yc⟩ := y
      dsimp only at c0 c1 c2 e0 e1 e2 hsl hsa hsbh
      have h1 : (kd == kd) = true := beq_self_eq_true kd
      have h2 : (us == us) = true := beq_self_eq_true us
      clear hx hy
      have hsame := fun v : World => rsames_t v xA yA sc.length xc yc sc
      go_upto_region 6 with (fail)
      refine wp_region_z (fun w' => w'.cell? ⟨ba, oa + i * 3, none⟩ = some (.int .i64 kd) ∧ w'.cell? ⟨ba, oa + i * 3 + 1, none⟩ = some (.slice xA sc.length xc) ∧ w'.cell? ⟨ba, oa + i * 3 + 2, none⟩ = some (.bool us) ∧ w'.cell? ⟨bb, ob + i * 3, none⟩ = some (.int .i64 kd) ∧ w'.cell? ⟨bb, ob + i * 3 + 1, none⟩ = some (.slice yA sc.length yc) ∧ w'.cell? ⟨bb, ob + i * 3 + 2, none⟩ = some (.bool us)) [] (by kernel_rfl) ⟨c0, c1, c2, e0, e1, e2⟩ ?_
      intro hHeld
      refine wpZ_take (i := 0) (v := ?_) rfl (by kernel_rfl) (by kernel_rfl) (by kernel_rfl) (by kernel_rfl) (fun _ _ _ h => h) (Or.inl ⟨by rfl, ?_⟩) hHeld ?_
      rotate_left
      · (intro w hSw; (try dsimp only at hSw); go_simp <;> with_reducible rfl)
      try simp only [List.getElem_toArray, List.getElem_cons_zero, Act.put, List.setIfInBounds_toArray, List.set_cons_zero, List.set_cons_succ]
      refine wpZ_take (i := 1) (v := ?_) rfl (by kernel_rfl) (by kernel_rfl) (by kernel_rfl) (by kernel_rfl) (fun _ _ _ h => h) (Or.inl ⟨by rfl, ?_⟩) hHeld ?_
      rotate_left
      · (intro w hSw; (try dsimp only at hSw); go_simp <;> with_reducible rfl)
      try simp only [List.getElem_toArray, List.getElem_cons_succ, List.getElem_cons_zero, Act.put, List.setIfInBounds_toArray, List.set_cons_zero, List.set_cons_succ]
      refine wpZ_take (i := 2) (v := ?_) rfl (by kernel_rfl) (by kernel_rfl) (by kernel_rfl) (by kernel_rfl) (fun _ _ _ h => h) (Or.inl ⟨by rfl, ?_⟩) hHeld ?_
      rotate_left
      · (intro w hSw; (try dsimp only at hSw); go_simp <;> with_reducible rfl)
      try simp only [List.getElem_toArray, List.getElem_cons_succ, List.getElem_cons_zero, Act.put, List.setIfInBounds_toArray, List.set_cons_zero, List.set_cons_succ]
      refine wpZ_take (i := 3) (v := ?_) rfl (by kernel_rfl) (by kernel_rfl) (by kernel_rfl) (by kernel_rfl) (fun _ _ _ h => h) (Or.inl ⟨by rfl, ?_⟩) hHeld ?_
      rotate_left
      · (intro w hSw; (try dsimp only at hSw); go_simp <;> with_reducible rfl)
      try simp only [List.getElem_toArray, List.getElem_cons_succ, List.getElem_cons_zero, Act.put, List.setIfInBounds_toArray, List.set_cons_zero, List.set_cons_succ]
      refine wpZ_take (i := 4) (v := ?_) rfl (by kernel_rfl) (by kernel_rfl) (by kernel_rfl) (by kernel_rfl) (fun _ _ _ h => h) (Or.inl ⟨by rfl, ?_⟩) hHeld ?_
      rotate_left
      · (intro w hSw; (try dsimp only at hSw); go_simp <;> with_reducible rfl)
      try simp only [List.getElem_toArray, List.getElem_cons_succ, List.getElem_cons_zero, Act.put, List.setIfInBounds_toArray, List.set_cons_zero, List.set_cons_succ]
      refine wpZ_take (i := 5) (v := ?_) rfl (by kernel_rfl) (by kernel_rfl) (by kernel_rfl) (by kernel_rfl) (fun _ _ _ h => h) (Or.inl ⟨by rfl, ?_⟩) hHeld ?_
      rotate_left
      · (intro w hSw; (try dsimp only at hSw); go_simp <;> with_reducible rfl)
      try simp only [List.getElem_toArray, List.getElem_cons_succ, List.getElem_cons_zero, Act.put, List.setIfInBounds_toArray, List.set_cons_zero, List.set_cons_succ]
      refine wpZ_take (i := 6) (v := ?_) rfl (by kernel_rfl) (by kernel_rfl) (by kernel_rfl) (by kernel_rfl) (fun _ _ _ h => h) (Or.inl ⟨by rfl, ?_⟩) hHeld ?_
      rotate_left
      · (intro w hSw; (try dsimp only at hSw); go_simp <;> with_reducible rfl)
      try simp only [List.getElem_toArray, List.getElem_cons_succ, List.getElem_cons_zero, Act.put, List.setIfInBounds_toArray, List.set_cons_zero, List.set_cons_succ]
      refine wpZ_take (i := 7) (v := ?_) rfl (by kernel_rfl) (by kernel_rfl) (by kernel_rfl) (by kernel_rfl) (fun _ _ _ h => h) (Or.inl ⟨by rfl, ?_⟩) hHeld ?_
      rotate_left
      · (intro w hSw; (try dsimp only at hSw); go_simp <;> with_reducible rfl)
      try simp only [List.getElem_toArray, List.getElem_cons_succ, List.getElem_cons_zero, Act.put, List.setIfInBounds_toArray, List.set_cons_zero, List.set_cons_succ]
      refine wpZ_take (i := 8) (v := ?_) rfl (by kernel_rfl) (by kernel_rfl) (by kernel_rfl) (by kernel_rfl) (fun _ _ _ h => h) (Or.inl ⟨by rfl, ?_⟩) hHeld ?_
      rotate_left
      · (intro w hSw; (try dsimp only at hSw); go_simp <;> with_reducible rfl)
      try simp only [List.getElem_toArray, List.getElem_cons_succ, List.getElem_cons_zero, Act.put, List.setIfInBounds_toArray, List.set_cons_zero, List.set_cons_succ]
      refine wpZ_take (i := 9) (v := ?_) rfl (by kernel_rfl) (by kernel_rfl) (by kernel_rfl) (by kernel_rfl) (fun _ _ _ h => h) (Or.inl ⟨by rfl, ?_⟩) hHeld ?_
      rotate_left
      · (intro w hSw; (try dsimp only at hSw); go_simp <;> with_reducible rfl)
      try simp only [List.getElem_toArray, List.getElem_cons_succ, List.getElem_cons_zero, Act.put, List.setIfInBounds_toArray, List.set_cons_zero, List.set_cons_succ]
      refine wpZ_take (i := 10) (v := ?_) rfl (by kernel_rfl) (by kernel_rfl) (by kernel_rfl) (by kernel_rfl) (fun _ _ _ h => h) (Or.inl ⟨by rfl, ?_⟩) hHeld ?_
      rotate_left
      · (intro w hSw; (try dsimp only at hSw); go_simp <;> with_reducible rfl)
      try simp only [List.getElem_toArray, List.getElem_cons_succ, List.getElem_cons_zero, Act.put, List.setIfInBounds_toArray, List.set_cons_zero, List.set_cons_succ]
      refine wpZ_take (i := 11) (v := ?_) rfl (by kernel_rfl) (by kernel_rfl) (by kernel_rfl) (by kernel_rfl) (fun _ _ _ h => h) (Or.inl ⟨by rfl, ?_⟩) hHeld ?_
      rotate_left
      · (intro w hSw; (try dsimp only at hSw); go_simp <;> with_reducible rfl)
      try simp only [List.getElem_toArray, List.getElem_cons_succ, List.getElem_cons_zero, Act.put, List.setIfInBounds_toArray, List.set_cons_zero, List.set_cons_succ]
      refine wpZ_take (i := 12) (v := ?_) rfl (by kernel_rfl) (by kernel_rfl) (by kernel_rfl) (by kernel_rfl) (fun _ _ _ h => h) (Or.inl ⟨by rfl, ?_⟩) hHeld ?_
      rotate_left
      · (intro w hSw; (try dsimp only at hSw); go_simp <;> with_reducible rfl)
      try simp only [List.getElem_toArray, List.getElem_cons_succ, List.getElem_cons_zero, Act.put, List.setIfInBounds_toArray, List.set_cons_zero, List.set_cons_succ]
      refine wpZ_take (i := 13) (v := ?_) rfl (by kernel_rfl) (by kernel_rfl) (by kernel_rfl) (by kernel_rfl) (fun _ _ _ h => h) (Or.inl ⟨by rfl, ?_⟩) hHeld ?_
      rotate_left
      · (intro w hSw; (try dsimp only at hSw); go_simp <;> with_reducible rfl)
      try simp only [List.getElem_toArray, List.getElem_cons_succ, List.getElem_cons_zero, Act.put, List.setIfInBounds_toArray, List.set_cons_zero, List.set_cons_succ]
      refine wpZ_take (i := 14) (v := ?_) rfl (by kernel_rfl) (by kernel_rfl) (by kernel_rfl) (by kernel_rfl) (fun _ _ _ h => h) (Or.inl ⟨by rfl, ?_⟩) hHeld ?_
      rotate_left
      · (intro w hSw; (try dsimp only at hSw); go_simp <;> with_reducible rfl)
      try simp only [List.getElem_toArray, List.getElem_cons_succ, List.getElem_cons_zero, Act.put, List.setIfInBounds_toArray, List.set_cons_zero, List.set_cons_succ]
      refine wpZ_take (i := 15) (v := ?_) rfl (by kernel_rfl) (by kernel_rfl) (by kernel_rfl) (by kernel_rfl) (fun _ _ _ h => h) (Or.inl ⟨by rfl, ?_⟩) hHeld ?_
      rotate_left
      · (intro w hSw; (try dsimp only at hSw); go_simp <;> with_reducible rfl)
      try simp only [List.getElem_toArray, List.getElem_cons_succ, List.getElem_cons_zero, Act.put, List.setIfInBounds_toArray, List.set_cons_zero, List.set_cons_succ]
      refine wpZ_take (i := 16) (v := ?_) rfl (by kernel_rfl) (by kernel_rfl) (by kernel_rfl) (by kernel_rfl) (fun _ _ _ h => h) (Or.inl ⟨by rfl, ?_⟩) hHeld ?_
      rotate_left
      · (intro w hSw; (try dsimp only at hSw); go_simp <;> with_reducible rfl)
      try simp only [List.getElem_toArray, List.getElem_cons_succ, List.getElem_cons_zero, Act.put, List.setIfInBounds_toArray, List.set_cons_zero, List.set_cons_succ]
      refine wpZ_take (i := 17) (v := ?_) rfl (by kernel_rfl) (by kernel_rfl) (by kernel_rfl) (by kernel_rfl) (fun _ _ _ h => h) (Or.inl ⟨by rfl, ?_⟩) hHeld ?_
      rotate_left
      · (intro w hSw; (try dsimp only at hSw); go_simp <;> with_reducible rfl)
      try simp only [List.getElem_toArray, List.getElem_cons_succ, List.getElem_cons_zero, Act.put, List.setIfInBounds_toArray, List.set_cons_zero, List.set_cons_succ]
      refine wpZ_take (i := 18) (v := ?_) rfl (by kernel_rfl) (by kernel_rfl) (by kernel_rfl) (by kernel_rfl) (fun _ _ _ h => h) (Or.inl ⟨by rfl, ?_⟩) hHeld ?_
      rotate_left
      · (intro w hSw; (try dsimp only at hSw); go_simp <;> with_reducible rfl)
      try simp only [List.getElem_toArray, List.getElem_cons_succ, List.getElem_cons_zero, Act.put, List.setIfInBounds_toArray, List.set_cons_zero, List.set_cons_succ]
      refine wpZ_take (i := 19) (v := ?_) rfl (by kernel_rfl) (by kernel_rfl) (by kernel_rfl) (by kernel_rfl) (fun _ _ _ h => h) (Or.inl ⟨by rfl, ?_⟩) hHeld ?_
      rotate_left
      · (intro w hSw; (try dsimp only at hSw); go_simp <;> with_reducible rfl)
      try simp only [List.getElem_toArray, List.getElem_cons_succ, List.getElem_cons_zero, Act.put, List.setIfInBounds_toArray, List.set_cons_zero, List.set_cons_succ]
      refine wpZ_take (i := 20) (v := ?_) rfl (by kernel_rfl) (by kernel_rfl) (by kernel_rfl) (by kernel_rfl) (fun _ _ _ h => h) (Or.inl ⟨by rfl, ?_⟩) hHeld ?_
      rotate_left
      · (intro w hSw; (try dsimp only at hSw); go_simp <;> with_reducible rfl)
      try simp only [List.getElem_toArray, List.getElem_cons_succ, List.getElem_cons_zero, Act.put, List.setIfInBounds_toArray, List.set_cons_zero, List.set_cons_succ]
      refine wpZ_take (i := 21) (v := ?_) rfl (by kernel_rfl) (by kernel_rfl) (by kernel_rfl) (by kernel_rfl) (fun _ _ _ h => h) (Or.inl ⟨by rfl, ?_⟩) hHeld ?_
      rotate_left
      · (intro w hSw; (try dsimp only at hSw); go_simp <;> with_reducible rfl)
      try simp only [List.getElem_toArray, List.getElem_cons_succ, List.getElem_cons_zero, Act.put, List.setIfInBounds_toArray, List.set_cons_zero, List.set_cons_succ]
      refine wpZ_take (i := 22) (v := ?_) rfl (by kernel_rfl) (by kernel_rfl) (by kernel_rfl) (by kernel_rfl) (fun _ _ _ h => h) (Or.inl ⟨by rfl, ?_⟩) hHeld ?_
      rotate_left
      · (intro w hSw; (try dsimp only at hSw); go_simp <;> with_reducible rfl)
      try simp only [List.getElem_toArray, List.getElem_cons_succ, List.getElem_cons_zero, Act.put, List.setIfInBounds_toArray, List.set_cons_zero, List.set_cons_succ]
      refine wpZ_take (i := 23) (v := ?_) rfl (by kernel_rfl) (by kernel_rfl) (by kernel_rfl) (by kernel_rfl) (fun _ _ _ h => h) (Or.inl ⟨by rfl, ?_⟩) hHeld ?_
      rotate_left
      · (intro w hSw; (try dsimp only at hSw); go_simp <;> with_reducible rfl)
      try simp only [List.getElem_toArray, List.getElem_cons_succ, List.getElem_cons_zero, Act.put, List.setIfInBounds_toArray, List.set_cons_zero, List.set_cons_succ]
      refine wpZ_take (i := 24) (v := ?_) rfl (by kernel_rfl) (by kernel_rfl) (by kernel_rfl) (by kernel_rfl) (fun _ _ _ h => h) (Or.inl ⟨by rfl, ?_⟩) hHeld ?_
      rotate_left
      · (intro w hSw; (try dsimp only at hSw); go_simp <;> with_reducible rfl)
      try simp only [List.getElem_toArray, List.getElem_cons_succ, List.getElem_cons_zero, Act.put, List.setIfInBounds_toArray, List.set_cons_zero, List.set_cons_succ]
      refine wpZ_take (i := 25) (v := ?_) rfl (by kernel_rfl) (by kernel_rfl) (by kernel_rfl) (by kernel_rfl) (fun _ _ _ h => h) (Or.inl ⟨by rfl, ?_⟩) hHeld ?_
      rotate_left
      · (intro w hSw; (try dsimp only at hSw); go_simp <;> with_reducible rfl)
      try simp only [List.getElem_toArray, List.getElem_cons_succ, List.getElem_cons_zero, Act.put, List.setIfInBounds_toArray, List.set_cons_zero, List.set_cons_succ]
      refine wpZ_take (i := 26) (v := ?_) rfl (by kernel_rfl) (by kernel_rfl) (by kernel_rfl) (by kernel_rfl) (fun _ _ _ h => h) (Or.inl ⟨by rfl, ?_⟩) hHeld ?_
      rotate_left
      · (intro w hSw; (try dsimp only at hSw); go_simp <;> with_reducible rfl)
      try simp only [List.getElem_toArray, List.getElem_cons_succ, List.getElem_cons_zero, Act.put, List.setIfInBounds_toArray, List.set_cons_zero, List.set_cons_succ]
      refine wpZ_take (i := 27) (v := ?_) rfl (by kernel_rfl) (by kernel_rfl) (by kernel_rfl) (by kernel_rfl) (fun _ _ _ h => h) (Or.inl ⟨by rfl, ?_⟩) hHeld ?_
      rotate_left
      · (intro w hSw; (try dsimp only at hSw); go_simp <;> with_reducible rfl)
      try simp only [List.getElem_toArray, List.getElem_cons_succ, List.getElem_cons_zero, Act.put, List.setIfInBounds_toArray, List.set_cons_zero, List.set_cons_succ]
      refine wpZ_take (i := 28) (v := ?_) rfl (by kernel_rfl) (by kernel_rfl) (by kernel_rfl) (by kernel_rfl) (fun _ _ _ h => h) (Or.inl ⟨by rfl, ?_⟩) hHeld ?_
      rotate_left
      · (intro w hSw; (try dsimp only at hSw); go_simp <;> with_reducible rfl)
      try simp only [List.getElem_toArray, List.getElem_cons_succ, List.getElem_cons_zero, Act.put, List.setIfInBounds_toArray, List.set_cons_zero, List.set_cons_succ]
      refine wpZ_take (i := 29) (v := ?_) rfl (by kernel_rfl) (by kernel_rfl) (by kernel_rfl) (by kernel_rfl) (fun _ _ _ h => h) (Or.inl ⟨by rfl, ?_⟩) hHeld ?_
      rotate_left
      · (intro w hSw; (try dsimp only at hSw); go_simp <;> with_reducible rfl)
      try simp only [List.getElem_toArray, List.getElem_cons_succ, List.getElem_cons_zero, Act.put, List.setIfInBounds_toArray, List.set_cons_zero, List.set_cons_succ]
      refine wpZ_take (i := 30) (v := ?_) rfl (by kernel_rfl) (by kernel_rfl) (by kernel_rfl) (by kernel_rfl) (fun _ _ _ h => h) (Or.inl ⟨by rfl, ?_⟩) hHeld ?_
      rotate_left
      · (intro w hSw; (try dsimp only at hSw); go_simp <;> with_reducible rfl)
      try simp only [List.getElem_toArray, List.getElem_cons_succ, List.getElem_cons_zero, Act.put, List.setIfInBounds_toArray, List.set_cons_zero, List.set_cons_succ]
      refine wpZ_take (i := 31) (v := ?_) rfl (by kernel_rfl) (by kernel_rfl) (by kernel_rfl) (by kernel_rfl) (fun _ _ _ h => h) (Or.inl ⟨by rfl, ?_⟩) hHeld ?_
      rotate_left
      · (intro w hSw; (try dsimp only at hSw); go_simp <;> with_reducible rfl)
      try simp only [List.getElem_toArray, List.getElem_cons_succ, List.getElem_cons_zero, Act.put, List.setIfInBounds_toArray, List.set_cons_zero, List.set_cons_succ]
      refine wpZ_take (i := 32) (v := ?_) rfl (by kernel_rfl) (by kernel_rfl) (by kernel_rfl) (by kernel_rfl) (fun _ _ _ h => h) (Or.inl ⟨by rfl, ?_⟩) hHeld ?_
      rotate_left
      · (intro w hSw; (try dsimp only at hSw); go_simp <;> with_reducible rfl)
      try simp only [List.getElem_toArray, List.getElem_cons_succ, List.getElem_cons_zero, Act.put, List.setIfInBounds_toArray, List.set_cons_zero, List.set_cons_succ]
      refine wpZ_take (i := 33) (v := ?_) rfl (by kernel_rfl) (by kernel_rfl) (by kernel_rfl) (by kernel_rfl) (fun _ _ _ h => h) (Or.inl ⟨by rfl, ?_⟩) hHeld ?_
      rotate_left
      · (intro w hSw; (try dsimp only at hSw); go_simp <;> with_reducible rfl)
      try simp only [List.getElem_toArray, List.getElem_cons_succ, List.getElem_cons_zero, Act.put, List.setIfInBounds_toArray, List.set_cons_zero, List.set_cons_succ]
      refine wpZ_take (i := 34) (v := ?_) rfl (by kernel_rfl) (by kernel_rfl) (by kernel_rfl) (by kernel_rfl) (fun _ _ _ h => h) (Or.inl ⟨by rfl, ?_⟩) hHeld ?_
      rotate_left
      · (intro w hSw; (try dsimp only at hSw); go_simp <;> with_reducible rfl)
      try simp only [List.getElem_toArray, List.getElem_cons_succ, List.getElem_cons_zero, Act.put, List.setIfInBounds_toArray, List.set_cons_zero, List.set_cons_succ]
      refine wpZ_one (i := 35) (by kernel_rfl) rfl (fun K hK => ?_)
      go_simp
      refine (hsame wr.drew hsa.out.drew rfl hsbh.out.drew hsl).mono ?_
      rintro e W2 ⟨rfl, f2⟩
      have f2 : Fr [] wr W2 := f2.of_drew
      dsimp only
      refine hK.out _ _ ⟨cell_fr f2 c0, cell_fr f2 c1, cell_fr f2 c2, cell_fr f2 e0, cell_fr f2 e1, cell_fr f2 e2⟩ (fun hHeld => ?_)
      clear hK K
      try simp only [List.getElem_toArray, List.getElem_cons_succ, List.getElem_cons_zero, Act.put, List.setIfInBounds_toArray, List.set_cons_zero, List.set_cons_succ]
      refine wpZ_take (i := 36) (v := ?_) rfl (by kernel_rfl) (by kernel_rfl) (by kernel_rfl) (by kernel_rfl) (fun _ _ _ h => h) (Or.inl ⟨by rfl, ?_⟩) hHeld ?_
      rotate_left
      · (intro w hSw; (try dsimp only at hSw); go_simp <;> with_reducible rfl)
      try simp only [List.getElem_toArray, List.getElem_cons_succ, List.getElem_cons_zero, Act.put, List.setIfInBounds_toArray, List.set_cons_zero, List.set_cons_succ]
      refine wpZ_take (i := 37) (v := ?_) rfl (by kernel_rfl) (by kernel_rfl) (by kernel_rfl) (by kernel_rfl) (fun _ _ _ h => h) (Or.inl ⟨by rfl, ?_⟩) hHeld ?_
      rotate_left
      · (intro w hSw; (try dsimp only at hSw); go_simp <;> with_reducible rfl)
      try simp only [List.getElem_toArray, List.getElem_cons_succ, List.getElem_cons_zero, Act.put, List.setIfInBounds_toArray, List.set_cons_zero, List.set_cons_succ]
      refine wpZ_done (by kernel_rfl) ?_ _
      go_wp2
      go_roundg (n - i)
      case measure => have := hlth.out; omega
      case rel => exact ⟨i + 1, by go_num, by have := hlth.out; omega, by have := hlth.out; omega, hFh.out.trans f2⟩
    · have hin : i = n := by omega
      have hge : ¬ (i : Int) < n := by omega
      clear hlt hk hF
      go_wp2
      go_ret
      exact ⟨rfl, hFh.out⟩
end Go.Proofs.YtdeoinjjphdbmaaGreat
