/- The walk of CacheLive: it returns true. Conditions: the theorem's own. -/
import Derived.Test.YthegggfpofdcdaaWg
import Derived.Test.YthegggfpofdcdaaWh
import Derived.Test.YthegggfpofdcdaaWi
import Derived.Test.YthegggfpofdcdaaLv
import Derived.Deep.DeepCutAuto
namespace Go.Proofs.Ythegggfpofdcdaa
open Go.RowKit Go.Sig

def frB (short : Int) (s : StepM) (asked : List StepM) : Nat → Bool
  | 0 => false
  | j + 1 => frB short s asked j || freshB short s (asked.getD j default) j
theorem frB_mono {short : Int} {s : StepM} {asked : List StepM} {i : Nat} (h : frB short s asked i = true) : ∀ n, frB short s asked (i + n) = true
  | 0 => h
  | n + 1 => by rw [← Nat.add_assoc, frB, frB_mono h n]; rfl
theorem frB_of {short : Int} {s : StepM} {asked : List StepM} {k n : Nat} (hk : k < n) (h : freshB short s (asked.getD k default) k = true) : frB short s asked n = true := by
  have h1 : frB short s asked (k + 1) = true := by rw [frB, h, Bool.or_true]
  have := frB_mono h1 (n - (k + 1))
  rwa [show k + 1 + (n - (k + 1)) = n by omega] at this
theorem ne_of_beq_false {a b : Int} (h : (a == b) = false) : a ≠ b := by simpa using h
theorem eq_j {j : Nat} {n : Int} (h : ((j : Int) == wrap64 (n - 1)) = true) (hn : I64 n) (hj : j < 100) : (j : Int) = n - 1 := by
  have h1 : (j : Int) = wrap64 (n - 1) := eq_of_beq h
  obtain ⟨h2, h3⟩ := hn
  unfold wrap64 at h1
  omega
theorem ne_j {j : Nat} {n : Int} (h : ((j : Int) == wrap64 (n - 1)) = false) (hn : I64 n) (hj : j < 100) : ¬ (j : Int) = n - 1 := by
  intro e
  have h1 : (j : Int) ≠ wrap64 (n - 1) := by simpa using h
  obtain ⟨h2, h3⟩ := hn
  unfold wrap64 at h1
  omega
theorem fr_yes {sh : Int} {s x : StepM} {j : Nat} (hm : (s.kind = 1 ∧ (j : Int) = s.n - 1) ∨ (s.kind = 3 ∧ x.token = s.token)) (hle : x.now ≤ s.now) (hx : I64 x.now) (hn : I64 s.now) :
    freshB sh s x j = decide (IntKind.u64.wrap (IntKind.u64.wrap s.now - IntKind.u64.wrap x.now) < sh) := by
  have e : IntKind.u64.wrap (IntKind.u64.wrap s.now - IntKind.u64.wrap x.now) = s.now - x.now := by
    obtain ⟨h1, h2⟩ := hx
    obtain ⟨h3, h4⟩ := hn
    simp only [IntKind.wrap_u64]
    omega
  rw [e]
  unfold freshB
  rw [decide_eq_true hle, Bool.and_true]
  have : ((decide (s.kind = 1) && decide ((j : Int) = s.n - 1)) || (decide (s.kind = 3) && decide (x.token = s.token))) = true := by
    rcases hm with ⟨h1, h2⟩ | ⟨h1, h2⟩
    · rw [decide_eq_true h1, decide_eq_true h2]; rfl
    · rw [decide_eq_true h1, decide_eq_true h2]; simp
  rw [this, Bool.true_and]
theorem fr_no1 {sh : Int} {s x : StepM} {j : Nat} (hm : ¬ ((s.kind = 1 ∧ (j : Int) = s.n - 1) ∨ (s.kind = 3 ∧ x.token = s.token))) : freshB sh s x j = false := by
  have : ((decide (s.kind = 1) && decide ((j : Int) = s.n - 1)) || (decide (s.kind = 3) && decide (x.token = s.token))) = false := by
    rw [Bool.eq_false_iff]
    intro h
    apply hm
    simpa only [Bool.or_eq_true, Bool.and_eq_true, decide_eq_true_eq] using h
  unfold freshB
  rw [this]
  rfl
theorem fr_no2 {sh : Int} {s x : StepM} {j : Nat} (h : s.now < x.now) : freshB sh s x j = false := by
  unfold freshB
  rw [decide_eq_false (p := x.now ≤ s.now) (by omega), Bool.and_false]
  rfl
theorem getD_mem {ss : List StepM} {k : Nat} (h : k < ss.length) : ss.getD k default ∈ ss := by simp [List.getD, h]
theorem rd_at {w : World} {A : Option Addr} {n k : Nat} {ss : List StepM} (h : Rd w 13 A n (ss.flatMap StepM.cells)) (hn : ss.length = n) (hk : k < n) : ∃ b o, A = some ⟨b, o, none⟩ ∧ ∀ j v, (ss.getD k default).cells[j]? = some v → w.cell? ⟨b, o + k * 13 + j, none⟩ = some v := by
  obtain ⟨b, o, hA, hc⟩ := h.2 (by omega)
  refine ⟨b, o, hA, fun j v hv => ?_⟩
  rw [Nat.add_assoc]
  refine hc _ _ ?_
  rw [flat_get StepM.cells 13 (fun _ => rfl) ss k j default (by omega) (by have := (List.getElem?_eq_some_iff.1 hv).1; simpa using this)]
  exact hv

set_option maxRecDepth 100000 in
set_option maxHeartbeats 1000000 in
theorem live_walk (sh ro : Int) (A : Option Addr) (len cap : Nat) (ss : List StepM) (w : World) (h : Script w A len ss) (hsh : I64 sh) (hro : I64 ro) :
   Calls Try.prog 3 #[.int .i64 sh, .int .i64 ro, .slice A len cap] w fun e w' => e = .returned (.bool true) ∧ Fr [] w w' := by
  have hle := h.le
  by_cases hgood : 0 ≤ sh ∧ sh ≤ 1099511627776 ∧ 1 ≤ ro ∧ ro ≤ 64
  · obtain ⟨g1, g2, g3, g4⟩ := hgood
    go_enter Try.func3, Try.ntmps3
    go_wp2_with fail
    refine (new_good sh ro w g1 g2 g3 g4).mono ?_
    rintro e w1 ⟨b, m1, m2, rfl, h1, f1, lb, lm1, lm2⟩
    go_wp2_with fail
    refine (known_t w1).mono ?_
    rintro e w2 ⟨rfl, f2⟩
    have h2 := h1.nilfr f2
    have F2 := f1.trans f2
    clear h1 f1 f2
    go_wp2_with fail
    refine (great_t A len cap ss w2 (h.fr F2)).mono ?_
    rintro e w3 ⟨rfl, rfl⟩
    cases hgr : greatB ss with
    | true =>
      go_wp2_with fail
      refine (known_t w2).mono ?_
      rintro e w3 ⟨rfl, f3⟩
      go_wp2_with fail
      go_ret
      exact ⟨rfl, F2.trans f3⟩
    | false =>
      have Hgr := Lib.hid hgr
      clear hgr
      have hb2 := h2.blk.lt
      have hm1 := h2.way.lt
      have hm2 := h2.all.lt
      go_wp2_with fail
      go_loopg [9, 10] (len + 1) (fun k s9 s10 wr => ∃ (i : Nat) (asked : List StepM) (c : CacheM), s10 = .int .i64 i ∧ i ≤ len ∧ i ≤ 80 ∧ len - i < k ∧ Own wr 34 13 s9 asked.length (asked.flatMap StepM.cells) ∧ (∀ g ∈ rowOf s9, w2.heap.size ≤ g) ∧ asked.length ≤ i ∧ CacheAt wr b m1 m2 c ∧ LiveI asked c ∧ c.short = sh ∧ c.room = ro ∧ (∀ x ∈ asked, I64 x.now) ∧ Fr [] w wr ∧ w2.heap.size ≤ wr.heap.size)
      case atStart =>
        exact ⟨0, [], _, rfl, by omega, by omega, by omega, Own.nil _ _ _, by simp [rowOf, Value.ownBlock], by simp, h2, ⟨rfl, by simp, by simp, by show (0 : Int) ≤ ro; omega⟩, rfl, rfl, by simp, F2, Nat.le_refl _⟩
      case round =>
        obtain ⟨i, asked, c, rfl, hi, hi80, hk, hown, hrow, hal, hc, hL, hcs, hcr, hnow, hF, hsz⟩ := hrel
        have HL := Lib.hid hL
        have Hcs := Lib.hid hcs
        have Hcr := Lib.hid hcr
        clear hL hcs hcr
        by_cases hlt : i < len ∧ i < 80
        · obtain ⟨hlt, h80⟩ := hlt
          obtain ⟨bb, o, rfl, hcell⟩ := (h.fr hF).at hlt
          have hmem : ss.getD i default ∈ ss := by
            have : i < ss.length := by rw [h.length]; exact hlt
            simp [List.getD, this]
          have hok := h.ok _ hmem
          have h50 : (ss.getD i default).a.sl ≤ 50 := by
            have := any_get (fun s : StepM => decide (50 < s.a.sl)) Hgr.out i (by rw [h.length]; exact hlt) h80
            simpa using this
          generalize ss.getD i default = s at hcell hok h50
          have hc0 : wr.cell? ⟨bb, o + i * 13, none⟩ = _ := hcell 0 _ rfl
          have hc1 := hcell 1 _ rfl
          have hc2 := hcell 2 _ rfl
          have hc3 := hcell 3 _ rfl
          have hc4 := hcell 4 _ rfl
          have hc5 := hcell 5 _ rfl
          have hc6 := hcell 6 _ rfl
          have hc7 := hcell 7 _ rfl
          have hc8 := hcell 8 _ rfl
          have hc9 := hcell 9 _ rfl
          have hc10 := hcell 10 _ rfl
          have hc11 := hcell 11 _ rfl
          have hc12 := hcell 12 _ rfl
          clear hcell
          have hs34 : Blk (wr.alloc (.cells s.arr 34)) wr.heap.size 34 s.arr := Blk.new _ _ _
          go_upto_if 51 with (fail)
          go_cut [9] (fun s9' wx => ∃ asked' : List StepM, asked' = (if s.kind = 0 then asked ++ [s] else asked) ∧ Own wx 34 13 s9' asked'.length (asked'.flatMap StepM.cells) ∧ (∀ g ∈ rowOf s9', w2.heap.size ≤ g) ∧ CacheAt wx b m1 m2 c ∧ Blk wx wr.heap.size 34 s.arr ∧ Fr [] w wx ∧ w2.heap.size ≤ wx.heap.size)
          case first =>
            clear hc0 hc1 hc2 hc3 hc4 hc5 hc6 hc7 hc8 hc9 hc10 hc11 hc12
            by_cases hk0 : s.kind = 0
            · have hk0' : (s.kind == 0) = true := by simp [hk0]
              have Hk0 := Lib.hid hk0
              clear hk0
              go_wp2_with (refine wpList_own_append t22 (hown.fr (S := []) (Fr.alloc (Fr.alloc (Fr.refl _ _) _) _) (by simp)) (rd_block (s := s) (Blk.new' 34 s.arr (by simp)) rfl) ?_ (by simp) ?_ ?_ rfl rfl rfl rfl (fun v' w4 hO hf4 hrw => ?_))
              · intro u hu
                exact cells_one [s] u (by simpa using hu)
              · unfold maxLen; omega
              · omega
              · go_meet
                have f4 : Fr (rowOf _) wr w4 := (Fr.alloc (Fr.alloc (Fr.refl _ _) _) _).trans hf4
                refine ⟨asked ++ [s], by rw [if_pos Hk0.out], by simpa using hO, ?_, ?_, ?_, ?_, ?_⟩
                · intro g hg
                  rcases hrw g hg with hg | hg
                  · exact hrow g hg
                  · simp at hg; omega
                · refine hc.fr f4 ?_ ?_ ?_ (fun p hp => Own.off9 hown (by decide) (hc.typ p hp))
                  · intro hh; have := hrow _ hh; omega
                  · intro hh; have := hrow _ hh; omega
                  · intro hh; have := hrow _ hh; omega
                · refine (hs34.alloc _).fr hf4 ?_
                  intro hh
                  have := hown.lt _ hh
                  omega
                · have : Fr [] w w4 := hF.andThen f4 (fun g hg => .inr (by have := hrow g hg; have := F2.size; omega))
                  exact this
                · have := f4.size; omega
            · have hk0' : (s.kind == 0) = false := by simp [hk0]
              have Hk0 := Lib.hid hk0
              clear hk0
              go_wp2
              go_meet
              refine ⟨asked, by rw [if_neg Hk0.out], hown.fr (S := []) (Fr.alloc (Fr.refl _ _) _) (by simp), hrow, hc.alloc _, hs34, hF.alloc _, by simp; omega⟩
          case rest =>
            obtain ⟨asked', hasked, hO, hrow', hcx, hBx, hFx, hsx⟩ := hcut
            obtain ⟨A9, c9, rfl, -⟩ := hO.form
            have Hasked := Lib.hid hasked
            clear hasked hown hc hF hrow hs34 hc0 hc1 hc2 hc3 hc4 hc5 hc6 hc7 hc8 hc9 hc10 hc11 hc12
            have d0 := hBx.cell 0
            have d1 := hBx.cell 1
            have d2 := hBx.cell 2
            have d3 := hBx.cell 3
            have d4 := hBx.cell 4
            have d5 := hBx.cell 5
            have d6 := hBx.cell 6
            have d7 := hBx.cell 7
            have d8 := hBx.cell 8
            have d9 := hBx.cell 9
            have d10 := hBx.cell 10
            have d11 := hBx.cell 11
            have d12 := hBx.cell 12
            simp only [List.getElem?_toArray, List.getElem?_cons_succ, List.getElem?_cons_zero] at d0 d1 d2 d3 d4 d5 d6 d7 d8 d9 d10 d11 d12
            have hcl : c.last < 4000000000 := by rw [HL.out.last]; omega
            go_wp2_with fail
            refine (do_t s hcx hcl (hok.fr hFx) h50).mono ?_
            rintro e w5 ⟨told, a', c', rfl, h5, f5, hd⟩
            obtain ⟨hL', hs', hr', hfr⟩ := HL.out.step hd
            have hal' : asked'.length ≤ 81 := by
              rw [Hasked.out]
              split
              · rw [List.length_append, List.length_singleton]; omega
              · omega
            have hnow' : ∀ x ∈ asked', I64 x.now := by
              rw [Hasked.out]
              intro x hx
              split at hx
              · rcases List.mem_append.1 hx with hx | hx
                · exact hnow x hx
                · rw [List.mem_singleton.1 hx]; exact hok.now
              · exact hnow x hx
            rw [← Hasked.out] at hL'
            have hO5 := hO.fr f5 (fun g hg => by have := hrow' g hg; simp; omega)
            have hB5 := hBx.fr f5 (by simp; omega)
            have hF5 : Fr [] w w5 := hFx.andThen f5 (by simp; omega)
            have hs5 := f5.size
            clear hO hBx hcx hFx f5 hd d0 d1 d2 d3 d4 d5 d6 d7 d8 d9 d10 d11 d12
            unfold Ans.val
            cases hta : (told && a'.active) with
            | false =>
              have hal2 : asked'.length ≤ i + 1 := by
                rw [Hasked.out]; split
                · rw [List.length_append, List.length_singleton]; omega
                · omega
              have hO7 := hO5.fr (S := []) (Fr.alloc (Fr.refl _ _) (.cells a'.arr 32)) (by simp)
              have h7 := h5.alloc (.cells a'.arr 32)
              have hF7 := hF5.alloc (.cells a'.arr 32)
              clear hO5 hB5 h5 hF5 hfr
              have hor : told = false ∨ (told = true ∧ a'.active = false) := by
                cases told
                · exact .inl rfl
                · exact .inr ⟨rfl, by simpa using hta⟩
              clear hta
              rcases hor with rfl | ⟨rfl, hact⟩
              · go_wp2
                go_roundg (len - i)
                case measure => omega
                case rel => exact ⟨i + 1, asked', c', by go_num, by omega, by omega, by omega, hO7, hrow', hal2, h7, hL', hs'.trans Hcs.out, hr'.trans Hcr.out, hnow', hF7, by simp; omega⟩
              · rw [Ans.arr, hact] at hO7 h7 hF7
                rw [hact]
                go_wp2
                go_roundg (len - i)
                case measure => omega
                case rel => exact ⟨i + 1, asked', c', by go_num, by omega, by omega, by omega, hO7, hrow', hal2, h7, hL', hs'.trans Hcs.out, hr'.trans Hcr.out, hnow', hF7, by simp; omega⟩
            | true =>
              simp only [Bool.and_eq_true] at hta
              obtain ⟨ht, hact⟩ := hta
              rw [ht, hact]
              go_wp2_with fail
              refine wp_gen (fun w6 => Own w6 34 13 (.slice A9 asked'.length c9) asked'.length (asked'.flatMap StepM.cells) ∧ Blk w6 wr.heap.size 34 s.arr ∧ CacheAt w6 b m1 m2 c' ∧ Fr [] w w6 ∧ w2.heap.size ≤ w6.heap.size) ⟨hO5.fr (S := []) (Fr.alloc (Fr.refl _ _) _) (by simp), hB5.alloc _, h5.alloc _, hF5.alloc _, by simp; omega⟩ ?_
              clear hO5 hB5 h5 hF5
              rintro w6 ⟨hO6, hB6, h6, hF6, hs6⟩
              generalize hg11 : wr.heap.size = g11 at *
              clear hg11
              go_loopg [14, 15] (asked'.length + 1) (fun k s14 s15 wi => ∃ j : Nat, s15 = .int .i64 j ∧ j ≤ asked'.length ∧ asked'.length - j < k ∧ s14 = .bool (frB sh s asked' j) ∧ Fr [] w6 wi)
              case atStart => exact ⟨0, rfl, by omega, by omega, rfl, Fr.refl _ _⟩
              case round =>
                obtain ⟨j, rfl, hj, hjk, rfl, hFi⟩ := hrel
                by_cases hjl : j < asked'.length
                · obtain ⟨b9, o9, rfl, hcell⟩ := rd_at hO6.rd rfl hjl
                  have hx64 := hnow' _ (getD_mem hjl)
                  have hb9 : ∀ q v, (asked'.getD j default).cells[q]? = some v → wr.cell? ⟨b9, o9 + j * 13 + q, none⟩ = some v := fun q v hv => by
                    have h1 := hcell q v hv
                    exact (hFi.cell (p := ⟨b9, o9 + j * 13 + q, none⟩) (block_lt_of_cell h1) (by simp)).trans h1
                  clear hcell
                  have hBi := hB6.fr hFi (by simp)
                  have hBl := hBi.lt
                  generalize hx : asked'.getD j default = x at hb9 hx64
                  have Hx := Lib.hid hx
                  clear hx
                  have e0 : wr.cell? ⟨b9, o9 + j * 13, none⟩ = _ := hb9 0 _ rfl
                  have e1 := hb9 1 _ rfl
                  have e2 := hb9 2 _ rfl
                  have e3 := hb9 3 _ rfl
                  have e4 := hb9 4 _ rfl
                  have e5 := hb9 5 _ rfl
                  have e6 := hb9 6 _ rfl
                  have e7 := hb9 7 _ rfl
                  have e8 := hb9 8 _ rfl
                  have e9 := hb9 9 _ rfl
                  have e10 := hb9 10 _ rfl
                  have e11 := hb9 11 _ rfl
                  have e12 := hb9 12 _ rfl
                  have d0 := hBi.cell 0
                  have d1 := hBi.cell 1
                  have d3 := hBi.cell 3
                  have d4 := hBi.cell 4
                  simp only [List.getElem?_toArray, List.getElem?_cons_succ, List.getElem?_cons_zero] at d0 d1 d3 d4
                  clear hb9
                  obtain ⟨hx1, hx2⟩ := hx64
                  have hj81 : j < 100 := by omega
                  obtain ⟨hn1, hn2⟩ := hok.now
                  have hFj : Fr [] w6 (wr.alloc (.cells x.arr 34)) := hFi.alloc _
                  cases hf : frB sh s asked' j with
                  | true =>
                    have Hf := Lib.hid hf
                    clear hf
                    cases k1 : (s.kind == 1) with
                    | true =>
                      have k3 : (s.kind == 3) = false := by have := eq_of_beq k1; rw [this]; rfl
                      cases jq : ((j : Int) == wrap64 (s.n - 1)) with
                      | true =>
                        go_wp2
                        go_roundg (asked'.length - j)
                        case measure => omega
                        case rel => exact ⟨j + 1, by go_num, by omega, by omega, congrArg Value.bool (by rw [frB, Hf.out]; rfl), hFj⟩
                      | false =>
                        go_wp2
                        go_roundg (asked'.length - j)
                        case measure => omega
                        case rel => exact ⟨j + 1, by go_num, by omega, by omega, congrArg Value.bool (by rw [frB, Hf.out]; rfl), hFj⟩
                    | false =>
                      have k1' := ne_of_beq_false k1
                      have K1 := Lib.hid k1'
                      clear k1'
                      cases k3 : (s.kind == 3) with
                      | true =>
                        by_cases tt : x.token = s.token
                        · obtain ⟨xk, xt, xf, xn, xnow, xa, xsc⟩ := x
                          simp only at *
                          subst tt
                          go_wp2
                          go_roundg (asked'.length - j)
                          case measure => omega
                          case rel => exact ⟨j + 1, by go_num, by omega, by omega, congrArg Value.bool (by rw [frB, Hf.out]; rfl), hFj⟩
                        · have tq : (x.token.toList == s.token.toList) = false := by rw [toList_beq]; simp [tt]
                          have TT := Lib.hid tt
                          clear tt
                          go_wp2
                          go_roundg (asked'.length - j)
                          case measure => omega
                          case rel => exact ⟨j + 1, by go_num, by omega, by omega, congrArg Value.bool (by rw [frB, Hf.out]; rfl), hFj⟩
                      | false =>
                        go_wp2
                        go_roundg (asked'.length - j)
                        case measure => omega
                        case rel => exact ⟨j + 1, by go_num, by omega, by omega, congrArg Value.bool (by rw [frB, Hf.out]; rfl), hFj⟩
                  | false =>
                    have Hf := Lib.hid hf
                    clear hf
                    cases k1 : (s.kind == 1) with
                    | true =>
                      have k3 : (s.kind == 3) = false := by have := eq_of_beq k1; rw [this]; rfl
                      cases jq : ((j : Int) == wrap64 (s.n - 1)) with
                      | true =>
                        by_cases hle : x.now ≤ s.now
                        · go_wp2
                          go_roundg (asked'.length - j)
                          case measure => omega
                          case rel => exact ⟨j + 1, by go_num, by omega, by omega, congrArg Value.bool (by rw [frB, Hf.out, Hx.out, Bool.false_or]; exact (fr_yes (.inl ⟨eq_of_beq k1, eq_j jq hok.n (by omega)⟩) hle ⟨hx1, hx2⟩ hok.now).symm), hFj⟩
                        · have hgt : s.now < x.now := by omega
                          go_wp2
                          go_roundg (asked'.length - j)
                          case measure => omega
                          case rel => exact ⟨j + 1, by go_num, by omega, by omega, congrArg Value.bool (by rw [frB, Hf.out, Hx.out, Bool.false_or]; exact (fr_no2 hgt).symm), hFj⟩
                      | false =>
                        go_wp2
                        go_roundg (asked'.length - j)
                        case measure => omega
                        case rel => exact ⟨j + 1, by go_num, by omega, by omega, congrArg Value.bool (by rw [frB, Hf.out, Hx.out, Bool.false_or]; exact (fr_no1 (fun hm => by rcases hm with ⟨_, h2⟩ | ⟨h1, _⟩; exact ne_j jq hok.n (by omega) h2; exact absurd (eq_of_beq k1) (by omega))).symm), hFj⟩
                    | false =>
                      have k1' := ne_of_beq_false k1
                      have K1 := Lib.hid k1'
                      clear k1'
                      cases k3 : (s.kind == 3) with
                      | true =>
                        by_cases tt : x.token = s.token
                        · obtain ⟨xk, xt, xf, xn, xnow, xa, xsc⟩ := x
                          simp only at *
                          subst tt
                          by_cases hle : xnow ≤ s.now
                          · go_wp2
                            go_roundg (asked'.length - j)
                            case measure => omega
                            case rel => exact ⟨j + 1, by go_num, by omega, by omega, congrArg Value.bool (by rw [frB, Hf.out, Hx.out, Bool.false_or]; exact (fr_yes (x := ⟨xk, s.token, xf, xn, xnow, xa, xsc⟩) (.inr ⟨eq_of_beq k3, rfl⟩) hle ⟨hx1, hx2⟩ hok.now).symm), hFj⟩
                          · have hgt : s.now < xnow := by omega
                            go_wp2
                            go_roundg (asked'.length - j)
                            case measure => omega
                            case rel => exact ⟨j + 1, by go_num, by omega, by omega, congrArg Value.bool (by rw [frB, Hf.out, Hx.out, Bool.false_or]; exact (fr_no2 hgt).symm), hFj⟩
                        · have tq : (x.token.toList == s.token.toList) = false := by rw [toList_beq]; simp [tt]
                          have TT := Lib.hid tt
                          clear tt
                          go_wp2
                          go_roundg (asked'.length - j)
                          case measure => omega
                          case rel => exact ⟨j + 1, by go_num, by omega, by omega, congrArg Value.bool (by rw [frB, Hf.out, Hx.out, Bool.false_or]; exact (fr_no1 (fun hm => by rcases hm with ⟨h1, _⟩ | ⟨_, h2⟩; exact K1.out h1; exact TT.out h2)).symm), hFj⟩
                      | false =>
                        go_wp2
                        go_roundg (asked'.length - j)
                        case measure => omega
                        case rel => exact ⟨j + 1, by go_num, by omega, by omega, congrArg Value.bool (by rw [frB, Hf.out, Hx.out, Bool.false_or]; exact (fr_no1 (fun hm => by rcases hm with ⟨h1, _⟩ | ⟨h1, _⟩; exact K1.out h1; exact ne_of_beq_false k3 h1)).symm), hFj⟩
                · have hje : j = asked'.length := by omega
                  subst hje
                  have hfrT : frB sh s asked' asked'.length = true := by
                    obtain ⟨q, hq, hfq⟩ := hfr ht hact
                    rw [Hcs.out] at hfq
                    refine frB_of (k := q) ?_ ?_
                    · rw [Hasked.out]; split
                      · rw [List.length_append]; omega
                      · exact hq
                    · rw [Hasked.out]; split
                      · rw [getD_app_lt hq]; exact hfq
                      · exact hfq
                  rw [hfrT]
                  have hO7 := hO6.fr hFi (by simp)
                  have h7 := h6.nilfr hFi
                  have hF7 := hF6.trans hFi
                  have hs7 := hFi.size
                  have hal2 : asked'.length ≤ i + 1 := by
                    rw [Hasked.out]; split
                    · rw [List.length_append, List.length_singleton]; omega
                    · omega
                  clear hO6 hB6 h6 hF6 hFi hfr hfrT
                  go_wp2
                  go_roundg (len - i)
                  case measure => omega
                  case rel => exact ⟨i + 1, asked', c', by go_num, by omega, by omega, by omega, hO7, hrow', hal2, h7, hL', hs'.trans Hcs.out, hr'.trans Hcr.out, hnow', hF7, by omega⟩
        · have hroom : (c.all.length : Int) ≤ ro := by have := HL.out.room; rw [Hcr.out] at this; exact this
          by_cases hlen : i < len
          · have hi8 : (80 : Int) ≤ (i : Int) := by omega
            go_wp2_with fail
            refine (count_t hc).mono ?_
            rintro e w4 ⟨rfl, rfl⟩
            go_wp2_with fail
            go_ret
            exact ⟨ret_bool (by simp [hroom]), hF⟩
          · have hlen' : len ≤ i := by omega
            go_wp2_with fail
            refine (count_t hc).mono ?_
            rintro e w4 ⟨rfl, rfl⟩
            go_wp2_with fail
            go_ret
            exact ⟨ret_bool (by simp [hroom]), hF⟩
  · go_enter Try.func3, Try.ntmps3
    go_wp2_with fail
    refine (new_bad sh ro w hgood).mono ?_
    rintro e w1 ⟨rfl, rfl⟩
    go_wp2_with fail
    refine (known_t w).mono ?_
    rintro e w2 ⟨rfl, f2⟩
    go_wp2_with fail
    refine (known_t w2).mono ?_
    rintro e w3 ⟨rfl, f3⟩
    go_wp2_with fail
    go_ret
    exact ⟨rfl, f2.trans f3⟩
end Go.Proofs.Ythegggfpofdcdaa
