/- The walk of CachePlays: it returns true. Conditions: the theorem's own. -/
import Derived.Test.YthegggfpofdcdaaPo
import Derived.Test.YthegggfpofdcdaaWg
import Derived.Test.YthegggfpofdcdaaWh
import Derived.Test.YthegggfpofdcdaaWs
import Derived.Deep.RegionHeld3
import Derived.Deep.DeepCutAuto
import Derived.Deep.CutBlock
namespace Go.Proofs.Ythegggfpofdcdaa
open Go.RowKit Go.Sig

set_option maxHeartbeats 1000000 in
set_option maxRecDepth 100000 in
theorem plays_bad (sh ro : Int) (A : Option Addr) (len cap : Nat) (w : World) (hs : I64 sh) (hr : I64 ro) (hb : ¬ (0 ≤ sh ∧ sh ≤ 1099511627776 ∧ 1 ≤ ro ∧ ro ≤ 64)) :
   Calls Try.prog 4 #[.int .i64 sh, .int .i64 ro, .slice A len cap] w fun e w' => e = .returned (.bool true) ∧ Fr [] w w' := by
  have hn := fun w => new_bad sh ro w hb
  by_cases h1 : sh < 0
  · have hd1 : decide (0 ≤ sh) = false := by simpa using h1
    go_enter Try.func4, Try.ntmps4
    go_wp2_with fail
    refine (hn _).mono ?_
    rintro e w1 ⟨rfl, rfl⟩
    go_wp2_with fail
    refine (known_t _).mono ?_
    rintro e w2 ⟨rfl, f2⟩
    go_wp2
    go_ret
    exact ⟨rfl, f2⟩
  · have h1' : 0 ≤ sh := by omega
    have hd1 : decide (0 ≤ sh) = true := by simpa using h1'
    by_cases h2 : 1099511627776 < sh
    · have hd2 : decide (sh ≤ 1099511627776) = false := by simpa using h2
      go_enter Try.func4, Try.ntmps4
      go_wp2_with fail
      refine (hn _).mono ?_
      rintro e w1 ⟨rfl, rfl⟩
      go_wp2_with fail
      refine (known_t _).mono ?_
      rintro e w2 ⟨rfl, f2⟩
      go_wp2
      go_ret
      exact ⟨rfl, f2⟩
    · have h2' : sh ≤ 1099511627776 := by omega
      have hd2 : decide (sh ≤ 1099511627776) = true := by simpa using h2'
      by_cases h3 : ro < 1
      · have hd3 : decide (1 ≤ ro) = false := by simpa using h3
        go_enter Try.func4, Try.ntmps4
        go_wp2_with fail
        refine (hn _).mono ?_
        rintro e w1 ⟨rfl, rfl⟩
        go_wp2_with fail
        refine (known_t _).mono ?_
        rintro e w2 ⟨rfl, f2⟩
        go_wp2
        go_ret
        exact ⟨rfl, f2⟩
      · have h3' : 1 ≤ ro := by omega
        have hd3 : decide (1 ≤ ro) = true := by simpa using h3'
        have h4 : 64 < ro := by omega
        have hd4 : decide (ro ≤ 64) = false := by simpa using h4
        go_enter Try.func4, Try.ntmps4
        go_wp2_with fail
        refine (hn _).mono ?_
        rintro e w1 ⟨rfl, rfl⟩
        go_wp2_with fail
        refine (known_t _).mono ?_
        rintro e w2 ⟨rfl, f2⟩
        go_wp2
        go_ret
        exact ⟨rfl, f2⟩

theorem s10 {w' : World} {g12 : Nat} {s : StepM} (B : Blk w' g12 34 s.arr) : w'.cell? ⟨g12, 3, none⟩ = some (.int .i64 s.n) ∧ w'.cell? ⟨g12, 4, none⟩ = some (.int .i64 s.now) ∧ w'.cell? ⟨g12, 5, none⟩ = some (.int .i64 s.a.why) ∧ w'.cell? ⟨g12, 6, none⟩ = some (.int .i64 s.a.access) ∧ w'.cell? ⟨g12, 7, none⟩ = some (.int .i64 s.a.refresh) ∧ w'.cell? ⟨g12, 8, none⟩ = some (.slice s.a.sa s.a.sl s.a.sc) ∧ w'.cell? ⟨g12, 9, none⟩ = some (.string s.a.client) ∧ w'.cell? ⟨g12, 10, none⟩ = some (.string s.a.user) ∧ w'.cell? ⟨g12, 11, none⟩ = some (.bool s.a.active) ∧ w'.cell? ⟨g12, 12, none⟩ = some (.bool s.a.wait) :=
  ⟨B.cell 3, B.cell 4, B.cell 5, B.cell 6, B.cell 7, B.cell 8, B.cell 9, B.cell 10, B.cell 11, B.cell 12⟩
theorem s18 {w' : World} {g14 g16 r : Nat} {a1 a2 : Ans} {v0 v1 v2 v3 v4 : Value} (B14 : Blk w' g14 32 (arr8 a1)) (B16 : Blk w' g16 32 (arr8 a2)) (hc : w'.cell? ⟨r, 0, none⟩ = some v0 ∧ w'.cell? ⟨r, 1, none⟩ = some v1 ∧ w'.cell? ⟨r, 2, none⟩ = some v2 ∧ w'.cell? ⟨r, 3, none⟩ = some v3 ∧ w'.cell? ⟨r, 4, none⟩ = some v4 ∧ r < w'.heap.size) :
    w'.cell? ⟨g14, 0, none⟩ = some (.int .i64 a1.why) ∧ w'.cell? ⟨g14, 1, none⟩ = some (.int .i64 a1.access) ∧ w'.cell? ⟨g14, 2, none⟩ = some (.int .i64 a1.refresh) ∧ w'.cell? ⟨g14, 3, none⟩ = some (.slice a1.sa a1.sl a1.sc) ∧ w'.cell? ⟨g14, 4, none⟩ = some (.string a1.client) ∧ w'.cell? ⟨g14, 5, none⟩ = some (.string a1.user) ∧ w'.cell? ⟨g14, 6, none⟩ = some (.bool a1.active) ∧ w'.cell? ⟨g14, 7, none⟩ = some (.bool a1.wait) ∧
    w'.cell? ⟨g16, 0, none⟩ = some (.int .i64 a2.why) ∧ w'.cell? ⟨g16, 1, none⟩ = some (.int .i64 a2.access) ∧ w'.cell? ⟨g16, 2, none⟩ = some (.int .i64 a2.refresh) ∧ w'.cell? ⟨g16, 3, none⟩ = some (.slice a2.sa a2.sl a2.sc) ∧ w'.cell? ⟨g16, 4, none⟩ = some (.string a2.client) ∧ w'.cell? ⟨g16, 5, none⟩ = some (.string a2.user) ∧ w'.cell? ⟨g16, 6, none⟩ = some (.bool a2.active) ∧ w'.cell? ⟨g16, 7, none⟩ = some (.bool a2.wait) ∧
    w'.cell? ⟨r, 0, none⟩ = some v0 ∧ w'.cell? ⟨r, 1, none⟩ = some v1 :=
  ⟨B14.cell 0, B14.cell 1, B14.cell 2, B14.cell 3, B14.cell 4, B14.cell 5, B14.cell 6, B14.cell 7, B16.cell 0, B16.cell 1, B16.cell 2, B16.cell 3, B16.cell 4, B16.cell 5, B16.cell 6, B16.cell 7, hc.1, hc.2.1⟩

set_option maxHeartbeats 4000000 in
set_option maxRecDepth 100000 in
theorem plays_good (sh ro : Int) (A : Option Addr) (len cap : Nat) (ss : List StepM) (w : World) (h : Script w A len ss) (h1 : 0 ≤ sh) (h2 : sh ≤ 1099511627776) (h3 : 1 ≤ ro) (h4 : ro ≤ 64) :
   Calls Try.prog 4 #[.int .i64 sh, .int .i64 ro, .slice A len cap] w fun e w' => e = .returned (.bool true) ∧ Fr [] w w' := by
  have hd1 : decide (0 ≤ sh) = true := by simpa using h1
  have hd2 : decide (sh ≤ 1099511627776) = true := by simpa using h2
  have hd3 : decide (1 ≤ ro) = true := by simpa using h3
  have hd4 : decide (ro ≤ 64) = true := by simpa using h4
  have hle := h.le
  go_enter Try.func4, Try.ntmps4
  go_wp2_with fail
  refine (new_good sh ro _ h1 h2 h3 h4).mono ?_
  rintro e w1 ⟨b, m1, m2, rfl, hC, f1, lb, lm1, lm2⟩
  go_wp2_with fail
  refine (known_t _).mono ?_
  rintro e w2 ⟨rfl, f2⟩
  go_wp2_with fail
  refine (great_t A len cap ss _ (h.fr (f1.trans f2))).mono ?_
  rintro e w3 ⟨rfl, rfl⟩
  cases hgr : greatB ss with
  | true =>
    go_wp2
    go_ret
    exact ⟨rfl, f1.trans f2⟩
  | false =>
    have Hgr := Lib.hid hgr
    clear hgr
    go_upto_region 8 with (fail)
    have hsz2 := (f1.trans f2).size
    have hC2 := hC.nilfr f2
    have hP0 : PM w (w2.alloc (.cells #[.slice none 0 0, .slice none 0 0, .int .i64 sh, .int .i64 ro, .int .i64 0] 43)) b m1 m2 w2.heap.size (.slice none 0 0) (.slice none 0 0) ⟨sh, ro, 0, [], []⟩ ⟨[], [], sh, ro, 0⟩ := by
      have e1 := hC2.blk.lt
      have e2 := hC2.way.lt
      have e3 := hC2.all.lt
      refine ⟨hC2.alloc _, ⟨Blk.new _ _ _, Own.nil _ _ _, Own.nil _ _ _, by simp [rowOf, Value.ownBlock], by simp [rowOf, Value.ownBlock], by simp [rowOf, Value.ownBlock], by simp, by simp, by simp⟩, (f1.trans f2).alloc _, ?_, ⟨lb, lm1, lm2⟩, ?_⟩
      · intro g hg
        simp [footR, rowOf, Value.ownBlock] at hg
        omega
      · simp [footR, rowOf, Value.ownBlock]
        omega
    have hI0 : PI ⟨sh, ro, 0, [], []⟩ ⟨[], [], sh, ro, 0⟩ 0 := ⟨⟨by simp, rfl, rfl, rfl, rfl, by simp, by simp, by simp, by simp⟩, ⟨⟨h1, h2⟩, ⟨h3, h4⟩, by simp, by simp⟩, by simp, by simp, by simp⟩
    refine wp_gen (fun W => PM w W b m1 m2 w2.heap.size (.slice none 0 0) (.slice none 0 0) ⟨sh, ro, 0, [], []⟩ ⟨[], [], sh, ro, 0⟩) hP0 ?_
    generalize w2.heap.size = r at *
    clear hP0 hC hC2 f1 f2
    rintro W0 hP0
    go_wp2_with fail
    go_loopg [11] (len + 1) (fun k s11 wr => ∃ (i : Nat) (vw va : Value) (c : CacheM) (R : RefM), s11 = .int .i64 i ∧ i ≤ len ∧ i ≤ 80 ∧ len - i < k ∧ PM w wr b m1 m2 r vw va c R ∧ PI c R i)
    case atStart => exact ⟨0, _, _, _, _, rfl, by omega, by omega, by omega, hP0, hI0⟩
    case round =>
      clear hP0 hI0
      obtain ⟨i, vw, va, c, R, rfl, hi, hi80, hk, hP, hI⟩ := hrel
      by_cases hlt : i < len ∧ i < 80
      · obtain ⟨hlt, h80⟩ := hlt
        have hlt' : (i : Int) < len := by omega
        have h80' : (i : Int) < 80 := by omega
        obtain ⟨bb, o, rfl, hcell⟩ := (h.fr hP.fr).at hlt
        have hmem : ss.getD i default ∈ ss := by
          have : i < ss.length := by rw [h.length]; exact hlt
          simp [List.getD, this]
        have hok := h.ok _ hmem
        have h50 : (ss.getD i default).a.sl ≤ 50 := by
          have := any_get (fun s : StepM => decide (50 < s.a.sl)) Hgr.out i (by rw [h.length]; exact hlt) h80
          simpa using this
        generalize ss.getD i default = s at hcell hok h50
        have hc0 : wr.cell? ⟨bb, o + i * 13, none⟩ = _ := hcell 0 _ rfl
        have hc1 := hcell 1 _ rfl
        have hc2 := hcell 2 _ rfl
        have hc3 := hcell 3 _ rfl
        have hc4 := hcell 4 _ rfl
        have hc5 := hcell 5 _ rfl
        have hc6 := hcell 6 _ rfl
        have hc7 := hcell 7 _ rfl
        have hc8 := hcell 8 _ rfl
        have hc9 := hcell 9 _ rfl
        have hc10 := hcell 10 _ rfl
        have hc11 := hcell 11 _ rfl
        have hc12 := hcell 12 _ rfl
        clear hcell
        have hft : ∀ g, wr.heap.size ≤ g → g ∉ footR r vw va := fun g hg hh => by have := hP.ref.lt g hh; omega
        have hbl := hP.cache.blk.lt
        have hml1 := hP.cache.way.lt
        have hml2 := hP.cache.all.lt
        have hoff : 0 < s.a.sl → Off (footR r vw va) s.a.sa := fun hp ad had hh => by
          have e1 := Rd.lt hok.strs (by omega) hp ad had
          have e2 := hP.base _ hh
          omega
        go_upto_block 2 with (fail)
        refine wp_gen (fun W => PM w W b m1 m2 r vw va c R ∧ Blk W wr.heap.size 34 s.arr ∧ Blk W (wr.heap.size + 1) 32 (arr8 Ans.zero) ∧ Blk W (wr.heap.size + 1 + 1) 32 (arr8 Ans.zero))
          ⟨hP.quiet ((((Fr.refl [] wr).alloc _).alloc _).alloc _), ((Blk.new _ _ _).alloc _).alloc _, (Blk.new' (w := wr.alloc _) _ _ (by simp)).alloc _, Blk.new' (w := (wr.alloc _).alloc _) _ _ (by simp)⟩ ?_
        generalize wr.heap.size = g12 at *
        clear hc0 hc1 hc2 hc3 hc4 hc5 hc6 hc7 hc8 hc9 hc10 hc11 hc12 hP
        rintro W ⟨hP, B12, B14, B16⟩
        have hf12 := hft g12 (Nat.le_refl _)
        have hf14 := hft (g12 + 1) (by omega)
        have hf16 := hft (g12 + 1 + 1) (by omega)
        have hn12 : g12 ∉ [b, m1, m2] := by simp; omega
        have hn14 : g12 + 1 ∉ [b, m1, m2] := by simp; omega
        have hn16 : g12 + 1 + 1 ∉ [b, m1, m2] := by simp; omega
        have hsc : ScOk W s.a s.sc := ⟨Rd.fr hok.strs hP.fr (by simp [Off]), hok.nil, h50⟩
        have hzs : ∀ W, ScOk W Ans.zero [] := fun W => ⟨Rd.nil _ _ _, fun _ => rfl, by decide⟩
        have hze : AnsEq Ans.zero Ans.zero := ⟨rfl, rfl, rfl, rfl, rfl, rfl, rfl⟩
        have hlast := hI.rel.last
        have hll := hI.ll
        have hlw := hI.lw
        have hla := hI.la
        have hl0 := hI.rel.l0
        have hno := hok.now
        have hnn := hok.n
        generalize hkd : s.kind = kd at *
        have Hkd := Lib.hid hkd
        clear hkd
        go_cut [13, 15] from 87 to 163 (fun s13 s15 wx => ∃ (is : Bool) (vw va : Value) (c : CacheM) (R : RefM) (a1 a2 : Ans) (l : List ByteArray), s13 = .bool is ∧ s15 = .bool is ∧ PM w wx b m1 m2 r vw va c R ∧ PI c R (i + 1) ∧ Blk wx (g12 + 1) 32 (arr8 a1) ∧ Blk wx (g12 + 1 + 1) 32 (arr8 a2) ∧ AnsEq a1 a2 ∧ ScOk wx a1 l ∧ ScOk wx a2 l)
        case first =>
          by_cases hk0 : kd = 0
          · subst hk0
            have k0 := And.intro (B12.cell 1) (And.intro (B12.cell 2) (B12.cell 4))
            go_upto_region 16 with (fail)
            go_region_held3 (fun w' => w'.cell? ⟨g12, 1, none⟩ = some (.string s.token) ∧ w'.cell? ⟨g12, 2, none⟩ = some (.string s.family) ∧ w'.cell? ⟨g12, 4, none⟩ = some (.int .i64 s.now)) (first | exact k0 | exact k1 | exact k2)
              (first
                | (go_at_call 12; refine (ask_t s.token s.family s.now hP.cache.drew (by omega) hno).mono ?_; rintro e w4 ⟨rfl, hc4, f4⟩; have hP4 := hP.cacheStep hc4 f4.of_drew; have D12 := B12.fr f4.of_drew hn12; have k1 := And.intro (D12.cell 1) (And.intro (D12.cell 2) (D12.cell 4)))
                | (go_at_call 13; refine (rask_t s.token s.family s.now hP4.ref (by omega) ⟨by omega, by omega⟩).mono ?_; rintro e w5 ⟨rfl, hp5⟩; obtain ⟨vw5, va5, hP5, g5⟩ := hP4.refStep hp5; have E12 := D12.fr g5.fr hf12; have k2 := And.intro (E12.cell 1) (And.intro (E12.cell 2) (E12.cell 4)); rw [hlast]))
            have E14 := (B14.fr f4.of_drew hn14).fr g5.fr hf14
            have E16 := (B16.fr f4.of_drew hn16).fr g5.fr hf16
            go_wp2_with fail
            go_meet
            exact ⟨true, vw5, va5, _, _, Ans.zero, Ans.zero, [], rfl, rfl, hP5, hI.ask _ _ _ hno (by omega), E14, E16, hze, hzs _, hzs _⟩
          · by_cases hk1 : kd = 1
            · subst hk1
              have k0 := s10 B12
              have hscd : ScOk W.drew s.a s.sc := ⟨hsc.strs.fr (Fr.refl [] W).drew (by simp [Off]), hsc.nil, hsc.le⟩
              go_upto_region 19 with (fail)
              go_region_held3 (fun w' => w'.cell? ⟨g12, 3, none⟩ = some (.int .i64 s.n) ∧ w'.cell? ⟨g12, 4, none⟩ = some (.int .i64 s.now) ∧ w'.cell? ⟨g12, 5, none⟩ = some (.int .i64 s.a.why) ∧ w'.cell? ⟨g12, 6, none⟩ = some (.int .i64 s.a.access) ∧ w'.cell? ⟨g12, 7, none⟩ = some (.int .i64 s.a.refresh) ∧ w'.cell? ⟨g12, 8, none⟩ = some (.slice s.a.sa s.a.sl s.a.sc) ∧ w'.cell? ⟨g12, 9, none⟩ = some (.string s.a.client) ∧ w'.cell? ⟨g12, 10, none⟩ = some (.string s.a.user) ∧ w'.cell? ⟨g12, 11, none⟩ = some (.bool s.a.active) ∧ w'.cell? ⟨g12, 12, none⟩ = some (.bool s.a.wait)) (first | exact k0 | exact k1 | exact k2)
                (first
                  | (go_at_call 14; refine (fill_t s.n s.a s.sc s.now hP.cache.drew hno hscd).mono ?_; rintro e w4 ⟨told, c4, hpost, hm4⟩; obtain ⟨rfl, hc4, f4⟩ := hpost; have hP4 := hP.cacheStep hc4 f4.of_drew; have D12 := B12.fr f4.of_drew hn12; have k1 := s10 D12; have hsc4 : ScOk w4 s.a s.sc := ⟨Rd.fr hok.strs hP4.fr (by simp [Off]), hok.nil, h50⟩)
                  | (go_at_call 15; refine (rfill_t s.n s.a s.sc s.now hP4.ref hI.nums hno hsc4 hoff (by omega)).mono ?_; rintro e w5 ⟨told', R5, rfl, hp5, hm5⟩; obtain ⟨vw5, va5, hP5, g5⟩ := hP4.refStep hp5; have E12 := D12.fr g5.fr hf12; have k2 := s10 E12))
              obtain ⟨et, hI5⟩ := hI.fill hm4 hm5
              have E14 := (B14.fr f4.of_drew hn14).fr g5.fr hf14
              have E16 := (B16.fr f4.of_drew hn16).fr g5.fr hf16
              clear hm4 hm5 k0 k1 k2
              subst et
              go_wp2_with fail
              go_meet
              exact ⟨told, vw5, va5, c4, R5, Ans.zero, Ans.zero, [], rfl, rfl, hP5, hI5.up, E14, E16, hze, hzs _, hzs _⟩
            · by_cases hk2 : kd = 2
              · subst hk2
                have k0 : W.cell? ⟨g12, 3, none⟩ = some (.int .i64 s.n) := B12.cell 3
                go_wp2_with fail
                refine (drop_t s.n hP.cache).mono ?_
                rintro e w4 ⟨rfl, hc4, f4⟩
                have hP4 := hP.cacheStep hc4 f4
                have D12 := B12.fr f4 hn12
                have k1 : w4.cell? ⟨g12, 3, none⟩ = some (.int .i64 s.n) := D12.cell 3
                go_wp2_with fail
                refine (rdrop_t s.n hP4.ref).mono ?_
                rintro e w5 ⟨rfl, hp5⟩
                obtain ⟨vw5, va5, hP5, g5⟩ := hP4.refStep hp5
                have E14 := (B14.fr f4 hn14).fr g5.fr hf14
                have E16 := (B16.fr f4 hn16).fr g5.fr hf16
                go_wp2_with fail
                go_meet
                exact ⟨true, vw5, va5, _, _, Ans.zero, Ans.zero, [], rfl, rfl, hP5, (hI.drop s.n).up, E14, E16, hze, hzs _, hzs _⟩
              · by_cases hk3 : kd = 3
                · subst hk3
                  have k0 : W.cell? ⟨g12, 1, none⟩ = some (.string s.token) := B12.cell 1
                  have k0' : W.cell? ⟨g12, 4, none⟩ = some (.int .i64 s.now) := B12.cell 4
                  go_wp2_with fail
                  refine (get_ty s.token s.now hP.cache hno).mono ?_
                  rintro e w4 ⟨told, a1, rfl, f4, hm4⟩
                  have hP4 := hP.quiet f4
                  have D12 := B12.fr f4 (by simp)
                  have D14 := B14.fr f4 (by simp)
                  have D16 := B16.fr f4 (by simp)
                  have d14 := Blk.c8 (show Blk w4 (g12 + 1) 32 #[.int .i64 0, .int .i64 0, .int .i64 0, .slice none 0 0, .string ⟨#[]⟩, .string ⟨#[]⟩, .bool false, .bool false] from D14)
                  have hG : Fr [g12 + 1] w4 ((((((((w4.setCell ⟨g12 + 1, 0, none⟩ (.int .i64 a1.why)).setCell ⟨g12 + 1, 1, none⟩ (.int .i64 a1.access)).setCell ⟨g12 + 1, 2, none⟩ (.int .i64 a1.refresh)).setCell ⟨g12 + 1, 3, none⟩ (.slice a1.sa a1.sl a1.sc)).setCell ⟨g12 + 1, 4, none⟩ (.string a1.client)).setCell ⟨g12 + 1, 5, none⟩ (.string a1.user)).setCell ⟨g12 + 1, 6, none⟩ (.bool a1.active)).setCell ⟨g12 + 1, 7, none⟩ (.bool a1.wait)) := by
                    repeat (first | with_reducible exact Fr.refl _ _ | (with_reducible refine Fr.setCell ?_ ?_ _; rotate_left; simp))
                  have hw0 : w.heap.size ≤ g12 + 1 := by have := hP.bb.1; omega
                  have hP5 := hP4.box hG D14 (by decide) hn14 hf14 hw0
                  have E14 : Blk _ (g12 + 1) 32 (arr8 a1) := Blk.set8 (show Blk w4 (g12 + 1) 32 #[.int .i64 0, .int .i64 0, .int .i64 0, .slice none 0 0, .string ⟨#[]⟩, .string ⟨#[]⟩, .bool false, .bool false] from D14) (.int .i64 a1.why) (.int .i64 a1.access) (.int .i64 a1.refresh) (.slice a1.sa a1.sl a1.sc) (.string a1.client) (.string a1.user) (.bool a1.active) (.bool a1.wait)
                  have E12 := D12.fr hG (by simp)
                  have E16 := D16.fr hG (by simp)
                  go_upto_region 25 with (fail)
                  refine wp_gen (fun W5 => PM w W5 b m1 m2 r vw va c R ∧ Blk W5 g12 34 s.arr ∧ Blk W5 (g12 + 1) 32 (arr8 a1) ∧ Blk W5 (g12 + 1 + 1) 32 (arr8 Ans.zero) ∧ Fr [g12 + 1] w4 W5) ⟨hP5, E12, E14, E16, hG⟩ ?_
                  clear hP5 E12 E14 E16 hG d14 k0 k0' D12 D16 hP4
                  rintro W5 ⟨hP5, E12, E14, E16, hG⟩
                  have k0 : W5.cell? ⟨g12, 1, none⟩ = some (.string s.token) := E12.cell 1
                  have k0' : W5.cell? ⟨g12, 4, none⟩ = some (.int .i64 s.now) := E12.cell 4
                  go_wp2_with fail
                  refine (rget_t s.token s.now hP5.ref hI.nums hno).mono ?_
                  rintro e w6 ⟨a2, is, rfl, f6, hm6⟩
                  have hP6 := hP5.quiet f6
                  obtain ⟨et, haq, l, q1, q2, q3⟩ := get_rel hI.rel hP6.ref hm4 hm6
                  have F14 := E14.fr f6 (by simp)
                  have F16 := E16.fr f6 (by simp)
                  have d16 := Blk.c8 (show Blk w6 (g12 + 1 + 1) 32 #[.int .i64 0, .int .i64 0, .int .i64 0, .slice none 0 0, .string ⟨#[]⟩, .string ⟨#[]⟩, .bool false, .bool false] from F16)
                  have hG6 : Fr [g12 + 1 + 1] w6 ((((((((w6.setCell ⟨g12 + 1 + 1, 0, none⟩ (.int .i64 a2.why)).setCell ⟨g12 + 1 + 1, 1, none⟩ (.int .i64 a2.access)).setCell ⟨g12 + 1 + 1, 2, none⟩ (.int .i64 a2.refresh)).setCell ⟨g12 + 1 + 1, 3, none⟩ (.slice a2.sa a2.sl a2.sc)).setCell ⟨g12 + 1 + 1, 4, none⟩ (.string a2.client)).setCell ⟨g12 + 1 + 1, 5, none⟩ (.string a2.user)).setCell ⟨g12 + 1 + 1, 6, none⟩ (.bool a2.active)).setCell ⟨g12 + 1 + 1, 7, none⟩ (.bool a2.wait)) := by
                    repeat (first | with_reducible exact Fr.refl _ _ | (with_reducible refine Fr.setCell ?_ ?_ _; rotate_left; simp))
                  have hP7 := hP6.box hG6 F16 (by decide) hn16 hf16 (by omega)
                  have H14 := F14.fr hG6 (by simp)
                  have H16 : Blk _ (g12 + 1 + 1) 32 (arr8 a2) := Blk.set8 (show Blk w6 (g12 + 1 + 1) 32 #[.int .i64 0, .int .i64 0, .int .i64 0, .slice none 0 0, .string ⟨#[]⟩, .string ⟨#[]⟩, .bool false, .bool false] from F16) (.int .i64 a2.why) (.int .i64 a2.access) (.int .i64 a2.refresh) (.slice a2.sa a2.sl a2.sc) (.string a2.client) (.string a2.user) (.bool a2.active) (.bool a2.wait)
                  have oo1 := hm4.1.ne D14 (by decide)
                  have oo2 := (((hm4.1.fr hG oo1).fr f6 (by simp [Off])).ne F16 (by decide))
                  have oo3 := q3.ne F16 (by decide)
                  have sc1 : ScOk _ a1 l := ⟨((q1.strs.fr hG (fun _ => oo1)).fr f6 (by simp [Off])).fr hG6 (fun _ => oo2), q1.nil, q1.le⟩
                  have sc2 : ScOk _ a2 l := ⟨q2.strs.fr hG6 (fun _ => oo3), q2.nil, q2.le⟩
                  clear hm4 hm6
                  subst et
                  go_wp2_with fail
                  go_meet
                  exact ⟨told, vw, va, c, R, a1, a2, l, rfl, rfl, hP7, hI.up, H14, H16, haq, sc1, sc2⟩
                · by_cases hk4 : kd = 4
                  · subst hk4
                    have k0 : W.cell? ⟨g12, 2, none⟩ = some (.string s.family) := B12.cell 2
                    go_wp2_with fail
                    refine (void_t b m1 m2 c s.family _ hP.cache).mono ?_
                    rintro e w4 ⟨rfl, hc4, f4⟩
                    have hP4 := hP.cacheStep hc4 f4
                    have D12 := B12.fr f4 hn12
                    have k1 : w4.cell? ⟨g12, 2, none⟩ = some (.string s.family) := D12.cell 2
                    go_wp2_with fail
                    refine (rvoid_t s.family hP4.ref).mono ?_
                    rintro e w5 ⟨rfl, hp5⟩
                    obtain ⟨vw5, va5, hP5, g5⟩ := hP4.refStep hp5
                    have E14 := (B14.fr f4 hn14).fr g5.fr hf14
                    have E16 := (B16.fr f4 hn16).fr g5.fr hf16
                    go_wp2_with fail
                    go_meet
                    exact ⟨true, vw5, va5, _, _, Ans.zero, Ans.zero, [], rfl, rfl, hP5, (hI.void s.family).up, E14, E16, hze, hzs _, hzs _⟩
                  · have q0 : (kd == 0) = false := by simpa using hk0
                    have q1 : (kd == 1) = false := by simpa using hk1
                    have q2 : (kd == 2) = false := by simpa using hk2
                    have q3 : (kd == 3) = false := by simpa using hk3
                    have q4 : (kd == 4) = false := by simpa using hk4
                    go_wp2_with fail
                    go_meet
                    exact ⟨true, vw, va, c, R, Ans.zero, Ans.zero, [], rfl, rfl, hP, hI.up, B14, B16, hze, hzs _, hzs _⟩
        case rest =>
          clear hP B12 B14 B16 hI hsc hzs hze hft hoff hf12 hf14 hf16 hn12 hn14 hn16 hlast hll hlw hla hl0
          obtain ⟨is, vw, va, c, R, a1, a2, l, rfl, rfl, hP, hI, B14, B16, haq, sc1, sc2⟩ := hcut
          have hcl : (c.all.length : Int) = R.all.length := by
            have := hI.rel.all.length_eq
            simp at this
            omega
          have hcw : (c.way.length : Int) = R.way.length := by
            have := congrArg List.length hI.rel.way
            simp at this
            omega
          obtain ⟨A5, c5, rfl, -⟩ := hP.ref.oa.form
          obtain ⟨A6, c6, rfl, -⟩ := hP.ref.ow.form
          have k0 := s18 B14 B16 hP.ref.blk.c5
          go_upto_region 29 with (fail)
          go_region_held3 (fun w' => w'.cell? ⟨g12 + 1, 0, none⟩ = some (.int .i64 a1.why) ∧ w'.cell? ⟨g12 + 1, 1, none⟩ = some (.int .i64 a1.access) ∧ w'.cell? ⟨g12 + 1, 2, none⟩ = some (.int .i64 a1.refresh) ∧ w'.cell? ⟨g12 + 1, 3, none⟩ = some (.slice a1.sa a1.sl a1.sc) ∧ w'.cell? ⟨g12 + 1, 4, none⟩ = some (.string a1.client) ∧ w'.cell? ⟨g12 + 1, 5, none⟩ = some (.string a1.user) ∧ w'.cell? ⟨g12 + 1, 6, none⟩ = some (.bool a1.active) ∧ w'.cell? ⟨g12 + 1, 7, none⟩ = some (.bool a1.wait) ∧
              w'.cell? ⟨g12 + 1 + 1, 0, none⟩ = some (.int .i64 a2.why) ∧ w'.cell? ⟨g12 + 1 + 1, 1, none⟩ = some (.int .i64 a2.access) ∧ w'.cell? ⟨g12 + 1 + 1, 2, none⟩ = some (.int .i64 a2.refresh) ∧ w'.cell? ⟨g12 + 1 + 1, 3, none⟩ = some (.slice a2.sa a2.sl a2.sc) ∧ w'.cell? ⟨g12 + 1 + 1, 4, none⟩ = some (.string a2.client) ∧ w'.cell? ⟨g12 + 1 + 1, 5, none⟩ = some (.string a2.user) ∧ w'.cell? ⟨g12 + 1 + 1, 6, none⟩ = some (.bool a2.active) ∧ w'.cell? ⟨g12 + 1 + 1, 7, none⟩ = some (.bool a2.wait) ∧
              w'.cell? ⟨r, 0, none⟩ = some (.slice A6 R.way.length c6) ∧ w'.cell? ⟨r, 1, none⟩ = some (.slice A5 R.all.length c5)) (first | exact k0 | exact k1)
            (first
              | (go_at_call 22; refine (answers_t a1 a2 l _ haq ⟨sc1.strs.fr (Fr.refl [] wc).drew (by simp [Off]), sc1.nil, sc1.le⟩ ⟨sc2.strs.fr (Fr.refl [] wc).drew (by simp [Off]), sc2.nil, sc2.le⟩).mono ?_; rintro e w4 ⟨rfl, f4⟩; have hP4 := hP.quiet f4.of_drew; have k1 := s18 (B14.fr f4.of_drew (by simp)) (B16.fr f4.of_drew (by simp)) hP4.ref.blk.c5)
              | (go_at_call 11; refine (count_t hP4.cache).mono ?_; rintro e w5 ⟨rfl, rfl⟩; rw [hcl])
              | (go_at_call 23; refine (open_t hP4.cache).mono ?_; rintro e w5 ⟨rfl, rfl⟩; rw [hcw]))
          go_wp2
          go_roundg (len - i)
          case measure => omega
          case rel => exact ⟨i + 1, _, _, c, R, by go_num, by omega, by omega, by omega, hP4, hI⟩
      · by_cases hlt1 : i < len
        · have hlt' : (i : Int) < len := by omega
          have hi80' : (80 : Int) ≤ (i : Int) := by omega
          go_wp2
          go_ret
          exact ⟨rfl, hP.fr⟩
        · have hlt' : (len : Int) ≤ (i : Int) := by omega
          go_wp2
          go_ret
          exact ⟨rfl, hP.fr⟩
end Go.Proofs.Ythegggfpofdcdaa
