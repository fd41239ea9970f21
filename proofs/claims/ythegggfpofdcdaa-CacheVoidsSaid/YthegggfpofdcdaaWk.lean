/- The walk of CacheVoids: it returns true. Conditions: the theorem's own. -/
import Derived.Test.YthegggfpofdcdaaWg
import Derived.Test.YthegggfpofdcdaaWh
import Derived.Test.YthegggfpofdcdaaWi
import Derived.Test.YthegggfpofdcdaaVd
import Derived.Deep.DeepCutAuto
import Derived.Deep.CutBlock
namespace Go.Proofs.Ythegggfpofdcdaa
open Go.RowKit Go.Sig

theorem und51 : Try.prog.underlying 51 = some (.map 9 9) := by kernel_rfl
theorem z9 (w : World) : (zeroValue 9).run Try.prog w = .ok (.string ⟨#[]⟩) w := by kernel_rfl
theorem ne_row {w : World} {e size n : Nat} {v : Value} {xs : List Value} (h : Own w e size v n xs) {mo : Nat} {l : List (ByteArray × ByteArray)} (hm : IsMap w mo Value.string Value.string l) : mo ∉ rowOf v := by
  intro hh
  obtain ⟨_, _, hb, _⟩ := hm
  rcases h.2 with ⟨rfl, _⟩ | ⟨g, cap, cur, rfl, _, hg, _⟩
  · simp [rowOf, Value.ownBlock] at hh
  · simp [rowOf, Value.ownBlock] at hh
    rw [hh, hg] at hb
    cases hb

/-- What holds between two calls. -/
structure VW (w w2 wr : World) (b m1 m2 mo : Nat) (s14 : Value) (asked : List ByteArray) (tf : List (ByteArray × ByteArray)) (c : CacheM) : Prop where
  own : Own wr 9 1 s14 asked.length (asked.map Value.string)
  row : ∀ g ∈ rowOf s14, w2.heap.size ≤ g
  map : IsMap wr mo Value.string Value.string tf
  mo : w2.heap.size ≤ mo
  cache : CacheAt wr b m1 m2 c
  apart : ∀ p ∈ c.all, Off (rowOf s14) p.2.a.sa
  fr : Fr [] w wr
  size : w2.heap.size ≤ wr.heap.size
theorem VW.more {w w2 wr w' : World} {b m1 m2 mo : Nat} {s14 : Value} {asked : List ByteArray} {tf : List (ByteArray × ByteArray)} {c : CacheM} (h : VW w w2 wr b m1 m2 mo s14 asked tf c) (hf : Fr [] wr w') : VW w w2 w' b m1 m2 mo s14 asked tf c :=
  ⟨h.own.fr hf (by simp), h.row, h.map.fr hf (by simp), h.mo, h.cache.nilfr hf, h.apart, h.fr.trans hf, Nat.le_trans h.size hf.size⟩
/-- Behind a call that may have changed the cache. -/
theorem VW.call {w w2 wr w' : World} {b m1 m2 mo : Nat} {s14 : Value} {asked : List ByteArray} {tf : List (ByteArray × ByteArray)} {c c' : CacheM} (h : VW w w2 wr b m1 m2 mo s14 asked tf c) (hF : Fr [b, m1, m2] wr w') (hc : CacheAt w' b m1 m2 c')
    (hb : w.heap.size ≤ b ∧ w.heap.size ≤ m1 ∧ w.heap.size ≤ m2) (hb2 : b < w2.heap.size ∧ m1 < w2.heap.size ∧ m2 < w2.heap.size) (hmem : ∀ p ∈ c'.all, p ∈ c.all ∨ ∀ ad, p.2.a.sa = some ad → wr.heap.size ≤ ad.block) : VW w w2 w' b m1 m2 mo s14 asked tf c' := by
  have hmo := h.mo
  refine ⟨h.own.fr hF (fun g hg => by have := h.row g hg; simp; omega), h.row, h.map.fr hF (by simp; omega), h.mo, hc, fun p hp ad ha hh => ?_, h.fr.andThen hF (by simp; omega), Nat.le_trans h.size hF.size⟩
  rcases hmem p hp with hp | hp
  · exact h.apart p hp ad ha hh
  · have h1 := hp ad ha
    have h2 := h.own.lt _ hh
    omega

theorem Ty9.ne_map {w : World} {A : Option Addr} (h : Ty9 w A) {mo : Nat} {l : List (ByteArray × ByteArray)} (hm : IsMap w mo Value.string Value.string l) : Off [mo] A := by
  intro ad ha
  obtain ⟨cs, fr, hh⟩ := h ad ha
  obtain ⟨_, _, hb, _⟩ := hm
  simp only [List.mem_singleton]
  intro e
  rw [e, hb] at hh
  cases hh
theorem rd_str {w : World} {g : Nat} {t : TypeId} {f : ByteArray} (h : Blk w g t #[.string f]) : Rd w 1 (some ⟨g, 0, none⟩) 1 [.string f] := by
  refine ⟨rfl, fun _ => ⟨g, 0, rfl, fun j u hu => ?_⟩⟩
  rw [Nat.zero_add, h.cell]
  simpa using hu
/-- Behind the append of a family. -/
theorem VW.asked {w w2 wr W w4 : World} {b m1 m2 mo : Nat} {s14 v' : Value} {asked : List ByteArray} {tf : List (ByteArray × ByteArray)} {c : CacheM} {f : ByteArray} (h : VW w w2 wr b m1 m2 mo s14 asked tf c) (hW : Fr [] wr W)
    (hO : Own w4 9 1 v' (asked.length + 1) (asked.map Value.string ++ [.string f])) (hf : Fr (rowOf s14) W w4) (hrw : ∀ g, g ∈ rowOf v' → g ∈ rowOf s14 ∨ g = W.heap.size) (hs : w.heap.size ≤ w2.heap.size)
    (hb2 : b < w2.heap.size ∧ m1 < w2.heap.size ∧ m2 < w2.heap.size) : VW w w2 w4 b m1 m2 mo v' (asked ++ [f]) tf c := by
  have hsz := h.size
  have hWs := hW.size
  refine ⟨by simpa using hO, fun g hg => ?_, (h.map.fr hW (by simp)).fr hf (ne_row h.own h.map), h.mo, (h.cache.nilfr hW).fr hf ?_ ?_ ?_ h.apart, fun p hp ad ha hh => ?_, (h.fr.trans hW).andThen hf (fun g hg => .inr ?_), ?_⟩
  · rcases hrw g hg with hg | hg
    · exact h.row g hg
    · omega
  · intro hh; have := h.row _ hh; omega
  · intro hh; have := h.row _ hh; omega
  · intro hh; have := h.row _ hh; omega
  · rcases hrw _ hh with hg | hg
    · exact h.apart p hp ad ha hg
    · have := (h.cache.typ p hp).lt ad ha
      omega
  · have := h.row g hg; omega
  · have := hf.size; omega
/-- Behind a store into the map of the families. -/
theorem VW.known {w w2 w4 w5 : World} {b m1 m2 mo : Nat} {s14 : Value} {asked : List ByteArray} {tf tf' : List (ByteArray × ByteArray)} {c : CacheM} (h : VW w w2 w4 b m1 m2 mo s14 asked tf c) (hm : IsMap w5 mo Value.string Value.string tf') (ht : Turned mo w4 w5)
    (hs : w.heap.size ≤ w2.heap.size) (hb2 : b < w2.heap.size ∧ m1 < w2.heap.size ∧ m2 < w2.heap.size) : VW w w2 w5 b m1 m2 mo s14 asked tf' c := by
  have hmo := h.mo
  exact ⟨h.own.fr ht.fr (fun g hg e => by simp at e; subst e; exact ne_row h.own h.map hg), h.row, hm, h.mo, h.cache.fr ht.fr (by simp; omega) (by simp; omega) (by simp; omega) (fun p hp => (h.cache.typ p hp).ne_map h.map), h.apart,
    h.fr.andThen ht.fr (by simp; omega), Nat.le_trans h.size ht.fr.size⟩

theorem rd1_at {w : World} {A : Option Addr} {n k : Nat} {fs : List ByteArray} (h : Rd w 1 A n (fs.map Value.string)) (hn : fs.length = n) (hk : k < n) : ∃ b o, A = some ⟨b, o, none⟩ ∧ b < w.heap.size ∧ w.cell? ⟨b, o + k, none⟩ = some (.string (fs.getD k default)) := by
  obtain ⟨b, o, hA, hc⟩ := h.2 (by omega)
  have h1 := hc k (.string (fs.getD k default)) (by simp [List.getD, List.getElem?_map, List.getElem?_eq_getElem (show k < fs.length by omega)])
  exact ⟨b, o, hA, block_lt_of_cell h1, h1⟩

set_option maxRecDepth 100000 in
set_option maxHeartbeats 2000000 in
theorem void_walk (sh ro : Int) (A : Option Addr) (len cap : Nat) (ss : List StepM) (fam : ByteArray) (A2 : Option Addr) (len2 cap2 : Nat) (ss2 : List StepM) (w : World) (h : Script w A len ss) (h' : Script w A2 len2 ss2) (hsh : I64 sh) (hro : I64 ro) :
   Calls Try.prog 5 #[.int .i64 sh, .int .i64 ro, .slice A len cap, .string fam, .slice A2 len2 cap2] w fun e w' => e = .returned (.bool true) ∧ Fr [] w w' := by
  have hle := h.le
  have hle2 := h'.le
  by_cases hgood : 0 ≤ sh ∧ sh ≤ 1099511627776 ∧ 1 ≤ ro ∧ ro ≤ 64
  · obtain ⟨g1, g2, g3, g4⟩ := hgood
    have hmm := @run_makeMap Try.prog
    go_enter Try.func5, Try.ntmps5
    go_wp2_with fail
    refine (new_good sh ro w g1 g2 g3 g4).mono ?_
    rintro e w1 ⟨b, m1, m2, rfl, h1, f1, lb, lm1, lm2⟩
    go_wp2_with fail
    refine (known_t w1).mono ?_
    rintro e w2 ⟨rfl, f2⟩
    have h2 := h1.nilfr f2
    have F2 := f1.trans f2
    clear h1 f1 f2
    go_wp2_with fail
    refine (great_t A len cap ss w2 (h.fr F2)).mono ?_
    rintro e w3 ⟨rfl, rfl⟩
    cases hgr : greatB ss with
    | true =>
      go_wp2_with fail
      refine (known_t w2).mono ?_
      rintro e w3 ⟨rfl, f3⟩
      go_wp2_with fail
      go_ret
      exact ⟨rfl, F2.trans f3⟩
    | false =>
      have Hgr := Lib.hid hgr
      clear hgr
      go_wp2_with fail
      refine (great_t A2 len2 cap2 ss2 w2 (h'.fr F2)).mono ?_
      rintro e w3 ⟨rfl, rfl⟩
      cases hgr2 : greatB ss2 with
      | true =>
        go_wp2_with fail
        refine (known_t w2).mono ?_
        rintro e w3 ⟨rfl, f3⟩
        go_wp2_with fail
        go_ret
        exact ⟨rfl, F2.trans f3⟩
      | false =>
        have Hgr2 := Lib.hid hgr2
        clear hgr2
        have hb2 := h2.blk.lt
        have hm1 := h2.way.lt
        have hm2 := h2.all.lt
        go_upto_block 0 with (fail)
        go_cut [14, 15] from 46 to 91 (fun s14 s15 wr => ∃ (asked : List ByteArray) (tf : List (ByteArray × ByteArray)) (c : CacheM), s15 = .int .i64 asked.length ∧ asked.length ≤ 80 ∧ VW w w2 wr b m1 m2 w2.heap.size s14 asked tf c ∧ VoidI asked tf c)
        case first =>
          go_wp2_with fail
          go_loopg [14, 15, 16] (len + 1) (fun k s14 s15 s16 wr => ∃ (i : Nat) (asked : List ByteArray) (tf : List (ByteArray × ByteArray)) (c : CacheM), s16 = .int .i64 i ∧ s15 = .int .i64 asked.length ∧ i ≤ len ∧ i ≤ 80 ∧ len - i < k ∧ asked.length ≤ i ∧ VW w w2 wr b m1 m2 w2.heap.size s14 asked tf c ∧ VoidI asked tf c)
          case atStart =>
            exact ⟨0, [], [], _, rfl, rfl, by omega, by omega, by omega, by simp, ⟨Own.nil _ _ _, by simp [rowOf, Value.ownBlock], IsMap.new _ _ _, Nat.le_refl _, h2.alloc _, by simp, F2.alloc _, by simp⟩, ⟨rfl, by simp, by simp, by simp⟩⟩
          case round =>
            obtain ⟨i, asked, tf, c, rfl, rfl, hi, hi80, hk, hal, hV, hI⟩ := hrel
            by_cases hlt : i < len ∧ i < 80
            · obtain ⟨hlt, h80⟩ := hlt
              obtain ⟨bb, o, rfl, hcell⟩ := (h.fr hV.fr).at hlt
              have hmem : ss.getD i default ∈ ss := by
                have : i < ss.length := by rw [h.length]; exact hlt
                simp [List.getD, this]
              have hok := h.ok _ hmem
              have h50 : (ss.getD i default).a.sl ≤ 50 := by
                have := any_get (fun s : StepM => decide (50 < s.a.sl)) Hgr.out i (by rw [h.length]; exact hlt) h80
                simpa using this
              generalize ss.getD i default = s at hcell hok h50
              have hc0 : wr.cell? ⟨bb, o + i * 13, none⟩ = _ := hcell 0 _ rfl
              have hc1 := hcell 1 _ rfl
              have hc2 := hcell 2 _ rfl
              have hc3 := hcell 3 _ rfl
              have hc4 := hcell 4 _ rfl
              have hc5 := hcell 5 _ rfl
              have hc6 := hcell 6 _ rfl
              have hc7 := hcell 7 _ rfl
              have hc8 := hcell 8 _ rfl
              have hc9 := hcell 9 _ rfl
              have hc10 := hcell 10 _ rfl
              have hc11 := hcell 11 _ rfl
              have hc12 := hcell 12 _ rfl
              clear hcell
              have hs34 : Blk (wr.alloc (.cells s.arr 34)) wr.heap.size 34 s.arr := Blk.new _ _ _
              go_upto_if 62 with (fail)
              go_cut [14, 15] (fun s14' s15' wx => ∃ (asked' : List ByteArray) (tf' : List (ByteArray × ByteArray)), s15' = .int .i64 asked'.length ∧ asked'.length ≤ i + 1 ∧ (s.kind = 0 → asked' = asked ++ [s.family] ∧ tf' = aset s.token s.family tf ∧ (aget s.token tf = none ∨ aget s.token tf = some s.family)) ∧ (s.kind ≠ 0 → asked' = asked ∧ tf' = tf) ∧ VW w w2 wx b m1 m2 w2.heap.size s14' asked' tf' c ∧ Blk wx wr.heap.size 34 s.arr)
              case first =>
                clear hc0 hc1 hc2 hc3 hc4 hc5 hc6 hc7 hc8 hc9 hc10 hc11 hc12
                have hnr : wr.heap.size ∉ rowOf _ := fun hh => by have := hV.own.lt _ hh; omega
                by_cases hk0 : s.kind = 0
                · have hk0' : (s.kind == 0) = true := by simp [hk0]
                  have Hk0 := Lib.hid hk0
                  clear hk0
                  have hfin : ∀ (v' : Value) (w4 w5 : World), Own w4 9 1 v' (asked.length + 1) (asked.map Value.string ++ [.string s.family]) → Fr (rowOf _) ((wr.alloc (.cells s.arr 34)).alloc (.cells #[.string s.family] 9)) w4 →
                      (∀ g, g ∈ rowOf v' → g ∈ rowOf _ ∨ g = ((wr.alloc (.cells s.arr 34)).alloc (.cells #[.string s.family] 9)).heap.size) → IsMap w5 w2.heap.size Value.string Value.string (aset s.token s.family tf) → Turned w2.heap.size w4 w5 →
                      VW w w2 w5 b m1 m2 w2.heap.size v' (asked ++ [s.family]) (aset s.token s.family tf) c ∧ Blk w5 wr.heap.size 34 s.arr := fun v' w4 w5 hO hf4 hrw hm5 ht5 =>
                    ⟨(hV.asked (Fr.alloc (Fr.alloc (Fr.refl _ _) _) _) hO hf4 hrw F2.size ⟨hb2, hm1, hm2⟩).known hm5 ht5 F2.size ⟨hb2, hm1, hm2⟩, ((hs34.alloc _).fr hf4 hnr).fr ht5.fr (by have := hV.map.lt; simp; omega)⟩
                  have hB9 : Blk ((wr.alloc (.cells s.arr 34)).alloc (.cells #[.string s.family] 9)) (wr.heap.size + 1) 9 #[.string s.family] := Blk.new' 9 #[.string s.family] (by simp)
                  cases hg : aget s.token tf with
                  | none =>
                    go_wp2_with (first | (refine wpList_own_append t30 (hV.own.fr (S := []) (Fr.alloc (Fr.alloc (Fr.refl _ _) _) _) (by simp)) (rd_str hB9) ?_ (by simp) ?_ ?_ rfl rfl rfl rfl (fun v' w4 hO hf4 hrw => have hm4 := (hV.map.fr (S := []) (Fr.alloc (Fr.alloc (Fr.refl _ _) _) _) (by simp)).fr hf4 (ne_row hV.own hV.map); have d1 : w4.cell? ⟨wr.heap.size, 1, none⟩ = some (.string s.token) := (((hs34.alloc _).fr hf4 hnr).cell 1); have d2 : w4.cell? ⟨wr.heap.size, 2, none⟩ = some (.string s.family) := (((hs34.alloc _).fr hf4 hnr).cell 2); ?_)) | (refine wpList_map_get_ok hm4 k9 und51 z9 s.token rfl rfl rfl rfl ?_; simp only [hg, Option.map_none, Option.getD_none, Option.isSome_none]) | (refine wpList_map_set hm4 k9 und51 s.token s.family rfl rfl rfl rfl rfl (fun w5 hm5 ht5 => ?_)))
                    · intro u hu; simp at hu; subst hu; rfl
                    · unfold maxLen; omega
                    · omega
                    · go_meet
                      obtain ⟨q1, q2⟩ := hfin _ _ _ hO hf4 hrw hm5 ht5
                      exact ⟨asked ++ [s.family], aset s.token s.family tf, by simp, by simp; omega, fun _ => ⟨rfl, rfl, .inl hg⟩, fun hh => absurd Hk0.out hh, q1, q2⟩
                  | some f =>
                    by_cases hff : f = s.family
                    · subst hff
                      go_wp2_with (first | (refine wpList_own_append t30 (hV.own.fr (S := []) (Fr.alloc (Fr.alloc (Fr.refl _ _) _) _) (by simp)) (rd_str hB9) ?_ (by simp) ?_ ?_ rfl rfl rfl rfl (fun v' w4 hO hf4 hrw => have hm4 := (hV.map.fr (S := []) (Fr.alloc (Fr.alloc (Fr.refl _ _) _) _) (by simp)).fr hf4 (ne_row hV.own hV.map); have d1 : w4.cell? ⟨wr.heap.size, 1, none⟩ = some (.string s.token) := (((hs34.alloc _).fr hf4 hnr).cell 1); have d2 : w4.cell? ⟨wr.heap.size, 2, none⟩ = some (.string s.family) := (((hs34.alloc _).fr hf4 hnr).cell 2); ?_)) | (refine wpList_map_get_ok hm4 k9 und51 z9 s.token rfl rfl rfl rfl ?_; simp only [hg, Option.map_some, Option.getD_some, Option.isSome_some]) | (refine wpList_map_set hm4 k9 und51 s.token s.family rfl rfl rfl rfl rfl (fun w5 hm5 ht5 => ?_)))
                      · intro u hu; simp at hu; subst hu; rfl
                      · unfold maxLen; omega
                      · omega
                      · go_meet
                        obtain ⟨q1, q2⟩ := hfin _ _ _ hO hf4 hrw hm5 ht5
                        exact ⟨asked ++ [s.family], aset s.token s.family tf, by simp, by simp; omega, fun _ => ⟨rfl, rfl, .inr hg⟩, fun hh => absurd Hk0.out hh, q1, q2⟩
                    · have hfq : (f.toList == s.family.toList) = false := by rw [toList_beq]; simp [hff]
                      have HFF := Lib.hid hff
                      clear hff
                      go_wp2_with (first | (refine wpList_own_append t30 (hV.own.fr (S := []) (Fr.alloc (Fr.alloc (Fr.refl _ _) _) _) (by simp)) (rd_str hB9) ?_ (by simp) ?_ ?_ rfl rfl rfl rfl (fun v' w4 hO hf4 hrw => have hm4 := (hV.map.fr (S := []) (Fr.alloc (Fr.alloc (Fr.refl _ _) _) _) (by simp)).fr hf4 (ne_row hV.own hV.map); have d1 : w4.cell? ⟨wr.heap.size, 1, none⟩ = some (.string s.token) := (((hs34.alloc _).fr hf4 hnr).cell 1); have d2 : w4.cell? ⟨wr.heap.size, 2, none⟩ = some (.string s.family) := (((hs34.alloc _).fr hf4 hnr).cell 2); ?_)) | (refine wpList_map_get_ok hm4 k9 und51 z9 s.token rfl rfl rfl rfl ?_; simp only [hg, Option.map_some, Option.getD_some, Option.isSome_some]))
                      · intro u hu; simp at hu; subst hu; rfl
                      · unfold maxLen; omega
                      · omega
                      · go_ret
                        exact ⟨rfl, (hV.fr.trans (Fr.alloc (Fr.alloc (Fr.refl _ _) _) _)).andThen hf4 (fun g hg => .inr (by have := hV.row g hg; have := F2.size; omega))⟩
                · have hk0' : (s.kind == 0) = false := by simp [hk0]
                  have Hk0 := Lib.hid hk0
                  clear hk0
                  go_wp2
                  go_meet
                  exact ⟨asked, tf, rfl, by omega, fun hh => absurd hh Hk0.out, fun _ => ⟨rfl, rfl⟩, hV.more (Fr.alloc (Fr.refl _ _) _), hs34⟩
              case rest =>
                obtain ⟨asked', tf', rfl, hal', hz, hnz, hV', hBx⟩ := hcut
                have d0 := hBx.cell 0
                have d1 := hBx.cell 1
                have d2 := hBx.cell 2
                have d3 := hBx.cell 3
                have d4 := hBx.cell 4
                have d5 := hBx.cell 5
                have d6 := hBx.cell 6
                have d7 := hBx.cell 7
                have d8 := hBx.cell 8
                have d9 := hBx.cell 9
                have d10 := hBx.cell 10
                have d11 := hBx.cell 11
                have d12 := hBx.cell 12
                simp only [List.getElem?_toArray, List.getElem?_cons_succ, List.getElem?_cons_zero] at d0 d1 d2 d3 d4 d5 d6 d7 d8 d9 d10 d11 d12
                have hcl : c.last < 4000000000 := by rw [hI.last]; omega
                clear hs34 hc0 hc1 hc2 hc3 hc4 hc5 hc6 hc7 hc8 hc9 hc10 hc11 hc12
                go_wp2_with fail
                refine (do_t s hV'.cache hcl (hok.fr hV'.fr) h50).mono ?_
                rintro e w5 ⟨told, a', c', rfl, h5, f5, hd⟩
                have hV5 := hV'.call f5 h5 ⟨lb, lm1, lm2⟩ ⟨hb2, hm1, hm2⟩ (doM_mem hd)
                have hI5 : VoidI asked' tf' c' := by
                  by_cases hk0 : s.kind = 0
                  · obtain ⟨rfl, rfl, hg⟩ := hz hk0
                    exact hI.ask hd hk0 hg
                  · obtain ⟨rfl, rfl⟩ := hnz hk0
                    exact hI.other hd hk0
                clear d0 d1 d2 d3 d4 d5 d6 d7 d8 d9 d10 d11 d12
                go_wp2
                go_roundg (len - i)
                case measure => omega
                case rel => exact ⟨i + 1, asked', tf', c', by go_num, rfl, by omega, by omega, by omega, hal', hV5, hI5⟩
            · have hi80' : asked.length ≤ 80 := by omega
              by_cases hlen : i < len
              · have hi8 : (80 : Int) ≤ (i : Int) := by omega
                go_wp2
                go_meet
                exact ⟨asked, tf, c, rfl, hi80', hV, hI⟩
              · have hlen' : len ≤ i := by omega
                go_wp2
                go_meet
                exact ⟨asked, tf, c, rfl, hi80', hV, hI⟩
        case rest =>
          obtain ⟨asked, tf, c, rfl, hal, hV, hI⟩ := hcut
          obtain ⟨A9, c9, rfl, -⟩ := hV.own.form
          go_wp2_with fail
          refine (void_t b m1 m2 c fam _ hV.cache).mono ?_
          rintro e w5 ⟨rfl, h5, f5⟩
          have hV5 := hV.call f5 h5 ⟨lb, lm1, lm2⟩ ⟨hb2, hm1, hm2⟩ (fun p hp => .inl (List.mem_filter.1 hp).1)
          have hI5 := voidI_void fam hI
          have hN5 := noF_void fam c
          generalize c.void fam = c' at hV5 hI5 hN5
          clear hV hI h5 f5
          go_wp2_with fail
          go_loopg [20] (len2 + 1) (fun k s20 wr => ∃ (i : Nat) (c : CacheM), s20 = .int .i64 i ∧ i ≤ len2 ∧ i ≤ 80 ∧ len2 - i < k ∧ VW w w2 wr b m1 m2 w2.heap.size (.slice A9 asked.length c9) asked tf c ∧ VoidI asked tf c ∧ NoF fam c)
          case atStart => exact ⟨0, _, rfl, by omega, by omega, by omega, hV5, hI5, hN5⟩
          case round =>
            clear hV5 hI5 hN5
            obtain ⟨i, c, rfl, hi, hi80, hk, hV, hI, hN⟩ := hrel
            by_cases hlt : i < len2 ∧ i < 80
            · obtain ⟨hlt, h80⟩ := hlt
              obtain ⟨bb, o, rfl, hcell⟩ := (h'.fr hV.fr).at hlt
              have hmem : ss2.getD i default ∈ ss2 := by
                have : i < ss2.length := by rw [h'.length]; exact hlt
                simp [List.getD, this]
              have hok := h'.ok _ hmem
              have h50 : (ss2.getD i default).a.sl ≤ 50 := by
                have := any_get (fun s : StepM => decide (50 < s.a.sl)) Hgr2.out i (by rw [h'.length]; exact hlt) h80
                simpa using this
              generalize ss2.getD i default = s at hcell hok h50
              have hc0 : wr.cell? ⟨bb, o + i * 13, none⟩ = _ := hcell 0 _ rfl
              have hc1 := hcell 1 _ rfl
              have hc2 := hcell 2 _ rfl
              have hc3 := hcell 3 _ rfl
              have hc4 := hcell 4 _ rfl
              have hc5 := hcell 5 _ rfl
              have hc6 := hcell 6 _ rfl
              have hc7 := hcell 7 _ rfl
              have hc8 := hcell 8 _ rfl
              have hc9 := hcell 9 _ rfl
              have hc10 := hcell 10 _ rfl
              have hc11 := hcell 11 _ rfl
              have hc12 := hcell 12 _ rfl
              clear hcell
              have hs34 : Blk (wr.alloc (.cells s.arr 34)) wr.heap.size 34 s.arr := Blk.new _ _ _
              have hV1 := hV.more ((Fr.refl [] wr).alloc (.cells s.arr 34))
              have hcl : c.last < 4000000000 := by rw [hI.last]; omega
              have hrl : wr.heap.size < (wr.alloc (.cells s.arr 34)).heap.size := by simp
              have hcont : (∃ (i' : Nat) (c' : CacheM), Value.int .i64 (i + 1 : Nat) = .int .i64 i' ∧ i' ≤ len2 ∧ i' ≤ 80 ∧ len2 - i' < len2 - i ∧ VW w w2 (wr.alloc (.cells s.arr 34)) b m1 m2 w2.heap.size (.slice A9 asked.length c9) asked tf c' ∧ VoidI asked tf c' ∧ NoF fam c') :=
                ⟨i + 1, c, rfl, by omega, by omega, by omega, hV1, hI, hN⟩
              cases k0 : (s.kind == 0) with
              | true =>
                go_wp2
                go_roundg (len2 - i)
                case measure => omega
                case rel => exact hcont
              | false =>
                have hk0 : s.kind ≠ 0 := ne_of_beq_false k0
                cases k1 : (s.kind == 1) with
                | true =>
                  by_cases hn : (asked.length : Int) < s.n
                  · go_wp2
                    go_roundg (len2 - i)
                    case measure => omega
                    case rel => exact hcont
                  · have k3 : (s.kind == 3) = false := by have := eq_of_beq k1; rw [this]; rfl
                    go_wp2_with fail
                    refine (do_t s hV1.cache hcl (hok.fr hV1.fr) h50).mono ?_
                    rintro e w5 ⟨told, a', c', rfl, h5, f5, hd⟩
                    have hV5 := hV1.call f5 h5 ⟨lb, lm1, lm2⟩ ⟨hb2, hm1, hm2⟩ (doM_mem hd)
                    have hI5 := hI.other hd hk0
                    obtain ⟨hN5, hst⟩ := hN.step hI hd hk0
                    have hB5 := hs34.fr f5 (by have := hV.size; simp; omega)
                    have hV6 := hV5.more ((Fr.refl [] w5).alloc (.cells a'.arr 32))
                    have hnx : ∃ (i' : Nat) (c'' : CacheM), Value.int .i64 (i + 1 : Nat) = .int .i64 i' ∧ i' ≤ len2 ∧ i' ≤ 80 ∧ len2 - i' < len2 - i ∧ VW w w2 (w5.alloc (.cells a'.arr 32)) b m1 m2 w2.heap.size (.slice A9 asked.length c9) asked tf c'' ∧ VoidI asked tf c'' ∧ NoF fam c'' :=
                      ⟨i + 1, c', rfl, by omega, by omega, by omega, hV6, hI5, hN5⟩
                    unfold Ans.val
                    cases told with
                    | false =>
                      clear hst
                      go_wp2
                      go_roundg (len2 - i)
                      case measure => omega
                      case rel => exact hnx
                    | true =>
                      obtain ⟨_, k, hkl, hkn, hne⟩ | ⟨h3, _⟩ := hst rfl
                      · clear hst
                        obtain ⟨b9, o9, rfl, hlt9, h9⟩ := rd1_at hV5.own.rd rfl hkl
                        have hq : ((asked.getD k default).toList == fam.toList) = false := by rw [toList_beq]; exact decide_eq_false hne
                        generalize asked.getD k default = f9 at h9 hq
                        obtain ⟨sk, st, sf, sn, snow, sa, ssc⟩ := s
                        simp only at hkn
                        subst hkn
                        have d0 := hB5.cell 0
                        have d3 := hB5.cell 3
                        simp only [List.getElem?_toArray, List.getElem?_cons_succ, List.getElem?_cons_zero] at d0 d3
                        have hBl := hB5.lt
                        simp only at *
                        go_wp2
                        go_roundg (len2 - i)
                        case measure => omega
                        case rel => exact hnx
                      · exact absurd (eq_of_beq k1) (by omega)
                | false =>
                  go_wp2_with fail
                  refine (do_t s hV1.cache hcl (hok.fr hV1.fr) h50).mono ?_
                  rintro e w5 ⟨told, a', c', rfl, h5, f5, hd⟩
                  have hV5 := hV1.call f5 h5 ⟨lb, lm1, lm2⟩ ⟨hb2, hm1, hm2⟩ (doM_mem hd)
                  have hI5 := hI.other hd hk0
                  obtain ⟨hN5, hst⟩ := hN.step hI hd hk0
                  have hB5 := hs34.fr f5 (by have := hV.size; simp; omega)
                  have hV6 := hV5.more ((Fr.refl [] w5).alloc (.cells a'.arr 32))
                  have hnx : ∃ (i' : Nat) (c'' : CacheM), Value.int .i64 (i + 1 : Nat) = .int .i64 i' ∧ i' ≤ len2 ∧ i' ≤ 80 ∧ len2 - i' < len2 - i ∧ VW w w2 (w5.alloc (.cells a'.arr 32)) b m1 m2 w2.heap.size (.slice A9 asked.length c9) asked tf c'' ∧ VoidI asked tf c'' ∧ NoF fam c'' :=
                    ⟨i + 1, c', rfl, by omega, by omega, by omega, hV6, hI5, hN5⟩
                  unfold Ans.val
                  cases told with
                  | false =>
                    clear hst
                    go_wp2
                    go_roundg (len2 - i)
                    case measure => omega
                    case rel => exact hnx
                  | true =>
                    obtain ⟨h1, _⟩ | ⟨h3, f, hf, hne⟩ := hst rfl
                    · exact absurd h1 (ne_of_beq_false k1)
                    · clear hst
                      have k3 : (s.kind == 3) = true := by rw [h3]; rfl
                      clear h3
                      have hq : (f.toList == fam.toList) = false := by rw [toList_beq]; simp [hne]
                      have d0 := hB5.cell 0
                      have d1 := hB5.cell 1
                      simp only [List.getElem?_toArray, List.getElem?_cons_succ, List.getElem?_cons_zero] at d0 d1
                      have hBl := hB5.lt
                      have hlk := hV6.map.run_lookup k9 und51 z9 s.token
                      rw [hf] at hlk
                      simp only [Option.map_some, Option.getD_some] at hlk
                      cases hac : a'.active with
                      | false =>
                        rw [Ans.arr, hac] at hnx hlk
                        go_wp2
                        go_roundg (len2 - i)
                        case measure => omega
                        case rel => exact hnx
                      | true =>
                        rw [Ans.arr, hac] at hnx hlk
                        go_wp2
                        go_roundg (len2 - i)
                        case measure => omega
                        case rel => exact hnx
            · have hi2 : 80 ≤ i ∨ len2 ≤ i := by omega
              have hol : (c.way.length : Int) ≤ asked.length := by have := hI.len; omega
              by_cases hlen : i < len2
              · have hi8 : (80 : Int) ≤ (i : Int) := by omega
                go_wp2_with fail
                refine (open_t hV.cache).mono ?_
                rintro e w4 ⟨rfl, rfl⟩
                go_wp2_with fail
                go_ret
                exact ⟨ret_bool (by simp [hol]), hV.fr⟩
              · have hlen' : len2 ≤ i := by omega
                go_wp2_with fail
                refine (open_t hV.cache).mono ?_
                rintro e w4 ⟨rfl, rfl⟩
                go_wp2_with fail
                go_ret
                exact ⟨ret_bool (by simp [hol]), hV.fr⟩
  · go_enter Try.func5, Try.ntmps5
    go_wp2_with fail
    refine (new_bad sh ro w hgood).mono ?_
    rintro e w1 ⟨rfl, rfl⟩
    go_wp2_with fail
    refine (known_t w).mono ?_
    rintro e w2 ⟨rfl, f2⟩
    go_wp2_with fail
    refine (known_t w2).mono ?_
    rintro e w3 ⟨rfl, f3⟩
    go_wp2_with fail
    go_ret
    exact ⟨rfl, f2.trans f3⟩
end Go.Proofs.Ythegggfpofdcdaa
