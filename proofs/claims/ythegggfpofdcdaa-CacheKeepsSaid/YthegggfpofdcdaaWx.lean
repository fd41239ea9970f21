/- The walk of CacheKeeps: it returns true. Conditions: the theorem's own. -/
import Derived.Test.YthegggfpofdcdaaWg
import Derived.Test.YthegggfpofdcdaaWi
import Derived.Test.YthegggfpofdcdaaWn
import Derived.Test.YthegggfpofdcdaaWs
import Derived.Test.YthegggfpofdcdaaWy
import Derived.Deep.DeepCutAuto
import Derived.Deep.RegionWith
import Derived.Deep.RegionHeld3
namespace Go.Proofs.Ythegggfpofdcdaa
open Go.RowKit Go.Sig

theorem _root_.Go.Sig.Blk.s8 {w : World} {g : Nat} {t : TypeId} {v0 v1 v2 v3 v4 v5 v6 v7 : Value} (h : Blk w g t #[v0, v1, v2, v3, v4, v5, v6, v7]) : w.cell? ⟨g, 0, none⟩ = some v0 ∧ w.cell? ⟨g, 1, none⟩ = some v1 ∧ w.cell? ⟨g, 2, none⟩ = some v2 ∧ w.cell? ⟨g, 3, none⟩ = some v3 ∧
    w.cell? ⟨g, 4, none⟩ = some v4 ∧ w.cell? ⟨g, 5, none⟩ = some v5 ∧ w.cell? ⟨g, 6, none⟩ = some v6 ∧ w.cell? ⟨g, 7, none⟩ = some v7 := by
  obtain ⟨a, b, c, d, e, f, g, h, _⟩ := h.c8
  exact ⟨a, b, c, d, e, f, g, h⟩

/-- The only answer that is kept stays. -/
theorem keeps_one {w w' : World} {b m1 m2 : Nat} {tok : ByteArray} {x : Ans} {l : List ByteArray} {A' : Option Addr} {k' : Nat} {e : Ending}
    (h : ((CacheM.keep (CacheM.ask ⟨10, 1, 0, [], []⟩ tok tF 0) 1 ⟨tF, 0, tok⟩ (x.re A' k') l).length ≤ (CacheM.ask ⟨10, 1, 0, [], []⟩ tok tF 0).room ∧ FillPost w b m1 m2 true { CacheM.drop (CacheM.ask ⟨10, 1, 0, [], []⟩ tok tF 0) 1 with all := CacheM.keep (CacheM.ask ⟨10, 1, 0, [], []⟩ tok tF 0) 1 ⟨tF, 0, tok⟩ (x.re A' k') l } e w') ∨
     ((CacheM.ask ⟨10, 1, 0, [], []⟩ tok tF 0).room < (CacheM.keep (CacheM.ask ⟨10, 1, 0, [], []⟩ tok tF 0) 1 ⟨tF, 0, tok⟩ (x.re A' k') l).length ∧ ∃ t, Oldest t (CacheM.keep (CacheM.ask ⟨10, 1, 0, [], []⟩ tok tF 0) 1 ⟨tF, 0, tok⟩ (x.re A' k') l) ∧ FillPost w b m1 m2 true { CacheM.drop (CacheM.ask ⟨10, 1, 0, [], []⟩ tok tF 0) 1 with all := adel t (CacheM.keep (CacheM.ask ⟨10, 1, 0, [], []⟩ tok tF 0) 1 ⟨tF, 0, tok⟩ (x.re A' k') l) } e w')) :
    e = .returned (.bool true) ∧ CacheAt w' b m1 m2 ⟨10, 1, 1, [], [(tok, ⟨tF, 0, x.re A' k', l⟩)]⟩ ∧ Fr [b, m1, m2] w w' := by
  rcases h with ⟨_, he, h1, h2⟩ | ⟨h, _⟩
  · exact ⟨he, h1, h2⟩
  · have : ((CacheM.keep (CacheM.ask ⟨10, 1, 0, [], []⟩ tok tF 0) 1 ⟨tF, 0, tok⟩ (x.re A' k') l).length : Int) = 1 := rfl
    have h2 : (CacheM.ask ⟨10, 1, 0, [], []⟩ tok tF 0).room = 1 := rfl
    omega

set_option maxRecDepth 100000 in
set_option maxHeartbeats 2000000 in
theorem keeps_walk (a : Ans) (l : List ByteArray) (tok : ByteArray) (w : World) (h : Strs w a.sa a.sl l) (hA : a.sa = none → a.sl = 0) :
   Calls Try.prog 6 #[.agg a.arr, .string tok] w fun e w' => e = .returned (.bool true) ∧ Fr [] w w' := by
  by_cases h50 : 50 < a.sl
  · have h51 : (50 : Int) < a.sl := by omega
    go_enter Try.func6, Try.ntmps6
    go_wp2_with fail
    refine (known_t _).mono ?_
    rintro e w2 ⟨rfl, f2⟩
    go_wp2_with fail
    go_ret
    exact ⟨rfl, (Fr.alloc (Fr.refl _ _) _).trans f2⟩
  · have h51 : (a.sl : Int) ≤ 50 := by omega
    go_enter Try.func6, Try.ntmps6
    go_wp2_with fail
    refine (new_good 10 1 _ (by decide) (by decide) (by decide) (by decide)).mono ?_
    rintro e w1 ⟨b, m1, m2, rfl, h1, f1, lb, lm1, lm2⟩
    have hb1 := h1.blk.lt
    have hm1 := h1.way.lt
    have hm2 := h1.all.lt
    have lb' : w.heap.size < b := by have := lb; simp at this; omega
    have lm1' : w.heap.size < m1 := by have := lm1; simp at this; omega
    have lm2' : w.heap.size < m2 := by have := lm2; simp at this; omega
    have B1 : Blk w1 w.heap.size 32 (Ans.arr ⟨a.why, a.access, a.refresh, a.sa, a.sl, a.sc, a.client, a.user, true, a.wait⟩) := (Blk.new w 32 _).fr f1 (by simp)
    have F1 : Fr [] w w1 := (Fr.alloc (Fr.refl _ _) _).trans f1
    have S1 : Strs w1 a.sa a.sl l := h.fr F1 (by simp [Off])
    clear f1 lb lm1 lm2
    have hg2 := B1.lt
    have d1 := B1.c8
    go_upto_region 6 with (fail)
    refine wp_gen (fun w6 => CacheAt w6 b m1 m2 ⟨10, 1, 0, [], []⟩ ∧ Blk w6 w.heap.size 32 (Ans.arr ⟨a.why, a.access, a.refresh, a.sa, a.sl, a.sc, a.client, a.user, true, a.wait⟩) ∧ Blk w6 w1.heap.size 32 (Ans.arr ⟨a.why, a.access, a.refresh, a.sa, a.sl, a.sc, a.client, a.user, true, a.wait⟩) ∧ Fr [] w w6 ∧ Strs w6 a.sa a.sl l) ⟨h1.alloc _, B1.alloc _, Blk.new _ _ _, F1.alloc _, S1.fr ((Fr.refl [] _).alloc _) (by simp [Off])⟩ ?_
    generalize w1.heap.size = g7 at *
    clear h1 B1 F1 S1 d1
    rintro w6 ⟨h6, B6, C6, F6, S6⟩
    have hg7 := C6.lt
    have hg2' := B6.lt
    have d6 := B6.c8
    have e6 := C6.c8
    have hown : Own (w6.alloc (.cells #[] 9)) 9 1 (.slice (some ⟨w6.heap.size, 0, none⟩) 0 0) 0 [] := Own.made w6 #[] 9 1 0 0 (by omega) (by decide) rfl
    have hr : Rd (w6.alloc (.cells #[] 9)) 1 a.sa a.sl (l.map Value.string) := S6.fr ((Fr.refl [] _).alloc _) (by simp [Off])
    go_wp2_with (refine wpList_own_append t30 hown hr (strings_one l) hA (by unfold maxLen; omega) (by omega) rfl rfl rfl rfl (fun v' w7 q1 q2 q3 => ?_); obtain ⟨A7, k7, rfl, hA7⟩ := q1.form; have C7 : Blk w7 g7 32 (Ans.arr ⟨a.why, a.access, a.refresh, a.sa, a.sl, a.sc, a.client, a.user, true, a.wait⟩) := (C6.alloc _).fr q2 (by simp [rowOf, Value.ownBlock] <;> omega); have c7 := C7.c8)
    simp only [Nat.zero_add, List.nil_append] at q1 hA7
    have n7 : ∀ g, g ∈ rowOf (.slice (some ⟨w6.heap.size, 0, none⟩) 0 0) → g = w6.heap.size := by simp [rowOf, Value.ownBlock]
    have m7 : ∀ g, g < w6.heap.size → g ∉ rowOf (.slice (some ⟨w6.heap.size, 0, none⟩) 0 0) := fun g hg hh => by have := n7 g hh; omega
    have hb6 := h6.blk.lt
    have hm16 := h6.way.lt
    have hm26 := h6.all.lt
    have B7 := (B6.alloc (.cells #[] 9)).fr q2 (m7 _ (by omega))
    have h7 := (h6.alloc (.cells #[] 9)).fr q2 (m7 _ hb6) (m7 _ hm16) (m7 _ hm26) (by simp)
    have F7 : Fr [] w w7 := (F6.alloc (.cells #[] 9)).andThen q2 (fun g hg => .inr (by have := n7 g hg; omega))
    have s7 := q2.size
    have a7 : ∀ g, A7 = some ⟨g, 0, none⟩ → w6.heap.size ≤ g := fun g hg => by
      have := q3 g (by simp [rowOf, Value.ownBlock, hg])
      rcases this with h | h
      · have := n7 g h; omega
      · simp at h; omega
    have G7 : Fr [g7] w7 (w7.setCell ⟨g7, 3, none⟩ (.slice A7 a.sl k7)) := (Fr.refl _ _).setCell (by simp) _
    have o7 : Off [g7] A7 := fun ad had hh => by
      rcases hA7 with rfl | ⟨g, rfl, hg⟩
      · cases had
      · injection had with had
        subst had
        have := a7 g rfl
        simp at hh
        omega
    have F8 := F7.andThen G7 (fun g hg => .inr (by simp at hg; omega))
    refine wp_gen (fun w8 => CacheAt w8 b m1 m2 ⟨10, 1, 0, [], []⟩ ∧ Blk w8 w.heap.size 32 (Ans.arr ⟨a.why, a.access, a.refresh, a.sa, a.sl, a.sc, a.client, a.user, true, a.wait⟩) ∧ Blk w8 g7 32 (Ans.arr ⟨a.why, a.access, a.refresh, A7, a.sl, k7, a.client, a.user, true, a.wait⟩) ∧ Fr [] w w8 ∧ Strs w8 A7 a.sl l ∧ Row9 w8 A7 a.sl ∧ w7.heap.size ≤ w8.heap.size)
      ⟨h7.fr G7 (by simp; omega) (by simp; omega) (by simp; omega) (by simp), B7.fr G7 (by simp; omega), by simpa [Ans.arr] using C7.set 3 (.slice A7 a.sl k7), F8, Rd.fr q1.rd G7 (fun _ => o7), (Row9.of_own q1).fr G7 o7, G7.size⟩ ?_
    clear h7 B7 C7 c7 F7 G7 F8 q1 q2 q3 o7 h6 B6 C6 F6 S6 d6 e6 hown hr m7
    rintro w8 ⟨h8, B8, C8, F8, S8, R8, s8⟩
    have c8 := C8.c8
    have hsl : a.sl ≤ 50 := by omega
    have o8 : Off [b, m1, m2] A7 := fun ad had hh => by
      rcases hA7 with rfl | ⟨g, rfl, hg⟩
      · cases had
      · injection had with had
        subst had
        have := a7 g rfl
        simp at hh
        omega
    have n8 : A7 = none → a.sl = 0 := fun hn => by
      subst hn
      by_cases h0 : 0 < a.sl
      · obtain ⟨_, _, hx, _⟩ := S8.2 h0
        cases hx
      · omega
    have r7 : ∀ g, g ∈ rowOf (.slice A7 a.sl k7) → w6.heap.size ≤ g ∧ g < w8.heap.size := fun g hg => by
      rcases hA7 with rfl | ⟨g', rfl, hg'⟩
      · simp [rowOf, Value.ownBlock] at hg
      · simp [rowOf, Value.ownBlock] at hg
        subst hg
        exact ⟨a7 _ rfl, by omega⟩
    have s7' : w6.heap.size ≤ w7.heap.size := by have := s7; simp at this; omega
    go_cut [] from 33 to 38 (fun wx => ∃ kp : Kp, CacheAt wx b m1 m2 ⟨10, 1, 1, [], [(tok, kp)]⟩ ∧ kp.start = 0 ∧ kp.str = l ∧ AnsEq kp.a ⟨a.why, a.access, a.refresh, A7, a.sl, k7, a.client, a.user, true, a.wait⟩ ∧ Blk wx w.heap.size 32 (Ans.arr ⟨a.why, a.access, a.refresh, a.sa, a.sl, a.sc, a.client, a.user, true, a.wait⟩) ∧ Blk wx g7 32 (Ans.arr ⟨a.why, a.access, a.refresh, A7, a.sl, k7, a.client, a.user, true, a.wait⟩) ∧ Fr [] w wx ∧ Row9 wx A7 a.sl ∧ (∀ ad, kp.a.sa = some ad → w8.heap.size ≤ ad.block) ∧ w8.heap.size ≤ wx.heap.size)
    case first =>
      have k8 := C8.s8
      go_region_held3 (fun w' => w'.cell? ⟨g7, 0, none⟩ = some (.int .i64 a.why) ∧ w'.cell? ⟨g7, 1, none⟩ = some (.int .i64 a.access) ∧ w'.cell? ⟨g7, 2, none⟩ = some (.int .i64 a.refresh) ∧ w'.cell? ⟨g7, 3, none⟩ = some (.slice A7 a.sl k7) ∧ w'.cell? ⟨g7, 4, none⟩ = some (.string a.client) ∧ w'.cell? ⟨g7, 5, none⟩ = some (.string a.user) ∧ w'.cell? ⟨g7, 6, none⟩ = some (.bool true) ∧ w'.cell? ⟨g7, 7, none⟩ = some (.bool a.wait)) (first | exact k8 | exact k9 | exact ka)
        (first | (go_at_call 12; refine (ask_t tok tF 0 (h8.nilfr (Fr.refl _ _).drew) (by decide) (by constructor <;> decide)).mono ?_; rintro e w9 ⟨he, h9, f9⟩; obtain rfl : e = .returned (.int .i64 1) := he; have f9' : Fr [b, m1, m2] w8 w9 := f9.of_drew; have C9 := C8.fr f9' (by simp; omega); have k9 := C9.s8) | (go_at_call 14; refine (fill_kept 1 ⟨a.why, a.access, a.refresh, A7, a.sl, k7, a.client, a.user, true, a.wait⟩ l 0 ⟨tF, 0, tok⟩ h9 (by constructor <;> decide) (by rfl) rfl (show liveB 0 0 10 = true by decide) ⟨Rd.fr S8 f9' (fun _ => o8), n8, hsl⟩).mono ?_; rintro e wa ⟨A', k', hA', hk⟩; obtain ⟨rfl, ha, fa⟩ := keeps_one hk; have Ca := C9.fr fa (by simp; omega); have ka := Ca.s8))
      go_wp2_with fail
      go_meet
      exact ⟨_, ha, rfl, rfl, ⟨rfl, rfl, rfl, rfl, rfl, rfl, rfl⟩, (B8.fr f9' (by simp; omega)).fr fa (by simp; omega), Ca, F8.andThen (f9'.trans fa) (fun g hg => .inr (by simp at hg; omega)), (R8.fr f9' o8).fr fa o8, fun ad had => Nat.le_trans f9'.size (hA' ad had), Nat.le_trans f9'.size fa.size⟩
    case rest =>
      obtain ⟨kp, hx, hst, hstr, heq, Bx, Cx, Fx, Rx, hfr, hsz⟩ := hcut
      clear h8 B8 C8 F8 S8 R8 c8
      have kle : kp.a.sl ≤ 50 := (hx.str (tok, kp) (by simp)).le
      have cx := Cx.c8
      have offk : Off (rowOf (.slice A7 a.sl k7)) kp.a.sa := fun ad had hh => by
        have := hfr ad had
        have := r7 _ hh
        omega
      have ho : ∀ p ∈ [(tok, kp)], Off (rowOf (.slice A7 a.sl k7)) p.2.a.sa := fun p hp => by
        simp only [List.mem_singleton] at hp
        subst hp
        exact offk
      have nb : ∀ g, g < w6.heap.size → g ∉ rowOf (.slice A7 a.sl k7) := fun g hg hh => by have := r7 _ hh; omega
      go_wp2_with fail
      go_loopg [8] (a.sl + 1) (fun k s8 wr => ∃ i : Nat, s8 = .int .i64 i ∧ i ≤ a.sl ∧ a.sl - i < k ∧ Fr (rowOf (.slice A7 a.sl k7)) wc wr ∧ Row9 wr A7 a.sl)
      case atStart => exact ⟨0, rfl, by omega, by omega, Fr.refl _ _, Rx⟩
      case round =>
        obtain ⟨i, rfl, hi, hk, hF, hR⟩ := hrel
        have Cr := Cx.fr hF (nb _ (by omega))
        have cr := Cr.c8
        by_cases hlt : i < a.sl
        · rcases hR with ⟨_, h0⟩ | ⟨g, cur, rfl, hB, hc⟩
          · omega
          · have hci : wr.cell? ⟨g, i, none⟩ = some cur[i] := by rw [hB.cell]; exact Array.getElem?_eq_getElem (by omega)
            have hfz := hB.frozen i
            have hgl := hB.lt
            go_wp2
            go_roundg (a.sl - i)
            case measure => omega
            case rel => exact ⟨i + 1, by go_num, by omega, by omega, hF.setCell (.inl (by simp [rowOf, Value.ownBlock])) _, .inr ⟨g, _, rfl, hB.set _ _, by simpa using hc⟩⟩
        · obtain rfl : i = a.sl := by omega
          have hr := hx.fr hF (nb _ (by omega)) (nb _ (by omega)) (nb _ (by omega)) ho
          have Br := Bx.fr hF (nb _ (by omega))
          go_wp2_with fail
          refine (get_row tok 5 kp hr (by constructor <;> decide) (by simp [aget]) (by rw [hst]; exact (by decide : liveB 0 5 10 = true))).mono ?_
          rintro e w2 ⟨A', c', rfl, hs2, f2, n2, r2⟩
          have rsz := hF.size
          have f2sz := f2.size
          have Bw := Br.fr f2 (by simp)
          have hw := hr.nilfr f2
          have Fw : Fr [] w w2 := (Fx.andThen hF (fun g hg => .inr (by have := r7 g hg; omega))).trans f2
          go_upto_region 13 with (fail)
          refine wp_gen (fun W => CacheAt W b m1 m2 ⟨10, 1, 1, [], [(tok, kp)]⟩ ∧ Blk W w.heap.size 32 (Ans.arr ⟨a.why, a.access, a.refresh, a.sa, a.sl, a.sc, a.client, a.user, true, a.wait⟩) ∧ Blk W w2.heap.size 32 #[.int .i64 kp.a.why, .int .i64 kp.a.access, .int .i64 kp.a.refresh, .slice A' kp.a.sl c', .string kp.a.client, .string kp.a.user, .bool kp.a.active, .bool kp.a.wait] ∧ Fr [] w W ∧ Row9 W A' kp.a.sl) ⟨hw.alloc _, Bw.alloc _, Blk.new _ _ _, Fw.alloc _, r2.fr ((Fr.refl [] _).alloc _) (by simp [Off])⟩ ?_
          have hb2 := hw.blk.lt
          have hm12 := hw.way.lt
          have hm22 := hw.all.lt
          have hgw := Bw.lt
          have n2' : ∀ g, g ∈ rowOf (.slice A' kp.a.sl c') → w8.heap.size ≤ g := fun g hg => by
            rcases r2 with ⟨rfl, _⟩ | ⟨g', cur', rfl, hB', _⟩
            · simp [rowOf, Value.ownBlock] at hg
            · simp [rowOf, Value.ownBlock] at hg
              subst hg
              have := n2 _ rfl
              simp at this
              omega
          have nk : Off (rowOf (.slice A' kp.a.sl c')) kp.a.sa := fun ad had hh => by
            have h1 := (hr.typ (tok, kp) (by simp)).lt ad had
            rcases r2 with ⟨rfl, _⟩ | ⟨g', cur', rfl, hB', _⟩
            · simp [rowOf, Value.ownBlock] at hh
            · simp [rowOf, Value.ownBlock] at hh
              have := n2 _ rfl
              simp at this
              omega
          have g9l : ∀ g, g ∈ rowOf (.slice A' kp.a.sl c') → g < w2.heap.size := fun g hg => by
            rcases r2 with ⟨rfl, _⟩ | ⟨g', cur', rfl, hB', _⟩
            · simp [rowOf, Value.ownBlock] at hg
            · simp [rowOf, Value.ownBlock] at hg
              subst hg
              exact hB'.lt
          generalize w2.heap.size = g9 at *
          clear hx hr hF Rx hs2 f2 hw Bw Br Fw Cx cx Cr cr hR Bx Fx n2 r2
          rintro W ⟨hx, Bx, Cx, Fx, Rx⟩
          have cx := Cx.c8
          have hg9 := Cx.lt
          have nb : ∀ g, g < w8.heap.size → g ∉ rowOf (.slice A' kp.a.sl c') := fun g hg hh => by have := n2' _ hh; omega
          go_wp2_with fail
          go_loopg [11] (kp.a.sl + 1) (fun k s11 wr => ∃ i : Nat, s11 = .int .i64 i ∧ i ≤ kp.a.sl ∧ kp.a.sl - i < k ∧ Fr (rowOf (.slice A' kp.a.sl c')) W wr ∧ Row9 wr A' kp.a.sl)
          case atStart => exact ⟨0, rfl, by omega, by omega, Fr.refl _ _, Rx⟩
          case round =>
            obtain ⟨i, rfl, hi, hk, hF, hR⟩ := hrel
            have Cr := Cx.fr hF (fun hh => absurd (g9l _ hh) (by omega))
            have cr := Cr.c8
            by_cases hlt : i < kp.a.sl
            · rcases hR with ⟨_, h0⟩ | ⟨g, cur, rfl, hB, hc⟩
              · omega
              · have hci : wr.cell? ⟨g, i, none⟩ = some cur[i] := by rw [hB.cell]; exact Array.getElem?_eq_getElem (by omega)
                have hfz := hB.frozen i
                have hgl := hB.lt
                go_wp2
                go_roundg (kp.a.sl - i)
                case measure => omega
                case rel => exact ⟨i + 1, by go_num, by omega, by omega, hF.setCell (.inl (by simp [rowOf, Value.ownBlock])) _, .inr ⟨g, _, rfl, hB.set _ _, by simpa using hc⟩⟩
            · obtain rfl : i = kp.a.sl := by omega
              have ho2 : ∀ p ∈ [(tok, kp)], Off (rowOf (.slice A' kp.a.sl c')) p.2.a.sa := fun p hp => by
                simp only [List.mem_singleton] at hp
                subst hp
                exact nk
              have hr := hx.fr hF (nb _ (by omega)) (nb _ (by omega)) (nb _ (by omega)) ho2
              have Br := Bx.fr hF (nb _ (by omega))
              go_wp2_with fail
              refine (get_row tok 9 kp hr (by constructor <;> decide) (by simp [aget]) (by rw [hst]; exact (by decide : liveB 0 9 10 = true))).mono ?_
              rintro e w3 ⟨A3, c3, rfl, hs3, f3, n3, r3⟩
              have Fw : Fr [] w w3 := (Fx.andThen hF (fun g hg => .inr (by have := n2' g hg; omega))).trans f3
              have Bw := Br.fr f3 (by simp)
              go_upto_region 18 with (fail)
              refine wp_gen (fun W => Blk W w.heap.size 32 (Ans.arr ⟨a.why, a.access, a.refresh, a.sa, a.sl, a.sc, a.client, a.user, true, a.wait⟩) ∧ Blk W w3.heap.size 32 #[.int .i64 kp.a.why, .int .i64 kp.a.access, .int .i64 kp.a.refresh, .slice A3 kp.a.sl c3, .string kp.a.client, .string kp.a.user, .bool kp.a.active, .bool kp.a.wait] ∧ Fr [] w W ∧ ScOk W { kp.a with sa := A3, sc := c3 } l) ⟨Bw.alloc _, Blk.new _ _ _, Fw.alloc _, by rw [← hstr]; exact ⟨hs3.strs.fr ((Fr.refl [] _).alloc _) (by simp [Off]), hs3.nil, hs3.le⟩⟩ ?_
              generalize w3.heap.size = g12 at *
              clear hx hr hF Rx hs3 f3 Bw Br Fw Cx cx Cr cr hR Bx Fx n3 r3
              rintro W3 ⟨Bx, Cx, Fx, Sx⟩
              go_wp2_with fail
              refine (drop_nil 1).mono ?_
              rintro e w4 ⟨rfl, f4⟩
              go_wp2_with fail
              refine (void_nil _).mono ?_
              rintro e w5 ⟨rfl, f5⟩
              go_wp2_with fail
              refine (get_nil tok 0).mono ?_
              rintro e w6' ⟨rfl, f6⟩
              have F6 := f4.trans (f5.trans f6)
              simp only [Ans.val, Ans.zero]
              have Bz := Bx.fr F6 (by simp)
              have Cz := Cx.fr F6 (by simp)
              have Fz := Fx.trans F6
              have Sz : ScOk w6' { kp.a with sa := A3, sc := c3 } l := ⟨Sx.strs.fr F6 (by simp [Off]), Sx.nil, Sx.le⟩
              go_upto_region 22 with (fail)
              refine wp_gen (fun W => Blk W w.heap.size 32 (Ans.arr ⟨a.why, a.access, a.refresh, a.sa, a.sl, a.sc, a.client, a.user, true, a.wait⟩) ∧ Blk W g12 32 #[.int .i64 kp.a.why, .int .i64 kp.a.access, .int .i64 kp.a.refresh, .slice A3 kp.a.sl c3, .string kp.a.client, .string kp.a.user, .bool kp.a.active, .bool kp.a.wait] ∧ Fr [] w W ∧ ScOk W { kp.a with sa := A3, sc := c3 } l) ⟨Bz.alloc _, Cz.alloc _, Fz.alloc _, ⟨Sz.strs.fr ((Fr.refl [] _).alloc _) (by simp [Off]), Sz.nil, Sz.le⟩⟩ ?_
              clear Bz Cz Fz Sz Bx Cx Fx Sx F6 f4 f5 f6
              rintro W4 ⟨Bx, Cx, Fx, Sx⟩
              go_wp2_with fail
              refine (known_t _).mono ?_
              rintro e w7' ⟨rfl, f7⟩
              have Bz := Bx.fr f7 (by simp)
              have Cz := Cx.fr f7 (by simp)
              have Fz := Fx.trans f7
              have bz := Bz.c8
              have cz := Cz.c8
              go_wp2_with fail
              refine (answers_t { kp.a with sa := A3, sc := c3 } ⟨a.why, a.access, a.refresh, a.sa, a.sl, a.sc, a.client, a.user, true, a.wait⟩ l _ ⟨heq.why, heq.access, heq.refresh, heq.client, heq.user, heq.active, heq.wait⟩ ⟨Sx.strs.fr f7 (by simp [Off]), Sx.nil, Sx.le⟩ ⟨Rd.fr h Fz (by simp [Off]), hA, hsl⟩).mono ?_
              rintro e w8' ⟨rfl, f8⟩
              have Fy := Fz.trans f8
              have By := (Bz.fr f8 (by simp)).c8
              go_wp2_with fail
              refine (ask_nil tok _ 0).mono ?_
              rintro e w9' ⟨rfl, f9⟩
              have Bv := (Bz.fr (f8.trans f9) (by simp)).c8
              go_wp2_with fail
              refine (fill_nil 1 ⟨a.why, a.access, a.refresh, a.sa, a.sl, a.sc, a.client, a.user, true, a.wait⟩ 0).mono ?_
              rintro e wa' ⟨rfl, fa⟩
              go_wp2_with fail
              refine count_nil.mono ?_
              rintro e wb' ⟨rfl, fb⟩
              go_wp2_with fail
              refine open_nil.mono ?_
              rintro e wd' ⟨rfl, fc⟩
              go_wp2
              go_ret
              exact ⟨rfl, Fy.trans (f9.trans (fa.trans (fb.trans fc)))⟩
end Go.Proofs.Ythegggfpofdcdaa
