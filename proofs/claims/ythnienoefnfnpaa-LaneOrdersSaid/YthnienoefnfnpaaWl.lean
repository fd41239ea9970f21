/- The walk of LaneOrders: it returns true. Conditions: the theorem's own. -/
import Derived.Test.YthnienoefnfnpaaWk
import Derived.StillTailTactics
import Derived.Deep.CutBlock
namespace Go.Proofs.Ythnienoefnfnpaa
open Go.RowKit Go.Sig

theorem link_n (L : LaneM) (x y : Int) (s : Bool) : (L.link x y s).n = L.n ∧ (L.link x y s).way = L.way := by
  unfold LaneM.link
  split <;> exact ⟨rfl, rfl⟩

theorem post_free {K : Exit → Act → World → Prop} {x : Exit} {a : Act} {W : World} (F : World → Prop) (hF : F W) (h : ∀ w, F w → K x a w) : K x a W := h W hF
theorem m8_wrap (z : Int) : IntKind.i64.wrap ((IntKind.u64.wrap z).tmod 8) = m8 z := by unfold m8 wrap64; rw [IntKind.wrap_i64]

set_option maxHeartbeats 4000000 in
set_option maxRecDepth 100000 in
theorem orders_walk (A : Option Addr) (n c : Nat) (sl : List (Pc × List UInt8)) (A1 : Option Addr) (n1 c1 : Nat) (zs : List Int) (w : World) (h : Sent w A n sl) (h1 : Ints w A1 n1 zs) :
   Calls Try.prog 4 #[.slice A n c, .slice A1 n1 c1] w fun e w' => e = .returned (.bool true) ∧ Fr [] w w' := by
  have hle := h.le
  have hle1 := h1.le
  go_enter Try.func4, Try.ntmps4
  go_wp2_with fail
  refine (new_good 8 _ (by decide)).mono ?_
  rintro e w1 ⟨b, F, rfl, hl1, f1, n1', hb1⟩
  go_upto_block 0 with (fail)
  go_cut [9] from 23 to 50 (fun s9 wx => ∃ (L : LaneM) (F' : List Nat), L.n = 8 ∧ L.way = [] ∧ LaneAt wx b F' L ∧ Went w1 wx F F')
  case first =>
    go_wp2_with fail
    go_loopg [9] 42 (fun k s9 wr => ∃ (i : Nat) (L : LaneM) (F' : List Nat), s9 = .int .i64 i ∧ i ≤ 41 ∧ 41 - i < k ∧ L.n = 8 ∧ L.way = [] ∧ LaneAt wr b F' L ∧ Went w1 wr F F')
    case atStart => exact ⟨0, ⟨8, [], []⟩, F, rfl, by omega, by omega, rfl, rfl, hl1, Went.refl _ _⟩
    case round =>
      obtain ⟨i, L, F', rfl, hi, hk, hLn, hLw, hL, hG⟩ := hrel
      have hFr : Fr [] w wr := f1.andThen hG.fr (fun g hg => .inr (n1' g hg))
      by_cases hlt : i + 1 < n1 ∧ i < 40
      · obtain ⟨hlt, hi40⟩ := hlt
        have hlt' : ((i : Int) + 1) < n1 := by omega
        have hi40' : (i : Int) < 40 := by omega
        obtain ⟨gb, o, rfl, hat⟩ := Ints.at (k := 0) h1 hFr (by omega)
        obtain ⟨z1, hz1, hc1⟩ := hat i (by omega)
        obtain ⟨z2, hz2, hc2⟩ := hat (i + 1) (by omega)
        have hgl := block_lt_of_cell hc1
        clear hat
        have hw1 : IntKind.i64.wrap ((i : Int) + 1) = (i : Int) + 1 := by rw [IntKind.wrap_i64]; omega
        have ht1 : ((i : Int) + 1).toNat = i + 1 := by omega
        have hp1 : (0 : Int) ≤ (i : Int) + 1 := by omega
        have hin : i < n1 := by omega
        go_upto_region 6 with (fail)
        refine wp_tail 16 (by kernel_rfl) (by kernel_rfl) ?_
        simp only [List.take_succ_cons, List.take_zero, List.drop_succ_cons, List.drop_zero]
        repeat still_step
        refine wpStill_nil ?_
        go_wp2_with fail
        refine (shut_t (m8 z1) (m8 z2) (hL.nilfr (Fr.refl [] _).drew) (m8_node z1).2 (m8_node z2).2).mono ?_
        rintro e w2 ⟨F2, rfl, h2, g2, hb2⟩
        obtain ⟨e1, e2⟩ := link_n L (m8 z1) (m8 z2) true
        go_wp2
        go_roundg (42 - (i + 2))
        case measure => omega
        case rel => exact ⟨i + 2, _, F2, by go_num, by omega, by omega, by rw [e1, hLn], by rw [e2, hLw], h2, hG.trans ((Went.quiet (Fr.refl [] _).drew).trans g2)⟩
      · have fin : ∃ (L : LaneM) (F' : List Nat), L.n = 8 ∧ L.way = [] ∧ LaneAt wr b F' L ∧ Went w1 wr F F' := ⟨L, F', hLn, hLw, hL, hG⟩
        have hw1 : IntKind.i64.wrap ((i : Int) + 1) = (i : Int) + 1 := by rw [IntKind.wrap_i64]; omega
        by_cases hlt1 : i + 1 < n1
        · have hlt' : ((i : Int) + 1) < n1 := by omega
          have hi40' : (40 : Int) ≤ (i : Int) := by omega
          clear hL hG
          go_wp2
          go_meet
          exact fin
        · have hlt' : (n1 : Int) ≤ (i : Int) + 1 := by omega
          clear hL hG
          go_wp2
          go_meet
          exact fin
  case rest =>
    obtain ⟨L, F1, hLn, hLw, hL, hG⟩ := hcut
    have hFr : Fr [] w wc := f1.andThen hG.fr (fun g hg => .inr (n1' g hg))
    have hO : OW w wc b F1 L (.slice none 0 0) (.slice none 0 0) [] [] := ⟨hL, hG.base n1' f1.size, hFr, Own.nil _ _ _, Own.nil _ _ _, by simp [rowOf, Value.ownBlock], by simp [rowOf, Value.ownBlock], by simp [rowOf, Value.ownBlock], by simp, by simp⟩
    clear hL hG hFr hl1 f1 n1' hb1
    go_upto_region 7 with (fail)
    go_upto_block 2 with (fail)
    go_cut [7, 8, 10, 11, 12] from 51 to 114 (fun s7 s8 s10 s11 s12 wx => ∃ (ws ss : List (Pc × Pk)) (L : LaneM) (F' : List Nat), OW w wx b F' L s7 s8 ws ss ∧ L.n = 8 ∧ ws.map (·.2) = L.way.filter (openS L.shut) ∧ ss.map (·.2) = L.way.filter (fun q => !openS L.shut q) ∧ L.way.length ≤ 150)
    case first =>
      go_wp2_with fail
      go_loopg [7, 8, 10, 11, 12] 151 (fun k s7 s8 s10 s11 s12 wr => ∃ (i : Nat) (ws ss : List (Pc × Pk)) (L : LaneM) (F' : List Nat), s10 = .int .i64 i ∧ i ≤ 150 ∧ 150 - i < k ∧ OW w wr b F' L s7 s8 ws ss ∧ L.n = 8 ∧ ws.map (·.2) = L.way.filter (openS L.shut) ∧ ss.map (·.2) = L.way.filter (fun q => !openS L.shut q) ∧ L.way.length ≤ i)
      case atStart => exact ⟨0, [], [], L, F1, rfl, by omega, by omega, hO, hLn, by simp [hLw], by simp [hLw], by simp [hLw]⟩
      case round =>
        clear hO hLn hLw
        obtain ⟨i, ws, ss, L, F', rfl, hi, hk, hO, hLn, hws, hss, hlen⟩ := hrel
        obtain ⟨A7, c7, rfl, -⟩ := hO.o7.form
        obtain ⟨A8, c8, rfl, -⟩ := hO.o8.form
        by_cases hlt : i < n ∧ i < 150
        · obtain ⟨hin, hi150⟩ := hlt
          have hin' : (i : Int) < n := by omega
          have hi150' : (i : Int) < 150 := by omega
          have hsl := h.length
          obtain ⟨gb, o, rfl, hk0⟩ := Sent.at (k := i) h hO.fr (by omega)
          obtain ⟨ok1, ok2, okb, okn, okl⟩ := h.ok _ (List.getElem_mem (show i < sl.length by omega))
          have hgl := block_lt_of_cell hk0.1
          generalize (sl[i]'(show i < sl.length by omega)).1.src = p1 at *
          generalize (sl[i]'(show i < sl.length by omega)).1.dst = p2 at *
          generalize (sl[i]'(show i < sl.length by omega)).1.a = pa at *
          generalize (sl[i]'(show i < sl.length by omega)).1.n = pn at *
          generalize (sl[i]'(show i < sl.length by omega)).1.c = pc at *
          generalize (sl[i]'(show i < sl.length by omega)).2 = l at *
          go_upto_region 10 with (fail)
          have hne : wr.heap.size ≠ gb := by have := hgl; simp at this; omega
          go_region_held3 (fun w' => w'.cell? ⟨gb, o + i * 3, none⟩ = some (.int .i64 p1) ∧ w'.cell? ⟨gb, o + i * 3 + 1, none⟩ = some (.int .i64 p2) ∧ w'.cell? ⟨gb, o + i * 3 + 2, none⟩ = some (.slice pa pn pc)) (first | exact hk0 | go_keep) (fail)
          rw [m8_wrap, m8_wrap]
          refine post_free (W := (wr.alloc (.cells #[.int .i64 (m8 p1), .int .i64 (m8 p2), .slice pa pn pc] 37)).drew) (fun W => Blk W wr.heap.size 37 #[.int .i64 (m8 p1), .int .i64 (m8 p2), .slice pa pn pc] ∧ Fr [] wr W) ⟨(Blk.new _ _ _).drew, ((Fr.refl _ _).alloc _).drew⟩ ?_
          rintro W ⟨BW, fW⟩
          have hOW := hO.quiet fW
          have hgW := BW.lt
          have hnF : wr.heap.size ∉ F' := fun hh => by have := hO.lane.lt _ hh; omega
          have bw := BW.c3
          obtain ⟨hm1, hi1⟩ := m8_node p1
          obtain ⟨hm2, hi2⟩ := m8_node p2
          have hlp : l.length = pn := okb.length
          generalize wr.heap.size = g11 at *
          generalize m8 p1 = a1 at *
          generalize m8 p2 = a2 at *
          clear hk0 hgl hne
          go_wp2_with fail
          refine (send_t a1 a2 pa pn pc l hOW.lane hi1 hi2 (Rd.fr okb hOW.fr (by simp [Off])) okn).mono ?_
          rintro e w2 ⟨F2, rfl, h2, g2, hb2⟩
          have hO2 := hOW.went h2 g2
          have B2 := BW.fr g2.fr hnF
          have b2 := B2.c3
          have hse : sendE L a1 a2 l.length = if 65544 < l.length then 2 else 0 := by
            unfold sendE
            rw [hLn, if_pos ⟨hm1, hm2⟩, if_neg (show ¬ 4096 ≤ L.way.length by omega)]
          rw [hse]
          by_cases hlong : 65544 < l.length
          · have hls : L.send a1 a2 l = L := by unfold LaneM.send; rw [hse, if_pos hlong, if_neg (by decide)]
            rw [hls] at hO2
            have hpn : ¬ (pn : Int) ≤ 65544 := by omega
            rw [if_pos hlong]
            clear hO hOW h2 g2 BW bw
            go_wp2
            go_roundg (150 - i)
            case measure => omega
            case rel => exact ⟨i + 1, ws, ss, L, F2, by go_num, by omega, by omega, hO2, hLn, hws, hss, by omega⟩
          · have hls : L.send a1 a2 l = { L with way := L.way ++ [⟨a1, a2, l⟩] } := by unfold LaneM.send; rw [hse, if_neg hlong, if_pos rfl]
            rw [hls] at hO2
            rw [if_neg hlong]
            clear hO hOW h2 g2 BW bw
            go_wp2_with fail
            refine (open_t a1 a2 hO2.lane hi1 hi2).mono ?_
            rintro e w3 ⟨rfl, f3⟩
            have hO3 := hO2.quiet f3
            have B3 := B2.fr f3 (by simp)
            have b3 := B3.c3
            have hop : openB { L with way := L.way ++ [⟨a1, a2, l⟩] } a1 a2 = openS L.shut ⟨a1, a2, l⟩ := by
              unfold openB openS shutB
              simp only [hLn, hm1, hm2, Bool.true_and]
            rw [hop]
            have htold : Told w (⟨a1, a2, pa, pn, pc⟩, ⟨a1, a2, l⟩) := ⟨rfl, rfl, okb, by show pn ≤ 65544; omega⟩
            have hO4 := hO3.quiet ((Fr.refl [] w3).alloc (.cells (Pc.arr ⟨a1, a2, pa, pn, pc⟩) 37))
            have hwl : ws.length ≤ 150 := by
              have h1 := congrArg List.length hws
              have h2 := List.length_filter_le (openS L.shut) L.way
              simp only [List.length_map] at h1
              omega
            have hsl' : ss.length ≤ 150 := by
              have h1 := congrArg List.length hss
              have h2 := List.length_filter_le (fun q => !openS L.shut q) L.way
              simp only [List.length_map] at h1
              omega
            cases hos : openS L.shut ⟨a1, a2, l⟩ with
            | true =>
              clear hO2 b2 B2
              go_wp2_with (refine wpList_own_append t33 hO4.o7 (rd_block3 (w := w3) (p := ⟨a1, a2, pa, pn, pc⟩)) (cells_one _) (by simp) (by unfold maxLen; omega) (by omega) rfl rfl rfl rfl (fun v' w4 q1 q2 q3 => ?_))
              go_roundg (150 - i)
              case measure => omega
              case rel => exact ⟨i + 1, ws ++ [_], ss, _, F2, by go_num, by omega, by omega, hO4.app7 htold q1 q2 q3, hLn, by simp [List.filter_append, hws, hos], by simp [List.filter_append, hss, hos], by simp; omega⟩
            | false =>
              clear hO2 b2 B2
              go_wp2_with (refine wpList_own_append t33 hO4.o8 (rd_block3 (w := w3) (p := ⟨a1, a2, pa, pn, pc⟩)) (cells_one _) (by simp) (by unfold maxLen; omega) (by omega) rfl rfl rfl rfl (fun v' w4 q1 q2 q3 => ?_))
              go_roundg (150 - i)
              case measure => omega
              case rel => exact ⟨i + 1, ws, ss ++ [_], _, F2, by go_num, by omega, by omega, hO4.app8 htold q1 q2 q3, hLn, by simp [List.filter_append, hws, hos], by simp [List.filter_append, hss, hos], by simp; omega⟩
        · by_cases hlt1 : i < n
          · have hlt' : (i : Int) < n := by omega
            have hi150' : (150 : Int) ≤ (i : Int) := by omega
            go_wp2
            go_meet
            exact ⟨ws, ss, L, F', hO, hLn, hws, hss, by omega⟩
          · have hlt' : (n : Int) ≤ (i : Int) := by omega
            go_wp2
            go_meet
            exact ⟨ws, ss, L, F', hO, hLn, hws, hss, by omega⟩
    case rest =>
      clear hO hLn hLw
      obtain ⟨ws, ss, L, F', hO, hLn, hws, hss, hlen⟩ := hcut
      obtain ⟨A7, c7, rfl, -⟩ := hO.o7.form
      obtain ⟨A8, c8, rfl, -⟩ := hO.o8.form
      generalize hsh : L.shut = sh at *
      have hwl : ws.length ≤ 150 := by
        have h1 := congrArg List.length hws
        have h2 := List.length_filter_le (openS sh) L.way
        simp only [List.length_map] at h1
        omega
      have hsl' : ss.length ≤ 150 := by
        have h1 := congrArg List.length hss
        have h2 := List.length_filter_le (fun q => !openS sh q) L.way
        simp only [List.length_map] at h1
        omega
      go_wp2_with fail
      go_loopg [13, 14, 15] (ws.length + 1) (fun k s13 s14 s15 wr => ∃ (i : Nat) (L : LaneM) (F' : List Nat), s13 = .int .i64 i ∧ i ≤ ws.length ∧ ws.length - i < k ∧ OW w wr b F' L (.slice A7 ws.length c7) (.slice A8 ss.length c8) ws ss ∧ L.way.filter (openS sh) = (ws.map (·.2)).drop i ∧ L.way.filter (fun q => !openS sh q) = ss.map (·.2) ∧ L.shut = sh ∧ L.way.length ≤ 150)
      case atStart => exact ⟨0, L, F', rfl, by omega, by omega, hO, hws.symm, hss.symm, hsh, hlen⟩
      case round =>
        clear hO hws hss hlen hsh hLn L F'
        obtain ⟨i, L, F', rfl, hi, hk, hO, hf1, hf2, hsh, hlen⟩ := hrel
        by_cases hlt : i < ws.length
        · have hdrop : (ws.map (·.2)).drop i = ws[i].2 :: (ws.map (·.2)).drop (i + 1) := by
            rw [List.drop_eq_getElem_cons (by simpa using hlt)]
            simp
          rw [hdrop] at hf1
          obtain ⟨j, hj1, hj2, hj3, hj4, hj5, hj6⟩ := next_some sh L.way 0 _ _ hf1
          have hnx : L.next = (j : Int) := by unfold LaneM.next; rw [hsh, hj1]; simp
          have hte : takeE L j = 0 := by
            unfold takeE shutB
            rw [if_pos (hasE_in hj2), Int.toNat_natCast, hj3, hsh]
            rw [if_neg]
            intro hh
            unfold openS at hj4
            rw [hh] at hj4
            cases hj4
          have htk : L.take j = { L with way := L.way.eraseIdx j } := by
            unfold LaneM.take LaneM.drop
            rw [if_pos hte, if_pos (hasE_in hj2), Int.toNat_natCast]
          clear hj1 hj4 hf1 hdrop
          go_wp2_with fail
          refine (next_t hO.lane).mono ?_
          rintro e w2 ⟨rfl, f2⟩
          rw [hnx]
          clear hnx
          have hO2 := hO.quiet f2
          go_wp2_with fail
          refine (take_t (j : Int) hO2.lane ⟨by omega, by omega⟩).mono ?_
          rintro e w3 ⟨F3, ⟨ps_, pd_, pa, pn, pc⟩, rfl, h3, g3, hb3, -, hy⟩
          obtain ⟨hp, -⟩ := hy hte
          rw [hte]
          rw [htk] at h3
          rw [Int.toNat_natCast, hj3] at hp
          obtain ⟨hp1, hp2, hp3, hp4⟩ := hp
          simp only at hp1 hp2 hp4
          subst hp1 hp2
          have hO3 := hO2.went h3 g3
          have hb1 : Byts w3 pa pn ws[i].2.bs := hp3.rd
          clear hy hte htk hO hO2 f2 h3 g3 hp3
          go_upto_region 22 with (fail)
          refine wp_gen (fun W => Blk W w3.heap.size 37 #[.int .i64 ws[i].2.src, .int .i64 ws[i].2.dst, .slice pa pn pc] ∧ Fr [] w3 W) ⟨Blk.new _ _ _, (Fr.refl _ _).alloc _⟩ ?_
          rintro W ⟨BW, fW⟩
          have hOW := hO3.quiet fW
          have hb2 := Rd.fr hb1 fW (by simp [Off])
          obtain ⟨tq1, tq2, tq3, tq4⟩ := hOW.p7 _ (List.getElem_mem hlt)
          obtain ⟨g, cap, hv, hgl, d0, d1, d2⟩ := own_at hOW.o7 rfl hlt
          injection hv with hv _ hv3
          subst hv hv3
          rw [tq1] at d0
          rw [tq2] at d1
          have hb3' := Rd.fr tq3 hOW.fr (by simp [Off])
          have bw := BW.c3
          have hgw := BW.lt
          clear tq1 tq2 tq3 hO3 hb1
          generalize ws[i].2.src = a1 at *
          generalize ws[i].2.dst = a2 at *
          generalize ws[i].2.bs = l at *
          generalize ws[i].1.a = qa at *
          generalize ws[i].1.n = qn at *
          generalize ws[i].1.c = qc at *
          generalize w3.heap.size = g14 at *
          have hk0 := And.intro bw.1 (And.intro bw.2.1 (And.intro bw.2.2 (And.intro d0 (And.intro d1 d2))))
          clear bw d0 d1 d2
          go_region_held3 (fun w' => w'.cell? ⟨g14, 0, none⟩ = some (.int .i64 a1) ∧ w'.cell? ⟨g14, 1, none⟩ = some (.int .i64 a2) ∧ w'.cell? ⟨g14, 2, none⟩ = some (.slice pa pn pc) ∧ w'.cell? ⟨g, i * 3, none⟩ = some (.int .i64 a1) ∧ w'.cell? ⟨g, i * 3 + 1, none⟩ = some (.int .i64 a2) ∧ w'.cell? ⟨g, i * 3 + 2, none⟩ = some (.slice qa qn qc))
            (first | exact hk0 | exact hk1)
            (first
              | (go_at_call 17; refine (same_t a1 a2 pa pn pc qa qn qc l _ (Rd.fr hb2 (Fr.refl [] W).drew (by simp [Off])) (Rd.fr hb3' (Fr.refl [] W).drew (by simp [Off])) (by omega)).mono ?_; rintro e w4 ⟨rfl, f4⟩; have hc4 := fun (p : Addr) (hp : p.block < W.heap.size) => f4.of_drew.cell (p := p) hp (by simp); have hk1 := And.intro ((hc4 ⟨g14, 0, none⟩ hgw).trans hk0.1) (And.intro ((hc4 ⟨g14, 1, none⟩ hgw).trans hk0.2.1) (And.intro ((hc4 ⟨g14, 2, none⟩ hgw).trans hk0.2.2.1) (And.intro ((hc4 ⟨g, i * 3, none⟩ hgl).trans hk0.2.2.2.1) (And.intro ((hc4 ⟨g, i * 3 + 1, none⟩ hgl).trans hk0.2.2.2.2.1) ((hc4 ⟨g, i * 3 + 2, none⟩ hgl).trans hk0.2.2.2.2.2)))))))
          have hO4 := hOW.quiet f4.of_drew
          clear hOW hk0 hk1 hc4
          go_wp2
          go_roundg (ws.length - i)
          case measure => omega
          case rel => exact ⟨i + 1, _, F3, by go_num, by omega, by omega, hO4, hj5, by rw [← hf2]; exact hj6, hsh, by have := List.length_eraseIdx_of_lt hj2; simp only; omega⟩
        · obtain rfl : i = ws.length := by omega
          have hno : L.way.filter (openS sh) = [] := by rw [hf1, List.drop_of_length_le (by simp)]
          have hnx : L.next = -1 := by unfold LaneM.next; rw [hsh]; exact next_none sh L.way 0 hno
          have hway : L.way = ss.map (·.2) := by
            rw [← hf2]
            symm
            rw [List.filter_eq_self]
            intro p hp
            have := List.filter_eq_nil_iff.1 hno p hp
            simpa using this
          have hcount : L.way.length = ss.length := by rw [hway]; simp
          clear hf1 hf2 hno hlen
          go_wp2_with fail
          refine (known_t _).mono ?_
          rintro e w2 ⟨rfl, f2⟩
          have hO2 := hO.quiet f2
          go_wp2_with fail
          refine (next_t hO2.lane).mono ?_
          rintro e w3 ⟨rfl, f3⟩
          rw [hnx]
          have hO3 := hO2.quiet f3
          go_wp2_with fail
          refine (count_at hO3.lane).mono ?_
          rintro e w4 ⟨rfl, rfl⟩
          rw [hcount]
          go_wp2_with fail
          refine (heal_t hO3.lane).mono ?_
          rintro e w4 ⟨rfl, F4, h4, g4, hb4⟩
          have hO4 := hO3.went h4 g4
          clear hO hO2 hO3 h4 g4 f2 f3 hnx hcount
          go_wp2_with fail
          go_loopg [16, 17, 18] (ss.length + 1) (fun k s16 s17 s18 wr => ∃ (i : Nat) (L : LaneM) (F' : List Nat), s16 = .int .i64 i ∧ i ≤ ss.length ∧ ss.length - i < k ∧ OW w wr b F' L (.slice A7 ws.length c7) (.slice A8 ss.length c8) ws ss ∧ L.way = (ss.map (·.2)).drop i ∧ L.shut = [])
          case atStart => exact ⟨0, _, F4, rfl, by omega, by omega, hO4, by simp [hway], rfl⟩
          case round =>
            clear hO4 hway hsh
            obtain ⟨i, L, F', rfl, hi, hk, hO, hf1, hsh⟩ := hrel
            by_cases hlt : i < ss.length
            · have hdrop : (ss.map (·.2)).drop i = ss[i].2 :: (ss.map (·.2)).drop (i + 1) := by
                rw [List.drop_eq_getElem_cons (by simpa using hlt)]
                simp
              rw [hdrop] at hf1
              have hpos : 0 < L.way.length := by rw [hf1]; simp
              have hj3 : L.way.getD 0 default = ss[i].2 := by rw [hf1]; rfl
              have h00 : hasE L.way.length 0 = 0 := hasE_in (k := 0) hpos
              have hte : takeE L 0 = 0 := by
                unfold takeE shutB
                rw [if_pos h00, hsh]
                rfl
              have htk : L.take 0 = { L with way := (ss.map (·.2)).drop (i + 1) } := by
                unfold LaneM.take LaneM.drop
                rw [if_pos hte, if_pos h00, hf1]
                rfl
              clear hf1 hdrop
              go_wp2_with fail
              refine (take_t 0 hO.lane (by constructor <;> decide)).mono ?_
              rintro e w3 ⟨F3, ⟨ps_, pd_, pa, pn, pc⟩, rfl, h3, g3, hb3, -, hy⟩
              obtain ⟨hp, -⟩ := hy hte
              rw [hte]
              rw [htk] at h3
              rw [show (0 : Int).toNat = 0 from rfl, hj3] at hp
              obtain ⟨hp1, hp2, hp3, hp4⟩ := hp
              simp only at hp1 hp2 hp4
              subst hp1 hp2
              have hO3 := hO.went h3 g3
              have hb1 : Byts w3 pa pn ss[i].2.bs := hp3.rd
              clear hy hte htk hO h3 g3 hp3
              go_upto_region 31 with (fail)
              refine wp_gen (fun W => Blk W w3.heap.size 37 #[.int .i64 ss[i].2.src, .int .i64 ss[i].2.dst, .slice pa pn pc] ∧ Fr [] w3 W) ⟨Blk.new _ _ _, (Fr.refl _ _).alloc _⟩ ?_
              rintro W ⟨BW, fW⟩
              have hOW := hO3.quiet fW
              have hb2 := Rd.fr hb1 fW (by simp [Off])
              obtain ⟨tq1, tq2, tq3, tq4⟩ := hOW.p8 _ (List.getElem_mem hlt)
              obtain ⟨g, cap, hv, hgl, d0, d1, d2⟩ := own_at hOW.o8 rfl hlt
              injection hv with hv _ hv3
              subst hv hv3
              rw [tq1] at d0
              rw [tq2] at d1
              have hb3' := Rd.fr tq3 hOW.fr (by simp [Off])
              have bw := BW.c3
              have hgw := BW.lt
              clear tq1 tq2 tq3 hO3 hb1
              generalize ss[i].2.src = a1 at *
              generalize ss[i].2.dst = a2 at *
              generalize ss[i].2.bs = l at *
              generalize ss[i].1.a = qa at *
              generalize ss[i].1.n = qn at *
              generalize ss[i].1.c = qc at *
              generalize w3.heap.size = g14 at *
              have hk0 := And.intro bw.1 (And.intro bw.2.1 (And.intro bw.2.2 (And.intro d0 (And.intro d1 d2))))
              clear bw d0 d1 d2
              go_region_held3 (fun w' => w'.cell? ⟨g14, 0, none⟩ = some (.int .i64 a1) ∧ w'.cell? ⟨g14, 1, none⟩ = some (.int .i64 a2) ∧ w'.cell? ⟨g14, 2, none⟩ = some (.slice pa pn pc) ∧ w'.cell? ⟨g, i * 3, none⟩ = some (.int .i64 a1) ∧ w'.cell? ⟨g, i * 3 + 1, none⟩ = some (.int .i64 a2) ∧ w'.cell? ⟨g, i * 3 + 2, none⟩ = some (.slice qa qn qc))
                (first | exact hk0 | exact hk1)
                (first
                  | (go_at_call 17; refine (same_t a1 a2 pa pn pc qa qn qc l _ (Rd.fr hb2 (Fr.refl [] W).drew (by simp [Off])) (Rd.fr hb3' (Fr.refl [] W).drew (by simp [Off])) (by omega)).mono ?_; rintro e w4 ⟨rfl, f4⟩; have hc4 := fun (p : Addr) (hp : p.block < W.heap.size) => f4.of_drew.cell (p := p) hp (by simp); have hk1 := And.intro ((hc4 ⟨g14, 0, none⟩ hgw).trans hk0.1) (And.intro ((hc4 ⟨g14, 1, none⟩ hgw).trans hk0.2.1) (And.intro ((hc4 ⟨g14, 2, none⟩ hgw).trans hk0.2.2.1) (And.intro ((hc4 ⟨g, i * 3, none⟩ hgl).trans hk0.2.2.2.1) (And.intro ((hc4 ⟨g, i * 3 + 1, none⟩ hgl).trans hk0.2.2.2.2.1) ((hc4 ⟨g, i * 3 + 2, none⟩ hgl).trans hk0.2.2.2.2.2)))))))
              have hO4 := hOW.quiet f4.of_drew
              clear hOW hk0 hk1 hc4
              go_wp2
              go_roundg (ss.length - i)
              case measure => omega
              case rel => exact ⟨i + 1, _, F3, by go_num, by omega, by omega, hO4, rfl, hsh⟩
            · obtain rfl : i = ss.length := by omega
              have hz : L.way.length = 0 := by rw [hf1]; simp
              clear hf1
              go_wp2_with fail
              refine (count_at hO.lane).mono ?_
              rintro e w4 ⟨rfl, rfl⟩
              rw [hz]
              go_wp2
              go_ret
              exact ⟨rfl, hO.fr⟩
end Go.Proofs.Ythnienoefnfnpaa
