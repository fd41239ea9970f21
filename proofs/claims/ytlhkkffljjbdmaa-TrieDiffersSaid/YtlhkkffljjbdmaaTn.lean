/- Walks of the trie: what lies under a prefix. Conditions: each theorem's own. -/
import Derived.Test.YtlhkkffljjbdmaaTm
namespace Go.Proofs.Ytlhkkffljjbdmaa
open Go.RowKit Go.Sig

def outI (k : Int) : Bool := decide (k < 0) || decide (15 < k)
def intCells (ns : List Int) : List Value := ns.map (Value.int .i64)
theorem under1_t (w : World) (k : Int) : Calls Try.prog 63 #[.int .i64 k] w fun e w' => e = .returned (.bool (outI k)) ∧ w = w' := by
  obtain ⟨r, hr⟩ : ∃ r, Hid (outI k = r) := ⟨_, Lib.hid rfl⟩
  rw [hr.out]
  have h := hr.out
  unfold outI at h
  by_cases h1 : k < 0
  · go_enter Try.func63, Try.ntmps63
    go_wp2
    go_ret
    refine ⟨?_, rfl⟩
    rw [← h]
    simp [h1]
  · go_enter Try.func63, Try.ntmps63
    go_wp2
    go_ret
    refine ⟨?_, rfl⟩
    rw [← h, show decide (k < 0) = false by simpa using h1, Bool.false_or]
    rfl
set_option maxRecDepth 100000 in
set_option maxHeartbeats 1000000 in
theorem idxI_t (w : World) (A : Option Addr) (n c : Nat) (ns : List Int) (hR : Rd w 1 A n (intCells ns)) (hn : ns.length = n) (hmax : n ≤ 150000000000000) :
   Calls Try.prog 80 #[.slice A n c, .func (.func 63) #[] #[]] w fun e w' => w = w' ∧ ∃ r, e = .returned (.int .i64 r) ∧ decide (0 ≤ r) = ns.any outI := by
  have eg : ∀ args w, (callFunc 63 args).run Try.prog w = .ok (.enter 63 args) w := enters_of Try.func63 (by kernel_rfl) rfl
  go_enter Try.func80, Try.ntmps80
  go_wp2_with fail
  go_loopg [5, 8] (n + 1) (fun gk s5 s8 wr => ∃ (i : Nat), s8 = .int .i64 i ∧ i ≤ n ∧ n - i < gk ∧ (ns.take i).any outI = false ∧ w = wr)
  case atStart => exact ⟨0, rfl, by omega, by omega, rfl, rfl⟩
  case round =>
    obtain ⟨i, rfl, hi, hk, hpre, rfl⟩ := hrel
    have hpreh := Lib.hid hpre
    clear hpre
    by_cases hlt : i < n
    · have hlt' : (i : Int) < n := by omega
      have hlth := Lib.hid hlt
      have hi' : i < ns.length := by omega
      obtain ⟨b, o, rfl, hcell⟩ := hR.2 (by omega)
      have ck := hcell i (.int .i64 ns[i]) (by rw [intCells, List.getElem?_map, List.getElem?_eq_getElem hi']; rfl)
      have htk := Lib.hid (List.take_succ_eq_append_getElem hi')
      clear hcell
      obtain ⟨k, hkk⟩ : ∃ z, Hid (ns[i] = z) := ⟨_, Lib.hid rfl⟩
      rw [hkk.out] at ck htk
      have hcall := under1_t w k
      cases ho : outI k with
      | true =>
        rw [ho] at hcall
        have hoh := Lib.hid ho
        clear ho
        go_wp2_with (go_at_call 63; refine hcall.mono ?_; rintro e w' ⟨rfl, rfl⟩)
        go_ret
        refine ⟨rfl, i, rfl, ?_⟩
        have : ns.any outI = true := by
          rw [List.any_eq_true]
          exact ⟨k, by rw [← hkk.out]; exact List.getElem_mem hi', hoh.out⟩
        rw [this]
        simp
      | false =>
        rw [ho] at hcall
        have hoh := Lib.hid ho
        clear ho
        go_wp2_with (go_at_call 63; refine hcall.mono ?_; rintro e w' ⟨rfl, rfl⟩)
        go_roundg (n - i)
        case measure => omega
        case rel =>
          refine ⟨i + 1, by go_num, by have := hlth.out; omega, by have := hlth.out; omega, ?_, rfl⟩
          rw [htk.out, List.any_append, hpreh.out]
          simp [hoh.out]
    · have hin : i = n := by omega
      have hge : ¬ (i : Int) < n := by omega
      clear hlt hk
      go_wp2
      go_ret
      refine ⟨rfl, -1, rfl, ?_⟩
      have := hpreh.out
      rw [List.take_of_length_le (by omega)] at this
      rw [this]
      rfl
theorem hasI_t (w : World) (A : Option Addr) (n c : Nat) (ns : List Int) (hR : Rd w 1 A n (intCells ns)) (hn : ns.length = n) (hmax : n ≤ 150000000000000) :
   Calls Try.prog 62 #[.slice A n c, .func (.func 63) #[] #[]] w fun e w' => e = .returned (.bool (ns.any outI)) ∧ w = w' := by
  have hidx := idxI_t w A n c ns hR hn hmax
  go_enter Try.func62, Try.ntmps62
  go_wp2_with (go_at_call 80; refine hidx.mono ?_; rintro e w' ⟨rfl, r, rfl, hr⟩)
  go_ret
  exact ⟨ret_bool (by simp), rfl⟩

/-- Does a path begin so? -/
def begins (d : List UInt8) : Nat → List Int → Bool
  | _, [] => true
  | j, k :: ks => decide ((nib d j : Int) = k) && begins d (j + 1) ks
theorem begins_take {d : List UInt8} : ∀ {ns : List Int} {i j : Nat} (h : i < ns.length), begins d j (ns.take (i + 1)) = (begins d j (ns.take i) && decide ((nib d (j + i) : Int) = ns[i]))
  | k :: ns, 0, j, h => by simp [begins]
  | k :: ns, i + 1, j, h => by
    have := begins_take (d := d) (ns := ns) (i := i) (j := j + 1) (by simpa using h)
    simp only [List.take_succ_cons, begins, this, Bool.and_assoc, List.getElem_cons_succ]
    rw [show j + 1 + i = j + (i + 1) by omega]
/-- The pairs under a prefix. -/
def underL (l : List Pr) (ns : List Int) : List Pr := l.filter fun y => begins (pathOf y.1) 0 ns
theorem underL_nil (l : List Pr) : underL l [] = l := by
  unfold underL
  rw [List.filter_eq_self]
  intro _ _
  rfl
theorem underL_take {l : List Pr} {ns : List Int} {i : Nat} (h : i < ns.length) : underL l (ns.take (i + 1)) = (underL l (ns.take i)).filter fun y => decide ((nib (pathOf y.1) i : Int) = ns[i]) := by
  unfold underL
  rw [List.filter_filter]
  congr 1
  funext y
  rw [begins_take h, Nat.zero_add, Bool.and_comm]
theorem underL_kid {l : List Pr} {ns : List Int} {i : Nat} {k : Nat} {f : Nat} (h : i < ns.length) (hk : ns[i] = (k : Int)) (hf : 63 - f = i) : underL l (ns.take (i + 1)) = kid f (underL l (ns.take i)) k := by
  rw [underL_take h, hk]
  unfold kid
  rw [hf]
  congr 1
  funext y
  rw [decide_eq_decide]
  omega
end Go.Proofs.Ytlhkkffljjbdmaa
