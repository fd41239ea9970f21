/- Walks: what may be a challenge by a method; does a verifier meet it. Conditions: each theorem's own. -/
import Derived.Test.YtopfcgpeaaehgaaGreatDoorGh
namespace Go.Proofs.YtopfcgpeaaehgaaGreatDoor
open Go.RowKit Go.Sig
theorem sixGo_le:∀(l:List UInt8) (h n:Nat) (out:List UInt8),(sixGo l h n out).length≤out.length+2*l.length+1
 | [],h,n,out=>by
  rw [sixGo];split
  ·omega
  ·rw [List.length_append,List.length_singleton];simp
 |x::l,h,n,out=>by
  rw [sixGo];have h1:=sixGo_le l (sixByte h n x).2.1 (sixByte h n x).2.2 (out++(sixByte h n x).1);have h2:(sixByte h n x).1.length≤2:=by unfold sixByte;simp only;split<;>simp
  rw [List.length_append]at h1;rw [List.length_cons];omega
theorem str_empty (s:ByteArray):s.toList.isEmpty=decide (s.size=0):=by
 rw [Lib.toList_data,Bool.eq_iff_iff,List.isEmpty_iff,decide_eq_true_eq];constructor
 ·intro h;have:=congrArg List.length h;rw [Array.length_toList]at this;exact this
 ·intro h;exact List.eq_nil_of_length_eq_zero (by rw [Array.length_toList];exact h)
end Go.Proofs.YtopfcgpeaaehgaaGreatDoor
