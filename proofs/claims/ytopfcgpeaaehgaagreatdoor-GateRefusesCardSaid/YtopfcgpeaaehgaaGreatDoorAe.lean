/- Walks: a text, cut at a byte. Conditions: each theorem's own. -/
import Derived.Test.YtopfcgpeaaehgaaGreatDoorAd
import Derived.Test.YtopfcgpeaaehgaaGreatDoorAy
namespace Go.Proofs.YtopfcgpeaaehgaaGreatDoor
open Go.RowKit Go.Sig
theorem cut_idx {c:UInt8}:∀{l:List UInt8},(∃k:Nat,Lib.indexByte l c=k∧k<l.length∧cutL c l=(l.take k,l.drop (k+1),true))∨(Lib.indexByte l c= -1∧cutL c l=(l,[],false))
 | []=> .inr ⟨rfl,rfl⟩
 |x::l=>by
  rw [cutL_cons];unfold Lib.indexByte;by_cases hx:x=c
  ·rw [if_pos (by simpa using hx),if_pos hx];exact .inl ⟨0,rfl,by simp,rfl⟩
  ·rw [if_neg (by simpa using hx),if_neg hx];rcases @cut_idx c l with⟨k,h1,h2,h3⟩ | ⟨h1,h3⟩
   ·rw [h1,h3,if_neg (by rw [beq_iff_eq];omega)];exact .inl ⟨k+1,by omega,by simp;omega,rfl⟩
   ·rw [h1,h3,if_pos (by decide)];exact .inr ⟨rfl,rfl⟩
theorem ext_eq (s:ByteArray) (a b:Nat):s.extract a b=bA ((s.data.toList.take b).drop a):=by
 have:(s.extract a b).data.toList=(s.data.toList.take b).drop a:=by rw [ByteArray.data_extract,Array.toList_extract,List.extract_eq_take_drop,List.drop_take]
 rw [←bA_lst (s.extract a b),this]
theorem ext_take (s:ByteArray) (k:Nat):s.extract 0 k=bA (s.data.toList.take k):=by rw [ext_eq,List.drop_zero]
theorem ext_drop (s:ByteArray) (k:Nat):s.extract k s.size=bA (s.data.toList.drop k):=by rw [ext_eq,List.take_of_length_le (by rw [Array.length_toList];exact Nat.le_refl _)]
def CutPost (w:World) (s:ByteArray) (c:UInt8) (e:Ending) (w':World):Prop:=
 e= .returned (.tuple #[.string (bA (cutL c s.data.toList).1),.string (bA (cutL c s.data.toList).2.1),.bool (cutL c s.data.toList).2.2])∧Fr [] w w'
set_option maxHeartbeats 1000000 in
theorem licut_t (w:World) (s:ByteArray) (c:UInt8) (hs:s.size≤140737488351232):Calls Tryz.prog 115 #[.string s,.string ⟨#[c]⟩] w (CutPost w s c):=by
 have hidx:=Tryz.stringslite_Index_one s c;rcases @cut_idx c s.data.toList with⟨k,hk,hlt,hcut⟩ | ⟨hk,hcut⟩
 ·have hcuth:=zh hcut;simp only [hk]at hidx;have hlt':(k:Int)<s.size:=by
   have:s.data.toList.length=s.size:=by(rw [Array.length_toList];rfl)
   omega
  have h0:(0:Int)≤(k:Int):=by omega
  clear hk hcut hlt;have hi:=hidx w;go_enter Tryz.func115,Tryz.ntmps115;go_wp2_with (go_at_call 128;refine hi.mono ?_;rintro e w' ⟨rfl,rfl⟩)
  go_quiet (fail)
  go_wp2_with fail
  go_ret3
  unfold CutPost;rw [hcuth.o,←ext_take,←ext_drop];exact⟨rfl,(Fr.refl _ _).drewN _⟩
 ·have hcuth:=zh hcut;simp only [hk]at hidx;clear hk hcut;have hi:=hidx w;go_enter Tryz.func115,Tryz.ntmps115;go_wp2_with (go_at_call 128;refine hi.mono ?_;rintro e w' ⟨rfl,rfl⟩)
  go_ret3
  unfold CutPost;rw [hcuth.o];exact⟨by rw [bA_lst];rfl,Fr.refl _ _⟩
theorem cut_t (w:World) (s:ByteArray) (c:UInt8) (hs:s.size≤140737488351232):Calls Tryz.prog 77 #[.string s,.string ⟨#[c]⟩] w (CutPost w s c):=by
 have h:=licut_t w s c hs;go_enter Tryz.func77,Tryz.ntmps77;go_wp2_with (go_at_call 115;refine h.mono ?_;rintro e w' ⟨rfl,F⟩)
 go_ret3
 exact⟨rfl,F⟩
end Go.Proofs.YtopfcgpeaaehgaaGreatDoor
