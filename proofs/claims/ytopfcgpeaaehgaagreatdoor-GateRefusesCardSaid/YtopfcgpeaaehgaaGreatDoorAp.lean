/- Walks of a roll: what is printed; a client that's right. Conditions: each theorem's own. -/
import Derived.Test.YtopfcgpeaaehgaaGreatDoorAo
namespace Go.Proofs.YtopfcgpeaaehgaaGreatDoor
open Go.RowKit Go.Sig
def prnOut (r:Nat):Bool:=decide (r<33) ||decide (126<r)
theorem prn_out (c:UInt8):prnOut c.toNat= !prnB c:=by
 unfold prnOut prnB;rw [Bool.eq_iff_iff];simp only [Bool.or_eq_true,decide_eq_true_eq,Bool.not_eq_true',Bool.and_eq_false_iff,decide_eq_false_iff_not];omega
theorem idx_prn (s:ByteArray):∀(f pos:Nat),s.size - pos≤f→pos≤s.size→(decide (Lib.idxFuncFrom prnOut true s f pos<0)=(s.data.toList.drop pos).all prnB):=by
 intro f;induction f with
 |zero=>intro pos h1 h2;have h3:s.data.toList.drop pos= []:=List.drop_of_length_le (by simp only [Array.length_toList];show s.size≤pos;omega);rw [h3];rfl
 |succ f ih=>
  intro pos h1 h2;unfold Lib.idxFuncFrom;by_cases hp:pos<s.size
  ·rw [if_pos hp];have hl:pos<s.data.toList.length:=by simp only [Array.length_toList];exact hp
   have hd:s.data.toList.drop pos=s[pos]'hp::s.data.toList.drop (pos+1):=by rw [List.drop_eq_getElem_cons hl];rfl
   rw [hd,List.all_cons];by_cases ha:(s[pos]'hp).toNat<128
   ·rw [decode_ascii s pos hp ha];dsimp only;rw [prn_out];cases hq:prnB (s[pos]'hp)
    ·simp
    ·simp only [Bool.not_true,Bool.false_eq_true,if_false,Bool.true_and];exact ih (pos+1) (by omega) (by omega)
   ·have hh:=decode_high s pos hp (by omega);have h4:prnOut (Utf8.decode s pos).1=true:=by unfold prnOut;simp;omega
    have h5:prnB (s[pos]'hp)=false:=by unfold prnB;simp;omega
    rw [if_pos h4,h5];simp
  ·rw [if_neg hp];have h3:s.data.toList.drop pos= []:=List.drop_of_length_le (by simp only [Array.length_toList];show s.size≤pos;omega);rw [h3];rfl
theorem idx_printed (s:ByteArray):decide (Lib.idxFunc prnOut true s<0)=s.data.toList.all prnB:=by
 have:=idx_prn s s.size 0 (by omega) (by omega);rwa [List.drop_zero]at this
theorem prnA_t (W:World) (x:Nat):FnGives Tryz.prog 107 #[] #[encR x] (.bool (prnOut x)) W:=by
 unfold FnGives encR prnOut;by_cases h1:x<33
 ·have h1b:decide ((x:Int)<33)=true:=by rw [decide_eq_true_iff];omega
  rw [decide_eq_true h1,Bool.true_or];clear h1;go_enter Tryz.func107,Tryz.ntmps107;go_wp2_with fail
  go_ret;exact⟨rfl,0,rfl⟩
 ·have h1b:decide ((x:Int)<33)=false:=by rw [decide_eq_false_iff_not];omega
  rw [decide_eq_false h1,Bool.false_or];clear h1;obtain⟨q,hq⟩:∃z,decide (126<x)=z:=⟨_,rfl⟩
  have hqb:decide ((126:Int)<(x:Int))=q:=by rw [←hq];exact decide_eq_decide.2 (by omega)
  rw [hq];clear hq;go_enter Tryz.func107,Tryz.ntmps107;go_wp2_with fail
  go_ret;exact⟨rfl,0,rfl⟩
set_option maxHeartbeats 1000000 in
theorem printed_t (w:World) (s:ByteArray) (most:Nat):Calls Tryz.prog 59 #[.string s,.int .i64 most] w fun e w'=>e= .returned (.bool (printedM s most))∧Fr [] w w':=by
 have hi:=Tryz.strings_IndexFunc 107 #[] (enters_of Tryz.func107 (by kernel_rfl) rfl) prnOut s w (fun W x _=>prnA_t W x);have hpr:=idx_printed s;obtain⟨d,hd⟩:∃z,Hid (Lib.idxFunc prnOut true s=z):=⟨_,zh rfl⟩
 obtain⟨q,hq⟩:∃z,Hid (s.data.toList.all prnB=z):=⟨_,zh rfl⟩
 have hres:Hid (printedM s most=(q&&decide (1≤s.size)&&decide (s.size≤most))):=zh (by unfold printedM;rw [hq.o]);rw [hd.o]at hi;rw [hd.o,hq.o]at hpr;clear hd hq;by_cases h1:s.size=0
 ·have h1b:decide ((1:Int)≤(s.size:Nat))=false:=by rw [decide_eq_false_iff_not];omega
  have hr:Hid (printedM s most=false):=zh (by rw [hres.o];simp [h1]);clear h1 hres;go_enter Tryz.func59,Tryz.ntmps59;go_wp2_with fail
  go_ret;exact⟨by rw [hr.o];rfl,Fr.refl _ _⟩
 ·have h1b:decide ((1:Int)≤(s.size:Nat))=true:=by rw [decide_eq_true_iff];omega
  by_cases h2:s.size≤most
  ·have h2b:decide (s.size≤most)=true:=by simp [h2]
   have hr:Hid (printedM s most=q):=zh (by rw [hres.o];simp [h2];omega);clear h1 h2 hres;go_enter Tryz.func59,Tryz.ntmps59;go_wp2_with (go_at_call 106;refine hi.mono ?_;rintro e w1 ⟨rfl,F⟩)
   go_ret;exact⟨by rw [hr.o];rfl,Fr.of_below F⟩
  ·have h2b:decide (s.size≤most)=false:=by simp [h2]
   have hr:Hid (printedM s most=false):=zh (by rw [hres.o];simp [h2]);clear h1 h2 hres;go_enter Tryz.func59,Tryz.ntmps59;go_wp2_with fail
   go_ret;exact⟨by rw [hr.o];rfl,Fr.refl _ _⟩
end Go.Proofs.YtopfcgpeaaehgaaGreatDoor
