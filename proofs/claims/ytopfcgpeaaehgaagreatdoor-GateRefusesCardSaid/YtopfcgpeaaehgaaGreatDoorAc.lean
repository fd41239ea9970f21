/- Walks of forms: a name's value; signs by sixteen; a text, unquoted. Conditions: each theorem's own. -/
import Derived.Lib.Walk
import Derived.Test.YtopfcgpeaaehgaaGreatDoorAb
namespace Go.Proofs.YtopfcgpeaaehgaaGreatDoor
open Go.RowKit Go.Sig
def prCells (l:Prs):List Value:=l.flatMap fun y=> [.string y.1,.string y.2]
theorem prCells_at:∀{l:Prs}{i:Nat}(h:i<l.length),(prCells l)[i*2]? =some (.string l[i].1)∧(prCells l)[i*2+1]? =some (.string l[i].2)
 |y::l,0,h=>⟨rfl,rfl⟩
 |y::l,i+1,h=>by have:=prCells_at (l:=l) (i:=i) (by simpa using h);rw [show(i+1)*2=i*2+2 by omega];exact this
theorem prCells_append (l m:Prs):prCells (l++m)=prCells l++prCells m:=List.flatMap_append
theorem prCells_one (l:Prs):∀u∈prCells l,u.oneCell'=true:=by
 intro u hu;obtain⟨y,_,hy⟩:=List.mem_flatMap.1 hu;simp only [List.mem_cons,List.not_mem_nil,or_false]at hy;rcases hy with rfl |rfl<;>rfl
def GetPost (w:World) (r:ByteArray×Nat) (e:Ending) (w':World):Prop:=e= .returned (.tuple #[.string r.1,.int .i64 r.2])∧w=w'
set_option maxHeartbeats 1000000 in
theorem fget_t (w:World) (A:Option Addr) (n c:Nat) (l:Prs) (hR:Rd w 2 A n (prCells l)) (hn:l.length=n) (hmax:n≤1048576) (k:ByteArray):
  Calls Tryz.prog 32 #[.slice A n c,.string k] w (GetPost w (fget l k)):=by
 go_enter Tryz.func32,Tryz.ntmps32;go_wp2_with fail
 go_loopg [6,7,8] (n+1) (fun gk s6 s7 s8 wr=>∃(i:Nat),s8= .int .i64 ((i:Int) - 1)∧i≤n∧i<gk∧s6= .string (fget (l.drop i) k).1∧s7= .int .i64 ((fget (l.drop i) k).2:Int)∧w=wr)
 case atStart=>exact⟨n,by go_num,by omega,by omega,by rw [List.drop_of_length_le (by omega)];rfl,by rw [List.drop_of_length_le (by omega)];rfl,rfl⟩
 case round=>
  obtain⟨i,rfl,hi,hk,rfl,rfl,rfl⟩:=hrel;cases i with
  |zero=>rw [show((0:Nat):Int) - 1= -1 by omega,List.drop_zero];go_wp2;go_ret2;exact⟨rfl,rfl⟩
  |succ i=>
   rw [show((i+1:Nat):Int) - 1=(i:Int) by omega];have h0:(0:Int)≤(i:Int):=by omega
   have hi':i<l.length:=by omega
   obtain⟨b,o,rfl,hcell⟩:=hR.2 (by omega);have hp:=prCells_at hi';have cn:=hcell _ _ hp.1;have cv:=hcell _ _ hp.2;rw [←Nat.add_assoc]at cv;have hdr:=zh (List.drop_eq_getElem_cons hi');have hRh:=zh hR;clear hp hcell hR;obtain⟨⟨y1,y2⟩,hy⟩:∃z,Hid (l[i]=z):=⟨_,zh rfl⟩
   rw [hy.o]at cn cv hdr;simp only at cn cv;have htb:=toList_beq y1 k;have hfl:=fget_le (l.drop (i+1)) k;rw [List.length_drop]at hfl;obtain⟨⟨v,m⟩,hvm⟩:∃z,Hid (fget (l.drop (i+1)) k=z):=⟨_,zh rfl⟩
   rw [hvm.o]at hfl⊢;simp only at hfl⊢;by_cases hyk:y1=k
   ·have hyh:=zh hyk;rw [show decide (y1=k)=true by simpa using hyk]at htb;clear hyk;have e:Hid (fget (l.drop i) k=(y2,m+1)):=zh (by rw [hdr.o];unfold fget;rw [if_pos hyh.o,hvm.o]);go_wp2;go_roundg (i+1)
    case measure=>omega
    case rel=>exact⟨i,by go_num,by omega,by omega,by rw [e.o],by rw [e.o];go_num,rfl⟩
   ·have hyh:=zh hyk;rw [show decide (y1=k)=false by simpa using hyk]at htb;clear hyk;have e:Hid (fget (l.drop i) k=(v,m)):=zh (by rw [hdr.o];unfold fget;rw [if_neg hyh.o,hvm.o]);go_wp2;go_roundg (i+1)
    case measure=>omega
    case rel=>exact⟨i,by go_num,by omega,by omega,by rw [e.o],by rw [e.o],rfl⟩
def hexI (c:UInt8):Int:=match hexV c with |some v=>v |none=> -1
set_option maxHeartbeats 1000000 in
theorem fworth_t (w:World) (c:UInt8):Calls Tryz.prog 117 #[.int .u8 (c.toNat:Int)] w fun e w'=>e= .returned (.int .i64 (hexI c))∧w=w':=by
 have hc:=c.toNat_lt;unfold hexI hexV;go_enter Tryz.func117,Tryz.ntmps117;go_wp2_with fail
 all_goals go_ret
 all_goals refine⟨?_,rfl⟩
 all_goals first
  |rfl
  | (exfalso;omega)
  | (show Ending.returned (Value.int .i64 _)=Ending.returned (Value.int .i64 _);congr 2;omega)
end Go.Proofs.YtopfcgpeaaehgaaGreatDoor
