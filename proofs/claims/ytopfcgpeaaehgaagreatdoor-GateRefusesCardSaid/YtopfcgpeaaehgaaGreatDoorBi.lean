/- The law GateRefuses, walked. Conditions: each theorem's own. -/
import Derived.Test.YtopfcgpeaaehgaaGreatDoorBh
namespace Go.Proofs.YtopfcgpeaaehgaaGreatDoor
open Go.RowKit Go.Sig
def refusesM (p:ByteArray):List Int:=if p=pAuthz then [1,2,4,6,7,8]else if p=pToken then [1,2,3,4,5,6,7]else if p=pRevoke then [1,2,7]else if p=pIntro then [1,2,7]else [1]
def RefuPost (w:World) (l:List Int) (e:Ending) (w':World):Prop:=∃g,e= .returned (.slice (some ⟨g,0,none⟩) l.length l.length)∧Rd w' 1 (some ⟨g,0,none⟩) l.length (intCells l)∧Fr [] w w'
theorem refu_end (w:World) (t:TypeId) (l:List Int):RefuPost w l (.returned (.slice (some ⟨w.heap.size,0,none⟩) l.length l.length)) (w.alloc (.cells (intCells l).toArray t)):=
 ⟨_,rfl,whys_rd (Blk.new _ _ _),(Fr.refl _ _).alloc _⟩
set_option maxHeartbeats 2000000 in
theorem refu_t (w:World) (p:ByteArray):Calls Tryz.prog 19 #[.string p] w (RefuPost w (refusesM p)):=by
 unfold refusesM;by_cases h0:p=pAuthz
 ·rw [if_pos h0];have q0:(p.toList== [47,97,117,116,104,111,114,105,122,101])=true:=by rw [h0];decide+kernel
  have q1:(p.toList== [47,116,111,107,101,110])=false:=by rw [h0];decide+kernel
  have q2:(p.toList== [47,114,101,118,111,107,101])=false:=by rw [h0];decide+kernel
  have q3:(p.toList== [47,105,110,116,114,111,115,112,101,99,116])=false:=by rw [h0];decide+kernel
  clear h0;go_enter Tryz.func19,Tryz.ntmps19;go_wp2_with fail
  go_ret;exact refu_end _ _ _
 rw [if_neg h0];by_cases h1:p=pToken
 ·rw [if_pos h1];have q0:(p.toList== [47,97,117,116,104,111,114,105,122,101])=false:=by rw [h1];decide+kernel
  have q1:(p.toList== [47,116,111,107,101,110])=true:=by rw [h1];decide+kernel
  have q2:(p.toList== [47,114,101,118,111,107,101])=false:=by rw [h1];decide+kernel
  have q3:(p.toList== [47,105,110,116,114,111,115,112,101,99,116])=false:=by rw [h1];decide+kernel
  clear h0 h1;go_enter Tryz.func19,Tryz.ntmps19;go_wp2_with fail
  go_ret;exact refu_end _ _ _
 rw [if_neg h1];by_cases h2:p=pRevoke
 ·rw [if_pos h2];have q0:(p.toList== [47,97,117,116,104,111,114,105,122,101])=false:=by rw [h2];decide+kernel
  have q1:(p.toList== [47,116,111,107,101,110])=false:=by rw [h2];decide+kernel
  have q2:(p.toList== [47,114,101,118,111,107,101])=true:=by rw [h2];decide+kernel
  have q3:(p.toList== [47,105,110,116,114,111,115,112,101,99,116])=false:=by rw [h2];decide+kernel
  clear h0 h1 h2;go_enter Tryz.func19,Tryz.ntmps19;go_wp2_with fail
  go_ret;exact refu_end _ _ _
 rw [if_neg h2];by_cases h3:p=pIntro
 ·rw [if_pos h3];have q0:(p.toList== [47,97,117,116,104,111,114,105,122,101])=false:=by rw [h3];decide+kernel
  have q1:(p.toList== [47,116,111,107,101,110])=false:=by rw [h3];decide+kernel
  have q2:(p.toList== [47,114,101,118,111,107,101])=false:=by rw [h3];decide+kernel
  have q3:(p.toList== [47,105,110,116,114,111,115,112,101,99,116])=true:=by rw [h3];decide+kernel
  clear h0 h1 h2 h3;go_enter Tryz.func19,Tryz.ntmps19;go_wp2_with fail
  go_ret;exact refu_end _ _ _
 rw [if_neg h3];have q0:=str_dec p pAuthz;rw [show pAuthz.toList= [47,97,117,116,104,111,114,105,122,101] by decide+kernel,decide_eq_false h0]at q0;have q1:=str_dec p pToken;rw [show pToken.toList= [47,116,111,107,101,110] by decide+kernel,decide_eq_false h1]at q1;have q2:=str_dec p pRevoke;rw [show pRevoke.toList= [47,114,101,118,111,107,101] by decide+kernel,decide_eq_false h2]at q2;have q3:=str_dec p pIntro;rw [show pIntro.toList= [47,105,110,116,114,111,115,112,101,99,116] by decide+kernel,decide_eq_false h3]at q3;clear h0 h1 h2 h3;go_enter Tryz.func19,Tryz.ntmps19;go_wp2_with fail
 go_ret;exact refu_end _ _ _
set_option maxHeartbeats 2000000 in
theorem rrefu_t (w:World) (p:ByteArray):Calls Tryz.prog 20 #[.string p] w (RefuPost w (refusesM p)):=by
 unfold refusesM;by_cases h0:p=pAuthz
 ·rw [if_pos h0];have q0:(p.toList== [47,97,117,116,104,111,114,105,122,101])=true:=by rw [h0];decide+kernel
  have q1:(p.toList== [47,116,111,107,101,110])=false:=by rw [h0];decide+kernel
  have q2:(p.toList== [47,114,101,118,111,107,101])=false:=by rw [h0];decide+kernel
  have q3:(p.toList== [47,105,110,116,114,111,115,112,101,99,116])=false:=by rw [h0];decide+kernel
  clear h0;go_enter Tryz.func20,Tryz.ntmps20;go_wp2_with fail
  go_ret;exact refu_end _ _ _
 rw [if_neg h0];by_cases h1:p=pToken
 ·rw [if_pos h1];have q0:(p.toList== [47,97,117,116,104,111,114,105,122,101])=false:=by rw [h1];decide+kernel
  have q1:(p.toList== [47,116,111,107,101,110])=true:=by rw [h1];decide+kernel
  have q2:(p.toList== [47,114,101,118,111,107,101])=false:=by rw [h1];decide+kernel
  have q3:(p.toList== [47,105,110,116,114,111,115,112,101,99,116])=false:=by rw [h1];decide+kernel
  clear h0 h1;go_enter Tryz.func20,Tryz.ntmps20;go_wp2_with fail
  go_ret;exact refu_end _ _ _
 rw [if_neg h1];by_cases h2:p=pRevoke
 ·rw [if_pos h2];have q0:(p.toList== [47,97,117,116,104,111,114,105,122,101])=false:=by rw [h2];decide+kernel
  have q1:(p.toList== [47,116,111,107,101,110])=false:=by rw [h2];decide+kernel
  have q2:(p.toList== [47,114,101,118,111,107,101])=true:=by rw [h2];decide+kernel
  have q3:(p.toList== [47,105,110,116,114,111,115,112,101,99,116])=false:=by rw [h2];decide+kernel
  clear h0 h1 h2;go_enter Tryz.func20,Tryz.ntmps20;go_wp2_with fail
  go_ret;exact refu_end _ _ _
 rw [if_neg h2];by_cases h3:p=pIntro
 ·rw [if_pos h3];have q0:(p.toList== [47,97,117,116,104,111,114,105,122,101])=false:=by rw [h3];decide+kernel
  have q1:(p.toList== [47,116,111,107,101,110])=false:=by rw [h3];decide+kernel
  have q2:(p.toList== [47,114,101,118,111,107,101])=false:=by rw [h3];decide+kernel
  have q3:(p.toList== [47,105,110,116,114,111,115,112,101,99,116])=true:=by rw [h3];decide+kernel
  clear h0 h1 h2 h3;go_enter Tryz.func20,Tryz.ntmps20;go_wp2_with fail
  go_ret;exact refu_end _ _ _
 rw [if_neg h3];have q0:=str_dec p pAuthz;rw [show pAuthz.toList= [47,97,117,116,104,111,114,105,122,101] by decide+kernel,decide_eq_false h0]at q0;have q1:=str_dec p pToken;rw [show pToken.toList= [47,116,111,107,101,110] by decide+kernel,decide_eq_false h1]at q1;have q2:=str_dec p pRevoke;rw [show pRevoke.toList= [47,114,101,118,111,107,101] by decide+kernel,decide_eq_false h2]at q2;have q3:=str_dec p pIntro;rw [show pIntro.toList= [47,105,110,116,114,111,115,112,101,99,116] by decide+kernel,decide_eq_false h3]at q3;clear h0 h1 h2 h3;go_enter Tryz.func20,Tryz.ntmps20;go_wp2_with fail
 go_ret;exact refu_end _ _ _
set_option maxRecDepth 100000 in
set_option maxHeartbeats 4000000 in
theorem refuses_t (w:World) (p:ByteArray) (hg:Glob w):Calls Tryz.prog 6 #[.string p] w fun e w'=>e= .returned (.bool true)∧Fr [] w w':=by
 have h1:=refu_t w p;have h2:=fun V=>rrefu_t V p;have hk:=fun V (hF:Fr [] w V)=>known_t V (hg.fr hF);obtain⟨l,hl⟩:∃z,Hid (refusesM p=z):=⟨_,zh rfl⟩
 have hlen:l.length≤7:=by
  rw [←hl.o];unfold refusesM
  repeat' split
  all_goals decide
 rw [hl.o]at h1 h2;unfold RefuPost at h1 h2;clear hl hg;go_enter Tryz.func6,Tryz.ntmps6;go_upto_region 2 with(first
  | (go_at_call 19;refine h1.mono ?_;clear h1;rintro e w1 ⟨g1,rfl,R1,F1⟩)
  | (go_at_call 20;refine(h2 _).mono ?_;clear h2;rintro e w2 ⟨g2,rfl,R2,F2⟩))
 have hk:=hk w2 (F1.trans F2);have R1h:=zh (R1.fr F2 (fun _=>off_nil _));have R2h:=zh R2;have F2h:=zh (F1.trans F2);obtain⟨n,hn⟩:∃z,Hid (l.length=z):=⟨_,zh rfl⟩
 rw [hn.o]at R1h R2h hlen⊢;have hnn:((n:Int) !=(n:Int))=false:=by simp
 clear R1 R2 F1 F2;go_upto_region 4 with(go_at_call 9;refine hk.mono ?_;clear hk;rintro e w3 ⟨rfl,F3⟩)
 have F3h:=zh (F2h.o.trans F3);have R1h:=zh (R1h.o.fr F3 (fun _=>off_nil _));have R2h:=zh (R2h.o.fr F3 (fun _=>off_nil _));clear F3;go_wp2_with fail
 go_loopg [5] (n+1) (fun gk s5 wr=>∃(i:Nat),s5= .int .i64 i∧i≤n∧n - i<gk∧Fr [] w3 wr)
 case atStart=>exact⟨0,rfl,by omega,by omega,Fr.refl _ _⟩
 case round=>
  obtain⟨i,rfl,hi,hk,hF⟩:=hrel;have hFh:=zh hF;by_cases hlt:i<n
  ·have hlt':(i:Int)<n:=by omega
   have hlth:=zh hlt;have hi':i<l.length:=by have:=hn.o;omega
   obtain⟨b1,o1,e1,hc1⟩:=(R1h.o.fr hF (fun _=>off_nil _)).2 (by omega);obtain⟨b2,o2,e2,hc2⟩:=(R2h.o.fr hF (fun _=>off_nil _)).2 (by omega);obtain⟨rfl,rfl⟩:g1=b1∧0=o1:=by injection e1 with h1;injection h1 with h1 h2;exact⟨h1,h2⟩
   obtain⟨rfl,rfl⟩:g2=b2∧0=o2:=by injection e2 with h1;injection h1 with h1 h2;exact⟨h1,h2⟩
   have hx:(intCells l)[i*1]? =some (.int .i64 (l[i]'hi')):=by unfold intCells;rw [Nat.mul_one,List.getElem?_map,List.getElem?_eq_getElem hi'];rfl
   have c1:=hc1 i _ (by simpa using hx);have c2:=hc2 i _ (by simpa using hx);obtain⟨x,hxe⟩:∃z,Hid (l[i]'hi'=z):=⟨_,zh rfl⟩
   rw [hxe.o,Nat.zero_add]at c1 c2;have hxx:(x !=x)=false:=by simp
   clear hc1 hc2 e1 e2 hx hxe hlt hF;go_upto_region 7 with(fail)
   go_quiet (fail)
   go_wp2_with fail
   go_roundg (n - i)
   case measure=>have:=hlth.o;omega
   case rel=>exact⟨i+1,by go_num,by have:=hlth.o;omega,by have:=hlth.o;omega,hFh.o.drewN _⟩
  ·have hge:¬(i:Int)<n:=by omega
   clear hlt hk;go_wp2_with fail
   go_ret;exact⟨rfl,F3h.o.trans hFh.o⟩
end Go.Proofs.YtopfcgpeaaehgaaGreatDoor
