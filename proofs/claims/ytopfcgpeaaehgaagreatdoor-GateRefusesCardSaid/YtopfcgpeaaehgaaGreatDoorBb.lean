/- Walks of the gate: a reader's small parts. Conditions: each theorem's own. -/
import Derived.Test.YtopfcgpeaaehgaaGreatDoorBa
namespace Go.Proofs.YtopfcgpeaaehgaaGreatDoor
open Go.RowKit Go.Sig
def firstM:List Int→Int
 | []=>0
 |x::l=>if x=0 then firstM l else x
theorem unless_t (w:World) (b:Bool) (k:Int):Calls Tryz.prog 72 #[.bool b,.int .i64 k] w fun e w'=>e= .returned (.int .i64 (if b=true then 0 else k))∧w=w':=by
 cases b<;>
 ·go_enter Tryz.func72,Tryz.ntmps72;go_wp2_with fail
  go_ret;exact⟨rfl,rfl⟩
theorem firstM_zero:∀{l:List Int},(∀x∈l,x=0)→firstM l=0
 | [],_=>rfl
 |x::l,h=>by unfold firstM;rw [if_pos (h x List.mem_cons_self)];exact firstM_zero fun y hy=>h y (List.mem_cons_of_mem _ hy)
theorem firstM_at:∀{l:List Int}{i:Nat}(h:i<l.length),(∀x∈l.take i,x=0)→l[i]≠0→firstM l=l[i]
 |x::l,0,h,_,hx=>by have hx':x≠0:=hx;unfold firstM;rw [if_neg hx'];rfl
 |x::l,i+1,h,ha,hx=>by unfold firstM;rw [if_pos (ha x (by simp))];exact firstM_at (l:=l) (i:=i) (by simpa using h) (fun y hy=>ha y (by simp [hy])) hx
set_option maxHeartbeats 1000000 in
theorem first_t (w:World) (A:Option Addr) (n c:Nat) (l:List Int) (hR:Rd w 1 A n (intCells l)) (hn:l.length=n) (hmax:n≤1000000):
  Calls Tryz.prog 71 #[.slice A n c] w fun e w'=>e= .returned (.int .i64 (firstM l))∧w=w':=by
 go_enter Tryz.func71,Tryz.ntmps71;go_wp2_with fail
 go_loopg [4,7] (n+1) (fun gk s4 s7 wr=>∃(i:Nat),s7= .int .i64 i∧i≤n∧n - i<gk∧(∀x∈l.take i,x=0)∧w=wr)
 case atStart=>exact⟨0,rfl,by omega,by omega,by simp,rfl⟩
 case round=>
  obtain⟨i,rfl,hi,hk,hno,rfl⟩:=hrel;have hnoh:=zh hno;clear hno;by_cases hlt:i<n
  ·have hlt':(i:Int)<n:=by omega
   have hlth:=zh hlt;have hi':i<l.length:=by omega
   obtain⟨b,o,rfl,hcell⟩:=hR.2 (by omega);have hat:=firstM_at hi' hnoh.o;have cs:=hcell i (.int .i64 (l[i]'hi')) (by unfold intCells;rw [List.getElem?_map,List.getElem?_eq_getElem hi'];rfl);have htk:=zh (List.take_succ_eq_append_getElem hi');obtain⟨x,hx⟩:∃z,Hid (l[i]'hi'=z):=⟨_,zh rfl⟩
   rw [hx.o]at cs htk hat;have hath:=zh hat;have hRh:=zh hR;clear hcell hR hat hx;by_cases hz:x=0
   ·subst hz;go_wp2_with fail
    go_roundg (n - i)
    case measure=>omega
    case rel=>
     refine⟨i+1,by go_num,by have:=hlth.o;omega,by have:=hlth.o;omega,?_,rfl⟩;rw [htk.o];intro y hy;rcases List.mem_append.1 hy with hy |hy
     ·exact hnoh.o y hy
     ·simpa using hy
   ·have hzb:(x==0)=false:=by simpa using hz
    have hzb2:(x !=0)=true:=by simpa using hz
    have hzh:=zh hz;clear hz;go_wp2_with fail
    go_ret;exact⟨by rw [hath.o hzh.o];rfl,rfl⟩
  ·have hge:¬(i:Int)<n:=by omega
   have ha:=hnoh.o;rw [List.take_of_length_le (by omega)]at ha;have hah:=zh ha;clear hlt ha hk;go_wp2_with fail
   go_ret;exact⟨by rw [firstM_zero hah.o];rfl,rfl⟩
structure RdrIn (w:World) (g r:Nat) (q:GReq) (l:List GCli) (sA:Option Addr) (sc:Nat) (sec:List UInt8) (family:ByteArray) (edge:Int) (fA:Option Addr) (fc:Nat) (form:Prs):Prop where
 hB:Blk w g 77 #[.string q.path,.string q.header,.string q.body,.string q.user,.pointer (some ⟨r,0,none⟩),.slice sA sec.length sc,.string family,.int .i64 edge,.slice fA form.length fc]
 roll:RollAt w r l
 sec:Byts w sA sec.length sec
 form:Rd w 2 fA form.length (prCells form)
 glob:Glob w
theorem RdrIn.fr {w w':World}{g r:Nat}{q:GReq}{l:List GCli}{sA:Option Addr}{sc:Nat}{sec:List UInt8}{family:ByteArray}{edge:Int}{fA:Option Addr}{fc:Nat}{form:Prs}
  (h:RdrIn w g r q l sA sc sec family edge fA fc form) (hF:Fr [] w w'):RdrIn w' g r q l sA sc sec family edge fA fc form:=
 ⟨h.hB.fr hF (by simp),h.roll.fr0 hF,Rd.fr h.sec hF (fun _=>off_nil _),h.form.fr hF (fun _=>off_nil _),h.glob.fr hF⟩
structure RdrSz (q:GReq) (l:List GCli) (sc:Nat) (sec:List UInt8) (form:Prs):Prop where
 cli:∀c∈l,CliSz c
 secl:sec.length≤140737488351232
 cap:sec.length≤sc
 len:form.length≤64
 each:∀p∈form,p.1.size≤16384∧p.2.size≤16384
 hdr:q.header.size≤140737488351232
theorem fget_sz {form:Prs}{k:ByteArray}(h:∀p∈form,p.1.size≤16384∧p.2.size≤16384):(fget form k).1.size≤16384:=by
 induction form with
 |nil=>show nilB.size≤16384;decide
 |cons p l ih=>
  rw [fget_cons];split
  ·exact(h p List.mem_cons_self).2
  ·exact ih fun y hy=>h y (List.mem_cons_of_mem _ hy)
section
variable {w:World}{g r:Nat}{q:GReq}{l:List GCli}{sA:Option Addr}{sc:Nat}{sec:List UInt8}{family:ByteArray}{edge:Int}{fA:Option Addr}{fc:Nat}{form:Prs}
set_option maxHeartbeats 1000000 in
theorem get_t (h:RdrIn w g r q l sA sc sec family edge fA fc form) (hz:RdrSz q l sc sec form) (k:ByteArray):Calls Tryz.prog 66 #[.pointer (some ⟨g,0,none⟩),.string k] w fun e w'=>e= .returned (.string (fg form k))∧w=w':=by
 have hget:=fget_t w fA form.length fc form h.form rfl (by have:=hz.len;omega) k;unfold GetPost at hget;unfold fg;have c8:=h.hB.cell 8;simp only [zG,zH,zI]at c8;have hgl:=h.hB.lt;obtain⟨⟨s,n⟩,hs⟩:∃z,Hid (fget form k=z):=⟨_,zh rfl⟩
 rw [hs.o]at hget⊢;dsimp only at hget⊢;clear h hz;go_enter Tryz.func66,Tryz.ntmps66;go_wp2_with (go_at_call 32;refine hget.mono ?_;clear hget;rintro e w1 ⟨rfl,rfl⟩)
 go_ret;exact⟨rfl,rfl⟩
def GScPost (w:World) (r:Option (List ByteArray)) (e:Ending) (w':World):Prop:=
 match r with
 |none=>e= .returned (.tuple #[.slice none 0 0,.int .i64 6])∧Fr [] w w'
 |some l=>∃A c,e= .returned (.tuple #[.slice A l.length c,.int .i64 0])∧Rd w' 1 A l.length (strCells l)∧From w.heap.size A∧Fr [] w w'
set_option maxHeartbeats 1000000 in
theorem gscope_t (h:RdrIn w g r q l sA sc sec family edge fA fc form) (hz:RdrSz q l sc sec form):Calls Tryz.prog 74 #[.pointer (some ⟨g,0,none⟩)] w (GScPost w (scpM (fg form nScope))):=by
 have hget:=get_t h hz nScope;obtain⟨m,hm⟩:=h.glob.m;have hpa:=sparse_t w (fg form nScope) m hm;have hun:=fun V b=>unless_t V b 6;unfold nScope at hget;obtain⟨s,hs⟩:∃z,Hid (fg form nScope=z):=⟨_,zh rfl⟩
 rw [hs.o]at hpa⊢;rw [show fg form ⟨#[115,99,111,112,101]⟩=s from hs.o]at hget;obtain⟨res,hres⟩:∃z,Hid (scpM s=z):=⟨_,zh rfl⟩
 rw [hres.o]at hpa⊢;clear h hz hm;cases res with
 |none=>
  unfold ScPost at hpa;dsimp only at hpa;have hu6:=fun V=>hun V false;go_enter Tryz.func74,Tryz.ntmps74;go_wp2_with (first
   | (go_at_call 66;refine hget.mono ?_;clear hget;rintro e w1 ⟨rfl,rfl⟩)
   | (go_at_call 113;refine hpa.mono ?_;clear hpa;rintro e w1 ⟨k,rfl,hk,F1⟩)
   | (go_at_call 72;refine(hu6 _).mono ?_;clear hu6;rintro e w2 ⟨rfl,rfl⟩))
  go_ret2;exact⟨rfl,F1⟩
 |some ls=>
  unfold ScPost at hpa;dsimp only at hpa;have hu6:=fun V=>hun V true;go_enter Tryz.func74,Tryz.ntmps74;go_wp2_with (first
   | (go_at_call 66;refine hget.mono ?_;clear hget;rintro e w1 ⟨rfl,rfl⟩)
   | (go_at_call 113;refine hpa.mono ?_;clear hpa;rintro e w1 ⟨A1,c1,rfl,hR1,hA1,F1⟩;have hR1:=zh hR1;have hA1:=zh hA1)
   | (go_at_call 72;refine(hu6 _).mono ?_;clear hu6;rintro e w2 ⟨rfl,rfl⟩))
  go_ret2;exact⟨A1,c1,rfl,hR1.o,hA1.o,F1⟩
def GivenPost (w:World) (r:Option (List ByteArray)) (e:Ending) (w':World):Prop:=
 match r with
 |none=>∃A n c,e= .returned (.tuple #[.slice A n c,.int .i64 6])∧Fr [] w w'
 |some l=>∃A c,e= .returned (.tuple #[.slice A l.length c,.int .i64 0])∧Rd w' 1 A l.length (strCells l)∧From w.heap.size A∧Fr [] w w'
theorem two_rd {V:World}{g':Nat}{a b:Int}{t:TypeId}(h:Blk V g' t #[.int .i64 a,.int .i64 b]):Rd V 1 (some ⟨g',0,none⟩) 2 (intCells [a,b]):=
 ⟨rfl,fun _=>⟨g',0,rfl,fun j u hu=>by rw [Nat.zero_add,h.cell,zG];exact hu⟩⟩
theorem scpM_sz {s:ByteArray}{a:List ByteArray}(h:scpM s=some a):a.length≤32∧∀x∈a,x.size≤150000000000000:=by
 unfold scpM at h;split at h
 ·cases h
 ·split at h
  ·injection h with h
   subst h;simp
  ·dsimp only at h;split at h
   ·split at h
    ·next h32=>
     injection h with h
     subst h;refine⟨h32,fun x hx=> ?_⟩;have:=(mem_setOf.1 hx).2;unfold isWord at this;simp only [Bool.and_eq_true,decide_eq_true_eq]at this;omega
    ·cases h
   ·cases h
set_option maxRecDepth 100000 in
set_option maxHeartbeats 1000000 in
theorem ggiven_t (h:RdrIn w g r q l sA sc sec family edge fA fc form) (hz:RdrSz q l sc sec form) (id:ByteArray):Calls Tryz.prog 69 #[.pointer (some ⟨g,0,none⟩),.string id] w (GivenPost w (givenM l id form)):=by
 have hsc:=gscope_t h hz;have hun:=fun V b=>unless_t V b 6;have hfi:∀V g' a b,Blk V g' 36 #[.int .i64 a,.int .i64 b]→Calls Tryz.prog 71 #[.slice (some ⟨g',0,none⟩) 2 2] V fun e w'=>e= .returned (.int .i64 (firstM [a,b]))∧V=w':=fun V g' a b hB=>first_t V _ 2 2 [a,b] (two_rd hB) rfl (by decide);have hh:=zh h;have hzh:=zh hz;obtain⟨res,hres⟩:∃z,Hid (scpM (fg form nScope)=z):=⟨_,zh rfl⟩
 rw [hres.o]at hsc;obtain⟨R,hR⟩:∃z,Hid (givenM l id form=z):=⟨_,zh rfl⟩
 rw [hR.o];have hRe:Hid (R=res.bind fun a=>scopeR l id a):=zh (by rw [←hR.o,←hres.o];unfold givenM;cases scpM (fg form nScope)<;>rfl);clear h hz;cases res with
 |none=>
  have hr2:Hid (R=none):=zh hRe.o;unfold GScPost at hsc;dsimp only at hsc;go_enter Tryz.func69,Tryz.ntmps69;go_upto_region 2 with(go_at_call 74;refine hsc.mono ?_;clear hsc;rintro e w1 ⟨rfl,F1⟩)
  have h1:=hh.o.fr F1;have c4:=h1.hB.cell 4;simp only [zG,zH,zI]at c4;have hgl:=h1.hB.lt;have hrs:=rscope_t w1 r l id none 0 0 [] h1.roll hzh.o.cli (Rd.nil _ _ _) rfl (by omega) (by simp);have F1h:=zh F1;obtain⟨rs,hrse⟩:∃z,Hid (scopeR l id []=z):=⟨_,zh rfl⟩
  rw [hrse.o]at hrs;unfold RScopePost at hrs;clear F1 h1;cases rs with
  |none=>
   dsimp only at hrs;have hu6:=fun V=>hun V false;go_wp2_with (first
    | (go_at_call 111;refine hrs.mono ?_;clear hrs;rintro e w2 ⟨rfl,F2⟩)
    | (go_at_call 72;refine(hu6 _).mono ?_;clear hu6;rintro e w3 ⟨rfl,rfl⟩)
    | (go_at_call 71;refine(hfi _ _ _ _ (Blk.new' _ _ rfl)).mono ?_;clear hfi;rintro e w4 ⟨rfl,rfl⟩))
   go_ret2;rw [hr2.o];exact⟨none,0,0,rfl,F1h.o.trans (F2.trans ((Fr.refl _ _).alloc _))⟩
  |some ls=>
   dsimp only at hrs;have hu6:=fun V=>hun V true;go_wp2_with (first
    | (go_at_call 111;refine hrs.mono ?_;clear hrs;rintro e w2 ⟨A2,c2,rfl,hR2,hA2,F2⟩)
    | (go_at_call 72;refine(hu6 _).mono ?_;clear hu6;rintro e w3 ⟨rfl,rfl⟩)
    | (go_at_call 71;refine(hfi _ _ _ _ (Blk.new' _ _ rfl)).mono ?_;clear hfi;rintro e w4 ⟨rfl,rfl⟩))
   go_ret2;rw [hr2.o];exact⟨A2,ls.length,c2,rfl,F1h.o.trans (F2.trans ((Fr.refl _ _).alloc _))⟩
 |some a=>
  have hr2:Hid (R=scopeR l id a):=zh hRe.o;obtain⟨ha1,ha2⟩:=scpM_sz hres.o;unfold GScPost at hsc;dsimp only at hsc;go_enter Tryz.func69,Tryz.ntmps69;go_upto_region 2 with(go_at_call 74;refine hsc.mono ?_;clear hsc;rintro e w1 ⟨A1,c1,rfl,hR1,hA1,F1⟩)
  have h1:=hh.o.fr F1;have c4:=h1.hB.cell 4;simp only [zG,zH,zI]at c4;have hgl:=h1.hB.lt;have hrs:=rscope_t w1 r l id A1 a.length c1 a h1.roll hzh.o.cli hR1 rfl (by omega) ha2;have F1h:=zh F1;obtain⟨rs,hrse⟩:∃z,Hid (scopeR l id a=z):=⟨_,zh rfl⟩
  rw [hrse.o]at hrs hr2;unfold RScopePost at hrs;clear hR1 hA1 F1 h1 ha1 ha2;cases rs with
  |none=>
   dsimp only at hrs;have hu6:=fun V=>hun V false;go_wp2_with (first
    | (go_at_call 111;refine hrs.mono ?_;clear hrs;rintro e w2 ⟨rfl,F2⟩)
    | (go_at_call 72;refine(hu6 _).mono ?_;clear hu6;rintro e w3 ⟨rfl,rfl⟩)
    | (go_at_call 71;refine(hfi _ _ _ _ (Blk.new' _ _ rfl)).mono ?_;clear hfi;rintro e w4 ⟨rfl,rfl⟩))
   go_ret2;rw [hr2.o];exact⟨none,0,0,rfl,F1h.o.trans (F2.trans ((Fr.refl _ _).alloc _))⟩
  |some ls=>
   dsimp only at hrs;have hu6:=fun V=>hun V true;go_wp2_with (first
    | (go_at_call 111;refine hrs.mono ?_;clear hrs;rintro e w2 ⟨A2,c2,rfl,hR2,hA2,F2⟩;have hR2:=zh hR2;have hA2:=zh hA2)
    | (go_at_call 72;refine(hu6 _).mono ?_;clear hu6;rintro e w3 ⟨rfl,rfl⟩)
    | (go_at_call 71;refine(hfi _ _ _ _ (Blk.new' _ _ rfl)).mono ?_;clear hfi;rintro e w4 ⟨rfl,rfl⟩))
   go_ret2;rw [hr2.o];exact⟨A2,c2,rfl,hR2.o.fr ((Fr.refl _ _).alloc _) (fun _=>off_nil _),hA2.o.mono F1h.o.size,F1h.o.trans (F2.trans ((Fr.refl _ _).alloc _))⟩
end
end Go.Proofs.YtopfcgpeaaehgaaGreatDoor
