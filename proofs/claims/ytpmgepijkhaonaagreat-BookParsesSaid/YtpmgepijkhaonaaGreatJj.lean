/- Walk: the document's: signs as bytes. Conditions: each theorem's own. -/
import Derived.Test.YtpmgepijkhaonaaGreatJf
namespace Go.Sig
open Go.RowKit
def bnum (l:List Bool):Nat:=l.foldl (fun n b=>2*n+b.toNat) 0
theorem bnum_snoc (l:List Bool) (b:Bool):bnum (l++ [b])=2*bnum l+b.toNat:=by
 unfold bnum;rw [List.foldl_append];rfl
theorem bnum_take {l:List Bool}{i:Nat}(hi:i<l.length):bnum (l.take (i+1))=2*bnum (l.take i)+l[i].toNat:=by
 rw [List.take_succ_eq_append_getElem hi,bnum_snoc]
theorem bnum_lt {l:List Bool}:∀{i:Nat},i≤l.length→bnum (l.take i)<2^i
 | 0,_=>by simp [bnum]
 |i+1,h=>by
  have h1:=bnum_lt (l:=l) (i:=i) (by omega);have h2:l[i].toNat≤1:=by cases l[i]<;>simp
  rw [bnum_take (by omega),Nat.pow_succ];omega
def sgnAt (n:Nat):UInt8:=webS.getD n 0
theorem sgnAt_val:∀n:Fin 64,(sgnAt n.val).toNat=if n.val<26 then 65+n.val else if n.val<52 then 71+n.val else if n.val<62 then n.val - 4 else if n.val=62 then 45 else 95:=by decide+kernel
end Go.Sig
namespace Go.Proofs.YtpmgepijkhaonaaGreat
open Go.RowKit Go.Sig
set_option maxHeartbeats 2000000 in
theorem rsign64_t (w:World) (n:Nat) (hn:n<64):Calls Tryz.prog 283 #[.int .i64 n,.bool true] w fun e w'=>e= .returned (.int .u8 (sgnAt n).toNat)∧w=w':=by
 have hv:=sgnAt_val ⟨n,hn⟩;simp only at hv;have hvh:=zh hv;have h64:(n:Int)<64:=by omega
 clear hv;by_cases h1:n<26
 ·have d1:decide ((n:Int)<26)=true:=decide_eq_true (by omega);have hr:=zh (show(sgnAt n).toNat=65+n by rw [hvh.o,if_pos h1]);have hw:IntKind.u8.wrap (65+(n:Int))=65+(n:Int):=by rw [IntKind.wrap_u8];omega
  clear h1;go_enter Tryz.func283,Tryz.ntmps283;go_wp2_with fail
  go_ret;exact⟨by rw [hr.o];rfl,rfl⟩
 ·have d1:decide ((n:Int)<26)=false:=decide_eq_false (by omega);by_cases h2:n<52
  ·have d2:decide ((n:Int)<52)=true:=decide_eq_true (by omega);have hr:=zh (show(sgnAt n).toNat=71+n by rw [hvh.o,if_neg h1,if_pos h2]);have hw:IntKind.u8.wrap (71+(n:Int))=71+(n:Int):=by rw [IntKind.wrap_u8];omega
   clear h1 h2;go_enter Tryz.func283,Tryz.ntmps283;go_wp2_with fail
   go_ret;exact⟨by rw [hr.o];rfl,rfl⟩
  ·have d2:decide ((n:Int)<52)=false:=decide_eq_false (by omega);by_cases h3:n<62
   ·have d3:decide ((n:Int)<62)=true:=decide_eq_true (by omega);have hr:=zh (show(sgnAt n).toNat=n - 4 by rw [hvh.o,if_neg h1,if_neg h2,if_pos h3]);have hw:IntKind.u8.wrap ((n:Int) - 4)=(n:Int) - 4:=by rw [IntKind.wrap_u8];omega
    have hn4:=zh (show 4≤n by omega);clear h1 h2 h3;go_enter Tryz.func283,Tryz.ntmps283;go_wp2_with fail
    go_ret;exact⟨by rw [hr.o,Int.ofNat_sub hn4.o];rfl,rfl⟩
   ·have d3:decide ((n:Int)<62)=false:=decide_eq_false (by omega);by_cases h4:n=62
    ·subst h4;have hr:=zh (show(sgnAt 62).toNat=45 by rw [hvh.o];rfl);go_enter Tryz.func283,Tryz.ntmps283;go_wp2_with fail
     go_ret;exact⟨by rw [hr.o];rfl,rfl⟩
    ·obtain rfl:n=63:=by omega
     have hr:=zh (show(sgnAt 63).toNat=95 by rw [hvh.o];rfl);go_enter Tryz.func283,Tryz.ntmps283;go_wp2_with fail
     go_ret;exact⟨by rw [hr.o];rfl,rfl⟩
def boolCells (l:List Bool):List Value:=l.map Value.bool
theorem boolCells_at {l:List Bool}{i:Nat}(h:i<l.length):(boolCells l)[i]? =some (.bool l[i]):=by
 unfold boolCells;rw [List.getElem?_map,List.getElem?_eq_getElem h];rfl
theorem boolCells_one (l:List Bool):∀u∈boolCells l,u.oneCell'=true:=by
 intro u hu;obtain⟨s,_,rfl⟩:=List.mem_map.1 hu;rfl
theorem boolCells_append (a b:List Bool):boolCells (a++b)=boolCells a++boolCells b:=List.map_append
theorem boolCells_length (l:List Bool):(boolCells l).length=l.length:=List.length_map _
set_option maxHeartbeats 2000000 in
theorem rnum_t (w:World) (A:Option Addr) (n c:Nat) (l:List Bool) (hA:Rd w 1 A n (boolCells l)) (hn:l.length=n) (hmax:n≤32):
  Calls Tryz.prog 284 #[.slice A n c] w fun e w'=>e= .returned (.int .i64 (bnum l))∧w=w':=by
 have hAh:=zh hA;have hnh:=zh hn;clear hA hn;go_enter Tryz.func284,Tryz.ntmps284;go_wp2_with fail
 go_loopg [3,4] (n+1) (fun gk s3 s4 wr=>∃(i:Nat),s4= .int .i64 i∧s3= .int .i64 (bnum (l.take i))∧i≤n∧n - i<gk∧w=wr)
 case atStart=>exact⟨0,rfl,rfl,by omega,by omega,rfl⟩
 case round=>
  obtain⟨i,rfl,rfl,hi,hk,rfl⟩:=hrel;by_cases hlt:i<n
  ·have hlt':(i:Int)<n:=by omega
   have hil:i<l.length:=by rw [hnh.o];exact hlt
   have hbt:=bnum_take hil;have hb32:=bnum_lt (l:=l) (i:=i) (by omega);have hb:bnum (l.take i)<4294967296:=Nat.lt_of_lt_of_le hb32 (show 2^i≤2^32 from Nat.pow_le_pow_right (by omega) (by omega));obtain⟨b0,o0,rfl,hc⟩:=hAh.o.2 (by omega);obtain⟨x,hx⟩:∃z,Hid (l[i]'hil=z):=⟨_,zh rfl⟩
   have e0:=hc i (.bool x) (by rw [←hx.o];exact boolCells_at hil);rw [hx.o]at hbt;have hbth:=zh hbt;obtain⟨q,hq⟩:∃z,Hid (bnum (l.take i)=z):=⟨_,zh rfl⟩
   rw [hq.o]at hb;rw [hq.o];have hlth:=zh hlt;clear hc hb32 hlt hbt;cases x with
   |true=>
    go_wp2_with fail
    go_roundg (n - i)
    case measure=>omega
    case rel=>exact⟨i+1,by go_num,by rw [hbth.o,hq.o];simp,by have:=hlth.o;omega,by have:=hlth.o;omega,rfl⟩
   |false=>
    go_wp2_with fail
    go_roundg (n - i)
    case measure=>omega
    case rel=>exact⟨i+1,by go_num,by rw [hbth.o,hq.o];simp,by have:=hlth.o;omega,by have:=hlth.o;omega,rfl⟩
  ·have hge:¬(i:Int)<n:=by omega
   have hv:=zh (show bnum (l.take i)=bnum l by rw [List.take_of_length_le (by rw [hnh.o];omega)]);rw [hv.o];clear hlt hk;go_wp2_with fail
   go_ret;exact⟨rfl,rfl⟩
end Go.Proofs.YtpmgepijkhaonaaGreat
namespace Go.Sig
open Go.RowKit
def bit8 (x:UInt8):List Bool:= [128,64,32,16,8,4,2,1].map fun w=>decide (x.toNat / w%2=1)
def bitsB (l:List UInt8):List Bool:=l.flatMap bit8
theorem bit8_length (x:UInt8):(bit8 x).length=8:=rfl
theorem bit8_at (x:UInt8) {j:Nat}(h:j<8):(bit8 x)[j]'(by rw [bit8_length];exact h)=decide (x.toNat / (128 / 2^j)%2=1):=by
 match j,h with
 | 0,_=>rfl
 | 1,_=>rfl
 | 2,_=>rfl
 | 3,_=>rfl
 | 4,_=>rfl
 | 5,_=>rfl
 | 6,_=>rfl
 | 7,_=>rfl
theorem w8_pos {j:Nat}(h:j≤8):(0<128 / 2^j↔j<8)∧128 / 2^j≤128:=by
 match j,h with
 | 0,_=>decide
 | 1,_=>decide
 | 2,_=>decide
 | 3,_=>decide
 | 4,_=>decide
 | 5,_=>decide
 | 6,_=>decide
 | 7,_=>decide
 | 8,_=>decide
theorem w8_next (j:Nat):128 / 2^j / 2=128 / 2^(j+1):=by rw [Nat.div_div_eq_div_mul,Nat.pow_succ]
theorem bitsB_take {l:List UInt8}{i:Nat}(hi:i<l.length):bitsB (l.take (i+1))=bitsB (l.take i)++bit8 l[i]:=by
 unfold bitsB;rw [List.take_succ_eq_append_getElem hi,List.flatMap_append];simp
theorem bitsB_length (l:List UInt8):(bitsB l).length=l.length*8:=by
 unfold bitsB;induction l with
 |nil=>rfl
 |cons x l ih=>rw [List.flatMap_cons,List.length_append,ih,bit8_length,List.length_cons];omega
end Go.Sig
namespace Go.Proofs.YtpmgepijkhaonaaGreat
open Go.RowKit Go.Sig
theorem tBools:SliceTy Tryz.prog 345 4 1 1 (.bool false):=⟨by kernel_rfl,by kernel_rfl,rfl,by decide⟩
theorem bool_new (w:World) (b:Bool) (ty:TypeId):Rd (w.alloc (.cells #[.bool b] ty)) 1 (some ⟨w.heap.size,0,none⟩) 1 (boolCells [b]):=by
 refine⟨rfl,fun _=>⟨_,0,rfl,fun j u hu=> ?_⟩⟩;rw [(Blk.new w ty #[.bool b]).cell,Nat.zero_add];simpa [boolCells]using hu
def BAcc (w wr:World) (s:Value) (l:List Bool):Prop:=
 ∃A c,s= .slice A l.length c∧Own wr 4 1 (.slice A l.length c) l.length (boolCells l)∧(∀g,g∈rowOf (.slice A l.length c)→w.heap.size≤g)∧Fr [] w wr
theorem BAcc.nil (w:World):BAcc w w (.slice none 0 0) []:=⟨none,0,rfl,Own.nil _ _ _,by simp [rowOf,Value.ownBlock],Fr.refl _ _⟩
theorem BAcc.push {w wr w2:World}{o:Obj}{A A2:Option Addr}{c c2 n:Nat}{l:List Bool}{y:Bool}(hn:l.length=n) (hR:∀g,g∈rowOf (.slice A n c)→w.heap.size≤g) (hF:Fr [] w wr)
  (p1:Own w2 4 1 (.slice A2 (n+1) c2) (n+1) (boolCells l++boolCells [y])) (p2:Fr (rowOf (.slice A n c)) (wr.alloc o) w2)
  (p3:∀g,g∈rowOf (.slice A2 (n+1) c2)→g∈rowOf (.slice A n c)∨g=(wr.alloc o).heap.size):BAcc w w2 (.slice A2 (n+1) c2) (l++ [y]):=by
 have hl:(l++ [y]).length=n+1:=by simp [hn]
 refine⟨A2,c2,by rw [hl],?_,?_,(hF.alloc _).andThen p2 (fun x hx=> .inr (hR x hx))⟩
 ·rw [hl,boolCells_append];exact p1
 ·rw [hl];exact fun g hg=>(p3 g hg).elim (hR g) (fun e=>by rw [e];exact Nat.le_trans hF.size (by simp))
def BRow (w:World) (l:List Bool) (e:Ending) (w':World):Prop:=∃v,e= .returned v∧BAcc w w' v l
set_option maxRecDepth 100000 in
set_option maxHeartbeats 4000000 in
theorem rbits_t (w:World) (A:Option Addr) (n c:Nat) (l:List UInt8) (hb:Byts w A n l) (hmax:n≤100000):Calls Tryz.prog 301 #[.slice A n c] w (BRow w (bitsB l)):=by
 have hbh:=zh hb;have hnl:=zh hb.length;clear hb;go_enter Tryz.func301,Tryz.ntmps301;go_wp2_with fail
 go_loopg [3,4] (n+1) (fun gk s3 s4 wr=>∃(i:Nat),s4= .int .i64 i∧i≤n∧n - i<gk∧BAcc w wr s3 (bitsB (l.take i)))
 case atStart=>exact⟨0,rfl,by omega,by omega,BAcc.nil w⟩
 case round=>
  obtain⟨i,rfl,hi,hk,hacc⟩:=hrel;have hacch:=zh hacc;clear hacc;by_cases hlt:i<n
  ·have hlt':(i:Int)<n:=by omega
   have hil:i<l.length:=by rw [hnl.o];exact hlt
   have htk:=zh (bitsB_take hil);have hlen:=zh (show(bitsB (l.take i)).length≤800000 by rw [bitsB_length,List.length_take];omega);obtain⟨x,hx⟩:∃z,Hid (l[i]'hil=z):=⟨_,zh rfl⟩
   rw [hx.o]at htk;have hcell:=zh (fun(v:World) (hv:Fr [] w v)=>(Rd.fr hbh.o hv (by simp [Off])).2 (show 0<n by omega));have hlth:=zh hlt;have hbx:=zh (show(l.map bv)[i]? =some (.int .u8 (x.toNat:Int)) by
    rw [List.getElem?_map,List.getElem?_eq_getElem hil,←hx.o];rfl)
   clear hlt;obtain⟨b0,o0,rfl,_⟩:=hcell.o w (Fr.refl _ _);have hcl:=zh (fun(v:World) (hv:Fr [] w v)=>show v.cell? ⟨b0,o0+i,none⟩=some (.int .u8 (x.toNat:Int)) by
    obtain⟨b1,o1,e1,hc⟩:=hcell.o v hv;injection e1 with e1
    injection e1 with e1 e2
    subst e1 e2;exact hc i _ hbx.o)
   go_wp2_with fail
   go_loopg [3,5] 9 (fun gk s3 s5 wr=>∃(j:Nat),s5= .int .i64 ((128 / 2^j:Nat):Int)∧j≤8∧8 - j<gk∧BAcc w wr s3 (bitsB (l.take i)++(bit8 x).take j))
   case atStart=>exact⟨0,rfl,by omega,by omega,by simpa using hacch.o⟩
   case round=>
    obtain⟨j,rfl,hj,hk2,hac⟩:=hrel;obtain⟨B,d,rfl,hO,hfr,hF⟩:=hac;have hx0:=hcl.o _ hF;have hFh:=zh hF;have hfrh:=zh hfr;have hOh:=zh hO;obtain⟨hw0,hw1⟩:=w8_pos hj;have hwn:=w8_next j;obtain⟨ls,hls⟩:∃z,Hid (bitsB (l.take i)++(bit8 x).take j=z):=⟨_,zh rfl⟩
    have hlsn:=zh (show ls.length≤800008 by rw [←hls.o,List.length_append,List.length_take,bit8_length];have:=hlen.o;omega);rw [hls.o]at hO hfr⊢;obtain⟨k,hkl⟩:∃z,Hid (ls.length=z):=⟨_,zh rfl⟩
    rw [hkl.o]at hO hfr⊢;have hOk:=zh hO;have hfrk:=zh hfr;have hk8:k≤800008:=by have:=hlsn.o;have:=hkl.o;omega
    obtain⟨wv,hwv⟩:∃z,Hid (128 / 2^j=z):=⟨_,zh rfl⟩
    rw [hwv.o]at hw0 hw1 hwn⊢;clear hF hO hfr;by_cases hj8:j<8
    ·have hwp:0<(wv:Int):=by have:=hw0.2 hj8;omega
     have hbit:=zh (bit8_at x hj8);have htk2:=zh (show(bit8 x).take (j+1)=(bit8 x).take j++ [(bit8 x)[j]'(by rw [bit8_length];exact hj8)]from List.take_succ_eq_append_getElem _);obtain⟨q,hq⟩:∃z,Hid (x.toNat / wv=z):=⟨_,zh rfl⟩
     have hqd:((x.toNat:Int)).tdiv (wv:Int)=(q:Int):=by rw [←hq.o,Int.tdiv_eq_ediv_of_nonneg (by omega)];exact(Int.natCast_ediv _ _).symm
     obtain⟨r,hr⟩:∃z,Hid (q%2=z):=⟨_,zh rfl⟩
     have hrd:((q:Int)).tmod 2=(r:Int):=by rw [←hr.o,Int.tmod_eq_emod_of_nonneg (by omega)];omega
     obtain⟨bb,hbb⟩:∃z,Hid (((r:Int)==1)=z):=⟨_,zh rfl⟩
     obtain⟨wv2,hwv2⟩:∃z,Hid (128 / 2^(j+1)=z):=⟨_,zh rfl⟩
     rw [hwv2.o]at hwn;have hwd:((wv:Int)).tdiv 2=(wv2:Int):=by rw [←hwn,Int.tdiv_eq_ediv_of_nonneg (by omega)];omega
     have hwv3:wv2≤128:=by omega
     have hbv:=zh (show(bit8 x)[j]'(by rw [bit8_length];exact hj8)=bb by
      rw [hbit.o,hwv.o,hq.o,hr.o,←hbb.o];rw [Bool.eq_iff_iff];simp only [decide_eq_true_eq,beq_iff_eq];omega)
     have hj8h:=zh hj8;have hq256:q≤255:=by have h1:=x.toNat_lt;have h2:=Nat.div_le_self x.toNat wv;have:=hq.o;omega
     clear hw0 hwn;go_wp2_with (refine wpList_own_append tBools (hOk.o.fr ((Fr.refl [] _).alloc _) (by simp)) (bool_new wr _ _) (boolCells_one [_]) (by simp) (by unfold maxLen;omega) (by omega) rfl rfl rfl rfl (fun v2 w2 p1 p2 p3=> ?_);obtain⟨A3,c3,rfl,hA3⟩:=p1.form)
     go_roundg (8 - j)
     case measure=>omega
     case rel=>
      refine⟨j+1,by rw [hwv2.o],by have:=hj8h.o;omega,by have:=hj8h.o;omega,?_⟩;rw [htk2.o,hbv.o,←List.append_assoc,hls.o,←hbb.o];have h:=BAcc.push hkl.o hfrk.o hFh.o p1 p2 p3;refine cast (congrArg (fun z=>BAcc w w2 (.slice A3 (k+1) c3) (ls++ [z])) ?_) h;have hx256:=x.toNat_lt;have v1:wrap64 (x.toNat:Int)=(x.toNat:Int):=by rw [←IntWalk.i64_left,IntKind.wrap_i64];omega
      have v2:wrap64 (q:Int)=(q:Int):=by rw [←IntWalk.i64_left,IntKind.wrap_i64];omega
      rw [v1,hqd,v2,hrd]
    ·obtain rfl:j=8:=by omega
     have hwz:¬0<(wv:Int):=by have:=hw0.1;omega
     have hend:=zh (show ls=bitsB (l.take i)++bit8 x by rw [←hls.o];rfl);clear hw0 hwn hw1;go_wp2_with fail
     go_roundg (n - i)
     case measure=>omega
     case rel=>refine⟨i+1,by go_num,by have:=hlth.o;omega,by have:=hlth.o;omega,?_⟩;rw [htk.o,←hend.o];exact⟨B,d,by rw [hkl.o],by rw [hkl.o];exact hOk.o,by rw [hkl.o];exact hfrk.o,hFh.o⟩
  ·have hge:¬(i:Int)<n:=by omega
   have hin:l.take i=l:=List.take_of_length_le (by rw [hnl.o];omega);have hv:=zh (by have h:=hacch.o;rw [hin]at h;exact h);clear hlt hk;go_wp2_with fail
   go_ret;exact⟨_,rfl,hv.o⟩
end Go.Proofs.YtpmgepijkhaonaaGreat
namespace Go.Sig
open Go.RowKit
def padN (n:Nat):Nat:=(6 - n%6)%6
def pad6 (l:List Bool):List Bool:=l++List.replicate (padN l.length) false
def sgnL (l:List Bool):List UInt8:=(List.range (l.length / 6)).map fun i=>sgnAt (bnum ((l.drop (6*i)).take 6))
def webR (b:List UInt8):List UInt8:=sgnL (pad6 (bitsB b))
theorem pad6_length (l:List Bool):(pad6 l).length=l.length+padN l.length:=by unfold pad6;rw [List.length_append,List.length_replicate]
theorem pad6_six (l:List Bool):(pad6 l).length%6=0:=by
 rw [pad6_length];unfold padN;omega
theorem sgnL_length (l:List Bool):(sgnL l).length=l.length / 6:=by unfold sgnL;rw [List.length_map,List.length_range]
theorem sgnL_take {l:List Bool}{k:Nat}(hk:k<l.length / 6):(sgnL l).take (k+1)=(sgnL l).take k++ [sgnAt (bnum ((l.drop (6*k)).take 6))]:=by
 rw [List.take_succ_eq_append_getElem (by rw [sgnL_length];exact hk)];congr 1;unfold sgnL;rw [List.getElem_map,List.getElem_range]
theorem bnum_six {l:List Bool}(h:l.length=6):bnum l<64:=by
 have:=bnum_lt (l:=l) (i:=6) (by omega);rwa [List.take_of_length_le (by omega)]at this
end Go.Sig
namespace Go.Proofs.YtpmgepijkhaonaaGreat
open Go.RowKit Go.Sig
theorem Rd.mid {w:World}{b o n j m:Nat}{l:List Bool}(h:Rd w 1 (some ⟨b,o,none⟩) n (boolCells l)) (hn:l.length=n) (hj:j+m≤n):Rd w 1 (some ⟨b,o+j,none⟩) m (boolCells ((l.drop j).take m)):=by
 refine⟨by rw [boolCells_length,List.length_take,List.length_drop];omega,fun h0=> ?_⟩;obtain⟨b',o',e,hc⟩:=h.2 (by omega);injection e with e
 injection e with e1 e2
 subst e1 e2;refine⟨b,o+j,rfl,fun i u hu=> ?_⟩;rw [Nat.add_assoc];refine hc (j+i) u ?_;unfold boolCells at hu⊢;rw [List.getElem?_map,List.getElem?_take]at hu;split at hu
 ·rw [List.getElem?_drop]at hu;rw [List.getElem?_map];exact hu
 ·cases hu
set_option maxRecDepth 100000 in
set_option maxHeartbeats 4000000 in
theorem rsixes_t (w:World) (A:Option Addr) (n c:Nat) (l:List UInt8) (hb:Byts w A n l) (hmax:n≤100000):Calls Tryz.prog 285 #[.slice A n c,.bool true] w fun e w'=>e= .returned (.string ⟨(webR l).toArray⟩)∧Fr [] w w':=by
 have hbits:=rbits_t w A n c l hb hmax;have hbl:(bitsB l).length=n*8:=by rw [bitsB_length,hb.length]
 unfold webR;obtain⟨L,hL⟩:∃z,Hid (bitsB l=z):=⟨_,zh rfl⟩
 rw [hL.o]at hbits hbl⊢;have hLl:=zh (show L.length≤800000 by omega);clear hb hbl;go_enter Tryz.func285,Tryz.ntmps285;go_wp2_with fail
 refine hbits.mono ?_;rintro e W1 ⟨v,rfl,hacc⟩;have hacch:=zh hacc;clear hbits hacc;go_upto_block 0 with(fail)
 go_cut [5]from 10 to 16 (fun s5 wx=>BAcc w wx s5 (pad6 L))
 case first=>
  go_wp2_with fail
  go_loopg [5] 7 (fun gk s5 wr=>∃(j:Nat),j≤padN L.length∧padN L.length - j<gk∧BAcc w wr s5 (L++List.replicate j false))
  case atStart=>exact⟨0,by omega,by unfold padN;omega,by simpa using hacch.o⟩
  case round=>
   obtain⟨j,hj,hk2,hac⟩:=hrel;obtain⟨B,d,rfl,hO,hfr,hF⟩:=hac;have hFh:=zh hF;have hpn:padN L.length=(6 - L.length%6)%6:=rfl;obtain⟨ls,hls⟩:∃z,Hid (L++List.replicate j false=z):=⟨_,zh rfl⟩
   have hlsn:ls.length=L.length+j:=by rw [←hls.o,List.length_append,List.length_replicate]
   rw [hls.o]at hO hfr⊢;obtain⟨k,hkl⟩:∃z,Hid (ls.length=z):=⟨_,zh rfl⟩
   rw [hkl.o]at hO hfr hlsn⊢;have hOk:=zh hO;have hfrk:=zh hfr;have hk8:k≤800008:=by have:=hLl.o;omega
   obtain⟨r,hr⟩:∃z,Hid (k%6=z):=⟨_,zh rfl⟩
   have hrd:((k:Int)).tmod 6=(r:Int):=by rw [←hr.o,Int.tmod_eq_emod_of_nonneg (by omega)];omega
   clear hF hO hfr;by_cases hjp:j<padN L.length
   ·have hr0:((r:Int) !=0)=true:=by rw [bne_iff_ne];have:=hr.o;omega
    have hjph:=zh hjp;have hrep:=zh (show L++List.replicate (j+1) false=ls++ [false] by rw [←hls.o,List.replicate_succ',List.append_assoc]);clear hpn hlsn hjp;go_wp2_with (refine wpList_own_append tBools (hOk.o.fr ((Fr.refl [] _).alloc _) (by simp)) (bool_new wr false _) (boolCells_one [false]) (by simp) (by unfold maxLen;omega) (by omega) rfl rfl rfl rfl (fun v2 w2 p1 p2 p3=> ?_);obtain⟨A3,c3,rfl,hA3⟩:=p1.form)
    go_roundg (padN L.length - j)
    case measure=>have:=hjph.o;omega
    case rel=>refine⟨j+1,by have:=hjph.o;omega,by have:=hjph.o;omega,?_⟩;rw [hrep.o];exact BAcc.push hkl.o hfrk.o hFh.o p1 p2 p3
   ·have hr0:((r:Int) !=0)=false:=by rw [bne_eq_false_iff_eq];have:=hr.o;omega
    have hend:=zh (show ls=pad6 L by rw [←hls.o,show j=padN L.length by omega];rfl);clear hpn hlsn hjp;go_wp2_with fail
    go_meet;case rel=>rw [←hend.o];exact⟨B,d,by rw [hkl.o],by rw [hkl.o];exact hOk.o,by rw [hkl.o];exact hfrk.o,hFh.o⟩
 case rest=>
  obtain⟨B,d,rfl,hO,hfr,hF⟩:=hcut;have hFh:=zh hF;have hOh:=zh hO;have h6:=pad6_six L;have hpl:=pad6_length L;obtain⟨P,hP⟩:∃z,Hid (pad6 L=z):=⟨_,zh rfl⟩
  rw [hP.o]at hO h6 hpl⊢;obtain⟨m,hm⟩:∃z,Hid (P.length / 6=z):=⟨_,zh rfl⟩
  have hP6:=zh (show P.length=6*m by have:=hm.o;omega);obtain⟨k6,hk6⟩:∃z,Hid (P.length=z):=⟨_,zh rfl⟩
  have hk6m:=zh (show k6=6*m by have:=hP6.o;have:=hk6.o;omega);rw [hk6.o]at hO⊢;have hOk:=zh hO;have hk68:k6≤800008:=by have:=hLl.o;have:=hk6.o;unfold padN at hpl;omega
  obtain⟨W2,hW2⟩:∃W2:World,W2=wc:=⟨_,rfl⟩
  subst hW2;clear hO hfr hF h6 hpl;go_wp2_with fail
  go_loopg [6,7] (m+1) (fun gk s6 s7 wr=>∃(k:Nat),s7= .int .i64 ((6*k:Nat):Int)∧k≤m∧m - k<gk∧BIn W2 wr s6 ((sgnL P).take k)∧(k=0→s6= .slice none 0 0))
  case atStart=>exact⟨0,rfl,by omega,by omega,BIn.nil W2,fun _=>rfl⟩
  case round=>
   obtain⟨k,rfl,hk,hk2,hbin,hnil⟩:=hrel;obtain⟨C,e,rfl,hQ,hqr,hqF⟩:=hbin;have hqFh:=zh hqF;have hnilh:=zh hnil;have hqlen:((sgnL P).take k).length=k:=by rw [List.length_take,sgnL_length,hm.o];omega
   obtain⟨i6,hi6⟩:∃z,Hid (6*k=z):=⟨_,zh rfl⟩
   rw [hi6.o];obtain⟨out,hout⟩:∃z,Hid ((sgnL P).take k=z):=⟨_,zh rfl⟩
   rw [hout.o]at hQ hqr hqlen⊢;rw [hqlen]at hQ hqr⊢;have hqlh:=zh hqlen;have hQh:=zh hQ;have hqrh:=zh hqr;have hi68:i6≤800008:=by have:=hi6.o;have:=hk6m.o;omega
   have hkk:k≤800008:=by have:=hi6.o;omega
   clear hqF hnil hQ hqr hqlen;by_cases hlt:k<m
   ·have hi66:i6+6≤k6:=by have:=hi6.o;have:=hk6m.o;omega
    have hi6k:(i6:Int)<k6:=by omega
    have hlth:=zh hlt;have htk:=zh (sgnL_take (l:=P) (k:=k) (by rw [hm.o];exact hlt));rcases Own.form2 hOk.o with⟨rfl,rfl,rfl⟩ | ⟨g,rfl,hkd,_⟩
    ·exfalso;omega
    ·have hi6d:i6+6≤d:=by omega
     have hnd:¬i6=d:=by omega
     have hrd:=zh (show Rd wr 1 (some ⟨g,i6,none⟩) 6 (boolCells ((P.drop (6*k)).take 6)) by
      have h:=Rd.mid (Own.rd (hOk.o.fr hqFh.o (by simp))) hk6.o hi66;rw [hi6.o];rwa [Nat.zero_add]at h)
     obtain⟨ch,hch⟩:∃z,Hid ((P.drop (6*k)).take 6=z):=⟨_,zh rfl⟩
     rw [hch.o]at htk hrd;have hch6:ch.length=6:=by have:=hrd.o.1;rw [boolCells_length]at this;omega
     have hnum:=rnum_t wr (some ⟨g,i6,none⟩) 6 (d - i6) ch hrd.o hch6 (by omega);have hsg:=rsign64_t wr (bnum ch) (bnum_six hch6);have hb64:=bnum_six hch6;obtain⟨nb,hnb⟩:∃z,Hid (bnum ch=z):=⟨_,zh rfl⟩
     rw [hnb.o]at hnum hsg htk hb64;clear hlt hch6;go_wp2_with (first
      | (go_at_call 284;refine Calls.mono (show Calls Tryz.prog 284 _ _ _ from hnum) ?_;rintro e W3 ⟨rfl,rfl⟩)
      | (go_at_call 283;refine Calls.mono (show Calls Tryz.prog 283 _ _ _ from hsg) ?_;rintro e W4 ⟨rfl,rfl⟩)
      | (refine wpList_own_append tB1 (hQh.o.fr ((Fr.refl [] _).alloc _) (by simp)) (byte_new _ _ (sgnAt nb) _ rfl) (fun u hu=>by simp at hu;rw [hu];rfl) (by simp) (by unfold maxLen;omega) (by omega) rfl rfl rfl rfl (fun v2 w2 p1 p2 p3=> ?_);obtain⟨A3,c3,rfl,hA3⟩:=p1.form))
     go_roundg (m - k)
     case measure=>have:=hlth.o;omega
     case rel=>refine⟨k+1,by rw [show 6*(k+1)=i6+6 by have:=hi6.o;omega];go_num,by have:=hlth.o;omega,by have:=hlth.o;omega,?_,fun h=>absurd h (by omega)⟩;rw [htk.o,hout.o];exact BIn.push hqlh.o hqrh.o hqFh.o p1 p2 p3
   ·have hge:¬(i6:Int)<k6:=by have:=hi6.o;have:=hk6m.o;omega
    have hfull:=zh (show out=sgnL P by rw [←hout.o,List.take_of_length_le (by rw [sgnL_length,hm.o];omega)]);have hFF:=zh (hFh.o.trans hqFh.o);by_cases hk0:k=0
    ·have hcn:=hnilh.o hk0;injection hcn with h1 h2 h3
     subst hk0 h1 h3;clear h2;have hnl:out= []:=List.eq_nil_of_length_eq_zero hqlh.o;have hres:=zh (show(ByteArray.mk (sgnL (pad6 L)).toArray)=⟨#[]⟩ by rw [hP.o,←hfull.o,hnl]);have hcv:(convert 42 9 (.slice none 0 0)).run Tryz.prog wr= .ok (.string ⟨#[]⟩) wr:=by kernel_rfl
     clear hlt hk2 hnl;go_wp2_with fail
     go_ret;exact⟨congrArg (fun z=>Ending.returned (Value.string z)) hres.o.symm,hFF.o⟩
    ·have hkp:0<k:=by omega
     obtain⟨bq,oq,rfl,hcell⟩:=hQh.o.rd.2 hkp;have hcv:=run_convert_bytes_back (P:=Tryz.prog) wr 42 9 5 ⟨bq,oq,none⟩ e out tBytes (by kernel_rfl) tStr (fun j hj=>by
      rw [Addr.add_lit];exact hcell j _ (by rw [List.getElem?_map,List.getElem?_eq_getElem hj];rfl))
     rw [hqlh.o]at hcv;have hres:=zh (show(ByteArray.mk (sgnL (pad6 L)).toArray)=⟨out.toArray⟩ by rw [hP.o,←hfull.o]);clear hcell hlt hk2 hk0;go_wp2_with fail
     go_ret;exact⟨congrArg (fun z=>Ending.returned (Value.string z)) hres.o.symm,hFF.o⟩
theorem rweb_t (w:World) (A:Option Addr) (n c:Nat) (l:List UInt8) (hb:Byts w A n l) (hmax:n≤100000):Calls Tryz.prog 250 #[.slice A n c] w fun e w'=>e= .returned (.string ⟨(webR l).toArray⟩)∧Fr [] w w':=by
 have hs:=rsixes_t w A n c l hb hmax;go_enter Tryz.func250,Tryz.ntmps250;go_wp2_with (go_at_call 285;refine hs.mono ?_;rintro e w' ⟨rfl,F1⟩)
 go_ret;exact⟨rfl,F1⟩
end Go.Proofs.YtpmgepijkhaonaaGreat
namespace Go.Sig
open Go.RowKit
def wrec (c:UInt8):Nat→Nat
 | 0=>0
 |n+1=>if sgnAt n=c then n else wrec c n
def worthR (c:UInt8):Nat:=wrec c 64
theorem wrec_lt (c:UInt8):∀n,wrec c n<n+1
 | 0=>by simp [wrec]
 |n+1=>by have:=wrec_lt c n;unfold wrec;split<;>omega
theorem worthR_lt (c:UInt8):worthR c<64:=by
 have h:∀n,0<n→wrec c n<n:=by
  intro n hn;induction n with
  |zero=>omega
  |succ n ih=>
   unfold wrec;split
   ·omega
   ·rcases Nat.eq_zero_or_pos n with rfl |h0
    ·simp [wrec]
    ·have:=ih h0;omega
 exact h 64 (by omega)
def bit6 (v:Nat):List Bool:= [32,16,8,4,2,1].map fun w=>decide (v / w%2=1)
def bitsS (l:List UInt8):List Bool:=l.flatMap fun c=>bit6 (worthR c)
theorem bit6_length (v:Nat):(bit6 v).length=6:=rfl
theorem bit6_at (v:Nat) {j:Nat}(h:j<6):(bit6 v)[j]'(by rw [bit6_length];exact h)=decide (v / (32 / 2^j)%2=1):=by
 match j,h with
 | 0,_=>rfl
 | 1,_=>rfl
 | 2,_=>rfl
 | 3,_=>rfl
 | 4,_=>rfl
 | 5,_=>rfl
theorem w6_pos {j:Nat}(h:j≤6):(0<32 / 2^j↔j<6)∧32 / 2^j≤32:=by
 match j,h with
 | 0,_=>decide
 | 1,_=>decide
 | 2,_=>decide
 | 3,_=>decide
 | 4,_=>decide
 | 5,_=>decide
 | 6,_=>decide
theorem w6_next (j:Nat):32 / 2^j / 2=32 / 2^(j+1):=by rw [Nat.div_div_eq_div_mul,Nat.pow_succ]
theorem bitsS_take {l:List UInt8}{i:Nat}(hi:i<l.length):bitsS (l.take (i+1))=bitsS (l.take i)++bit6 (worthR l[i]):=by
 unfold bitsS;rw [List.take_succ_eq_append_getElem hi,List.flatMap_append];simp
theorem bitsS_length (l:List UInt8):(bitsS l).length=l.length*6:=by
 unfold bitsS;induction l with
 |nil=>rfl
 |cons x l ih=>rw [List.flatMap_cons,List.length_append,ih,bit6_length,List.length_cons];omega
def bytL (l:List Bool):List UInt8:=(List.range (l.length / 8)).map fun i=>UInt8.ofNat (bnum ((l.drop (8*i)).take 8))
def unsixR (s:List UInt8):List UInt8:=bytL (bitsS s)
theorem bytL_length (l:List Bool):(bytL l).length=l.length / 8:=by unfold bytL;rw [List.length_map,List.length_range]
theorem bytL_take {l:List Bool}{k:Nat}(hk:k<l.length / 8):(bytL l).take (k+1)=(bytL l).take k++ [UInt8.ofNat (bnum ((l.drop (8*k)).take 8))]:=by
 rw [List.take_succ_eq_append_getElem (by rw [bytL_length];exact hk)];congr 1;unfold bytL;rw [List.getElem_map,List.getElem_range]
theorem bnum_eight {l:List Bool}(h:l.length=8):bnum l<256:=by
 have:=bnum_lt (l:=l) (i:=8) (by omega);rwa [List.take_of_length_le (by omega)]at this
end Go.Sig
namespace Go.Proofs.YtpmgepijkhaonaaGreat
open Go.RowKit Go.Sig
set_option maxRecDepth 100000 in
set_option maxHeartbeats 8000000 in
theorem runsix_t (w:World) (s:ByteArray) (hs:s.size≤100000):Calls Tryz.prog 249 #[.string s,.bool true] w fun e w'=>∃v,e= .returned v∧BIn w w' v (unsixR s.data.toList):=by
 have hdl:s.data.toList.length=s.size:=Array.length_toList;obtain⟨l,hl⟩:∃z,Hid (s.data.toList=z):=⟨_,zh rfl⟩
 unfold unsixR;rw [hl.o]at hdl⊢;have hdlh:=zh hdl;have hat:=zh (fun(i:Nat) (h:i<s.size) (h2:i<l.length)=>show s[i]=l[i] by
  have h1:s.data.toList[i]'(by rw [Array.length_toList];exact h)=s[i]:=by rw [Array.getElem_toList];rfl
  rw [←h1];simp only [hl.o])
 clear hdl;go_enter Tryz.func249,Tryz.ntmps249;go_upto_block 0 with(fail)
 go_cut [5]from 12 to 41 (fun s5 wx=>BAcc w wx s5 (bitsS l))
 case first=>
  go_wp2_with fail
  go_loopg [5,6] (s.size+1) (fun gk s5 s6 wr=>∃(i:Nat),s6= .int .i64 i∧i≤s.size∧s.size - i<gk∧BAcc w wr s5 (bitsS (l.take i)))
  case atStart=>exact⟨0,rfl,by omega,by omega,BAcc.nil w⟩
  case round=>
   obtain⟨i,rfl,hi,hk,hacc⟩:=hrel;have hacch:=zh hacc;clear hacc;by_cases hlt:i<s.size
   ·have hlt':(i:Int)<s.size:=by omega
    have hil:i<l.length:=by rw [hdlh.o];exact hlt
    have htk:=zh (bitsS_take hil);have hlen:=zh (show(bitsS (l.take i)).length≤600000 by rw [bitsS_length,List.length_take];omega);have hati:=hat.o i hlt hil;obtain⟨x,hx⟩:∃z,Hid (l[i]'hil=z):=⟨_,zh rfl⟩
    rw [hx.o]at htk hati;have hatih:=zh hati;have hlth:=zh hlt;go_upto_block 2 with(fail)
    go_cut [7]from 18 to 29 (fun s7 wx=>s7= .int .i64 (worthR x:Nat)∧Fr [] wr wx)
    case first=>
     have hwr0:Fr [] wr wr:=Fr.refl _ _;obtain⟨wz,hwz⟩:∃z:World,Hid (wr=z):=⟨_,zh rfl⟩
     go_wp2_with fail
     go_loopg [7,8] 65 (fun gk s7 s8 wr2=>∃(n:Nat),s8= .int .i64 n∧s7= .int .i64 (wrec x n:Nat)∧n≤64∧64 - n<gk∧Fr [] wz wr2)
     case atStart=>exact⟨0,rfl,rfl,by omega,by omega,by rw [hwz.o];exact Fr.refl _ _⟩
     case round=>
      obtain⟨n,rfl,rfl,hn,hk2,hF2⟩:=hrel;have hF2h:=zh hF2;clear hF2;by_cases hn6:n<64
      ·have hn6':(n:Int)<64:=by omega
       have hn6h:=zh hn6;have hsg:=fun(v:World)=>rsign64_t v n hn6;obtain⟨y,hy⟩:∃z,Hid (sgnAt n=z):=⟨_,zh rfl⟩
       rw [hy.o]at hsg;have hwl:=wrec_lt x n;obtain⟨wv,hwv⟩:∃z,Hid (wrec x n=z):=⟨_,zh rfl⟩
       rw [hwv.o]at hwl⊢;clear hn6;by_cases hyx:y=x
       ·have hb:((y.toNat:Int)==(x.toNat:Int))=true:=by rw [hyx];exact beq_self_eq_true _
        have hst:=zh (show wrec x (n+1)=n by unfold wrec;rw [if_pos (by rw [hy.o];exact hyx)]);clear hyx;go_upto_region 9 with(fail)
        go_quiet ((go_at_call 283;exact quiet_left (hsg _)))
        go_wp2_with fail
        go_roundg (64 - n)
        case measure=>have:=hn6h.o;omega
        case rel=>exact⟨n+1,by go_num,by rw [hst.o],by have:=hn6h.o;omega,by have:=hn6h.o;omega,hF2h.o.drewN _⟩
       ·have hb:((y.toNat:Int)==(x.toNat:Int))=false:=by rw [beq_eq_false_iff_ne];intro h;exact hyx (UInt8.toNat_inj.1 (by omega))
        have hst:=zh (show wrec x (n+1)=wv by unfold wrec;rw [if_neg (by rw [hy.o];exact hyx),hwv.o]);clear hyx;go_upto_region 9 with(fail)
        go_quiet ((go_at_call 283;exact quiet_left (hsg _)))
        go_wp2_with fail
        go_roundg (64 - n)
        case measure=>have:=hn6h.o;omega
        case rel=>exact⟨n+1,by go_num,by rw [hst.o],by have:=hn6h.o;omega,by have:=hn6h.o;omega,hF2h.o.drewN _⟩
      ·obtain rfl:n=64:=by omega
       go_wp2_with fail
       go_meet;case rel=>exact⟨rfl,by rw [hwz.o];exact hF2h.o⟩
    case rest=>
     obtain⟨rfl,hFc⟩:=hcut;have hacc2:=zh (show BAcc w wc _ (bitsS (l.take i))from(by
      obtain⟨B,d,e1,e2,e3,e4⟩:=hacch.o;exact⟨B,d,e1,e2.fr hFc (by simp),e3,e4.trans hFc⟩))
     have hv64:=worthR_lt x;obtain⟨xv,hxv⟩:∃z,Hid (worthR x=z):=⟨_,zh rfl⟩
     rw [hxv.o]at hv64 htk⊢;clear hFc;go_wp2_with fail
     go_loopg [5,9] 7 (fun gk s5 s9 wr=>∃(j:Nat),s9= .int .i64 ((32 / 2^j:Nat):Int)∧j≤6∧6 - j<gk∧BAcc w wr s5 (bitsS (l.take i)++(bit6 xv).take j))
     case atStart=>exact⟨0,rfl,by omega,by omega,by simpa using hacc2.o⟩
     case round=>
      obtain⟨j,rfl,hj,hk2,hac⟩:=hrel;obtain⟨B,d,rfl,hO,hfr,hF⟩:=hac;have hFh:=zh hF;have hfrh:=zh hfr;have hOh:=zh hO;obtain⟨hw0,hw1⟩:=w6_pos hj;have hwn:=w6_next j;obtain⟨ls,hls⟩:∃z,Hid (bitsS (l.take i)++(bit6 xv).take j=z):=⟨_,zh rfl⟩
      have hlsn:=zh (show ls.length≤600008 by rw [←hls.o,List.length_append,List.length_take,bit6_length];have:=hlen.o;omega);rw [hls.o]at hO hfr⊢;obtain⟨k,hkl⟩:∃z,Hid (ls.length=z):=⟨_,zh rfl⟩
      rw [hkl.o]at hO hfr⊢;have hOk:=zh hO;have hfrk:=zh hfr;have hk8:k≤600008:=by have:=hlsn.o;have:=hkl.o;omega
      obtain⟨wv,hwv⟩:∃z,Hid (32 / 2^j=z):=⟨_,zh rfl⟩
      rw [hwv.o]at hw0 hw1 hwn⊢;clear hF hO hfr;by_cases hj8:j<6
      ·have hwp:0<(wv:Int):=by have:=hw0.2 hj8;omega
       have hbit:=zh (bit6_at xv hj8);have htk2:=zh (show(bit6 xv).take (j+1)=(bit6 xv).take j++ [(bit6 xv)[j]'(by rw [bit6_length];exact hj8)]from List.take_succ_eq_append_getElem _);obtain⟨q,hq⟩:∃z,Hid (xv / wv=z):=⟨_,zh rfl⟩
       have hqd:((xv:Int)).tdiv (wv:Int)=(q:Int):=by rw [←hq.o,Int.tdiv_eq_ediv_of_nonneg (by omega)];exact(Int.natCast_ediv _ _).symm
       obtain⟨r,hr⟩:∃z,Hid (q%2=z):=⟨_,zh rfl⟩
       have hrd:((q:Int)).tmod 2=(r:Int):=by rw [←hr.o,Int.tmod_eq_emod_of_nonneg (by omega)];omega
       obtain⟨bb,hbb⟩:∃z,Hid (((r:Int)==1)=z):=⟨_,zh rfl⟩
       obtain⟨wv2,hwv2⟩:∃z,Hid (32 / 2^(j+1)=z):=⟨_,zh rfl⟩
       rw [hwv2.o]at hwn;have hwd:((wv:Int)).tdiv 2=(wv2:Int):=by rw [←hwn,Int.tdiv_eq_ediv_of_nonneg (by omega)];omega
       have hwv3:wv2≤128:=by omega
       have hbv:=zh (show(bit6 xv)[j]'(by rw [bit6_length];exact hj8)=bb by
        rw [hbit.o,hwv.o,hq.o,hr.o,←hbb.o];rw [Bool.eq_iff_iff];simp only [decide_eq_true_eq,beq_iff_eq];omega)
       have hj8h:=zh hj8;have hq256:q≤63:=by have h2:=Nat.div_le_self xv wv;have:=hq.o;omega
       clear hw0 hwn;go_wp2_with (refine wpList_own_append tBools (hOk.o.fr ((Fr.refl [] _).alloc _) (by simp)) (bool_new wr _ _) (boolCells_one [_]) (by simp) (by unfold maxLen;omega) (by omega) rfl rfl rfl rfl (fun v2 w2 p1 p2 p3=> ?_);obtain⟨A3,c3,rfl,hA3⟩:=p1.form)
       go_roundg (6 - j)
       case measure=>omega
       case rel=>
        refine⟨j+1,by rw [hwv2.o],by have:=hj8h.o;omega,by have:=hj8h.o;omega,?_⟩;rw [htk2.o,hbv.o,←List.append_assoc,hls.o,←hbb.o];have h:=BAcc.push hkl.o hfrk.o hFh.o p1 p2 p3;refine cast (congrArg (fun z=>BAcc w w2 (.slice A3 (k+1) c3) (ls++ [z])) ?_) h;have v2:wrap64 (q:Int)=(q:Int):=by rw [←IntWalk.i64_left,IntKind.wrap_i64];omega
        first
         |rfl
         |rw [hqd,v2,hrd]
      ·obtain rfl:j=6:=by omega
       have hwz:¬0<(wv:Int):=by have:=hw0.1;omega
       have hend:=zh (show ls=bitsS (l.take i)++bit6 xv by rw [←hls.o];rfl);clear hw0 hwn hw1;go_wp2_with fail
       go_roundg (s.size - i)
       case measure=>have:=hlth.o;omega
       case rel=>refine⟨i+1,by go_num,by have:=hlth.o;omega,by have:=hlth.o;omega,?_⟩;rw [htk.o,←hend.o];exact⟨B,d,by rw [hkl.o],by rw [hkl.o];exact hOk.o,by rw [hkl.o];exact hfrk.o,hFh.o⟩
   ·have hge:¬(i:Int)<s.size:=by omega
    have hin:l.take i=l:=List.take_of_length_le (by rw [hdlh.o];omega);have hv:=zh (by have h:=hacch.o;rw [hin]at h;exact h);clear hlt hk hin;go_wp2_with fail
    go_meet;case rel=>exact hv.o
 case rest=>
  obtain⟨B,d,rfl,hO,hfr,hF⟩:=hcut;have hFh:=zh hF;have hPl:(bitsS l).length≤600000:=by rw [bitsS_length,hdlh.o];omega
  obtain⟨P,hP⟩:∃z,Hid (bitsS l=z):=⟨_,zh rfl⟩
  rw [hP.o]at hO hPl⊢;obtain⟨m,hm⟩:∃z,Hid (P.length / 8=z):=⟨_,zh rfl⟩
  obtain⟨k6,hk6⟩:∃z,Hid (P.length=z):=⟨_,zh rfl⟩
  have hk6m:=zh (show k6 / 8=m by rw [←hk6.o];exact hm.o);rw [hk6.o]at hO hPl⊢;have hOk:=zh hO;obtain⟨W2,hW2⟩:∃W2:World,W2=wc:=⟨_,rfl⟩
  subst hW2;clear hO hfr hF;go_wp2_with fail
  go_loopg [10,11] (m+1) (fun gk s10 s11 wr=>∃(k:Nat),s11= .int .i64 ((8*k:Nat):Int)∧k≤m∧m - k<gk∧BIn W2 wr s10 ((bytL P).take k))
  case atStart=>exact⟨0,rfl,by omega,by omega,BIn.nil W2⟩
  case round=>
   obtain⟨k,rfl,hk,hk2,hbin⟩:=hrel;obtain⟨C,e,rfl,hQ,hqr,hqF⟩:=hbin;have hqFh:=zh hqF;have hqlen:((bytL P).take k).length=k:=by rw [List.length_take,bytL_length,hm.o];omega
   obtain⟨i6,hi6⟩:∃z,Hid (8*k=z):=⟨_,zh rfl⟩
   rw [hi6.o];obtain⟨out,hout⟩:∃z,Hid ((bytL P).take k=z):=⟨_,zh rfl⟩
   rw [hout.o]at hQ hqr hqlen⊢;rw [hqlen]at hQ hqr⊢;have hqlh:=zh hqlen;have hQh:=zh hQ;have hqrh:=zh hqr;have hi68:i6≤600008:=by have:=hi6.o;have:=hk6m.o;omega
   have hkk:k≤600008:=by have:=hi6.o;omega
   clear hqF hQ hqr hqlen;by_cases hlt:k<m
   ·have hi66:i6+8≤k6:=by have:=hi6.o;have:=hk6m.o;omega
    have hi6k:(i6:Int)+8≤k6:=by omega
    have hlth:=zh hlt;have htk:=zh (bytL_take (l:=P) (k:=k) (by rw [hm.o];exact hlt));rcases Own.form2 hOk.o with⟨rfl,rfl,rfl⟩ | ⟨g,rfl,hkd,_⟩
    ·exfalso;omega
    ·have hi6d:i6+8≤d:=by omega
     have hnd:¬i6=d:=by omega
     have hrd:=zh (show Rd wr 1 (some ⟨g,i6,none⟩) 8 (boolCells ((P.drop (8*k)).take 8)) by
      have h:=Rd.mid (Own.rd (hOk.o.fr hqFh.o (by simp))) hk6.o hi66;rw [hi6.o];rwa [Nat.zero_add]at h)
     obtain⟨ch,hch⟩:∃z,Hid ((P.drop (8*k)).take 8=z):=⟨_,zh rfl⟩
     rw [hch.o]at htk hrd;have hch6:ch.length=8:=by have:=hrd.o.1;rw [boolCells_length]at this;omega
     have hnum:=rnum_t wr (some ⟨g,i6,none⟩) 8 (d - i6) ch hrd.o hch6 (by omega);have hb64:=bnum_eight hch6;obtain⟨nb,hnb⟩:∃z,Hid (bnum ch=z):=⟨_,zh rfl⟩
     rw [hnb.o]at hnum htk hb64;have hwu:IntKind.u8.wrap (nb:Int)=(nb:Int):=by rw [IntKind.wrap_u8];omega
     have hun:(nb:Int)=((UInt8.ofNat nb).toNat:Int):=by rw [UInt8.toNat_ofNat'];omega
     have hunh:=zh hun;clear hlt hch6 hun;go_wp2_with (first
      | (go_at_call 284;refine Calls.mono (show Calls Tryz.prog 284 _ _ _ from hnum) ?_;rintro e W3 ⟨rfl,rfl⟩)
      | (refine wpList_own_append tB1 (hQh.o.fr ((Fr.refl [] _).alloc _) (by simp)) (byte_new _ _ (UInt8.ofNat nb) _ hunh.o) (fun u hu=>by simp at hu;rw [hu];rfl) (by simp) (by unfold maxLen;omega) (by omega) rfl rfl rfl rfl (fun v2 w2 p1 p2 p3=> ?_);obtain⟨A3,c3,rfl,hA3⟩:=p1.form))
     go_roundg (m - k)
     case measure=>have:=hlth.o;omega
     case rel=>refine⟨k+1,by rw [show 8*(k+1)=i6+8 by have:=hi6.o;omega];go_num,by have:=hlth.o;omega,by have:=hlth.o;omega,?_⟩;rw [htk.o,hout.o];exact BIn.push hqlh.o hqrh.o hqFh.o p1 p2 p3
   ·have hge:¬(i6:Int)+8≤k6:=by have:=hi6.o;have:=hk6m.o;omega
    have hfull:=zh (show out=bytL P by rw [←hout.o,List.take_of_length_le (by rw [bytL_length,hm.o];omega)]);clear hlt hk2;go_wp2_with fail
    go_ret;refine⟨.slice C k e,rfl,?_⟩;rw [hP.o,←hfull.o];exact⟨C,e,by rw [hqlh.o],by rw [hqlh.o];exact hQh.o,by rw [hqlh.o];exact fun g hg=>Nat.le_trans hFh.o.size (hqrh.o g hg),hFh.o.trans hqFh.o⟩
end Go.Proofs.YtpmgepijkhaonaaGreat
