/- Walks: what stands next in a record is read by the document as one of a kind. Conditions: each theorem's own. -/
import Derived.Test.YtpmgepijkhaonaaGreatOa
import Derived.ArgAppend
namespace Go.Proofs.YtpmgepijkhaonaaGreat
open Go.RowKit Go.Sig
theorem shift_odd (c:UInt32) (h:c.toNat%2=1):bits .xor .u32 ((c.toNat:Int) / 2) 2197175160=((shiftU c).toNat:Int):=by
 have k:=w_xor (c>>>1) 2197175160;rw [shr_toNat]at k;have h1:c&&&1=1:=by apply UInt32.toNat_inj.1;rw [UInt32.toNat_and];show c.toNat&&&1=1;rw [Nat.and_one_is_mod,h]
 have es:shiftU c=(c>>>1)^^^2197175160:=by unfold shiftU;rw [h1,if_pos rfl]
 rw [es,show(c.toNat:Int) / 2=((c.toNat / 2:Nat):Int) by omega];exact k
theorem rshift_t (c:UInt32) (w:World):Calls Tryz.prog 207 #[.int .u32 c.toNat] w fun e w'=>e= .returned (.int .u32 (shiftU c).toNat)∧w=w':=by
 have hx:=c.toNat_lt;by_cases hm:c.toNat%2=0
 ·have hv:=zh (show(shiftU c).toNat=c.toNat / 2 by rw [shiftU_even hm,shr_toNat]);obtain⟨R,HR⟩:∃X,Hid ((shiftU c).toNat=X):=⟨_,zh rfl⟩
  obtain⟨X,HX⟩:∃X,Hid (c.toNat=X):=⟨_,zh rfl⟩
  rw [HR.o]at hv⊢;rw [HX.o]at hx hm hv⊢;have hmi:(X:Int)%2=0:=by omega
  have hmt:((X:Int)%2==1)=false:=by rw [hmi];rfl
  clear hm hmi;go_enter Tryz.func207,Tryz.ntmps207;go_wp2_with fail
  go_ret;exact⟨ret_word (by rw [hv.o];omega),rfl⟩
 ·have hm1:c.toNat%2=1:=by omega
  have hv:=shift_odd c hm1;obtain⟨R,HR⟩:∃X,Hid ((shiftU c).toNat=X):=⟨_,zh rfl⟩
  obtain⟨X,HX⟩:∃X,Hid (c.toNat=X):=⟨_,zh rfl⟩
  rw [HR.o]at hv⊢;rw [HX.o]at hx hm1 hv⊢;have hmi:(X:Int)%2=1:=by omega
  have hmt:((X:Int)%2==1)=true:=by rw [hmi];rfl
  clear hm hm1 hmi;go_enter Tryz.func207,Tryz.ntmps207;go_wp2_with fail
  go_ret;exact⟨rfl,rfl⟩
def shiftN:Nat→UInt32→UInt32
 | 0,c=>c
 |k+1,c=>shiftU (shiftN k c)
theorem shiftN_8 (c:UInt32):shiftN 8 c=crcHalf (crcHalf c):=by
 show shiftU (shiftU (shiftU (shiftU (shiftU (shiftU (shiftU (shiftU c)))))))=_;rw [shift_four,shift_four]
theorem compl_natO (x:UInt32):(4294967295^^^x:UInt32).toNat=4294967295 - x.toNat:=by
 rw [UInt32.toNat_xor];have h:(BitVec.allOnes 32^^^x.toBitVec).toNat=2^32 - 1 - x.toBitVec.toNat:=by rw [BitVec.allOnes_xor,BitVec.toNat_not]
 rw [BitVec.toNat_xor,BitVec.toNat_allOnes]at h;exact h
theorem complO (x:UInt32):IntKind.u32.wrap (4294967295 - (x.toNat:Int))=((4294967295^^^x:UInt32).toNat:Int):=by
 rw [compl_natO,IntKind.wrap_u32'];have:=x.toNat_lt;omega
set_option maxRecDepth 100000 in
set_option maxHeartbeats 2000000 in
theorem rmore02_t (w:World) (A:Option Addr) (n c:Nat) (l:List UInt8) (h:Byts w A n l) (hmax:n≤1000000):
  Calls Tryz.prog 159 #[.int .u32 0,.slice A n c] w fun e w'=>e= .returned (.int .u32 ((crcM l).toNat:Int))∧w=w':=by
 have hh:=zh h;have hln:=h.length;clear h;go_enter Tryz.func159,Tryz.ntmps159;go_wp2_with fail
 go_loopg [5,6] (n+1) (fun gk s5 s6 wr=>∃i:Nat,s5= .int .u32 (((l.take i).foldl crcStep 4294967295).toNat:Int)∧s6= .int .i64 i∧i≤n∧n - i<gk∧w=wr)
 case atStart=>exact⟨0,by rfl,rfl,by omega,by omega,rfl⟩
 case round=>
  obtain⟨i,rfl,rfl,hi,hk,rfl⟩:=hrel;obtain⟨C,hC⟩:∃z,Hid ((l.take i).foldl crcStep 4294967295=z):=⟨_,zh rfl⟩
  rw [hC.o];by_cases hlt:i<n
  ·have hlt':(i:Int)<n:=by omega
   have hlth:=zh hlt;have hil:i<l.length:=by omega
   obtain⟨b,o,rfl,hbl,hcell⟩:=Byts.at hh.o hlt;have hx:l.getD i 0=l[i]:=by simp [List.getD,hil]
   rw [hx]at hcell;have htk:=zh (crc_take hil);obtain⟨x,hxe⟩:∃z,Hid (l[i]=z):=⟨_,zh rfl⟩
   rw [hxe.o]at hcell htk;have e1:=crc_in C x;obtain⟨C1,hC1⟩:∃z,Hid (C^^^UInt32.ofNat x.toNat=z):=⟨_,zh rfl⟩
   rw [hC1.o]at e1;clear hlt hx;go_wp2_with fail
   go_loopg [5,7] 9 (fun gk s5 s7 wr=>∃k:Nat,s5= .int .u32 ((shiftN k C1).toNat:Int)∧s7= .int .i64 k∧k≤8∧8 - k<gk∧w=wr)
   case atStart=>exact⟨0,rfl,rfl,by omega,by omega,rfl⟩
   case round=>
    obtain⟨k,rfl,rfl,hk8,hkk,rfl⟩:=hrel;obtain⟨D,hD⟩:∃z,Hid (shiftN k C1=z):=⟨_,zh rfl⟩
    rw [hD.o];by_cases h8:k<8
    ·have h8':(k:Int)<8:=by omega
     have hs:=rshift_t D w;have hD2:=zh (show shiftU D=shiftN (k+1) C1 by rw [←hD.o];rfl);obtain⟨D2,hD3⟩:∃z,Hid (shiftU D=z):=⟨_,zh rfl⟩
     rw [hD3.o]at hs;have hkh:=zh h8;go_wp2_with (go_at_call 207;refine hs.mono ?_;rintro e V ⟨rfl,rfl⟩)
     go_roundg (8 - k)
     case measure=>have:=hkh.o;omega
     case rel=>exact⟨k+1,by rw [←hD2.o,hD3.o],by go_num,by have:=hkh.o;omega,by have:=hkh.o;omega,rfl⟩
    ·have h8':¬(k:Int)<8:=by omega
     have hend:=zh (show D=crcHalf (crcHalf C1) by rw [←hD.o,show k=8 by omega,shiftN_8]);clear h8;go_wp2_with fail
     go_roundg (n - i)
     case measure=>have:=hlth.o;omega
     case rel=>refine⟨i+1,?_,by go_num,by have:=hlth.o;omega,by have:=hlth.o;omega,rfl⟩;rw [htk.o,hC.o,hend.o,←hC1.o];rfl
  ·have hin:i=n:=by omega
   have hge:¬(i:Int)<n:=by omega
   have hfin:=zh (show crcM l=4294967295^^^C by rw [←hC.o,hin,List.take_of_length_le (by omega)];rfl);have hnot:=complO C;rw [←hfin.o]at hnot;have hC4:=C.toNat_lt;clear hlt;go_wp2_with fail
   go_ret;exact⟨ret_word (by rw [hfin.o,compl_natO]),rfl⟩
theorem rsum02_t (w:World) (A:Option Addr) (n c:Nat) (l:List UInt8) (h:Byts w A n l) (hmax:n≤1000000):
  Calls Tryz.prog 111 #[.slice A n c] w fun e w'=>e= .returned (.int .u32 ((crcM l).toNat:Int))∧w=w':=by
 have hm:=rmore02_t w A n c l h hmax;go_enter Tryz.func111,Tryz.ntmps111;go_wp2_with fail
 refine Calls.mono (show Calls Tryz.prog 159 _ _ _ from hm) ?_;rintro e w' ⟨rfl,rfl⟩;go_wp2_with fail
 go_ret;exact⟨rfl,rfl⟩
def YAcc (w wr:World) (s:Value) (l:List UInt8):Prop:=
 ∃A c,s= .slice A l.length c∧Own wr 5 1 (.slice A l.length c) l.length (l.map bv)∧From w.heap.size A∧Fr [] w wr
theorem YAcc.nil (w:World):YAcc w w (.slice none 0 0) []:=⟨none,0,rfl,Own.nil _ _ _,(fun _ e=>by cases e),Fr.refl _ _⟩
theorem YAcc.fr0 {w wr V:World}{s:Value}{l:List UInt8}(h:YAcc w wr s l) (hF:Fr [] wr V):YAcc w V s l:=by
 obtain⟨A,c,h1,h2,h3,h4⟩:=h;exact⟨A,c,h1,h2.fr hF (by simp),h3,h4.trans hF⟩
theorem YAcc.push {w wr V w2:World}{A A2:Option Addr}{c c2 n k:Nat}{l xs:List UInt8}(hn:l.length=n) (hk:xs.length=k) (hR:From w.heap.size A) (hF:Fr [] w wr) (hV:Fr [] wr V)
  (p1:Own w2 5 1 (.slice A2 (n+k) c2) (n+k) (l.map bv++xs.map bv)) (p2:Fr (rowOf (.slice A n c)) V w2)
  (p3:∀g,g∈rowOf (.slice A2 (n+k) c2)→g∈rowOf (.slice A n c)∨V.heap.size≤g):YAcc w w2 (.slice A2 (n+k) c2) (l++xs):=by
 have hl:(l++xs).length=n+k:=by rw [List.length_append,hn,hk]
 have row:∀g∈rowOf (.slice A n c),w.heap.size≤g:=fun g hg=>by obtain⟨ad,e,rfl⟩:=rowOf_mem.1 hg;exact hR ad e
 refine⟨A2,c2,by rw [hl],?_,fun ad e=> ?_,(hF.trans hV).andThen p2 (fun x hx=> .inr (row x hx))⟩
 ·rw [hl,List.map_append];exact p1
 ·rcases p3 ad.block (rowOf_mem.2 ⟨ad,e,rfl⟩)with h |h
  ·exact row _ h
  ·exact Nat.le_trans (hF.trans hV).size h
def YRow (w:World) (l:List UInt8) (e:Ending) (w':World):Prop:=∃v,e= .returned v∧YAcc w w' v l
theorem or_numO (m:Nat):128+(m:Int)%128=(((UInt8.ofNat (m%128+128)).toNat:Nat):Int):=by
 have h2:(UInt8.ofNat (m%128+128)).toNat=m%128+128:=by simp;omega
 rw [h2];omega
set_option maxRecDepth 100000 in
set_option maxHeartbeats 2000000 in
theorem rnumb08_t (w:World) (n:Nat) (hn:n<18446744073709551616):Calls Tryz.prog 157 #[.int .u64 n] w (YRow w (numB n)):=by
 have hpow:n<128^(9+1):=by
  have:(128:Nat)^(9+1)=1180591620717411303424:=by decide
  omega
 have hpowh:=zh hpow;clear hpow;go_enter Tryz.func157,Tryz.ntmps157;go_wp2_with fail
 go_loopg [0,3] 11 (fun gk s0 s3 wr=>∃(m kf:Nat) (pre:List UInt8),s0= .int .u64 m∧m<18446744073709551616∧Hid (m<128^(kf+1))∧Hid (pre++numF kf m=numB n)∧kf<gk∧pre.length+kf≤9∧YAcc w wr s3 pre)
 case atStart=>exact⟨n,9,[],rfl,hn,hpowh,zh rfl,by omega,by simp,YAcc.nil w⟩
 case round=>
  obtain⟨m,kf,pre,rfl,hm64,hm,he,hk,hlen,A,c,rfl,hO,hA,hF⟩:=hrel;obtain⟨pn,hpn⟩:∃z,Hid (pre.length=z):=⟨_,zh rfl⟩
  rw [hpn.o]at hO hlen⊢;have hFh:=zh hF;have hOh:=zh hO;have hAh:=zh hA;clear hF hO hA hn;by_cases hge:128≤m
  ·obtain⟨k',rfl⟩:∃k',kf=k'+1:=⟨kf - 1,by
    rcases Nat.eq_zero_or_pos kf with h0 |h0
    ·subst h0;have:=hm.o;simp at this;omega
    ·omega⟩
   have hge':(0:Int)<(m:Int) / 128:=by omega
   have hgeh:=zh hge;have hor:=or_numO m;obtain⟨by1,hby⟩:∃z,Hid (UInt8.ofNat (m%128+128)=z):=⟨_,zh rfl⟩
   rw [hby.o]at hor;clear hge;go_wp2_with (refine wpList_own_append tW1 (hOh.o.fr ((Fr.refl [] _).alloc _) (by simp)) (byteW_new _ _ by1 _ rfl) (fun u hu=>by simp at hu;rw [hu];rfl) (by simp) (by unfold maxLen;omega) (by omega) rfl rfl rfl rfl (fun v2 w2 p1 p2 p3=> ?_);obtain⟨A3,c3,rfl,hA3⟩:=p1.form)
   go_roundg (k'+1)
   case measure=>omega
   case rel=>
    refine⟨m / 128,k',pre++ [by1],by go_num,by omega,zh ?_,zh ?_,by omega,by rw [List.length_append,hpn.o];simp;omega,YAcc.push hpn.o rfl hAh.o hFh.o ((Fr.refl [] _).alloc _) p1 p2 (fun g hg=>(p3 g hg).imp id (fun e=>by omega))⟩
    ·have:=hm.o;rw [Nat.pow_succ]at this;exact Nat.div_lt_of_lt_mul (by rw [Nat.mul_comm];exact this)
    ·rw [←he.o,numF_more hgeh.o,hby.o];simp
  ·have hge':¬(0:Int)<(m:Int) / 128:=by omega
   have hgeh:=zh (show m<128 by omega);obtain⟨by1,hby⟩:∃z,Hid (UInt8.ofNat m=z):=⟨_,zh rfl⟩
   have hnb:=zh (show(m:Int)=((by1.toNat:Nat):Int) by rw [←hby.o];simp;omega);clear hge;go_wp2_with (refine wpList_own_append tW1 (hOh.o.fr ((Fr.refl [] _).alloc _) (by simp)) (byteW_new _ _ by1 _ hnb.o) (fun u hu=>by simp at hu;rw [hu];rfl) (by simp) (by unfold maxLen;omega) (by omega) rfl rfl rfl rfl (fun v2 w2 p1 p2 p3=> ?_);obtain⟨A3,c3,rfl,hA3⟩:=p1.form)
   go_ret;refine⟨_,rfl,?_⟩;rw [←he.o,numF_end hgeh.o,hby.o];exact YAcc.push hpn.o rfl hAh.o hFh.o ((Fr.refl [] _).alloc _) p1 p2 (fun g hg=>(p3 g hg).imp id (fun e=>by omega))
set_option maxRecDepth 100000 in
theorem rint08_t (w:World) (n:Int) (h1: -9223372036854775808≤n) (h2:n<9223372036854775808):Calls Tryz.prog 155 #[.int .i64 n] w (YRow w (intB n)):=by
 by_cases h0:n<0
 ·have hz:zig n=2*(-(n+1)).toNat+1:=by unfold zig;rw [if_neg (by omega)];omega
  obtain⟨m,hm⟩:∃m:Nat,-(n+1)=(m:Int):=⟨(-(n+1)).toNat,by omega⟩
  have hr:=rnumb08_t w (2*m+1) (by omega);have hv:intB n=numB (2*m+1):=by unfold intB;rw [hz,hm];simp
  rw [hv];have hd:decide (n<0)=true:=decide_eq_true h0;have e1:n+1= -(m:Int):=by omega
  have hml:m<9223372036854775808:=by omega
  have hvh:=zh hv;have hzh:=zh hz;clear hv hz h0 hm;go_enter Tryz.func155,Tryz.ntmps155;go_wp2_with fail
  refine Calls.mono (show Calls Tryz.prog 157 _ _ _ from(by simpa using hr)) ?_;rintro e V ⟨v,rfl,hY⟩;have hYh:=zh hY;clear hY hr;go_wp2_with fail
  go_ret;exact⟨_,rfl,hYh.o⟩
 ·obtain⟨m,rfl⟩:∃m:Nat,n=(m:Int):=⟨n.toNat,by omega⟩
  have hr:=rnumb08_t w (2*m) (by omega);have hv:intB (m:Int)=numB (2*m):=by unfold intB;rw [zig_nat]
  rw [hv];clear hv;go_enter Tryz.func155,Tryz.ntmps155;go_wp2_with fail
  refine Calls.mono (show Calls Tryz.prog 157 _ _ _ from(by simpa using hr)) ?_;rintro e V ⟨v,rfl,hY⟩;have hYh:=zh hY;clear hY hr;go_wp2_with fail
  go_ret;exact⟨_,rfl,hYh.o⟩
theorem YAcc.strs {w V w2:World}{A A2:Option Addr}{c c2 n k:Nat}{l xs:List UInt8}(hn:l.length=n) (hk:xs.length=k) (hR:From w.heap.size A) (hF:Fr [] w V)
  (p1:Own w2 5 1 (.slice A2 (n+k) c2) (n+k) (l.map bv++xs.map bv)) (hA:From w.heap.size A2) (p2:Fr (rowOf (.slice A n c)) V w2):YAcc w w2 (.slice A2 (n+k) c2) (l++xs):=by
 have hl:(l++xs).length=n+k:=by rw [List.length_append,hn,hk]
 refine⟨A2,c2,by rw [hl],?_,hA,hF.andThen p2 (fun x hx=> .inr ?_)⟩
 ·rw [hl,List.map_append];exact p1
 ·obtain⟨ad,e,rfl⟩:=rowOf_mem.1 hx;exact hR ad e
def txtC (s:ByteArray):List UInt8:=numB s.size++s.data.toList.take 65537
set_option maxRecDepth 100000 in
theorem rtxt08_t (w:World) (s:ByteArray) (hs:s.size≤150000000000000):Calls Tryz.prog 156 #[.string s] w (YRow w (txtC s)):=by
 have hr:=rnumb08_t w s.size (by omega);have hnl:=numB_length s.size;obtain⟨nb,hnb⟩:∃z,Hid (numB s.size=z):=⟨_,zh rfl⟩
 rw [hnb.o]at hr hnl;by_cases hb:65536<s.size
 ·have hd:decide (65536<s.size)=true:=decide_eq_true hb;have hv:=zh (show txtC s=nb++(s.extract 0 65537).data.toList by unfold txtC;rw [hnb.o,ByteArray.data_extract];simp);have hsz:=zh (show(s.extract 0 65537).size=65537 by rw [ByteArray.size_extract];omega);have h65:(65537:Int)≤s.size:=by omega
  go_enter Tryz.func156,Tryz.ntmps156;go_upto_region 3 with(go_at_call 157;refine hr.mono ?_;rintro e V ⟨v,rfl,hY⟩;obtain⟨A,c,rfl,hO,hA,hF⟩:=hY;have hOh:=zh hO;have hAh:=zh hA;have hFh:=zh hF;clear hO hA hF)
  clear hb hd hs;go_upto_region 4 with(fail)
  have hmx:=zh (show nb.length+(s.extract 0 65537).size≤100000000 by rw [hsz.o];omega);go_wp2_with (refine wpList_own_append_str hOh.o hAh.o hFh.o.size (s.extract 0 65537) hmx.o rfl rfl rfl rfl (fun A' c' w' p1 pA p2=> ?_))
  go_ret;refine⟨_,rfl,?_⟩;rw [hv.o];have e:(s.extract 0 65537).size=min 65537 s.size:=by simp
  rw [e]at p1;exact YAcc.strs rfl e hAh.o hFh.o p1 pA p2
 ·have hd:decide (65536<s.size)=false:=decide_eq_false hb;have hv:=zh (show txtC s=nb++s.data.toList by unfold txtC;rw [hnb.o,List.take_of_length_le (by show s.size≤_;omega)]);go_enter Tryz.func156,Tryz.ntmps156;go_upto_region 4 with(go_at_call 157;refine hr.mono ?_;rintro e V ⟨v,rfl,hY⟩;obtain⟨A,c,rfl,hO,hA,hF⟩:=hY;have hOh:=zh hO;have hAh:=zh hA;have hFh:=zh hF;clear hO hA hF)
  go_wp2_with (refine wpList_own_append_str hOh.o hAh.o hFh.o.size s (by omega) rfl rfl rfl rfl (fun A' c' w' p1 pA p2=> ?_))
  go_ret;refine⟨_,rfl,?_⟩;rw [hv.o];exact YAcc.strs rfl rfl hAh.o hFh.o p1 pA p2
theorem four_cells (x:UInt32):(bytes4 x).map bv= [Value.int .u8 ((x.toNat / 16777216%256:Nat):Int),.int .u8 ((x.toNat / 65536%256:Nat):Int),.int .u8 ((x.toNat / 256%256:Nat):Int),.int .u8 ((x.toNat%256:Nat):Int)]:=by
 simp [bytes4,bv]
def fourC (X:Nat) (i:Nat):Array Value:=#[.int .u8 (if i≤0 then((X / 16777216%256:Nat):Int)else 0),.int .u8 (if i≤1 then((X / 65536%256:Nat):Int)else 0),.int .u8 (if i≤2 then((X / 256%256:Nat):Int)else 0),.int .u8 (if i≤3 then((X%256:Nat):Int)else 0)]
theorem four_div {X Y j:Nat}(hY:Y=X / 256^(4 - (j+1))) (hj:j<4):Y / 256=X / 256^(4 - j):=by
 rw [hY,Nat.div_div_eq_div_mul,←Nat.pow_succ,show(4 - (j+1)).succ=4 - j by omega]
theorem four_step {w:World}{g X Y j:Nat}(h:Blk w g 277 (fourC X (j+1))) (hY:Y=X / 256^(4 - (j+1))) (hj:j<4):Blk (w.setCell ⟨g,j,none⟩ (.int .u8 ((Y:Int)%256))) g 277 (fourC X j):=by
 have hs:=h.set j (.int .u8 ((Y:Int)%256));have e:(fourC X (j+1)).setIfInBounds j (.int .u8 ((Y:Int)%256))=fourC X j:=by
  have hc:j=0∨j=1∨j=2∨j=3:=by omega
  rcases hc with rfl |rfl |rfl |rfl<;>simp at hY<;>simp [fourC,hY]
 rw [e]at hs;exact hs
def FourRef (w:World) (x:UInt32) (e:Ending) (w':World):Prop:=∃g,e= .returned (.slice (some ⟨g,0,none⟩) 4 4)∧Byts w' (some ⟨g,0,none⟩) 4 (bytes4 x)∧Fr [] w w'
set_option maxRecDepth 100000 in
set_option maxHeartbeats 2000000 in
theorem rfour08_t (w:World) (x:UInt32):Calls Tryz.prog 158 #[.int .u32 x.toNat] w (FourRef w x):=by
 have hx:=x.toNat_lt;have hfc:=zh (four_cells x);unfold FourRef;obtain⟨X,HX⟩:∃z,Hid (x.toNat=z):=⟨_,zh rfl⟩
 rw [HX.o]at hx hfc⊢;go_enter Tryz.func158,Tryz.ntmps158;go_upto_region 2 with(fail)
 refine wp_gen (fun W=>Blk W w.heap.size 277 (fourC X 4)∧Fr [] w W) ⟨Blk.new _ _ _,(Fr.refl _ _).alloc _⟩ ?_;rintro W ⟨hB,hF⟩;obtain⟨g,HG⟩:∃z,Hid (w.heap.size=z):=⟨_,zh rfl⟩
 rw [HG.o]at hB⊢;have hBh:=zh hB;have hFh:=zh hF;clear hB hF;go_wp2_with fail
 go_loopg [0,4] 5 (fun gk s0 s4 wr=>∃(j Y:Nat) (i:Int),s4= .int .i64 i∧s0= .int .u32 Y∧i=(j:Int) - 1∧Hid (Y=X / 256^(4 - j))∧Y<4294967296∧j≤4∧j<gk∧Blk wr g 277 (fourC X j)∧Fr [] w wr)
 case atStart=>exact⟨4,X,3,rfl,rfl,rfl,zh (by simp),hx,by omega,by omega,hBh.o,hFh.o⟩
 case round=>
  obtain⟨j,Y,i,rfl,rfl,hi,hY,hYl,hj,hjk,hB,hF⟩:=hrel;have hjc:j=0∨j=1∨j=2∨j=3∨j=4:=by omega
  have hFh:=zh hF;have hBh:=zh hB;have hgl:=hB.lt;clear hF;rcases hjc with rfl |rfl |rfl |rfl |rfl
  ·obtain rfl:i= -1:=by omega
   clear hB hi hj;go_wp2_with fail
   go_ret;refine⟨g,rfl,⟨rfl,fun _=>⟨g,0,rfl,fun k u hu=> ?_⟩⟩,hFh.o⟩;rw [hBh.o.cell,Nat.zero_add];rw [hfc.o]at hu;unfold fourC;simpa using hu
  all_goals (
   (first | (have hiE:i=0:=(by omega);subst hiE) | (have hiE:i=1:=(by omega);subst hiE) | (have hiE:i=2:=(by omega);subst hiE) | (have hiE:i=3:=(by omega);subst hiE))
   have c:=hB.cell;unfold fourC at c;have z:=hB.frozen;clear hB hi hj;have c0:=c 0;have c1:=c 1;have c2:=c 2;have c3:=c 3;simp only [zG,zH,zI]at c0 c1 c2 c3;clear c;have hkk:=zh hjk;clear hjk;go_wp2_with fail
   go_roundg (gk - 1)
   (case measure=>have:=hkk.o;omega)
   (case rel=>
     have hb:=hBh.o;have hs:=four_step hb hY.o (by decide);have hf:=fun o=>hFh.o.setCell (p:=⟨g,o,none⟩) (.inr (Nat.le_of_eq HG.o)) (.int .u8 ((Y:Int)%256));have hd:=zh (four_div hY.o (by decide));have hk2:=hkk.o;first
      |exact⟨0,Y / 256,-1,rfl,by go_num,rfl,hd,by omega,by omega,by omega,hs,hf _⟩
      |exact⟨1,Y / 256,0,rfl,by go_num,rfl,hd,by omega,by omega,by omega,hs,hf _⟩
      |exact⟨2,Y / 256,1,rfl,by go_num,rfl,hd,by omega,by omega,by omega,hs,hf _⟩
      |exact⟨3,Y / 256,2,rfl,by go_num,rfl,hd,by omega,by omega,by omega,hs,hf _⟩))
end Go.Proofs.YtpmgepijkhaonaaGreat
namespace Go.Proofs.YtpmgepijkhaonaaGreat
open Go.RowKit Go.Sig
def rdC (A:Option Addr) (N c p:Nat) (bad:Int):Array Value:=#[.slice A N c,.int .i64 p,.int .i64 bad]
def rdV (A:Option Addr) (N c p:Nat) (bad:Int):Value:= .agg (rdC A N c p bad)
def zRd:Array Value:=rdC none 0 0 0 0
theorem uRd:Tryz.prog.underlying 113=some (.struct (Tryz.prog.fieldsOf 113)):=by kernel_rfl
theorem infoRd (A:Option Addr) (N c p:Nat) (bad:Int):(Tryz.prog.info? 113).map (·.size)=some (rdC A N c p bad).size:=by kernel_rfl
structure RdIs (bs:List UInt8) (N p:Nat) (bad:Int) (r:RdS):Prop where
 len:bs.length=N
 le:p≤N
 eq:(bs.drop p,bad)=r
theorem rd_cells {w:World}{g:Nat}{t:TypeId}{A:Option Addr}{N c p:Nat}{bad:Int}(h:Blk w g t (rdC A N c p bad)):w.cell? ⟨g,0,none⟩=some (.slice A N c)∧w.cell? ⟨g,1,none⟩=some (.int .i64 p)∧w.cell? ⟨g,2,none⟩=some (.int .i64 bad)∧g<w.heap.size∧(∀i,w.frozen? ⟨g,i,none⟩=false):=⟨h.cell 0,h.cell 1,h.cell 2,h.lt,h.frozen⟩
theorem rend08_t (w:World) (A:Option Addr) (N c p:Nat) (bs:List UInt8) (bad:Int) (r:RdS) (h:RdIs bs N p bad r):Calls Tryz.prog 58 #[rdV A N c p bad] w fun e w'=>e= .returned (.int .i64 (endR r))∧Fr [] w w':=by
 have hre:endR r=if bad=0∧p<N then 3 else bad:=by
  obtain⟨h1,h2,rfl⟩:=h;unfold endR;simp only;have e:(bs.drop p≠ [])↔p<N:=by rw [ne_eq,List.drop_eq_nil_iff];omega
  by_cases hb:bad=0<;>by_cases hp:p<N<;>simp [hb,hp,e]
 clear h;unfold rdV rdC;by_cases hb:bad=0
 ·subst hb;by_cases h0:p<N
  ·rw [if_pos ⟨rfl,h0⟩]at hre;have hd:decide (p<N)=true:=decide_eq_true (by omega);have hv:=zh hre;clear hre h0;go_enter Tryz.func58,Tryz.ntmps58;go_wp2_with fail
   go_ret;exact⟨by rw [hv.o];rfl,(Fr.refl _ _).alloc _⟩
  ·rw [if_neg (fun h=>h0 h.2)]at hre;have hd:decide (p<N)=false:=decide_eq_false (by omega);have hv:=zh hre;clear hre h0;go_enter Tryz.func58,Tryz.ntmps58;go_wp2_with fail
   go_ret;exact⟨by rw [hv.o];rfl,(Fr.refl _ _).alloc _⟩
 ·rw [if_neg (fun h=>hb h.1)]at hre;have hb2:(bad==0)=false:=by simpa using hb
  have hv:=zh hre;clear hre hb;go_enter Tryz.func58,Tryz.ntmps58;go_wp2_with fail
  go_ret;exact⟨by rw [hv.o];rfl,(Fr.refl _ _).alloc _⟩
theorem results_tc {P:Program}{fn:Func}{p q:Tmp}{ty:TypeId}(h:fn.results=#[.tmp p,.cell q ty]) (tmps:Array Value) (w:World) (g:Nat) (t:TypeId) (cs:Array Value) (d:TypeDesc) {v:Value}
  (hp:tmps.getD p undef=v) (hq:tmps.getD q undef= .pointer (some ⟨g,0,none⟩)) (hg:Blk w g t cs) (hu:P.underlying ty=some d) (hd:(match d with | .struct _ | .array _ _=>true |_=>false)=true) (hi:(P.info? ty).map (·.size)=some cs.size):
  (results fn tmps).run P w= .ok (.tuple #[v,.agg cs]) w:=by
 subst hp;have hq':tmps[q]?.getD undef= .pointer (some ⟨g,0,none⟩):=by simpa using hq
 simp [results,h,hq',asAddr,run_loadVar_row w g t ty cs (0,0) d hg hu hd hi]
def RnPost (w:World) (bs:List UInt8) (A:Option Addr) (N c:Nat) (v:Value) (r:RdS) (e:Ending) (w':World):Prop:=∃p bad,e= .returned (.tuple #[v,rdV A N c p bad])∧RdIs bs N p bad r∧Fr [] w w'
theorem rd_set0 {V:World}{g N c p N0 c0 p0:Nat}{A A0:Option Addr}{bad b0:Int}(h:Blk V g 113 (rdC A0 N0 c0 p0 b0)):Blk (((V.setCell ⟨g,0,none⟩ (.slice A N c)).setCell ⟨g,1,none⟩ (.int .i64 p)).setCell ⟨g,2,none⟩ (.int .i64 bad)) g 113 (rdC A N c p bad):=by
 have k:=((h.set 0 (.slice A N c)).set 1 (.int .i64 p)).set 2 (.int .i64 bad);simpa [rdC]using k
theorem rd_fr0 {w V:World}{g N c p:Nat}{A:Option Addr}{bad:Int}(h:Fr [] w V) (hg:w.heap.size≤g):Fr [] w (((V.setCell ⟨g,0,none⟩ (.slice A N c)).setCell ⟨g,1,none⟩ (.int .i64 p)).setCell ⟨g,2,none⟩ (.int .i64 bad)):=
 ((h.setCell (p:=⟨g,0,none⟩) (.inr hg) _).setCell (p:=⟨g,1,none⟩) (.inr hg) _).setCell (p:=⟨g,2,none⟩) (.inr hg) _
theorem rd_set {V:World}{g N c p N0 c0 p0:Nat}{A A0:Option Addr}{bad b0:Int}(h:Blk V g 113 (rdC A0 N0 c0 p0 b0)):Blk (((V.setCell ⟨g,0,none⟩ (.slice A N c)).setCell ⟨g,1,none⟩ (.int .i64 p)).setCell ⟨g,2,none⟩ (.int .i64 bad)).drew g 113 (rdC A N c p bad):=by
 have k:=((h.set 0 (.slice A N c)).set 1 (.int .i64 p)).set 2 (.int .i64 bad);refine Blk.drew ?_;simpa [rdC]using k
theorem rd_fr {w V:World}{g N c p:Nat}{A:Option Addr}{bad:Int}(h:Fr [] w V) (hg:w.heap.size≤g):Fr [] w (((V.setCell ⟨g,0,none⟩ (.slice A N c)).setCell ⟨g,1,none⟩ (.int .i64 p)).setCell ⟨g,2,none⟩ (.int .i64 bad)).drew:=
 (((h.setCell (p:=⟨g,0,none⟩) (.inr hg) _).setCell (p:=⟨g,1,none⟩) (.inr hg) _).setCell (p:=⟨g,2,none⟩) (.inr hg) _).drew
theorem num_bound {acc k m:Nat}(hk:k≤9) (ha:acc<128^k) (hm:m<128) (h9:k=9→m≤1):m*128^k<18446744073709551616∧acc+m*128^k<18446744073709551616:=by
 obtain⟨p9,p8⟩:=pow128 hk;by_cases h:k=9
 ·have h1:=Nat.mul_le_mul (h9 h) p9;have h2:=Nat.mul_le_mul (h9 h) (Nat.le_refl (128^k));omega
 ·have h8:=p8 (by omega);have:=Nat.mul_le_mul (show m≤127 by omega) h8;omega
set_option maxRecDepth 100000 in
set_option maxHeartbeats 4000000 in
theorem rnum08_t (w:World) (A:Option Addr) (N c p:Nat) (bs:List UInt8) (bad:Int) (r:RdS) (most:Nat) (hm:most<18446744073709551616) (hb:Byts w A N bs) (hN:N≤1000000) (hr:RdIs bs N p bad r):
  Calls Tryz.prog 160 #[rdV A N c p bad,.int .u64 most] w (RnPost w bs A N c (.int .u64 ((numR most r).1:Nat)) (numR most r).2):=by
 have hbh:=zh hb;have hmh:=zh hm;obtain⟨hlen,hp,hre⟩:=hr;have hlenh:=zh hlen;have hreh:=zh hre;clear hb hm hre hlen;unfold rdV;go_enter Tryz.func160,Tryz.ntmps160;go_upto_region 1 with(fail)
 refine wp_gen (fun W=>Blk W w.heap.size 113 (rdC A N c p bad)∧Blk W (w.heap.size+1) 113 zRd∧Fr [] w W) ⟨(Blk.new _ _ _).alloc _,Blk.new' _ _ (by simp),((Fr.refl _ _).alloc _).alloc _⟩ ?_;rintro W ⟨hB2,hB5,hF⟩;obtain⟨g,HG⟩:∃z,Hid (w.heap.size=z):=⟨_,zh rfl⟩
 rw [HG.o]at hB2 hB5⊢;have hB2h:=zh hB2;have hB5h:=zh hB5;have hFh:=zh hF;clear hB2 hB5 hF;go_wp2_with fail
 go_loopg [6,7,8] 12 (fun gk s6 s7 s8 wr=>∃(k acc q wk:Nat) (bd:Int),s8= .int .i64 k∧s7= .int .u64 wk∧Hid (wk=128^k)∧s6= .int .u64 acc∧Hid (NextRel r most k acc (bs.drop q,bd))∧Hid (NextLeft (bs.drop q,bd) k<gk)∧q≤N∧Blk wr g 113 (rdC A N c q bd)∧Blk wr (g+1) 113 zRd∧Fr [] w wr)
 case atStart=>
  refine⟨0,0,p,1,bad,rfl,rfl,zh rfl,rfl,zh ?_,zh ?_,hp,hB2h.o,hB5h.o,hFh.o⟩
  ·unfold NextRel;rw [hreh.o];split
   ·rename_i h0;exact⟨h0,by omega,by decide,rfl⟩
   ·rename_i h0;unfold numR;rw [if_neg h0]
  ·unfold NextLeft;split<;>omega
 case round=>
  obtain⟨k,acc,q,wk,bd,rfl,rfl,hwk,rfl,hR,hk,hq,hB2,hB5,hF⟩:=hrel;have hB2h:=zh hB2;have hB5h:=zh hB5;have hFh:=zh hF;obtain⟨c0,c1,c2,hgl,z2⟩:=rd_cells hB2;obtain⟨e0,e1,e2,hgl5,z5⟩:=rd_cells hB5;clear hB2 hB5 hF;by_cases hb:bd=0
  ·subst hb;obtain⟨hr0,hk9,hacc,hnx⟩:r.2=0∧k≤9∧acc<128^k∧nextM most (10 - k) k acc (bs.drop q)=nextM most 10 0 0 r.1:=by
    have h:=hR.o;unfold NextRel at h;rwa [if_pos rfl]at h
   have hr0h:=zh hr0;have hnxh:=zh hnx;have haccs:=zh hacc;have hk9h:=zh hk9;clear hr0 hnx hR hacc;by_cases hqN:q<N
   ·have hql:q<bs.length:=by rw [hlenh.o];exact hqN
    have hdq:=zh (List.drop_eq_getElem_cons hql);obtain⟨b0,o0,rfl,_,cd⟩:=Byts.at (hbh.o.fr hFh.o (by simp [Off])) hqN;rw [show bs.getD q 0=bs[q] by simp [List.getD,hql]]at cd;obtain⟨d,hd⟩:∃z,Hid (bs[q]=z):=⟨_,zh rfl⟩
    rw [hd.o]at cd hdq;have hqNh:=zh hqN;have hge:decide (N≤q)=false:=decide_eq_false (by omega);have hq1:q+1≤N:=by omega
    clear hqN;go_upto_region 11 with(fail)
    refine wp_gen (fun V=>Blk V g 113 (rdC (some ⟨b0,o0,none⟩) N c (q+1) 0)∧Blk V (g+1) 113 zRd∧Fr [] w V) ⟨by have k:=hB2h.o.set 1 (.int .i64 ((q:Int)+1));simpa [rdC]using k,hB5h.o.far (by simp) _,hFh.o.setCell (p:=⟨g,1,none⟩) (.inr (by have:=HG.o;simp;omega)) _⟩ ?_;rintro V ⟨hB2,hB5,hF⟩;have hB2h:=zh hB2;have hB5h:=zh hB5;have hFh:=zh hF;clear c0 c1 c2 hgl z2 e0 e1 e2 hgl5 z5 cd hge;obtain⟨c0,c1,c2,hgl,z2⟩:=rd_cells hB2;obtain⟨e0,e1,e2,hgl5,z5⟩:=rd_cells hB5;clear hB2 hB5 hF;have hdd:=hdq;by_cases hbad:(k=9∧1<d.toNat)∨(0<k∧d.toNat=0)
    ·have hcs:(((k:Int)==9)=true∧decide (1<(d.toNat:Int))=true)∨(((k:Int)==9)=true∧decide (1<(d.toNat:Int))=false∧decide (0<k)=true∧((d.toNat:Int)==0)=true)∨(((k:Int)==9)=false∧decide (0<k)=true∧((d.toNat:Int)==0)=true):=by
      simp only [beq_iff_eq,beq_eq_false_iff_ne,decide_eq_true_eq,decide_eq_false_iff_not];omega
     have hnn:=zh (show numR most r=(0,(bs.drop (q+1),3)) by
      unfold numR;rw [if_pos hr0h.o,←hnxh.o,hdq.o,show 10 - k=(9 - k)+1 by omega,nextM,if_pos hbad])
     clear hk9 hbad;rcases hcs with⟨t1,t2⟩ | ⟨t1,t2,t3,t4⟩ | ⟨t1,t2,t3⟩<;>
      (go_wp2_with fail
       refine wp_gen (fun U=>Blk U g 113 (rdC (some ⟨b0,o0,none⟩) N c (q+1) 3)∧Blk U (g+1) 113 zRd∧Fr [] w U) ⟨by have k:=hB2h.o.set 2 (.int .i64 3);simpa [rdC]using k,hB5h.o.far (by simp) _,hFh.o.setCell (p:=⟨g,2,none⟩) (.inr (by have:=HG.o;simp;omega)) _⟩ ?_;rintro U ⟨hB2,hB5,hF⟩;clear c0 c1 c2 hgl z2 e0 e1 e2 hgl5 z5;obtain⟨c0,c1,c2,hgl,z2⟩:=rd_cells hB2;obtain⟨e0,e1,e2,hgl5,z5⟩:=rd_cells hB5;have hB5U:=zh hB5;have hFU:=zh hF;clear hB2 hB5 hF;go_region
       go_wp2_with fail
       refine bodyPost_ret (v:= .tuple #[.int .u64 0,rdV (some ⟨b0,o0,none⟩) N c (q+1) 3]) (results_tc rfl _ _ (g+1) 113 (rdC (some ⟨b0,o0,none⟩) N c (q+1) 3) _ rfl rfl (rd_set hB5U.o) uRd rfl (infoRd _ _ _ _ _)) rfl ?_;rw [hnn.o];exact⟨(q+1),3,rfl,⟨hlenh.o,hq1,rfl⟩,rd_fr hFU.o (by have:=HG.o;omega)⟩)
    ·have hcs:(((k:Int)==9)=true∧decide (1<(d.toNat:Int))=false∧decide (0<k)=true∧((d.toNat:Int)==0)=false)∨(((k:Int)==9)=false∧decide (0<k)=true∧((d.toNat:Int)==0)=false)∨(((k:Int)==9)=false∧decide (0<k)=false):=by
      simp only [beq_iff_eq,beq_eq_false_iff_ne,decide_eq_true_eq,decide_eq_false_iff_not];omega
     obtain⟨hpb,hsb⟩:=num_bound hk9 haccs.o (show d.toNat%128<128 by omega) (fun h=>by omega);have hsum:IntKind.u64.wrap ((acc:Int)+IntKind.u64.wrap ((wk:Int)*((d.toNat:Int)%128)))=((acc+d.toNat%128*128^k:Nat):Int):=by rw [show(wk:Int)*((d.toNat:Int)%128)=((d.toNat%128*128^k:Nat):Int) by rw [hwk.o,Int.natCast_mul,Int.mul_comm];rfl,wrapU _ hpb,←Int.natCast_add,wrapU _ hsb]
     obtain⟨n2,hn2⟩:∃z,Hid (acc+d.toNat%128*128^k=z):=⟨_,zh rfl⟩
     rw [hn2.o]at hsum hsb;clear hpb;by_cases hd1:d.toNat<128
     ·have td:decide ((d.toNat:Int)<128)=true:=decide_eq_true (by omega);by_cases hle:n2≤most
      ·have tm:decide (most<n2)=false:=decide_eq_false (by omega);have hnn:=zh (show numR most r=(n2,(bs.drop (q+1),0)) by
        unfold numR;rw [if_pos hr0h.o,←hnxh.o,hdq.o,show 10 - k=(9 - k)+1 by omega,nextM,if_neg hbad,if_pos hd1];rw [Nat.mod_eq_of_lt hd1]at hn2;rw [hn2.o,if_pos hle])
       clear hk9 hbad hd1 hle;rcases hcs with⟨t1,t2,t3,t4⟩ | ⟨t1,t2,t3⟩ | ⟨t1,t2⟩<;>
        (go_wp2_with fail
         go_region
         go_wp2_with fail
         refine bodyPost_ret (v:= .tuple #[.int .u64 n2,rdV (some ⟨b0,o0,none⟩) N c (q+1) 0]) (results_tc rfl _ _ (g+1) 113 (rdC (some ⟨b0,o0,none⟩) N c (q+1) 0) _ rfl rfl (rd_set hB5h.o) uRd rfl (infoRd _ _ _ _ _)) rfl ?_;rw [hnn.o];exact⟨(q+1),0,rfl,⟨hlenh.o,hq1,rfl⟩,rd_fr hFh.o (by have:=HG.o;omega)⟩)
      ·have tm:decide (most<n2)=true:=decide_eq_true (by omega);have hnn:=zh (show numR most r=(0,(bs.drop (q+1),3)) by
        unfold numR;rw [if_pos hr0h.o,←hnxh.o,hdq.o,show 10 - k=(9 - k)+1 by omega,nextM,if_neg hbad,if_pos hd1];rw [Nat.mod_eq_of_lt hd1]at hn2;rw [hn2.o,if_neg hle])
       clear hk9 hbad hd1 hle;rcases hcs with⟨t1,t2,t3,t4⟩ | ⟨t1,t2,t3⟩ | ⟨t1,t2⟩<;>
        (go_wp2_with fail
         refine wp_gen (fun U=>Blk U g 113 (rdC (some ⟨b0,o0,none⟩) N c (q+1) 3)∧Blk U (g+1) 113 zRd∧Fr [] w U) ⟨by have k:=hB2h.o.set 2 (.int .i64 3);simpa [rdC]using k,hB5h.o.far (by simp) _,hFh.o.setCell (p:=⟨g,2,none⟩) (.inr (by have:=HG.o;simp;omega)) _⟩ ?_;rintro U ⟨hB2,hB5,hF⟩;clear c0 c1 c2 hgl z2 e0 e1 e2 hgl5 z5;obtain⟨c0,c1,c2,hgl,z2⟩:=rd_cells hB2;obtain⟨e0,e1,e2,hgl5,z5⟩:=rd_cells hB5;have hB5U:=zh hB5;have hFU:=zh hF;clear hB2 hB5 hF;go_region
         go_wp2_with fail
         refine bodyPost_ret (v:= .tuple #[.int .u64 0,rdV (some ⟨b0,o0,none⟩) N c (q+1) 3]) (results_tc rfl _ _ (g+1) 113 (rdC (some ⟨b0,o0,none⟩) N c (q+1) 3) _ rfl rfl (rd_set hB5U.o) uRd rfl (infoRd _ _ _ _ _)) rfl ?_;rw [hnn.o];exact⟨(q+1),3,rfl,⟨hlenh.o,hq1,rfl⟩,rd_fr hFU.o (by have:=HG.o;omega)⟩)
     ·have td:decide ((d.toNat:Int)<128)=false:=decide_eq_false (by omega);have hk8:k≤8:=by
       by_cases h:k=9
       ·exact absurd (Or.inl ⟨h,by omega⟩) hbad
       ·omega
      have hw2:IntKind.u64.wrap (128*(wk:Int))=((128*wk:Nat):Int):=by have:=(pow128 hk9).2 hk8;rw [show 128*(wk:Int)=((128*wk:Nat):Int) by omega,wrapU _ (by rw [hwk.o];omega)]
      have hwk2:=zh (show 128*wk=128^(k+1) by rw [hwk.o,Nat.pow_succ,Nat.mul_comm]);obtain⟨wk2,hwk3⟩:∃z,Hid (128*wk=z):=⟨_,zh rfl⟩
      rw [hwk3.o]at hw2 hwk2;have hnn:=zh (show NextRel r most (k+1) n2 (bs.drop (q+1),0) by
       unfold NextRel;rw [if_pos rfl];refine⟨hr0h.o,by omega,?_,?_⟩
       ·have h1:d.toNat%128*128^k≤127*128^k:=Nat.mul_le_mul_right _ (by omega);have h2:=haccs.o;rw [Nat.pow_succ,←hn2.o];omega
       ·rw [←hnxh.o,hdq.o,show 10 - k=(10 - (k+1))+1 by omega,nextM,if_neg hbad,if_neg hd1,hn2.o])
      have hkl:=zh (show 11 - k<gk by have h:=hk.o;unfold NextLeft at h;rw [if_pos rfl]at h;omega);clear hbad hd1;rcases hcs with⟨t1,t2,t3,t4⟩ | ⟨t1,t2,t3⟩ | ⟨t1,t2⟩<;>
       (go_wp2_with fail
        go_roundg (11 - k)
        (case measure=>exact hkl.o)
        (case rel=>exact⟨k+1,n2,q+1,wk2,0,by go_num,rfl,hwk2,rfl,hnn,zh (by unfold NextLeft;rw [if_pos rfl];omega),hq1,hB2h.o,hB5h.o,hFh.o⟩))
   ·have hge:decide (N≤q)=true:=decide_eq_true (by omega);have hnn:=zh (show numR most r=(0,(bs.drop q,4)) by
     have e:bs.drop q= []:=List.drop_eq_nil_iff.2 (by rw [hlenh.o];omega);unfold numR;rw [if_pos hr0h.o,←hnxh.o,e,show 10 - k=(9 - k)+1 by have:=hk9h.o;omega];rfl)
    clear hqN hk9;go_wp2_with fail
    refine wp_gen (fun U=>Blk U g 113 (rdC A N c q 4)∧Blk U (g+1) 113 zRd∧Fr [] w U) ⟨by have k:=hB2h.o.set 2 (.int .i64 4);simpa [rdC]using k,hB5h.o.far (by simp) _,hFh.o.setCell (p:=⟨g,2,none⟩) (.inr (by have:=HG.o;simp;omega)) _⟩ ?_;rintro U ⟨hB2,hB5,hF⟩;clear c0 c1 c2 hgl z2 e0 e1 e2 hgl5 z5;obtain⟨c0,c1,c2,hgl,z2⟩:=rd_cells hB2;obtain⟨e0,e1,e2,hgl5,z5⟩:=rd_cells hB5;have hB5U:=zh hB5;have hFU:=zh hF;clear hB2 hB5 hF;go_region
    go_wp2_with fail
    refine bodyPost_ret (v:= .tuple #[.int .u64 0,rdV A N c q 4]) (results_tc rfl _ _ (g+1) 113 (rdC A N c q 4) _ rfl rfl (rd_set hB5U.o) uRd rfl (infoRd _ _ _ _ _)) rfl ?_;rw [hnn.o];exact⟨q,4,rfl,⟨hlenh.o,hq,rfl⟩,rd_fr hFU.o (by have:=HG.o;omega)⟩
  ·have hb2:(bd==0)=false:=by simpa using hb
   have hnn:=zh (show numR most r=(0,(bs.drop q,bd)) by
    have h:=hR.o;unfold NextRel at h;rwa [if_neg (show¬(bs.drop q,bd).2=0 from hb)]at h)
   clear hb hR;go_wp2_with fail
   go_region
   go_wp2_with fail
   refine bodyPost_ret (v:= .tuple #[.int .u64 0,rdV _ N c q bd]) (results_tc rfl _ _ (g+1) 113 (rdC _ N c q bd) _ rfl rfl (rd_set hB5h.o) uRd rfl (infoRd _ _ _ _ _)) rfl ?_;rw [hnn.o];exact⟨q,bd,rfl,⟨hlenh.o,hq,rfl⟩,rd_fr hFh.o (by have:=HG.o;omega)⟩
set_option maxRecDepth 100000 in
set_option maxHeartbeats 4000000 in
theorem rword08_t (w:World) (A:Option Addr) (N c p:Nat) (bs:List UInt8) (bad:Int) (r:RdS) (hb:Byts w A N bs) (hN:N≤1000000) (hc:N≤c) (hr:RdIs bs N p bad r):
  Calls Tryz.prog 161 #[rdV A N c p bad] w (RnPost w bs A N c (.string (textR r).1) (textR r).2):=by
 have hbh:=zh hb;have hrh:=zh hr;have hnum:=zh (fun(V:World) (hF:Fr [] w V)=>rnum08_t V A N c p bs bad r 65536 (by decide) (hb.fr hF (by simp [Off])) hN hr);have hle:=numR_le (most:=65536) r;have hpl:=hr.le;have htx:∀n rs bd,numR 65536 r=(n,(rs,bd))→textR r=if bd≠0 then(⟨#[]⟩,(rs,bd))else if rs.length<n then(⟨#[]⟩,(rs,4))else(⟨(rs.take n).toArray⟩,(rs.drop n,0)):=fun n rs bd h=>by unfold textR;rw [h]
 obtain⟨⟨n,rs0⟩,hq⟩:∃z,Hid (numR 65536 r=z):=⟨_,zh rfl⟩
 rw [hq.o]at hnum hle;simp only at hnum hle;have hqh:=hq;have htxh:=zh htx;clear hb hr htx;unfold rdV rdC;go_enter Tryz.func161,Tryz.ntmps161;go_upto_region 1 with(fail)
 refine wp_gen (fun W=>Blk W w.heap.size 113 (rdC A N c p bad)∧Blk W (w.heap.size+1) 113 zRd∧Fr [] w W) ⟨(Blk.new _ _ _).alloc _,Blk.new' _ _ (by simp),((Fr.refl _ _).alloc _).alloc _⟩ ?_;rintro W ⟨hB2,hB5,hF⟩;obtain⟨g,HG⟩:∃z,Hid (w.heap.size=z):=⟨_,zh rfl⟩
 rw [HG.o]at hB2 hB5⊢;obtain⟨c0,c1,c2,hgl,z2⟩:=rd_cells hB2;have hB2h:=zh hB2;have hB5h:=zh hB5;have hFh:=zh hF;have hn:=hnum.o W hF;clear hB2 hB5 hF;unfold rdV rdC at hn;go_upto_region 2 with(go_at_call 160;refine hn.mono ?_;rintro e V ⟨q,bd,rfl,hR,F⟩;have hRh:=zh hR;have Fh:=zh F;have hB2V:=zh (hB2h.o.fr F (by simp));have hB5V:=zh (hB5h.o.fr F (by simp));clear c0 c1 c2 hgl z2;obtain⟨c0,c1,c2,hgl,z2⟩:=rd_cells hB2V.o;clear hR F;unfold rdV rdC)
 refine wp_gen (fun U=>Blk U g 113 (rdC A N c q bd)∧Blk U (g+1) 113 zRd∧Fr [] w U) ⟨rd_set0 hB2V.o,((hB5V.o.far (by simp) _).far (by simp) _).far (by simp) _,rd_fr0 (hFh.o.trans Fh.o) (by have:=HG.o;omega)⟩ ?_;rintro V1 ⟨hB2,hB5,hF⟩;clear c0 c1 c2 hgl z2 hn;obtain⟨c0,c1,c2,hgl,z2⟩:=rd_cells hB2;obtain⟨e0,e1,e2,hgl5,z5⟩:=rd_cells hB5;have hB2h:=zh hB2;have hB5h:=zh hB5;have hFh:=zh hF;clear hB2 hB5 hF;obtain⟨hlen,hqN,rfl⟩:=hRh.o;have hlenh:=zh hlen;have htx:=zh (htxh.o n _ _ hqh.o);have hdl:=zh (show(bs.drop q).length=N - q by rw [List.length_drop,hlen]);clear hlen;by_cases hb:bd=0
 ·subst hb;by_cases hs:N - q<n
  ·have hnn:=zh (show textR r=(⟨#[]⟩,(bs.drop q,4)) by rw [htx.o,if_neg (by simp),if_pos (by rw [hdl.o];exact hs)]);have hs1:decide ((N:Int) - q<n)=true:=decide_eq_true (by omega);clear hs;go_wp2_with fail
   refine wp_gen (fun U=>Blk U g 113 (rdC A N c q 4)∧Blk U (g+1) 113 zRd∧Fr [] w U) ⟨by have k:=hB2h.o.set 2 (.int .i64 4);simpa [rdC]using k,hB5h.o.far (by simp) _,hFh.o.setCell (p:=⟨g,2,none⟩) (.inr (by have:=HG.o;simp;omega)) _⟩ ?_;rintro U ⟨hB2,hB5,hF⟩;clear c0 c1 c2 hgl z2 e0 e1 e2 hgl5 z5;obtain⟨c0,c1,c2,hgl,z2⟩:=rd_cells hB2;obtain⟨e0,e1,e2,hgl5,z5⟩:=rd_cells hB5;have hB5U:=zh hB5;have hFU:=zh hF;clear hB2 hB5 hF;go_region
   go_wp2_with fail
   refine bodyPost_ret (v:= .tuple #[.string ⟨#[]⟩,rdV A N c q 4]) (results_tc rfl _ _ (g+1) 113 (rdC A N c q 4) _ rfl rfl (rd_set hB5U.o) uRd rfl (infoRd _ _ _ _ _)) rfl ?_;rw [hnn.o];exact⟨q,4,rfl,⟨hlenh.o,hqN,rfl⟩,rd_fr hFU.o (by have:=HG.o;omega)⟩
  ·have hnn:=zh (show textR r=(⟨((bs.drop q).take n).toArray⟩,((bs.drop q).drop n,0)) by rw [htx.o,if_neg (by simp),if_neg (by rw [hdl.o];exact hs)]);have hs1:decide ((N:Int) - q<n)=false:=decide_eq_false (by omega);have hqn:q+n≤N:=by omega
   have hqnh:=zh hqn;rw [List.drop_drop]at hnn;clear hs;by_cases h0:n=0
   ·subst h0;rw [List.take_zero,Nat.add_zero]at hnn;have hcn:=fun A c=>conv_nil A c V1;cases A with
    |none=>
     go_upto_region 9 with(fail)
     refine wp_gen (fun U=>Blk U g 113 (rdC none N c q 0)∧Blk U (g+1) 113 zRd∧Fr [] w U) ⟨by have k:=hB2h.o.set 1 (.int .i64 (q:Nat));simpa [rdC]using k,hB5h.o.far (by simp) _,hFh.o.setCell (p:=⟨g,1,none⟩) (.inr (by have:=HG.o;simp;omega)) _⟩ ?_;rintro U ⟨hB2,hB5,hF⟩;clear c0 c1 c2 hgl z2 e0 e1 e2 hgl5 z5;obtain⟨c0,c1,c2,hgl,z2⟩:=rd_cells hB2;obtain⟨e0,e1,e2,hgl5,z5⟩:=rd_cells hB5;have hB5U:=zh hB5;have hFU:=zh hF;clear hB2 hB5 hF;go_region
     go_wp2_with fail
     refine bodyPost_ret (v:= .tuple #[.string ⟨#[]⟩,rdV none N c q 0]) (results_tc rfl _ _ (g+1) 113 (rdC none N c q 0) _ rfl rfl (rd_set hB5U.o) uRd rfl (infoRd _ _ _ _ _)) rfl ?_;rw [hnn.o];exact⟨q,0,rfl,⟨hlenh.o,hqN,rfl⟩,rd_fr hFU.o (by have:=HG.o;omega)⟩
    |some a=>
     go_upto_region 9 with(fail)
     obtain⟨A2,hA2⟩:∃z,Hid ((if c=q then some a else some (a.add q))=z):=⟨_,zh rfl⟩
     rw [hA2.o];refine wp_gen (fun U=>Blk U g 113 (rdC (some a) N c q 0)∧Blk U (g+1) 113 zRd∧Fr [] w U) ⟨by have k:=hB2h.o.set 1 (.int .i64 (q:Nat));simpa [rdC]using k,hB5h.o.far (by simp) _,hFh.o.setCell (p:=⟨g,1,none⟩) (.inr (by have:=HG.o;simp;omega)) _⟩ ?_;rintro U ⟨hB2,hB5,hF⟩;clear c0 c1 c2 hgl z2 e0 e1 e2 hgl5 z5;obtain⟨c0,c1,c2,hgl,z2⟩:=rd_cells hB2;obtain⟨e0,e1,e2,hgl5,z5⟩:=rd_cells hB5;have hB5U:=zh hB5;have hFU:=zh hF;clear hB2 hB5 hF;go_region
     go_wp2_with fail
     refine bodyPost_ret (v:= .tuple #[.string ⟨#[]⟩,rdV (some a) N c q 0]) (results_tc rfl _ _ (g+1) 113 (rdC (some a) N c q 0) _ rfl rfl (rd_set hB5U.o) uRd rfl (infoRd _ _ _ _ _)) rfl ?_;rw [hnn.o];exact⟨q,0,rfl,⟨hlenh.o,hqN,rfl⟩,rd_fr hFU.o (by have:=HG.o;omega)⟩
   ·obtain⟨b0,o0,rfl,hcc⟩:=(hbh.o.fr hFh.o (by simp [Off])).2 (show 0<N by omega);have hcv:(convert 42 9 (.slice (some ⟨b0,o0+q,none⟩) n (c - q))).run Tryz.prog V1= .ok (.string ⟨((bs.drop q).take n).toArray⟩) V1:=by
     have hl:=hlenh.o;have ht:((bs.drop q).take n).length=n:=by rw [List.length_take,List.length_drop];omega
     have h:=run_convert_bytes_back (P:=Tryz.prog) V1 42 9 5 ⟨b0,o0+q,none⟩ (c - q) ((bs.drop q).take n) tW1.ty (by kernel_rfl) und_str (fun j hj=>by
      rw [Addr.add_lit];rw [ht]at hj;rw [Nat.add_assoc];exact hcc (q+j) _ (by rw [List.getElem?_map,List.getElem?_eq_getElem (by omega),List.getElem_take,List.getElem_drop];rfl))
     rw [ht]at h;exact h
    obtain⟨tx,htxt⟩:∃z,Hid ((⟨((bs.drop q).take n).toArray⟩:ByteArray)=z):=⟨_,zh rfl⟩
    rw [htxt.o]at hcv hnn;have hcq:¬c=q:=by omega
    clear hcc h0;go_upto_region 9 with(fail)
    refine wp_gen (fun U=>Blk U g 113 (rdC (some ⟨b0,o0,none⟩) N c (q+n) 0)∧Blk U (g+1) 113 zRd∧Fr [] w U) ⟨by have k:=hB2h.o.set 1 (.int .i64 ((q+n):Nat));simpa [rdC]using k,hB5h.o.far (by simp) _,hFh.o.setCell (p:=⟨g,1,none⟩) (.inr (by have:=HG.o;simp;omega)) _⟩ ?_;rintro U ⟨hB2,hB5,hF⟩;clear c0 c1 c2 hgl z2 e0 e1 e2 hgl5 z5;obtain⟨c0,c1,c2,hgl,z2⟩:=rd_cells hB2;obtain⟨e0,e1,e2,hgl5,z5⟩:=rd_cells hB5;have hB5U:=zh hB5;have hFU:=zh hF;clear hB2 hB5 hF;go_region
    go_wp2_with fail
    refine bodyPost_ret (v:= .tuple #[.string tx,rdV (some ⟨b0,o0,none⟩) N c (q+n) 0]) (results_tc rfl _ _ (g+1) 113 (rdC (some ⟨b0,o0,none⟩) N c (q+n) 0) _ rfl rfl (rd_set hB5U.o) uRd rfl (infoRd _ _ _ _ _)) rfl ?_;rw [hnn.o];exact⟨(q+n),0,rfl,⟨hlenh.o,hqnh.o,rfl⟩,rd_fr hFU.o (by have:=HG.o;omega)⟩
 ·have hnn:=zh (show textR r=(⟨#[]⟩,(bs.drop q,bd)) by rw [htx.o,if_pos hb]);have hb2:(bd==0)=false:=by simpa using hb
  have hb3:(bd !=0)=true:=by simpa using hb
  clear hb;go_wp2_with fail
  go_region
  go_wp2_with fail
  refine bodyPost_ret (v:= .tuple #[.string ⟨#[]⟩,rdV A N c q bd]) (results_tc rfl _ _ (g+1) 113 (rdC A N c q bd) _ rfl rfl (rd_set hB5h.o) uRd rfl (infoRd _ _ _ _ _)) rfl ?_;rw [hnn.o];exact⟨q,bd,rfl,⟨hlenh.o,hqN,rfl⟩,rd_fr hFh.o (by have:=HG.o;omega)⟩
end Go.Proofs.YtpmgepijkhaonaaGreat
namespace Go.Proofs.YtpmgepijkhaonaaGreat
open Go.RowKit Go.Sig
def saidM (l:List UInt8):Nat→Nat
 | 0=>0
 |i+1=>256*saidM l i+(l.getD i 0).toNat
theorem said_four (l:List UInt8):saidM l 4=num4 l:=by
 unfold num4;simp only [saidM];omega
theorem said_lt (l:List UInt8):∀i,i≤4→saidM l i<4294967296:=fun i hi=>by
 have b:=fun k:Nat=>(l.getD k 0).toNat_lt;have b0:=b 0;have b1:=b 1;have b2:=b 2;have b3:=b 3;have h:i=0∨i=1∨i=2∨i=3∨i=4:=by omega
 rcases h with rfl |rfl |rfl |rfl |rfl<;>simp only [saidM]<;>omega
set_option maxRecDepth 100000 in
theorem rsaid08_t (w:World) (A:Option Addr) (n c:Nat) (l:List UInt8) (h:Byts w A n l) (h4:4≤n):Calls Tryz.prog 110 #[.slice A n c] w fun e w'=>e= .returned (.int .i64 ((num4 l:Nat):Int))∧w=w':=by
 have hh:=zh h;have h4h:=zh (said_four l);have hlt:=zh (said_lt l);have hst:=zh (fun i=>show saidM l (i+1)=256*saidM l i+(l.getD i 0).toNat from rfl);have hs0:=zh (show saidM l 0=0 from rfl);obtain⟨R,hR⟩:∃z,Hid (num4 l=z):=⟨_,zh rfl⟩
 rw [hR.o]at h4h⊢;clear h;go_enter Tryz.func110,Tryz.ntmps110;go_wp2_with fail
 go_loopg [3,4] 5 (fun gk s3 s4 wr=>∃i a:Nat,s4= .int .i64 i∧s3= .int .i64 a∧Hid (a=saidM l i)∧i≤4∧4 - i<gk∧w=wr)
 case atStart=>exact⟨0,0,rfl,rfl,hs0,by omega,by omega,rfl⟩
 case round=>
  obtain⟨i,a,rfl,rfl,ha,hi,hk,rfl⟩:=hrel;have hal:a<4294967296:=by rw [ha.o];exact hlt.o i hi
  by_cases hi4:i<4
  ·have hlt':(i:Int)<4:=by omega
   obtain⟨b,o,rfl,_,hc⟩:=hh.o.at (show i<n by omega);have hs:=zh (hst.o i);have hb:=(l.getD i 0).toNat_lt;obtain⟨x,hx⟩:∃z,Hid ((l.getD i 0).toNat=z):=⟨_,zh rfl⟩
   rw [hx.o]at hc hs hb;have hin:i<n:=by omega
   have hih:=zh hi4;clear hi4;go_wp2_with fail
   go_roundg (4 - i)
   case measure=>have:=hih.o;omega
   case rel=>exact⟨i+1,256*a+x,by go_num,by go_num,zh (by rw [hs.o,←ha.o]),by have:=hih.o;omega,by have:=hih.o;omega,rfl⟩
  ·have hge:¬(i:Int)<4:=by omega
   have hv:=zh (show a=R by rw [ha.o,show i=4 by omega,h4h.o]);clear hi4;go_wp2_with fail
   go_ret;exact⟨by rw [hv.o];rfl,rfl⟩
def ROpenPost (w:World) (s:List UInt8) (e:Ending) (w':World):Prop:=
 Fr [] w w'∧(((openR s).2=0∧∃A N c,e= .returned (.tuple #[rdV A N c 0 0,.int .i64 0])∧Byts w' A N (openR s).1∧N≤c∧N≤1000000)∨((openR s).2≠0∧e= .returned (.tuple #[rdV none 0 0 0 0,.int .i64 (openR s).2])))
theorem ropen_no {w w':World}{s:List UInt8}{k:Int}(hF:Fr [] w w') (h:(openR s).2=k) (hk:k≠0):ROpenPost w s (.returned (.tuple #[rdV none 0 0 0 0,.int .i64 k])) w':=⟨hF,.inr ⟨by rw [h];exact hk,by rw [h]⟩⟩
set_option maxRecDepth 100000 in
set_option maxHeartbeats 8000000 in
theorem ropen08_t (w:World) (A:Option Addr) (n c:Nat) (s:List UInt8) (h:Byts w A n s) (hc:n≤c) (hmax:n≤1000000):Calls Tryz.prog 56 #[.slice A n c] w (ROpenPost w s):=by
 have hsl:s.length=n:=h.length;have hh:=zh h;go_enter Tryz.func56,Tryz.ntmps56;go_upto_region 1 with(fail)
 refine wp_gen (fun W=>Blk W w.heap.size 113 zRd∧Fr [] w W) ⟨Blk.new _ _ _,(Fr.refl _ _).alloc _⟩ ?_;rintro W ⟨hB,hF⟩;obtain⟨g,HG⟩:∃z,Hid (w.heap.size=z):=⟨_,zh rfl⟩
 rw [HG.o]at hB⊢;obtain⟨e0,e1,e2,hgl,z5⟩:=rd_cells hB;have hBh:=zh hB;have hFh:=zh hF;have hhW:=zh (h.fr hF (by simp [Off]));clear hB hF;by_cases h8:n<8
 ·have hv:=zh (show(openR s).2=4 by unfold openR;rw [if_pos (by omega)]);have t1:decide ((n:Int)<8)=true:=decide_eq_true (by omega);clear h hc hmax hsl h8;go_wp2_with fail
  refine bodyPost_ret (v:= .tuple #[rdV none 0 0 0 0,.int .i64 4]) (results_ct (p:=2) (q:=3) rfl _ _ g 113 (rdC none 0 0 0 0) (0,0) _ rfl (rd_set0 hBh.o) uRd rfl (infoRd _ _ _ _ _) rfl) rfl ?_;exact ropen_no (rd_fr0 hFh.o (by have:=HG.o;omega)) hv.o (by decide)
 ·obtain⟨b,o,rfl,hcc⟩:=hhW.o.2 (by omega);have hw:=rsaid08_t W (some ⟨b,o,none⟩) n c s hhW.o (by omega);have t1:decide ((n:Int)<8)=false:=decide_eq_false (by omega);have h8h:=zh h8;obtain⟨A2,hA2⟩:∃z,Hid ((if c=8 then some (⟨b,o,none⟩:Addr)else some ⟨b,o+8,none⟩)=z):=⟨_,zh rfl⟩
  have hB2w:=zh (show Byts w A2 (n - 8) (s.drop 8) by
   have h2:=byts_slice (i:=8) hh.o (by omega) hc;rwa [hA2.o]at h2)
  have hB2:Byts W A2 (n - 8) (s.drop 8):=hB2w.o.fr hFh.o (by simp [Off]);have hB4:Byts W (some ⟨b,o+4,none⟩) (n - 4) (s.drop 4):=by have h2:=byts_slice (i:=4) hhW.o (by omega) hc;rwa [if_neg (by omega)]at h2
  obtain⟨N,hN⟩:∃z,Hid (num4 s=z):=⟨_,zh rfl⟩
  have hN4:N<4294967296:=by rw [←hN.o];exact num4_lt s
  rw [hN.o]at hw;have hB2h:=zh hB2;have hop:openR s=if 65536<N then([],2)else if n - 8<N then([],4)else if N<n - 8 then([],3)else if(crcM (s.drop 8)).toNat≠num4 (s.drop 4)then([],5)else(s.drop 8,0):=by unfold openR;rw [if_neg (by omega),hsl,hN.o]
  have hoph:=zh hop;have hsz:=zh (And.intro hc hmax);have hcr:=rsum02_t W A2 (n - 8) (c - 8) (s.drop 8) hB2 (by omega);have hwd:=rsaid08_t W (some ⟨b,o+4,none⟩) (n - 4) (c - 4) (s.drop 4) hB4 (by omega);have hNR:=num4_lt (s.drop 4);have hCRl:=(crcM (s.drop 8)).toNat_lt;obtain⟨CR,hCR⟩:∃z,Hid ((crcM (s.drop 8)).toNat=z):=⟨_,zh rfl⟩
  obtain⟨NR,hNRe⟩:∃z,Hid (num4 (s.drop 4)=z):=⟨_,zh rfl⟩
  rw [hCR.o]at hcr hCRl;rw [hNRe.o]at hwd hNR;clear hB2 hB4 hcc hop h;go_upto_region 5 with(go_at_call 110;refine hw.mono ?_;rintro e V ⟨rfl,rfl⟩)
  rw [hA2.o];clear hw;by_cases q1:65536<N
  ·have hv:=zh (show(openR s).2=2 by rw [hoph.o,if_pos q1]);have t2:decide (65536<(N:Int))=true:=decide_eq_true (by omega);clear q1;go_wp2_with fail
   refine bodyPost_ret (v:= .tuple #[rdV none 0 0 0 0,.int .i64 2]) (results_ct (p:=2) (q:=3) rfl _ _ g 113 (rdC none 0 0 0 0) (0,0) _ rfl (rd_set0 hBh.o) uRd rfl (infoRd _ _ _ _ _) rfl) rfl ?_;exact ropen_no (rd_fr0 hFh.o (by have:=HG.o;omega)) hv.o (by decide)
  ·have t2:decide (65536<(N:Int))=false:=decide_eq_false (by omega);by_cases q2:n - 8<N
   ·have hv:=zh (show(openR s).2=4 by rw [hoph.o,if_neg q1,if_pos q2]);have t3:decide (n - 8<N)=true:=decide_eq_true q2;clear q1 q2;go_wp2_with fail
    refine bodyPost_ret (v:= .tuple #[rdV none 0 0 0 0,.int .i64 4]) (results_ct (p:=2) (q:=3) rfl _ _ g 113 (rdC none 0 0 0 0) (0,0) _ rfl (rd_set0 hBh.o) uRd rfl (infoRd _ _ _ _ _) rfl) rfl ?_;exact ropen_no (rd_fr0 hFh.o (by have:=HG.o;omega)) hv.o (by decide)
   ·have t3:decide (n - 8<N)=false:=decide_eq_false q2;by_cases q3:N<n - 8
    ·have hv:=zh (show(openR s).2=3 by rw [hoph.o,if_neg q1,if_neg q2,if_pos q3]);have t4:decide (N<n - 8)=true:=decide_eq_true q3;clear q1 q2 q3;go_wp2_with fail
     refine bodyPost_ret (v:= .tuple #[rdV none 0 0 0 0,.int .i64 3]) (results_ct (p:=2) (q:=3) rfl _ _ g 113 (rdC none 0 0 0 0) (0,0) _ rfl (rd_set0 hBh.o) uRd rfl (infoRd _ _ _ _ _) rfl) rfl ?_;exact ropen_no (rd_fr0 hFh.o (by have:=HG.o;omega)) hv.o (by decide)
    ·have t4:decide (N<n - 8)=false:=decide_eq_false q3;have hop2:openR s=if(crcM (s.drop 8)).toNat≠num4 (s.drop 4)then([],5)else(s.drop 8,0):=by rw [hoph.o,if_neg q1,if_neg q2,if_neg q3]
     have hop2h:=zh hop2;have h4i:(4:Int)≤(n:Int):=by omega
     clear q1 q2 q3 hop2;by_cases q5:CR=NR
     ·have hv:=zh (show openR s=(s.drop 8,0) by rw [hop2h.o,hCR.o,hNRe.o,if_neg (fun h=>h q5)]);have t5:((NR:Int) !=(CR:Int))=false:=by rw [q5];simp
      clear q5;go_upto_region 13 with(first | (go_at_call 110;refine hwd.mono ?_;rintro e V ⟨rfl,rfl⟩) | (go_at_call 111;refine hcr.mono ?_;rintro e V ⟨rfl,rfl⟩))
      go_wp2_with fail
      refine bodyPost_ret (v:= .tuple #[rdV A2 (n - 8) (c - 8) 0 0,.int .i64 0]) (results_ct (p:=2) (q:=3) rfl _ _ g 113 (rdC A2 (n - 8) (c - 8) 0 0) (0,0) _ rfl (rd_set0 hBh.o) uRd rfl (infoRd _ _ _ _ _) rfl) rfl ?_;have hf:Fr [] w (((W.setCell ⟨g,0,none⟩ (.slice A2 (n - 8) (c - 8))).setCell ⟨g,1,none⟩ (.int .i64 (0:Nat))).setCell ⟨g,2,none⟩ (.int .i64 0)):=rd_fr0 hFh.o (by have:=HG.o;omega);have hl1:(openR s).1=s.drop 8:=by rw [hv.o]
      exact⟨hf,.inl ⟨by rw [hv.o],A2,n - 8,c - 8,rfl,by rw [hl1];exact hB2w.o.fr hf (by simp [Off]),by omega,by omega⟩⟩
     ·have hv:=zh (show(openR s).2=5 by rw [hop2h.o,hCR.o,hNRe.o,if_pos q5]);have t5:((NR:Int) !=(CR:Int))=true:=by simp;omega
      clear q5;go_wp2_with (first | (go_at_call 110;refine hwd.mono ?_;rintro e V ⟨rfl,rfl⟩) | (go_at_call 111;refine hcr.mono ?_;rintro e V ⟨rfl,rfl⟩))
      refine bodyPost_ret (v:= .tuple #[rdV none 0 0 0 0,.int .i64 5]) (results_ct (p:=2) (q:=3) rfl _ _ g 113 (rdC none 0 0 0 0) (0,0) _ rfl (rd_set0 hBh.o) uRd rfl (infoRd _ _ _ _ _) rfl) rfl ?_;exact ropen_no (rd_fr0 hFh.o (by have:=HG.o;omega)) hv.o (by decide)
end Go.Proofs.YtpmgepijkhaonaaGreat
namespace Go.Proofs.YtpmgepijkhaonaaGreat
open Go.RowKit Go.Sig
def putC (k n:Int) (s:ByteArray) (A:Option Addr) (m c:Nat):Array Value:=#[.int .i64 k,.int .i64 n,.string s,.slice A m c]
theorem uPut:Tryz.prog.underlying 95=some (.struct (Tryz.prog.fieldsOf 95)):=by kernel_rfl
theorem infoPut (k n:Int) (s:ByteArray) (A:Option Addr) (m c:Nat):(Tryz.prog.info? 95).map (·.size)=some (putC k n s A m c).size:=by kernel_rfl
theorem put_cells {w:World}{g:Nat}{t:TypeId}{k n:Int}{s:ByteArray}{A:Option Addr}{m c:Nat}(h:Blk w g t (putC k n s A m c)):w.cell? ⟨g,0,none⟩=some (.int .i64 k)∧w.cell? ⟨g,1,none⟩=some (.int .i64 n)∧w.cell? ⟨g,2,none⟩=some (.string s)∧w.cell? ⟨g,3,none⟩=some (.slice A m c)∧g<w.heap.size∧(∀i,w.frozen? ⟨g,i,none⟩=false):=⟨h.cell 0,h.cell 1,h.cell 2,h.cell 3,h.lt,h.frozen⟩
def RrPost (w:World) (bs:List UInt8) (A:Option Addr) (N c:Nat) (cs:Array Value) (r:RdS) (e:Ending) (w':World):Prop:=∃p bad,e= .returned (.tuple #[.agg cs,rdV A N c p bad])∧RdIs bs N p bad r∧Fr [] w w'
structure RrSt (w:World) (g:Nat) (A:Option Addr) (N c q:Nat) (bd k n:Int) (s:ByteArray) (L:Option Addr) (m d:Nat) (U:World):Prop where
 rd:Blk U g 113 (rdC A N c q bd)
 rp:Blk U (g+1) 95 (putC 0 0 ⟨#[]⟩ none 0 0)
 rr:Blk U (g+2) 113 zRd
 px:Blk U (g+3) 95 (putC k n s L m d)
 fr:Fr [] w U
 hg:w.heap.size≤g
section
variable {w U V:World}{g N c q m d:Nat}{A L:Option Addr}{bd k n:Int}{s:ByteArray}
theorem RrSt.cells (h:RrSt w g A N c q bd k n s L m d U):U.cell? ⟨g,0,none⟩=some (.slice A N c)∧U.cell? ⟨g,1,none⟩=some (.int .i64 q)∧U.cell? ⟨g,2,none⟩=some (.int .i64 bd)∧g<U.heap.size∧(∀i,U.frozen? ⟨g,i,none⟩=false)∧
  U.cell? ⟨g+3,0,none⟩=some (.int .i64 k)∧U.cell? ⟨g+3,1,none⟩=some (.int .i64 n)∧U.cell? ⟨g+3,2,none⟩=some (.string s)∧U.cell? ⟨g+3,3,none⟩=some (.slice L m d)∧g+3<U.heap.size∧(∀i,U.frozen? ⟨g+3,i,none⟩=false):=
 ⟨h.rd.cell 0,h.rd.cell 1,h.rd.cell 2,h.rd.lt,h.rd.frozen,h.px.cell 0,h.px.cell 1,h.px.cell 2,h.px.cell 3,h.px.lt,h.px.frozen⟩
theorem RrSt.outs (h:RrSt w g A N c q bd k n s L m d U):U.cell? ⟨g+1,0,none⟩=some (.int .i64 0)∧U.cell? ⟨g+1,1,none⟩=some (.int .i64 0)∧U.cell? ⟨g+1,2,none⟩=some (.string ⟨#[]⟩)∧U.cell? ⟨g+1,3,none⟩=some (.slice none 0 0)∧g+1<U.heap.size∧(∀i,U.frozen? ⟨g+1,i,none⟩=false)∧
  U.cell? ⟨g+2,0,none⟩=some (.slice none 0 0)∧U.cell? ⟨g+2,1,none⟩=some (.int .i64 0)∧U.cell? ⟨g+2,2,none⟩=some (.int .i64 0)∧g+2<U.heap.size∧(∀i,U.frozen? ⟨g+2,i,none⟩=false):=
 ⟨h.rp.cell 0,h.rp.cell 1,h.rp.cell 2,h.rp.cell 3,h.rp.lt,h.rp.frozen,h.rr.cell 0,h.rr.cell 1,h.rr.cell 2,h.rr.lt,h.rr.frozen⟩
theorem RrSt.fr0 (h:RrSt w g A N c q bd k n s L m d U) (hF:Fr [] U V):RrSt w g A N c q bd k n s L m d V:=⟨h.rd.fr hF (by simp),h.rp.fr hF (by simp),h.rr.fr hF (by simp),h.px.fr hF (by simp),h.fr.trans hF,h.hg⟩
theorem RrSt.lay (h:RrSt w g A N c q bd k n s L m d U) (q2:Nat) (b2:Int):RrSt w g A N c q2 b2 k n s L m d (((U.setCell ⟨g,0,none⟩ (.slice A N c)).setCell ⟨g,1,none⟩ (.int .i64 q2)).setCell ⟨g,2,none⟩ (.int .i64 b2)):=
 ⟨rd_set0 h.rd,((h.rp.far (by simp) _).far (by simp) _).far (by simp) _,((h.rr.far (by simp) _).far (by simp) _).far (by simp) _,((h.px.far (by simp) _).far (by simp) _).far (by simp) _,rd_fr0 h.fr h.hg,h.hg⟩
theorem RrSt.text (h:RrSt w g A N c q bd k n s L m d U) (s2:ByteArray):RrSt w g A N c q bd k n s2 L m d (U.setCell ⟨g+3,2,none⟩ (.string s2)):=
 ⟨h.rd.far (by simp) _,h.rp.far (by simp) _,h.rr.far (by simp) _,by have k:=h.px.set 2 (.string s2);simpa [putC]using k,h.fr.setCell (p:=⟨g+3,2,none⟩) (.inr (by have:=h.hg;simp;omega)) _,h.hg⟩
theorem RrSt.num (h:RrSt w g A N c q bd k n s L m d U) (n2:Int):RrSt w g A N c q bd k n2 s L m d (U.setCell ⟨g+3,1,none⟩ (.int .i64 n2)):=
 ⟨h.rd.far (by simp) _,h.rp.far (by simp) _,h.rr.far (by simp) _,by have k:=h.px.set 1 (.int .i64 n2);simpa [putC]using k,h.fr.setCell (p:=⟨g+3,1,none⟩) (.inr (by have:=h.hg;simp;omega)) _,h.hg⟩
theorem RrSt.list (h:RrSt w g A N c q bd k n s L m d U) (L2:Option Addr) (m2 d2:Nat):RrSt w g A N c q bd k n s L2 m2 d2 (U.setCell ⟨g+3,3,none⟩ (.slice L2 m2 d2)):=
 ⟨h.rd.far (by simp) _,h.rp.far (by simp) _,h.rr.far (by simp) _,by have k:=h.px.set 3 (.slice L2 m2 d2);simpa [putC]using k,h.fr.setCell (p:=⟨g+3,3,none⟩) (.inr (by have:=h.hg;simp;omega)) _,h.hg⟩
end
theorem RrSt.frS {w U V:World}{g N c q m d:Nat}{A L:Option Addr}{bd k n:Int}{s:ByteArray}{S:List Nat}(h:RrSt w g A N c q bd k n s L m d U) (hF:Fr S U V) (hS:∀x∈S,g+4≤x):RrSt w g A N c q bd k n s L m d V:=by
 have hn:∀j,j<4→g+j∉S:=fun j hj hm=>by have:=hS _ hm;omega
 exact⟨h.rd.fr hF (hn 0 (by decide)),h.rp.fr hF (hn 1 (by decide)),h.rr.fr hF (hn 2 (by decide)),h.px.fr hF (hn 3 (by decide)),h.fr.andThen hF (fun x hx=> .inr (by have:=hS x hx;have:=h.hg;omega)),h.hg⟩
theorem RrSt.fin {w U:World}{g N c q m d:Nat}{A L:Option Addr}{bd k n:Int}{s:ByteArray}(h:RrSt w g A N c q bd k n s L m d U):
  Blk (((((((U.setCell ⟨g+1,0,none⟩ (.int .i64 k)).setCell ⟨g+1,1,none⟩ (.int .i64 n)).setCell ⟨g+1,2,none⟩ (.string s)).setCell ⟨g+1,3,none⟩ (.slice L m d)).setCell ⟨g+1+1,0,none⟩ (.slice A N c)).setCell ⟨g+1+1,1,none⟩ (.int .i64 q)).setCell ⟨g+1+1,2,none⟩ (.int .i64 bd)).drew (g+1) 95 (putC k n s L m d)∧
  Blk (((((((U.setCell ⟨g+1,0,none⟩ (.int .i64 k)).setCell ⟨g+1,1,none⟩ (.int .i64 n)).setCell ⟨g+1,2,none⟩ (.string s)).setCell ⟨g+1,3,none⟩ (.slice L m d)).setCell ⟨g+1+1,0,none⟩ (.slice A N c)).setCell ⟨g+1+1,1,none⟩ (.int .i64 q)).setCell ⟨g+1+1,2,none⟩ (.int .i64 bd)).drew (g+2) 113 (rdC A N c q bd)∧
  Fr [] w (((((((U.setCell ⟨g+1,0,none⟩ (.int .i64 k)).setCell ⟨g+1,1,none⟩ (.int .i64 n)).setCell ⟨g+1,2,none⟩ (.string s)).setCell ⟨g+1,3,none⟩ (.slice L m d)).setCell ⟨g+1+1,0,none⟩ (.slice A N c)).setCell ⟨g+1+1,1,none⟩ (.int .i64 q)).setCell ⟨g+1+1,2,none⟩ (.int .i64 bd)).drew:=by
 have hg:=h.hg;have a1:Blk ((((U.setCell ⟨g+1,0,none⟩ (.int .i64 k)).setCell ⟨g+1,1,none⟩ (.int .i64 n)).setCell ⟨g+1,2,none⟩ (.string s)).setCell ⟨g+1,3,none⟩ (.slice L m d)) (g+1) 95 (putC k n s L m d):=by have e:=(((h.rp.set 0 (.int .i64 k)).set 1 (.int .i64 n)).set 2 (.string s)).set 3 (.slice L m d);simpa [putC]using e
 have a2:Blk ((((U.setCell ⟨g+1,0,none⟩ (.int .i64 k)).setCell ⟨g+1,1,none⟩ (.int .i64 n)).setCell ⟨g+1,2,none⟩ (.string s)).setCell ⟨g+1,3,none⟩ (.slice L m d)) (g+2) 113 zRd:=(((h.rr.far (by simp) _).far (by simp) _).far (by simp) _).far (by simp) _;have a3:Fr [] w ((((U.setCell ⟨g+1,0,none⟩ (.int .i64 k)).setCell ⟨g+1,1,none⟩ (.int .i64 n)).setCell ⟨g+1,2,none⟩ (.string s)).setCell ⟨g+1,3,none⟩ (.slice L m d)):=
  (((h.fr.setCell (p:=⟨g+1,0,none⟩) (.inr (by simp;omega)) _).setCell (p:=⟨g+1,1,none⟩) (.inr (by simp;omega)) _).setCell (p:=⟨g+1,2,none⟩) (.inr (by simp;omega)) _).setCell (p:=⟨g+1,3,none⟩) (.inr (by simp;omega)) _
 exact⟨(((a1.far (by simp) _).far (by simp) _).far (by simp) _).drew,rd_set a2,rd_fr a3 (by omega)⟩
theorem results_ccO {P:Program}{fn:Func}{p q:Tmp}{ty tz:TypeId}(h:fn.results=#[.cell p ty,.cell q tz]) (tmps:Array Value) (w:World) (g g2:Nat) (t t2:TypeId) (cs cs2:Array Value) (d d2:TypeDesc)
  (hp:tmps.getD p undef= .pointer (some ⟨g,0,none⟩)) (hg:Blk w g t cs) (hu:P.underlying ty=some d) (hd:(match d with | .struct _ | .array _ _=>true |_=>false)=true) (hi:(P.info? ty).map (·.size)=some cs.size)
  (hp2:tmps.getD q undef= .pointer (some ⟨g2,0,none⟩)) (hg2:Blk w g2 t2 cs2) (hu2:P.underlying tz=some d2) (hd2:(match d2 with | .struct _ | .array _ _=>true |_=>false)=true) (hi2:(P.info? tz).map (·.size)=some cs2.size):
  (results fn tmps).run P w= .ok (.tuple #[.agg cs,.agg cs2]) w:=by
 have hp':tmps[p]?.getD undef= .pointer (some ⟨g,0,none⟩):=by simpa using hp
 have hp2':tmps[q]?.getD undef= .pointer (some ⟨g2,0,none⟩):=by simpa using hp2
 simp [results,h,hp',hp2',asAddr,run_loadVar_row w g t ty cs (0,0) d hg hu hd hi,run_loadVar_row w g2 t2 tz cs2 (0,0) d2 hg2 hu2 hd2 hi2]
set_option maxRecDepth 100000 in
set_option maxHeartbeats 4000000 in
theorem rread1_t (w:World) (A:Option Addr) (N c p:Nat) (bs:List UInt8) (bad:Int) (r:RdS) (hb:Byts w A N bs) (hN:N≤1000000) (hc:N≤c) (hr:RdIs bs N p bad r):
  Calls Tryz.prog 112 #[rdV A N c p bad,.int .i64 1] w (RrPost w bs A N c (putC 1 0 (textR r).1 none 0 0) (textR r).2):=by
 have hcall:=zh (fun(V:World) (hF:Fr [] w V)=>rword08_t V A N c p bs bad r (hb.fr hF (by simp [Off])) hN hc hr);obtain⟨⟨v,r1⟩,hq⟩:∃z,Hid (textR r=z):=⟨_,zh rfl⟩
 rw [hq.o]at hcall⊢;simp only at hcall⊢;have hbh:=zh hb;have hrh:=zh hr;clear hb hr;unfold rdV rdC;go_enter Tryz.func112,Tryz.ntmps112;go_upto_region 2 with(fail)
 refine wp_gen (fun W=>RrSt w w.heap.size A N c p bad 1 0 ⟨#[]⟩ none 0 0 W) ⟨(((Blk.new _ _ _).alloc _).alloc _).alloc _,((Blk.new' _ _ (by simp)).alloc _).alloc _,(Blk.new' _ _ (by simp)).alloc _,Blk.new' _ _ (by simp),(((((Fr.refl _ _).alloc _).alloc _).alloc _).alloc _),Nat.le_refl _⟩ ?_;rintro W hS;obtain⟨g,HG⟩:∃z,Hid (w.heap.size=z):=⟨_,zh rfl⟩
 rw [HG.o]at hS⊢;have hSh:=zh hS;obtain⟨c0,c1,c2,hgl,z2,x0,x1,x2,x3,hxl,zx⟩:=hS.cells;clear hS;have hn:=hcall.o W hSh.o.fr;unfold rdV rdC at hn;go_upto_region 27 with(go_at_call 161;refine hn.mono ?_;rintro e V ⟨q,bd,rfl,hR,F⟩;have hRh:=zh hR;have hSV:=zh (hSh.o.fr0 F);clear hR F c0 c1 c2 hgl z2 x0 x1 x2 x3 hxl zx;obtain⟨c0,c1,c2,hgl,z2,x0,x1,x2,x3,hxl,zx⟩:=hSV.o.cells;unfold rdV rdC)
 refine wp_gen (fun U=>RrSt w g A N c q bd 1 0 v none 0 0 U) ((hSV.o.text v).lay q bd) ?_;rintro U hS;clear c0 c1 c2 hgl z2 x0 x1 x2 x3 hxl zx;obtain⟨c0,c1,c2,hgl,z2,x0,x1,x2,x3,hxl,zx⟩:=hS.cells;obtain⟨p0,p1,p2,p3,hpl,zp,r0,r1,r2,hrl,zr⟩:=hS.outs;have hSU:=zh hS;clear hS;go_region
 go_wp2_with fail
 refine bodyPost_ret (v:= .tuple #[.agg (putC 1 0 v none 0 0),rdV A N c q bd]) (results_ccO (p:=4) (q:=5) rfl _ _ (g+1) (g+2) 95 113 _ (rdC A N c q bd) _ _ rfl hSU.o.fin.1 uPut rfl (infoPut _ _ _ _ _ _) rfl hSU.o.fin.2.1 uRd rfl (infoRd _ _ _ _ _)) rfl ?_;exact⟨q,bd,rfl,hRh.o,hSU.o.fin.2.2⟩
set_option maxRecDepth 100000 in
set_option maxHeartbeats 4000000 in
theorem rread2_t (w:World) (A:Option Addr) (N c p:Nat) (bs:List UInt8) (bad:Int) (r:RdS) (hb:Byts w A N bs) (hN:N≤1000000) (_hc:N≤c) (hr:RdIs bs N p bad r):
  Calls Tryz.prog 112 #[rdV A N c p bad,.int .i64 2] w (RrPost w bs A N c (putC 2 ((numR 1 r).1:Nat) ⟨#[]⟩ none 0 0) (numR 1 r).2):=by
 have hcall:=zh (fun(V:World) (hF:Fr [] w V)=>rnum08_t V A N c p bs bad r 1 (by decide) (hb.fr hF (by simp [Off])) hN hr);have hle:=numR_le (most:=1) r;obtain⟨⟨v,r1⟩,hq⟩:∃z,Hid (numR 1 r=z):=⟨_,zh rfl⟩
 rw [hq.o]at hcall hle⊢;simp only at hcall hle⊢;have hbh:=zh hb;have hrh:=zh hr;clear hb hr;unfold rdV rdC;go_enter Tryz.func112,Tryz.ntmps112;go_upto_region 2 with(fail)
 refine wp_gen (fun W=>RrSt w w.heap.size A N c p bad 2 0 ⟨#[]⟩ none 0 0 W) ⟨(((Blk.new _ _ _).alloc _).alloc _).alloc _,((Blk.new' _ _ (by simp)).alloc _).alloc _,(Blk.new' _ _ (by simp)).alloc _,Blk.new' _ _ (by simp),(((((Fr.refl _ _).alloc _).alloc _).alloc _).alloc _),Nat.le_refl _⟩ ?_;rintro W hS;obtain⟨g,HG⟩:∃z,Hid (w.heap.size=z):=⟨_,zh rfl⟩
 rw [HG.o]at hS⊢;have hSh:=zh hS;obtain⟨c0,c1,c2,hgl,z2,x0,x1,x2,x3,hxl,zx⟩:=hS.cells;clear hS;have hn:=hcall.o W hSh.o.fr;unfold rdV rdC at hn;go_upto_region 27 with(go_at_call 160;refine hn.mono ?_;rintro e V ⟨q,bd,rfl,hR,F⟩;have hRh:=zh hR;have hSV:=zh (hSh.o.fr0 F);clear hR F c0 c1 c2 hgl z2 x0 x1 x2 x3 hxl zx;obtain⟨c0,c1,c2,hgl,z2,x0,x1,x2,x3,hxl,zx⟩:=hSV.o.cells;unfold rdV rdC)
 refine wp_gen (fun U=>RrSt w g A N c q bd 2 v ⟨#[]⟩ none 0 0 U) ((hSV.o.lay q bd).num v) ?_;rintro U hS;clear c0 c1 c2 hgl z2 x0 x1 x2 x3 hxl zx;obtain⟨c0,c1,c2,hgl,z2,x0,x1,x2,x3,hxl,zx⟩:=hS.cells;obtain⟨p0,p1,p2,p3,hpl,zp,r0,r1,r2,hrl,zr⟩:=hS.outs;have hSU:=zh hS;clear hS;go_region
 go_wp2_with fail
 refine bodyPost_ret (v:= .tuple #[.agg (putC 2 v ⟨#[]⟩ none 0 0),rdV A N c q bd]) (results_ccO (p:=4) (q:=5) rfl _ _ (g+1) (g+2) 95 113 _ (rdC A N c q bd) _ _ rfl hSU.o.fin.1 uPut rfl (infoPut _ _ _ _ _ _) rfl hSU.o.fin.2.1 uRd rfl (infoRd _ _ _ _ _)) rfl ?_;exact⟨q,bd,rfl,hRh.o,hSU.o.fin.2.2⟩
set_option maxRecDepth 100000 in
set_option maxHeartbeats 4000000 in
theorem rread3_t (w:World) (A:Option Addr) (N c p:Nat) (bs:List UInt8) (bad:Int) (r:RdS) (hb:Byts w A N bs) (hN:N≤1000000) (_hc:N≤c) (hr:RdIs bs N p bad r):
  Calls Tryz.prog 112 #[rdV A N c p bad,.int .i64 3] w (RrPost w bs A N c (putC 3 ((numR 4096 r).1:Nat) ⟨#[]⟩ none 0 0) (numR 4096 r).2):=by
 have hcall:=zh (fun(V:World) (hF:Fr [] w V)=>rnum08_t V A N c p bs bad r 4096 (by decide) (hb.fr hF (by simp [Off])) hN hr);have hle:=numR_le (most:=4096) r;obtain⟨⟨v,r1⟩,hq⟩:∃z,Hid (numR 4096 r=z):=⟨_,zh rfl⟩
 rw [hq.o]at hcall hle⊢;simp only at hcall hle⊢;have hbh:=zh hb;have hrh:=zh hr;clear hb hr;unfold rdV rdC;go_enter Tryz.func112,Tryz.ntmps112;go_upto_region 2 with(fail)
 refine wp_gen (fun W=>RrSt w w.heap.size A N c p bad 3 0 ⟨#[]⟩ none 0 0 W) ⟨(((Blk.new _ _ _).alloc _).alloc _).alloc _,((Blk.new' _ _ (by simp)).alloc _).alloc _,(Blk.new' _ _ (by simp)).alloc _,Blk.new' _ _ (by simp),(((((Fr.refl _ _).alloc _).alloc _).alloc _).alloc _),Nat.le_refl _⟩ ?_;rintro W hS;obtain⟨g,HG⟩:∃z,Hid (w.heap.size=z):=⟨_,zh rfl⟩
 rw [HG.o]at hS⊢;have hSh:=zh hS;obtain⟨c0,c1,c2,hgl,z2,x0,x1,x2,x3,hxl,zx⟩:=hS.cells;clear hS;have hn:=hcall.o W hSh.o.fr;unfold rdV rdC at hn;go_upto_region 27 with(go_at_call 160;refine hn.mono ?_;rintro e V ⟨q,bd,rfl,hR,F⟩;have hRh:=zh hR;have hSV:=zh (hSh.o.fr0 F);clear hR F c0 c1 c2 hgl z2 x0 x1 x2 x3 hxl zx;obtain⟨c0,c1,c2,hgl,z2,x0,x1,x2,x3,hxl,zx⟩:=hSV.o.cells;unfold rdV rdC)
 refine wp_gen (fun U=>RrSt w g A N c q bd 3 v ⟨#[]⟩ none 0 0 U) ((hSV.o.lay q bd).num v) ?_;rintro U hS;clear c0 c1 c2 hgl z2 x0 x1 x2 x3 hxl zx;obtain⟨c0,c1,c2,hgl,z2,x0,x1,x2,x3,hxl,zx⟩:=hS.cells;obtain⟨p0,p1,p2,p3,hpl,zp,r0,r1,r2,hrl,zr⟩:=hS.outs;have hSU:=zh hS;clear hS;go_region
 go_wp2_with fail
 refine bodyPost_ret (v:= .tuple #[.agg (putC 3 v ⟨#[]⟩ none 0 0),rdV A N c q bd]) (results_ccO (p:=4) (q:=5) rfl _ _ (g+1) (g+2) 95 113 _ (rdC A N c q bd) _ _ rfl hSU.o.fin.1 uPut rfl (infoPut _ _ _ _ _ _) rfl hSU.o.fin.2.1 uRd rfl (infoRd _ _ _ _ _)) rfl ?_;exact⟨q,bd,rfl,hRh.o,hSU.o.fin.2.2⟩
set_option maxRecDepth 100000 in
set_option maxHeartbeats 4000000 in
theorem rread0_t (w:World) (A:Option Addr) (N c p:Nat) (bs:List UInt8) (bad:Int) (r:RdS) (hb:Byts w A N bs) (hN:N≤1000000) (_hc:N≤c) (hr:RdIs bs N p bad r):
  Calls Tryz.prog 112 #[rdV A N c p bad,.int .i64 0] w (RrPost w bs A N c (putC 0 (intR r).1 ⟨#[]⟩ none 0 0) (intR r).2):=by
 have hcall:=zh (fun(V:World) (hF:Fr [] w V)=>rnum08_t V A N c p bs bad r 18446744073709551615 (by decide) (hb.fr hF (by simp [Off])) hN hr);have hle:=numR_le (most:=18446744073709551615) r;unfold intR;obtain⟨⟨v,r1⟩,hq⟩:∃z,Hid (numR 18446744073709551615 r=z):=⟨_,zh rfl⟩
 rw [hq.o]at hcall hle⊢;simp only at hcall hle⊢;have hbh:=zh hb;have hrh:=zh hr;clear hb hr;unfold rdV rdC;go_enter Tryz.func112,Tryz.ntmps112;go_upto_region 2 with(fail)
 refine wp_gen (fun W=>RrSt w w.heap.size A N c p bad 0 0 ⟨#[]⟩ none 0 0 W) ⟨(((Blk.new _ _ _).alloc _).alloc _).alloc _,((Blk.new' _ _ (by simp)).alloc _).alloc _,(Blk.new' _ _ (by simp)).alloc _,Blk.new' _ _ (by simp),(((((Fr.refl _ _).alloc _).alloc _).alloc _).alloc _),Nat.le_refl _⟩ ?_;rintro W hS;obtain⟨g,HG⟩:∃z,Hid (w.heap.size=z):=⟨_,zh rfl⟩
 rw [HG.o]at hS⊢;have hSh:=zh hS;obtain⟨c0,c1,c2,hgl,z2,x0,x1,x2,x3,hxl,zx⟩:=hS.cells;clear hS;have hn:=hcall.o W hSh.o.fr;unfold rdV rdC at hn;by_cases hm:v%2=1
 ·have hz:=zh (show zag v= -((v / 2:Nat):Int) - 1 by unfold zag;rw [if_pos hm]);have hmt:((v:Int)%2==1)=true:=by rw [beq_iff_eq];omega
  clear hm;go_upto_region 27 with(go_at_call 160;refine hn.mono ?_;rintro e V ⟨q,bd,rfl,hR,F⟩;have hRh:=zh hR;have hSV:=zh (hSh.o.fr0 F);clear hR F c0 c1 c2 hgl z2 x0 x1 x2 x3 hxl zx;obtain⟨c0,c1,c2,hgl,z2,x0,x1,x2,x3,hxl,zx⟩:=hSV.o.cells;unfold rdV rdC)
  refine wp_gen (fun U=>RrSt w g A N c q bd 0 (-((v / 2:Nat):Int) - 1) ⟨#[]⟩ none 0 0 U) ((hSV.o.lay q bd).num _) ?_;rintro U hS;clear c0 c1 c2 hgl z2 x0 x1 x2 x3 hxl zx;obtain⟨c0,c1,c2,hgl,z2,x0,x1,x2,x3,hxl,zx⟩:=hS.cells;obtain⟨p0,p1,p2,p3,hpl,zp,r0,r1,r2,hrl,zr⟩:=hS.outs;have hSU:=zh hS;clear hS;go_region
  go_wp2_with fail
  refine bodyPost_ret (v:= .tuple #[.agg (putC 0 (-((v / 2:Nat):Int) - 1) ⟨#[]⟩ none 0 0),rdV A N c q bd]) (results_ccO (p:=4) (q:=5) rfl _ _ (g+1) (g+2) 95 113 _ (rdC A N c q bd) _ _ rfl hSU.o.fin.1 uPut rfl (infoPut _ _ _ _ _ _) rfl hSU.o.fin.2.1 uRd rfl (infoRd _ _ _ _ _)) rfl ?_;rw [hz.o];exact⟨q,bd,rfl,hRh.o,hSU.o.fin.2.2⟩
 ·have hz:=zh (show zag v=((v / 2:Nat):Int) by unfold zag;rw [if_neg hm]);have hmt:((v:Int)%2==1)=false:=by rw [beq_eq_false_iff_ne];omega
  clear hm;go_upto_region 27 with(go_at_call 160;refine hn.mono ?_;rintro e V ⟨q,bd,rfl,hR,F⟩;have hRh:=zh hR;have hSV:=zh (hSh.o.fr0 F);clear hR F c0 c1 c2 hgl z2 x0 x1 x2 x3 hxl zx;obtain⟨c0,c1,c2,hgl,z2,x0,x1,x2,x3,hxl,zx⟩:=hSV.o.cells;unfold rdV rdC)
  refine wp_gen (fun U=>RrSt w g A N c q bd 0 ((v / 2:Nat):Int) ⟨#[]⟩ none 0 0 U) ((hSV.o.lay q bd).num _) ?_;rintro U hS;clear c0 c1 c2 hgl z2 x0 x1 x2 x3 hxl zx;obtain⟨c0,c1,c2,hgl,z2,x0,x1,x2,x3,hxl,zx⟩:=hS.cells;obtain⟨p0,p1,p2,p3,hpl,zp,r0,r1,r2,hrl,zr⟩:=hS.outs;have hSU:=zh hS;clear hS;go_region
  go_wp2_with fail
  refine bodyPost_ret (v:= .tuple #[.agg (putC 0 ((v / 2:Nat):Int) ⟨#[]⟩ none 0 0),rdV A N c q bd]) (results_ccO (p:=4) (q:=5) rfl _ _ (g+1) (g+2) 95 113 _ (rdC A N c q bd) _ _ rfl hSU.o.fin.1 uPut rfl (infoPut _ _ _ _ _ _) rfl hSU.o.fin.2.1 uRd rfl (infoRd _ _ _ _ _)) rfl ?_;rw [hz.o];exact⟨q,bd,rfl,hRh.o,hSU.o.fin.2.2⟩
def RtPost (w:World) (bs:List UInt8) (A:Option Addr) (N c:Nat) (res:List ByteArray×RdS) (e:Ending) (w':World):Prop:=
 ∃L d p bad,e= .returned (.tuple #[.agg (putC 4 0 ⟨#[]⟩ L res.1.length d),rdV A N c p bad])∧RdIs bs N p bad res.2∧Own w' 9 1 (.slice L res.1.length d) res.1.length (strCells res.1)∧From w.heap.size L∧Fr [] w w'
theorem RrSt.fin2 {w U:World}{g N c q m d:Nat}{A L:Option Addr}{bd k n:Int}{s:ByteArray}(_h:RrSt w g A N c q bd k n s L m d U):
  Fr [g+1,g+2] U (((((((U.setCell ⟨g+1,0,none⟩ (.int .i64 k)).setCell ⟨g+1,1,none⟩ (.int .i64 n)).setCell ⟨g+1,2,none⟩ (.string s)).setCell ⟨g+1,3,none⟩ (.slice L m d)).setCell ⟨g+1+1,0,none⟩ (.slice A N c)).setCell ⟨g+1+1,1,none⟩ (.int .i64 q)).setCell ⟨g+1+1,2,none⟩ (.int .i64 bd)).drew:=by
 have a:=Fr.refl [g+1,g+2] U;exact(((((((a.setCell (p:=⟨g+1,0,none⟩) (.inl (by simp)) _).setCell (p:=⟨g+1,1,none⟩) (.inl (by simp)) _).setCell (p:=⟨g+1,2,none⟩) (.inl (by simp)) _).setCell (p:=⟨g+1,3,none⟩) (.inl (by simp)) _).setCell (p:=⟨g+1+1,0,none⟩) (.inl (by simp)) _).setCell (p:=⟨g+1+1,1,none⟩) (.inl (by simp)) _).setCell (p:=⟨g+1+1,2,none⟩) (.inl (by simp)) _).drew
set_option maxRecDepth 100000 in
set_option maxHeartbeats 4000000 in
theorem rread4_t (w:World) (A:Option Addr) (N c p:Nat) (bs:List UInt8) (bad:Int) (r:RdS) (hb:Byts w A N bs) (hN:N≤1000000) (hc:N≤c) (hr:RdIs bs N p bad r):
  Calls Tryz.prog 112 #[rdV A N c p bad,.int .i64 4] w (RtPost w bs A N c (textsR r)):=by
 have hcall:=zh (fun(V:World) (hF:Fr [] w V)=>rnum08_t V A N c p bs bad r 4096 (by decide) (hb.fr hF (by simp [Off])) hN hr);have hword:=zh (fun(V:World) (hF:Fr [] w V) (q:Nat) (bd:Int) (rs:RdS) (hq:RdIs bs N q bd rs)=>rword08_t V A N c q bs bd rs (hb.fr hF (by simp [Off])) hN hc hq);have hle:=numR_le (most:=4096) r;have hX:textsR r=(if(textsF (numR 4096 r).1 [] (numR 4096 r).2).2.2=0 then(textsF (numR 4096 r).1 [] (numR 4096 r).2).1 else [],(textsF (numR 4096 r).1 [] (numR 4096 r).2).2):=rfl;obtain⟨⟨n,r1⟩,hq⟩:∃z,Hid (numR 4096 r=z):=⟨_,zh rfl⟩
 rw [hq.o]at hcall hle hX;simp only at hcall hle hX;obtain⟨X,hXe⟩:∃z,Hid (textsF n [] r1=z):=⟨_,zh rfl⟩
 rw [hXe.o]at hX;have hXh:=zh hX;clear hX;have hbh:=zh hb;have hrh:=zh hr;clear hb hr;unfold rdV rdC;go_enter Tryz.func112,Tryz.ntmps112;go_upto_region 2 with(fail)
 refine wp_gen (fun W=>RrSt w w.heap.size A N c p bad 4 0 ⟨#[]⟩ none 0 0 W) ⟨(((Blk.new _ _ _).alloc _).alloc _).alloc _,((Blk.new' _ _ (by simp)).alloc _).alloc _,(Blk.new' _ _ (by simp)).alloc _,Blk.new' _ _ (by simp),(((((Fr.refl _ _).alloc _).alloc _).alloc _).alloc _),Nat.le_refl _⟩ ?_;rintro W hS;obtain⟨g,HG⟩:∃z,Hid (w.heap.size=z):=⟨_,zh rfl⟩
 rw [HG.o]at hS⊢;have hSh:=zh hS;obtain⟨c0,c1,c2,hgl,z2,x0,x1,x2,x3,hxl,zx⟩:=hS.cells;clear hS;have hn:=hcall.o W hSh.o.fr;unfold rdV rdC at hn;go_upto_region 19 with(go_at_call 160;refine hn.mono ?_;rintro e V ⟨q,bd,rfl,hR,F⟩;have hRh:=zh hR;have hSV:=zh (hSh.o.fr0 F);clear hR F c0 c1 c2 hgl z2 x0 x1 x2 x3 hxl zx;obtain⟨c0,c1,c2,hgl,z2,x0,x1,x2,x3,hxl,zx⟩:=hSV.o.cells;unfold rdV rdC)
 have hSW:=zh (hSV.o.lay q bd);refine wp_gen (fun U=>RrSt w g A N c q bd 4 0 ⟨#[]⟩ none 0 0 U) hSW.o ?_;rintro U hS;have hSU:=zh hS;clear c0 c1 c2 hgl z2 x0 x1 x2 x3 hxl zx hn hS;have hcc:=zh hc;clear hc;go_wp2_with fail
 go_loopg [8,9] (n+1) (fun gk s8 s9 wr=>∃(i:Nat) (l:List ByteArray) (q:Nat) (bd:Int) (L:Option Addr) (d:Nat) (rs:RdS),s8= .int .i64 i∧Hid (RdIs bs N q bd rs)∧Hid (textsF (n - i) l rs=X)∧i≤n∧n - i<gk∧l.length≤i∧RrSt w g A N c q bd 4 0 ⟨#[]⟩ L l.length d wr∧Hid (Own wr 9 1 (.slice L l.length d) l.length (strCells l))∧Hid (From (g+4) L))
 case atStart=>exact⟨0,[],q,bd,none,0,r1,rfl,hRh,hXe,by omega,by omega,by simp,hSU.o,zh (Own.nil _ _ _),zh (fun ad e=>by cases e)⟩
 case round=>
  obtain⟨i,l,q,bd,L,d,rs,rfl,hR,hXX,hi,hk,hll,hS,hO,hFL⟩:=hrel;obtain⟨c0,c1,c2,hgl,z2,x0,x1,x2,x3,hxl,zx⟩:=hS.cells;have hSh:=zh hS;obtain⟨ln,hln⟩:∃z,Hid (l.length=z):=⟨_,zh rfl⟩
  rw [hln.o]at hO hll x3 hSh;clear hS;have hbd:rs.2=bd:=by rw [←hR.o.eq]
  have hbdh:=zh hbd;clear hbd;by_cases hg:i<n∧bd=0
  ·obtain⟨hin,rfl⟩:=hg;have hwd:=hword.o wr hSh.o.fr q 0 rs hR.o;obtain⟨⟨v,r2⟩,hv⟩:∃z,Hid (textR rs=z):=⟨_,zh rfl⟩
   rw [hv.o]at hwd;simp only at hwd;unfold rdV rdC at hwd;have t1:decide (i<n)=true:=decide_eq_true hin;have hinh:=zh hin;clear hin;go_upto_region 24 with(go_at_call 161;refine hwd.mono ?_;rintro e V ⟨q2,b2,rfl,hR2,F⟩;have hR2h:=zh hR2;have hSV:=zh (hSh.o.fr0 F);have hOV:=zh (hO.o.fr F (by simp));clear hR2 c0 c1 c2 hgl z2 x0 x1 x2 x3 hxl zx;obtain⟨c0,c1,c2,hgl,z2,x0,x1,x2,x3,hxl,zx⟩:=hSV.o.cells;unfold rdV rdC)
   have hOS:=zh (show Own (((V.setCell ⟨g,0,none⟩ (.slice A N c)).setCell ⟨g,1,none⟩ (.int .i64 q2)).setCell ⟨g,2,none⟩ (.int .i64 b2)) 9 1 (.slice L ln d) ln (strCells l)from hOV.o.fr ((((Fr.refl [g] V).setCell (p:=⟨g,0,none⟩) (.inl (by simp)) _).setCell (p:=⟨g,1,none⟩) (.inl (by simp)) _).setCell (p:=⟨g,2,none⟩) (.inl (by simp)) _) (rowOf_off (fun ad e hm=>by have:=hFL.o ad e;simp at hm;omega)));have hSS:=zh (hSV.o.lay q2 b2);refine wp_gen (fun U=>RrSt w g A N c q2 b2 4 0 ⟨#[]⟩ L ln d U∧Own U 9 1 (.slice L ln d) ln (strCells l)) ⟨hSS.o,hOS.o⟩ ?_;rintro U ⟨hSU,hOU⟩;have hSUh:=zh hSU;have hOUh:=zh hOU;clear c0 c1 c2 hgl z2 x0 x1 x2 x3 hxl zx hOS hSS;obtain⟨c0,c1,c2,hgl,z2,x0,x1,x2,x3,hxl,zx⟩:=hSU.cells;clear hSU hOU;have hrow:g+3∉rowOf (.slice L ln d):=fun hm=>by obtain⟨ad,e,h⟩:=rowOf_mem.1 hm;have:=hFL.o ad e;omega
   go_wp2_with (refine wpList_own_append tStrs (hOUh.o.fr ((Fr.refl [] _).alloc _) (by simp)) (str_new _ _ _) (strCells_one _) (by simp) (by unfold maxLen;omega) (by omega) rfl rfl rfl rfl (fun v2 w2 p1 p2 p3=> ?_);obtain⟨A3,c3,rfl,hA3⟩:=p1.form;have hP:=((hSUh.o.fr0 ((Fr.refl [] U).alloc _)).px.fr p2 hrow);have hz3:=hP.frozen 3;have hl3:=hP.lt;have k3:=hP.cell 3;simp only [putC,zG,zH,zI]at k3;clear hP c0 c1 c2 hgl z2 x0 x1 x2 x3 hxl zx)
   have hrows:∀x∈rowOf (.slice L ln d),g+4≤x:=fun x hx=>by obtain⟨ad,e,rfl⟩:=rowOf_mem.1 hx;exact hFL.o ad e
   have hA3f:From (g+4) A3:=fun ad e=>by
    rcases p3 ad.block (rowOf_mem.2 ⟨ad,e,rfl⟩)with h |h
    ·exact hrows _ h
    ·have h1:=hSUh.o.px.lt;rw [World.size_alloc]at h;omega
   have hST:=((hSUh.o.fr0 ((Fr.refl [] U).alloc _)).frS p2 hrows).list A3 (ln+1) c3;have hOT:=p1.fr ((Fr.refl [g+3] w2).setCell (p:=⟨g+3,3,none⟩) (.inl (by simp)) (.slice A3 (ln+1) c3)) (rowOf_off (fun ad e hm=>by have:=hA3f ad e;simp at hm;omega));have hin:=hinh.o;go_roundg (n - i)
   case measure=>omega
   case rel=>
    have hl2:(l++ [v]).length=ln+1:=by rw [List.length_append,hln.o];rfl
    refine⟨i+1,l++ [v],q2,b2,A3,c3,r2,by go_num,hR2h,zh ?_,by omega,by omega,by rw [hl2];omega,by rw [hl2];exact hST,zh (by rw [hl2,strCells_append];exact hOT),zh hA3f⟩;rw [←hXX.o,show n - i=(n - (i+1))+1 by omega,textsF,if_pos hbdh.o,hv.o]
  ·have hXl:=zh (show X=(l,rs) by
    rw [←hXX.o];by_cases hin:i<n
    ·rw [show n - i=(n - (i+1))+1 by omega,textsF,if_neg (by rw [hbdh.o];exact fun h=>hg ⟨hin,h⟩)]
    ·rw [show n - i=0 by omega,textsF])
   have hlnR:=zh (show textsR r=(if bd=0 then l else [],rs) by rw [hXh.o,hXl.o];simp only [hbdh.o]);by_cases hb0:bd=0
   ·have hvl:=zh (show textsR r=(l,rs) by rw [hlnR.o,if_pos hb0]);subst hb0;have t1:decide (i<n)=false:=decide_eq_false (fun h=>hg ⟨h,rfl⟩);clear hg;go_upto_region 27 with(fail)
    refine wp_gen (fun U=>RrSt w g A N c q 0 4 0 ⟨#[]⟩ L ln d U∧Own U 9 1 (.slice L ln d) ln (strCells l)) ⟨hSh.o,hO.o⟩ ?_;rintro U ⟨hS,hOU⟩;clear c0 c1 c2 hgl z2 x0 x1 x2 x3 hxl zx;obtain⟨c0,c1,c2,hgl,z2,x0,x1,x2,x3,hxl,zx⟩:=hS.cells;obtain⟨p0,p1,p2,p3,hpl,zp,r0,r1,r2,hrl,zr⟩:=hS.outs;have hSU:=zh hS;clear hS;have hO2:=zh (hOU.fr hSU.o.fin2 (rowOf_off (fun ad e hm=>by have:=hFL.o ad e;simp at hm;omega)));clear hOU;go_region
    go_wp2_with fail
    refine bodyPost_ret (v:= .tuple #[.agg (putC 4 0 ⟨#[]⟩ L ln d),rdV A N c q 0]) (results_ccO (p:=4) (q:=5) rfl _ _ (g+1) (g+2) 95 113 _ (rdC A N c q 0) _ _ rfl hSU.o.fin.1 uPut rfl (infoPut _ _ _ _ _ _) rfl hSU.o.fin.2.1 uRd rfl (infoRd _ _ _ _ _)) rfl ?_;rw [hvl.o];exact⟨L,d,q,0,by rw [hln.o],hR.o,by rw [hln.o];exact hO2.o,fun ad e=>by have:=hFL.o ad e;have:=HG.o;omega,hSU.o.fin.2.2⟩
   ·have hb2:(bd==0)=false:=by simpa using hb0
    have hb3:(bd !=0)=true:=by simpa using hb0
    have hvl:=zh (show textsR r=([],rs) by rw [hlnR.o,if_neg hb0]);clear hg hb0;by_cases hin:i<n
    ·have t1:decide (i<n)=true:=decide_eq_true hin;clear hin;go_upto_region 27 with(fail)
     refine wp_gen (fun U=>RrSt w g A N c q bd 4 0 ⟨#[]⟩ none 0 0 U) (hSh.o.list none 0 0) ?_;rintro U hS;clear c0 c1 c2 hgl z2 x0 x1 x2 x3 hxl zx;obtain⟨c0,c1,c2,hgl,z2,x0,x1,x2,x3,hxl,zx⟩:=hS.cells;obtain⟨p0,p1,p2,p3,hpl,zp,r0,r1,r2,hrl,zr⟩:=hS.outs;have hSU:=zh hS;clear hS;go_region
     go_wp2_with fail
     refine bodyPost_ret (v:= .tuple #[.agg (putC 4 0 ⟨#[]⟩ none 0 0),rdV A N c q bd]) (results_ccO (p:=4) (q:=5) rfl _ _ (g+1) (g+2) 95 113 _ (rdC A N c q bd) _ _ rfl hSU.o.fin.1 uPut rfl (infoPut _ _ _ _ _ _) rfl hSU.o.fin.2.1 uRd rfl (infoRd _ _ _ _ _)) rfl ?_;rw [hvl.o];exact⟨none,0,q,bd,rfl,hR.o,Own.nil _ _ _,(fun ad e=>by cases e),hSU.o.fin.2.2⟩
    ·have t1:decide (i<n)=false:=decide_eq_false hin;clear hin;go_upto_region 27 with(fail)
     refine wp_gen (fun U=>RrSt w g A N c q bd 4 0 ⟨#[]⟩ none 0 0 U) (hSh.o.list none 0 0) ?_;rintro U hS;clear c0 c1 c2 hgl z2 x0 x1 x2 x3 hxl zx;obtain⟨c0,c1,c2,hgl,z2,x0,x1,x2,x3,hxl,zx⟩:=hS.cells;obtain⟨p0,p1,p2,p3,hpl,zp,r0,r1,r2,hrl,zr⟩:=hS.outs;have hSU:=zh hS;clear hS;go_region
     go_wp2_with fail
     refine bodyPost_ret (v:= .tuple #[.agg (putC 4 0 ⟨#[]⟩ none 0 0),rdV A N c q bd]) (results_ccO (p:=4) (q:=5) rfl _ _ (g+1) (g+2) 95 113 _ (rdC A N c q bd) _ _ rfl hSU.o.fin.1 uPut rfl (infoPut _ _ _ _ _ _) rfl hSU.o.fin.2.1 uRd rfl (infoRd _ _ _ _ _)) rfl ?_;rw [hvl.o];exact⟨none,0,q,bd,rfl,hR.o,Own.nil _ _ _,(fun ad e=>by cases e),hSU.o.fin.2.2⟩
end Go.Proofs.YtpmgepijkhaonaaGreat
