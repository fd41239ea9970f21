/- Walks: what stands next in a record is read by the document as one of a kind. Conditions: each theorem's own. -/
import Derived.Test.YtpmgepijkhaonaaGreatOa
import Derived.ArgAppend
namespace Go.Proofs.YtpmgepijkhaonaaGreat
open Go.RowKit Go.Sig
theorem shift_odd (c:UInt32) (h:c.toNat%2=1):bits .xor .u32 ((c.toNat:Int) / 2) 2197175160=((shiftU c).toNat:Int):=by
 have k:=w_xor (c>>>1) 2197175160;rw [shr_toNat]at k;have h1:c&&&1=1:=by apply UInt32.toNat_inj.1;rw [UInt32.toNat_and];show c.toNat&&&1=1;rw [Nat.and_one_is_mod,h]
 have es:shiftU c=(c>>>1)^^^2197175160:=by unfold shiftU;rw [h1,if_pos rfl]
 rw [es,show(c.toNat:Int) / 2=((c.toNat / 2:Nat):Int) by omega];exact k
theorem rshift_t (c:UInt32) (w:World):Calls Tryz.prog 207 #[.int .u32 c.toNat] w fun e w'=>e= .returned (.int .u32 (shiftU c).toNat)∧w=w':=by
 have hx:=c.toNat_lt;by_cases hm:c.toNat%2=0
 ·have hv:=zh (show(shiftU c).toNat=c.toNat / 2 by rw [shiftU_even hm,shr_toNat]);obtain⟨R,HR⟩:∃X,Hid ((shiftU c).toNat=X):=⟨_,zh rfl⟩
  obtain⟨X,HX⟩:∃X,Hid (c.toNat=X):=⟨_,zh rfl⟩
  rw [HR.o]at hv⊢;rw [HX.o]at hx hm hv⊢;have hmi:(X:Int)%2=0:=by omega
  have hmt:((X:Int)%2==1)=false:=by rw [hmi];rfl
  clear hm hmi;go_enter Tryz.func207,Tryz.ntmps207;go_wp2_with fail
  go_ret;exact⟨ret_word (by rw [hv.o];omega),rfl⟩
 ·have hm1:c.toNat%2=1:=by omega
  have hv:=shift_odd c hm1;obtain⟨R,HR⟩:∃X,Hid ((shiftU c).toNat=X):=⟨_,zh rfl⟩
  obtain⟨X,HX⟩:∃X,Hid (c.toNat=X):=⟨_,zh rfl⟩
  rw [HR.o]at hv⊢;rw [HX.o]at hx hm1 hv⊢;have hmi:(X:Int)%2=1:=by omega
  have hmt:((X:Int)%2==1)=true:=by rw [hmi];rfl
  clear hm hm1 hmi;go_enter Tryz.func207,Tryz.ntmps207;go_wp2_with fail
  go_ret;exact⟨rfl,rfl⟩
def shiftN:Nat→UInt32→UInt32
 | 0,c=>c
 |k+1,c=>shiftU (shiftN k c)
theorem shiftN_8 (c:UInt32):shiftN 8 c=crcHalf (crcHalf c):=by
 show shiftU (shiftU (shiftU (shiftU (shiftU (shiftU (shiftU (shiftU c)))))))=_;rw [shift_four,shift_four]
theorem compl_natO (x:UInt32):(4294967295^^^x:UInt32).toNat=4294967295 - x.toNat:=by
 rw [UInt32.toNat_xor];have h:(BitVec.allOnes 32^^^x.toBitVec).toNat=2^32 - 1 - x.toBitVec.toNat:=by rw [BitVec.allOnes_xor,BitVec.toNat_not]
 rw [BitVec.toNat_xor,BitVec.toNat_allOnes]at h;exact h
theorem complO (x:UInt32):IntKind.u32.wrap (4294967295 - (x.toNat:Int))=((4294967295^^^x:UInt32).toNat:Int):=by
 rw [compl_natO,IntKind.wrap_u32'];have:=x.toNat_lt;omega
set_option maxRecDepth 100000 in
set_option maxHeartbeats 2000000 in
theorem rmore02_t (w:World) (A:Option Addr) (n c:Nat) (l:List UInt8) (h:Byts w A n l) (hmax:n≤1000000):
  Calls Tryz.prog 159 #[.int .u32 0,.slice A n c] w fun e w'=>e= .returned (.int .u32 ((crcM l).toNat:Int))∧w=w':=by
 have hh:=zh h;have hln:=h.length;clear h;go_enter Tryz.func159,Tryz.ntmps159;go_wp2_with fail
 go_loopg [5,6] (n+1) (fun gk s5 s6 wr=>∃i:Nat,s5= .int .u32 (((l.take i).foldl crcStep 4294967295).toNat:Int)∧s6= .int .i64 i∧i≤n∧n - i<gk∧w=wr)
 case atStart=>exact⟨0,by rfl,rfl,by omega,by omega,rfl⟩
 case round=>
  obtain⟨i,rfl,rfl,hi,hk,rfl⟩:=hrel;obtain⟨C,hC⟩:∃z,Hid ((l.take i).foldl crcStep 4294967295=z):=⟨_,zh rfl⟩
  rw [hC.o];by_cases hlt:i<n
  ·have hlt':(i:Int)<n:=by omega
   have hlth:=zh hlt;have hil:i<l.length:=by omega
   obtain⟨b,o,rfl,hbl,hcell⟩:=Byts.at hh.o hlt;have hx:l.getD i 0=l[i]:=by simp [List.getD,hil]
   rw [hx]at hcell;have htk:=zh (crc_take hil);obtain⟨x,hxe⟩:∃z,Hid (l[i]=z):=⟨_,zh rfl⟩
   rw [hxe.o]at hcell htk;have e1:=crc_in C x;obtain⟨C1,hC1⟩:∃z,Hid (C^^^UInt32.ofNat x.toNat=z):=⟨_,zh rfl⟩
   rw [hC1.o]at e1;clear hlt hx;go_wp2_with fail
   go_loopg [5,7] 9 (fun gk s5 s7 wr=>∃k:Nat,s5= .int .u32 ((shiftN k C1).toNat:Int)∧s7= .int .i64 k∧k≤8∧8 - k<gk∧w=wr)
   case atStart=>exact⟨0,rfl,rfl,by omega,by omega,rfl⟩
   case round=>
    obtain⟨k,rfl,rfl,hk8,hkk,rfl⟩:=hrel;obtain⟨D,hD⟩:∃z,Hid (shiftN k C1=z):=⟨_,zh rfl⟩
    rw [hD.o];by_cases h8:k<8
    ·have h8':(k:Int)<8:=by omega
     have hs:=rshift_t D w;have hD2:=zh (show shiftU D=shiftN (k+1) C1 by rw [←hD.o];rfl);obtain⟨D2,hD3⟩:∃z,Hid (shiftU D=z):=⟨_,zh rfl⟩
     rw [hD3.o]at hs;have hkh:=zh h8;go_wp2_with (go_at_call 207;refine hs.mono ?_;rintro e V ⟨rfl,rfl⟩)
     go_roundg (8 - k)
     case measure=>have:=hkh.o;omega
     case rel=>exact⟨k+1,by rw [←hD2.o,hD3.o],by go_num,by have:=hkh.o;omega,by have:=hkh.o;omega,rfl⟩
    ·have h8':¬(k:Int)<8:=by omega
     have hend:=zh (show D=crcHalf (crcHalf C1) by rw [←hD.o,show k=8 by omega,shiftN_8]);clear h8;go_wp2_with fail
     go_roundg (n - i)
     case measure=>have:=hlth.o;omega
     case rel=>refine⟨i+1,?_,by go_num,by have:=hlth.o;omega,by have:=hlth.o;omega,rfl⟩;rw [htk.o,hC.o,hend.o,←hC1.o];rfl
  ·have hin:i=n:=by omega
   have hge:¬(i:Int)<n:=by omega
   have hfin:=zh (show crcM l=4294967295^^^C by rw [←hC.o,hin,List.take_of_length_le (by omega)];rfl);have hnot:=complO C;rw [←hfin.o]at hnot;have hC4:=C.toNat_lt;clear hlt;go_wp2_with fail
   go_ret;exact⟨ret_word (by rw [hfin.o,compl_natO]),rfl⟩
theorem rsum02_t (w:World) (A:Option Addr) (n c:Nat) (l:List UInt8) (h:Byts w A n l) (hmax:n≤1000000):
  Calls Tryz.prog 111 #[.slice A n c] w fun e w'=>e= .returned (.int .u32 ((crcM l).toNat:Int))∧w=w':=by
 have hm:=rmore02_t w A n c l h hmax;go_enter Tryz.func111,Tryz.ntmps111;go_wp2_with fail
 refine Calls.mono (show Calls Tryz.prog 159 _ _ _ from hm) ?_;rintro e w' ⟨rfl,rfl⟩;go_wp2_with fail
 go_ret;exact⟨rfl,rfl⟩
def YAcc (w wr:World) (s:Value) (l:List UInt8):Prop:=
 ∃A c,s= .slice A l.length c∧Own wr 5 1 (.slice A l.length c) l.length (l.map bv)∧From w.heap.size A∧Fr [] w wr
theorem YAcc.nil (w:World):YAcc w w (.slice none 0 0) []:=⟨none,0,rfl,Own.nil _ _ _,(fun _ e=>by cases e),Fr.refl _ _⟩
theorem YAcc.fr0 {w wr V:World}{s:Value}{l:List UInt8}(h:YAcc w wr s l) (hF:Fr [] wr V):YAcc w V s l:=by
 obtain⟨A,c,h1,h2,h3,h4⟩:=h;exact⟨A,c,h1,h2.fr hF (by simp),h3,h4.trans hF⟩
theorem YAcc.push {w wr V w2:World}{A A2:Option Addr}{c c2 n k:Nat}{l xs:List UInt8}(hn:l.length=n) (hk:xs.length=k) (hR:From w.heap.size A) (hF:Fr [] w wr) (hV:Fr [] wr V)
  (p1:Own w2 5 1 (.slice A2 (n+k) c2) (n+k) (l.map bv++xs.map bv)) (p2:Fr (rowOf (.slice A n c)) V w2)
  (p3:∀g,g∈rowOf (.slice A2 (n+k) c2)→g∈rowOf (.slice A n c)∨V.heap.size≤g):YAcc w w2 (.slice A2 (n+k) c2) (l++xs):=by
 have hl:(l++xs).length=n+k:=by rw [List.length_append,hn,hk]
 have row:∀g∈rowOf (.slice A n c),w.heap.size≤g:=fun g hg=>by obtain⟨ad,e,rfl⟩:=rowOf_mem.1 hg;exact hR ad e
 refine⟨A2,c2,by rw [hl],?_,fun ad e=> ?_,(hF.trans hV).andThen p2 (fun x hx=> .inr (row x hx))⟩
 ·rw [hl,List.map_append];exact p1
 ·rcases p3 ad.block (rowOf_mem.2 ⟨ad,e,rfl⟩)with h |h
  ·exact row _ h
  ·exact Nat.le_trans (hF.trans hV).size h
def YRow (w:World) (l:List UInt8) (e:Ending) (w':World):Prop:=∃v,e= .returned v∧YAcc w w' v l
theorem or_numO (m:Nat):128+(m:Int)%128=(((UInt8.ofNat (m%128+128)).toNat:Nat):Int):=by
 have h2:(UInt8.ofNat (m%128+128)).toNat=m%128+128:=by simp;omega
 rw [h2];omega
set_option maxRecDepth 100000 in
set_option maxHeartbeats 2000000 in
theorem rnumb08_t (w:World) (n:Nat) (hn:n<18446744073709551616):Calls Tryz.prog 157 #[.int .u64 n] w (YRow w (numB n)):=by
 have hpow:n<128^(9+1):=by
  have:(128:Nat)^(9+1)=1180591620717411303424:=by decide
  omega
 have hpowh:=zh hpow;clear hpow;go_enter Tryz.func157,Tryz.ntmps157;go_wp2_with fail
 go_loopg [0,3] 11 (fun gk s0 s3 wr=>∃(m kf:Nat) (pre:List UInt8),s0= .int .u64 m∧m<18446744073709551616∧Hid (m<128^(kf+1))∧Hid (pre++numF kf m=numB n)∧kf<gk∧pre.length+kf≤9∧YAcc w wr s3 pre)
 case atStart=>exact⟨n,9,[],rfl,hn,hpowh,zh rfl,by omega,by simp,YAcc.nil w⟩
 case round=>
  obtain⟨m,kf,pre,rfl,hm64,hm,he,hk,hlen,A,c,rfl,hO,hA,hF⟩:=hrel;obtain⟨pn,hpn⟩:∃z,Hid (pre.length=z):=⟨_,zh rfl⟩
  rw [hpn.o]at hO hlen⊢;have hFh:=zh hF;have hOh:=zh hO;have hAh:=zh hA;clear hF hO hA hn;by_cases hge:128≤m
  ·obtain⟨k',rfl⟩:∃k',kf=k'+1:=⟨kf - 1,by
    rcases Nat.eq_zero_or_pos kf with h0 |h0
    ·subst h0;have:=hm.o;simp at this;omega
    ·omega⟩
   have hge':(0:Int)<(m:Int) / 128:=by omega
   have hgeh:=zh hge;have hor:=or_numO m;obtain⟨by1,hby⟩:∃z,Hid (UInt8.ofNat (m%128+128)=z):=⟨_,zh rfl⟩
   rw [hby.o]at hor;clear hge;go_wp2_with (refine wpList_own_append tW1 (hOh.o.fr ((Fr.refl [] _).alloc _) (by simp)) (byteW_new _ _ by1 _ rfl) (fun u hu=>by simp at hu;rw [hu];rfl) (by simp) (by unfold maxLen;omega) (by omega) rfl rfl rfl rfl (fun v2 w2 p1 p2 p3=> ?_);obtain⟨A3,c3,rfl,hA3⟩:=p1.form)
   go_roundg (k'+1)
   case measure=>omega
   case rel=>
    refine⟨m / 128,k',pre++ [by1],by go_num,by omega,zh ?_,zh ?_,by omega,by rw [List.length_append,hpn.o];simp;omega,YAcc.push hpn.o rfl hAh.o hFh.o ((Fr.refl [] _).alloc _) p1 p2 (fun g hg=>(p3 g hg).imp id (fun e=>by omega))⟩
    ·have:=hm.o;rw [Nat.pow_succ]at this;exact Nat.div_lt_of_lt_mul (by rw [Nat.mul_comm];exact this)
    ·rw [←he.o,numF_more hgeh.o,hby.o];simp
  ·have hge':¬(0:Int)<(m:Int) / 128:=by omega
   have hgeh:=zh (show m<128 by omega);obtain⟨by1,hby⟩:∃z,Hid (UInt8.ofNat m=z):=⟨_,zh rfl⟩
   have hnb:=zh (show(m:Int)=((by1.toNat:Nat):Int) by rw [←hby.o];simp;omega);clear hge;go_wp2_with (refine wpList_own_append tW1 (hOh.o.fr ((Fr.refl [] _).alloc _) (by simp)) (byteW_new _ _ by1 _ hnb.o) (fun u hu=>by simp at hu;rw [hu];rfl) (by simp) (by unfold maxLen;omega) (by omega) rfl rfl rfl rfl (fun v2 w2 p1 p2 p3=> ?_);obtain⟨A3,c3,rfl,hA3⟩:=p1.form)
   go_ret;refine⟨_,rfl,?_⟩;rw [←he.o,numF_end hgeh.o,hby.o];exact YAcc.push hpn.o rfl hAh.o hFh.o ((Fr.refl [] _).alloc _) p1 p2 (fun g hg=>(p3 g hg).imp id (fun e=>by omega))
set_option maxRecDepth 100000 in
theorem rint08_t (w:World) (n:Int) (h1: -9223372036854775808≤n) (h2:n<9223372036854775808):Calls Tryz.prog 155 #[.int .i64 n] w (YRow w (intB n)):=by
 by_cases h0:n<0
 ·have hz:zig n=2*(-(n+1)).toNat+1:=by unfold zig;rw [if_neg (by omega)];omega
  obtain⟨m,hm⟩:∃m:Nat,-(n+1)=(m:Int):=⟨(-(n+1)).toNat,by omega⟩
  have hr:=rnumb08_t w (2*m+1) (by omega);have hv:intB n=numB (2*m+1):=by unfold intB;rw [hz,hm];simp
  rw [hv];have hd:decide (n<0)=true:=decide_eq_true h0;have e1:n+1= -(m:Int):=by omega
  have hml:m<9223372036854775808:=by omega
  have hvh:=zh hv;have hzh:=zh hz;clear hv hz h0 hm;go_enter Tryz.func155,Tryz.ntmps155;go_wp2_with fail
  refine Calls.mono (show Calls Tryz.prog 157 _ _ _ from(by simpa using hr)) ?_;rintro e V ⟨v,rfl,hY⟩;have hYh:=zh hY;clear hY hr;go_wp2_with fail
  go_ret;exact⟨_,rfl,hYh.o⟩
 ·obtain⟨m,rfl⟩:∃m:Nat,n=(m:Int):=⟨n.toNat,by omega⟩
  have hr:=rnumb08_t w (2*m) (by omega);have hv:intB (m:Int)=numB (2*m):=by unfold intB;rw [zig_nat]
  rw [hv];clear hv;go_enter Tryz.func155,Tryz.ntmps155;go_wp2_with fail
  refine Calls.mono (show Calls Tryz.prog 157 _ _ _ from(by simpa using hr)) ?_;rintro e V ⟨v,rfl,hY⟩;have hYh:=zh hY;clear hY hr;go_wp2_with fail
  go_ret;exact⟨_,rfl,hYh.o⟩
theorem YAcc.strs {w V w2:World}{A A2:Option Addr}{c c2 n k:Nat}{l xs:List UInt8}(hn:l.length=n) (hk:xs.length=k) (hR:From w.heap.size A) (hF:Fr [] w V)
  (p1:Own w2 5 1 (.slice A2 (n+k) c2) (n+k) (l.map bv++xs.map bv)) (hA:From w.heap.size A2) (p2:Fr (rowOf (.slice A n c)) V w2):YAcc w w2 (.slice A2 (n+k) c2) (l++xs):=by
 have hl:(l++xs).length=n+k:=by rw [List.length_append,hn,hk]
 refine⟨A2,c2,by rw [hl],?_,hA,hF.andThen p2 (fun x hx=> .inr ?_)⟩
 ·rw [hl,List.map_append];exact p1
 ·obtain⟨ad,e,rfl⟩:=rowOf_mem.1 hx;exact hR ad e
def txtC (s:ByteArray):List UInt8:=numB s.size++s.data.toList.take 65537
set_option maxRecDepth 100000 in
theorem rtxt08_t (w:World) (s:ByteArray) (hs:s.size≤150000000000000):Calls Tryz.prog 156 #[.string s] w (YRow w (txtC s)):=by
 have hr:=rnumb08_t w s.size (by omega);have hnl:=numB_length s.size;obtain⟨nb,hnb⟩:∃z,Hid (numB s.size=z):=⟨_,zh rfl⟩
 rw [hnb.o]at hr hnl;by_cases hb:65536<s.size
 ·have hd:decide (65536<s.size)=true:=decide_eq_true hb;have hv:=zh (show txtC s=nb++(s.extract 0 65537).data.toList by unfold txtC;rw [hnb.o,ByteArray.data_extract];simp);have hsz:=zh (show(s.extract 0 65537).size=65537 by rw [ByteArray.size_extract];omega);have h65:(65537:Int)≤s.size:=by omega
  go_enter Tryz.func156,Tryz.ntmps156;go_upto_region 3 with(go_at_call 157;refine hr.mono ?_;rintro e V ⟨v,rfl,hY⟩;obtain⟨A,c,rfl,hO,hA,hF⟩:=hY;have hOh:=zh hO;have hAh:=zh hA;have hFh:=zh hF;clear hO hA hF)
  clear hb hd hs;go_upto_region 4 with(fail)
  have hmx:=zh (show nb.length+(s.extract 0 65537).size≤100000000 by rw [hsz.o];omega);go_wp2_with (refine wpList_own_append_str hOh.o hAh.o hFh.o.size (s.extract 0 65537) hmx.o rfl rfl rfl rfl (fun A' c' w' p1 pA p2=> ?_))
  go_ret;refine⟨_,rfl,?_⟩;rw [hv.o];have e:(s.extract 0 65537).size=min 65537 s.size:=by simp
  rw [e]at p1;exact YAcc.strs rfl e hAh.o hFh.o p1 pA p2
 ·have hd:decide (65536<s.size)=false:=decide_eq_false hb;have hv:=zh (show txtC s=nb++s.data.toList by unfold txtC;rw [hnb.o,List.take_of_length_le (by show s.size≤_;omega)]);go_enter Tryz.func156,Tryz.ntmps156;go_upto_region 4 with(go_at_call 157;refine hr.mono ?_;rintro e V ⟨v,rfl,hY⟩;obtain⟨A,c,rfl,hO,hA,hF⟩:=hY;have hOh:=zh hO;have hAh:=zh hA;have hFh:=zh hF;clear hO hA hF)
  go_wp2_with (refine wpList_own_append_str hOh.o hAh.o hFh.o.size s (by omega) rfl rfl rfl rfl (fun A' c' w' p1 pA p2=> ?_))
  go_ret;refine⟨_,rfl,?_⟩;rw [hv.o];exact YAcc.strs rfl rfl hAh.o hFh.o p1 pA p2
theorem four_cells (x:UInt32):(bytes4 x).map bv= [Value.int .u8 ((x.toNat / 16777216%256:Nat):Int),.int .u8 ((x.toNat / 65536%256:Nat):Int),.int .u8 ((x.toNat / 256%256:Nat):Int),.int .u8 ((x.toNat%256:Nat):Int)]:=by
 simp [bytes4,bv]
def fourC (X:Nat) (i:Nat):Array Value:=#[.int .u8 (if i≤0 then((X / 16777216%256:Nat):Int)else 0),.int .u8 (if i≤1 then((X / 65536%256:Nat):Int)else 0),.int .u8 (if i≤2 then((X / 256%256:Nat):Int)else 0),.int .u8 (if i≤3 then((X%256:Nat):Int)else 0)]
theorem four_div {X Y j:Nat}(hY:Y=X / 256^(4 - (j+1))) (hj:j<4):Y / 256=X / 256^(4 - j):=by
 rw [hY,Nat.div_div_eq_div_mul,←Nat.pow_succ,show(4 - (j+1)).succ=4 - j by omega]
theorem four_step {w:World}{g X Y j:Nat}(h:Blk w g 277 (fourC X (j+1))) (hY:Y=X / 256^(4 - (j+1))) (hj:j<4):Blk (w.setCell ⟨g,j,none⟩ (.int .u8 ((Y:Int)%256))) g 277 (fourC X j):=by
 have hs:=h.set j (.int .u8 ((Y:Int)%256));have e:(fourC X (j+1)).setIfInBounds j (.int .u8 ((Y:Int)%256))=fourC X j:=by
  have hc:j=0∨j=1∨j=2∨j=3:=by omega
  rcases hc with rfl |rfl |rfl |rfl<;>simp at hY<;>simp [fourC,hY]
 rw [e]at hs;exact hs
def FourRef (w:World) (x:UInt32) (e:Ending) (w':World):Prop:=∃g,e= .returned (.slice (some ⟨g,0,none⟩) 4 4)∧Byts w' (some ⟨g,0,none⟩) 4 (bytes4 x)∧Fr [] w w'
set_option maxRecDepth 100000 in
set_option maxHeartbeats 2000000 in
theorem rfour08_t (w:World) (x:UInt32):Calls Tryz.prog 158 #[.int .u32 x.toNat] w (FourRef w x):=by
 have hx:=x.toNat_lt;have hfc:=zh (four_cells x);unfold FourRef;obtain⟨X,HX⟩:∃z,Hid (x.toNat=z):=⟨_,zh rfl⟩
 rw [HX.o]at hx hfc⊢;go_enter Tryz.func158,Tryz.ntmps158;go_upto_region 2 with(fail)
 refine wp_gen (fun W=>Blk W w.heap.size 277 (fourC X 4)∧Fr [] w W) ⟨Blk.new _ _ _,(Fr.refl _ _).alloc _⟩ ?_;rintro W ⟨hB,hF⟩;obtain⟨g,HG⟩:∃z,Hid (w.heap.size=z):=⟨_,zh rfl⟩
 rw [HG.o]at hB⊢;have hBh:=zh hB;have hFh:=zh hF;clear hB hF;go_wp2_with fail
 go_loopg [0,4] 5 (fun gk s0 s4 wr=>∃(j Y:Nat) (i:Int),s4= .int .i64 i∧s0= .int .u32 Y∧i=(j:Int) - 1∧Hid (Y=X / 256^(4 - j))∧Y<4294967296∧j≤4∧j<gk∧Blk wr g 277 (fourC X j)∧Fr [] w wr)
 case atStart=>exact⟨4,X,3,rfl,rfl,rfl,zh (by simp),hx,by omega,by omega,hBh.o,hFh.o⟩
 case round=>
  obtain⟨j,Y,i,rfl,rfl,hi,hY,hYl,hj,hjk,hB,hF⟩:=hrel;have hjc:j=0∨j=1∨j=2∨j=3∨j=4:=by omega
  have hFh:=zh hF;have hBh:=zh hB;have hgl:=hB.lt;clear hF;rcases hjc with rfl |rfl |rfl |rfl |rfl
  ·obtain rfl:i= -1:=by omega
   clear hB hi hj;go_wp2_with fail
   go_ret;refine⟨g,rfl,⟨rfl,fun _=>⟨g,0,rfl,fun k u hu=> ?_⟩⟩,hFh.o⟩;rw [hBh.o.cell,Nat.zero_add];rw [hfc.o]at hu;unfold fourC;simpa using hu
  all_goals (
   (first | (have hiE:i=0:=(by omega);subst hiE) | (have hiE:i=1:=(by omega);subst hiE) | (have hiE:i=2:=(by omega);subst hiE) | (have hiE:i=3:=(by omega);subst hiE))
   have c:=hB.cell;unfold fourC at c;have z:=hB.frozen;clear hB hi hj;have c0:=c 0;have c1:=c 1;have c2:=c 2;have c3:=c 3;simp only [zG,zH,zI]at c0 c1 c2 c3;clear c;have hkk:=zh hjk;clear hjk;go_wp2_with fail
   go_roundg (gk - 1)
   (case measure=>have:=hkk.o;omega)
   (case rel=>
     have hb:=hBh.o;have hs:=four_step hb hY.o (by decide);have hf:=fun o=>hFh.o.setCell (p:=⟨g,o,none⟩) (.inr (Nat.le_of_eq HG.o)) (.int .u8 ((Y:Int)%256));have hd:=zh (four_div hY.o (by decide));have hk2:=hkk.o;first
      |exact⟨0,Y / 256,-1,rfl,by go_num,rfl,hd,by omega,by omega,by omega,hs,hf _⟩
      |exact⟨1,Y / 256,0,rfl,by go_num,rfl,hd,by omega,by omega,by omega,hs,hf _⟩
      |exact⟨2,Y / 256,1,rfl,by go_num,rfl,hd,by omega,by omega,by omega,hs,hf _⟩
      |exact⟨3,Y / 256,2,rfl,by go_num,rfl,hd,by omega,by omega,by omega,hs,hf _⟩))
end Go.Proofs.YtpmgepijkhaonaaGreat
namespace Go.Proofs.YtpmgepijkhaonaaGreat
open Go.RowKit Go.Sig
def rdC (A:Option Addr) (N c p:Nat) (bad:Int):Array Value:=#[.slice A N c,.int .i64 p,.int .i64 bad]
def zRd:Array Value:=rdC none 0 0 0 0
theorem rd_set0 {V:World}{g N c p N0 c0 p0:Nat}{A A0:Option Addr}{bad b0:Int}(h:Blk V g 113 (rdC A0 N0 c0 p0 b0)):Blk (((V.setCell ⟨g,0,none⟩ (.slice A N c)).setCell ⟨g,1,none⟩ (.int .i64 p)).setCell ⟨g,2,none⟩ (.int .i64 bad)) g 113 (rdC A N c p bad):=by
 have k:=((h.set 0 (.slice A N c)).set 1 (.int .i64 p)).set 2 (.int .i64 bad);simpa [rdC]using k
theorem rd_fr0 {w V:World}{g N c p:Nat}{A:Option Addr}{bad:Int}(h:Fr [] w V) (hg:w.heap.size≤g):Fr [] w (((V.setCell ⟨g,0,none⟩ (.slice A N c)).setCell ⟨g,1,none⟩ (.int .i64 p)).setCell ⟨g,2,none⟩ (.int .i64 bad)):=
 ((h.setCell (p:=⟨g,0,none⟩) (.inr hg) _).setCell (p:=⟨g,1,none⟩) (.inr hg) _).setCell (p:=⟨g,2,none⟩) (.inr hg) _
end Go.Proofs.YtpmgepijkhaonaaGreat
namespace Go.Proofs.YtpmgepijkhaonaaGreat
open Go.RowKit Go.Sig
end Go.Proofs.YtpmgepijkhaonaaGreat
namespace Go.Proofs.YtpmgepijkhaonaaGreat
open Go.RowKit Go.Sig
def putC (k n:Int) (s:ByteArray) (A:Option Addr) (m c:Nat):Array Value:=#[.int .i64 k,.int .i64 n,.string s,.slice A m c]
theorem uPut:Tryz.prog.underlying 95=some (.struct (Tryz.prog.fieldsOf 95)):=by kernel_rfl
structure RrSt (w:World) (g:Nat) (A:Option Addr) (N c q:Nat) (bd k n:Int) (s:ByteArray) (L:Option Addr) (m d:Nat) (U:World):Prop where
 rd:Blk U g 113 (rdC A N c q bd)
 rp:Blk U (g+1) 95 (putC 0 0 ⟨#[]⟩ none 0 0)
 rr:Blk U (g+2) 113 zRd
 px:Blk U (g+3) 95 (putC k n s L m d)
 fr:Fr [] w U
 hg:w.heap.size≤g
section
variable {w U V:World}{g N c q m d:Nat}{A L:Option Addr}{bd k n:Int}{s:ByteArray}
theorem RrSt.cells (h:RrSt w g A N c q bd k n s L m d U):U.cell? ⟨g,0,none⟩=some (.slice A N c)∧U.cell? ⟨g,1,none⟩=some (.int .i64 q)∧U.cell? ⟨g,2,none⟩=some (.int .i64 bd)∧g<U.heap.size∧(∀i,U.frozen? ⟨g,i,none⟩=false)∧
  U.cell? ⟨g+3,0,none⟩=some (.int .i64 k)∧U.cell? ⟨g+3,1,none⟩=some (.int .i64 n)∧U.cell? ⟨g+3,2,none⟩=some (.string s)∧U.cell? ⟨g+3,3,none⟩=some (.slice L m d)∧g+3<U.heap.size∧(∀i,U.frozen? ⟨g+3,i,none⟩=false):=
 ⟨h.rd.cell 0,h.rd.cell 1,h.rd.cell 2,h.rd.lt,h.rd.frozen,h.px.cell 0,h.px.cell 1,h.px.cell 2,h.px.cell 3,h.px.lt,h.px.frozen⟩
theorem RrSt.fr0 (h:RrSt w g A N c q bd k n s L m d U) (hF:Fr [] U V):RrSt w g A N c q bd k n s L m d V:=⟨h.rd.fr hF (by simp),h.rp.fr hF (by simp),h.rr.fr hF (by simp),h.px.fr hF (by simp),h.fr.trans hF,h.hg⟩
theorem RrSt.lay (h:RrSt w g A N c q bd k n s L m d U) (q2:Nat) (b2:Int):RrSt w g A N c q2 b2 k n s L m d (((U.setCell ⟨g,0,none⟩ (.slice A N c)).setCell ⟨g,1,none⟩ (.int .i64 q2)).setCell ⟨g,2,none⟩ (.int .i64 b2)):=
 ⟨rd_set0 h.rd,((h.rp.far (by simp) _).far (by simp) _).far (by simp) _,((h.rr.far (by simp) _).far (by simp) _).far (by simp) _,((h.px.far (by simp) _).far (by simp) _).far (by simp) _,rd_fr0 h.fr h.hg,h.hg⟩
theorem RrSt.text (h:RrSt w g A N c q bd k n s L m d U) (s2:ByteArray):RrSt w g A N c q bd k n s2 L m d (U.setCell ⟨g+3,2,none⟩ (.string s2)):=
 ⟨h.rd.far (by simp) _,h.rp.far (by simp) _,h.rr.far (by simp) _,by have k:=h.px.set 2 (.string s2);simpa [putC]using k,h.fr.setCell (p:=⟨g+3,2,none⟩) (.inr (by have:=h.hg;simp;omega)) _,h.hg⟩
theorem RrSt.num (h:RrSt w g A N c q bd k n s L m d U) (n2:Int):RrSt w g A N c q bd k n2 s L m d (U.setCell ⟨g+3,1,none⟩ (.int .i64 n2)):=
 ⟨h.rd.far (by simp) _,h.rp.far (by simp) _,h.rr.far (by simp) _,by have k:=h.px.set 1 (.int .i64 n2);simpa [putC]using k,h.fr.setCell (p:=⟨g+3,1,none⟩) (.inr (by have:=h.hg;simp;omega)) _,h.hg⟩
theorem RrSt.list (h:RrSt w g A N c q bd k n s L m d U) (L2:Option Addr) (m2 d2:Nat):RrSt w g A N c q bd k n s L2 m2 d2 (U.setCell ⟨g+3,3,none⟩ (.slice L2 m2 d2)):=
 ⟨h.rd.far (by simp) _,h.rp.far (by simp) _,h.rr.far (by simp) _,by have k:=h.px.set 3 (.slice L2 m2 d2);simpa [putC]using k,h.fr.setCell (p:=⟨g+3,3,none⟩) (.inr (by have:=h.hg;simp;omega)) _,h.hg⟩
end
end Go.Proofs.YtpmgepijkhaonaaGreat
