/- Walks: what may be a challenge; does a verifier meet it. Conditions: each theorem's own. -/
import Derived.Test.YtpmgepijkhaonaaGreatGd
import Derived.WalkMore
import Derived.Laws.IdiomStrings
namespace Go.Proofs.YtpmgepijkhaonaaGreat
open Go.RowKit Go.Sig
theorem or_byte:∀(a:Fin 16) (b:Fin 256),bits .or .i64 ((a.val:Int)*256) (b.val:Int)=((a.val*256+b.val:Nat):Int):=by decide+kernel
theorem and_63a:∀(a b:Fin 64),bits .and .i64 ((a.val*64+b.val:Nat):Int) 63=((b.val:Nat):Int):=by decide+kernel
theorem and_63 {h:Nat}(hh:h<4096):bits .and .i64 (h:Int) 63=((h%64:Nat):Int):=by
 have:=and_63a ⟨h / 64,by omega⟩ ⟨h%64,by omega⟩;simp only at this;rw [show h / 64*64+h%64=h by omega]at this;exact this
theorem sweb_size:sWeb.size=64:=by decide
theorem sweb_at {j:Nat}(h:j<sWeb.size):sWeb[j]=webS.getD j 0:=by
 have h':j<webS.length:=by rw [sweb_size]at h;exact h
 rw [List.getD_eq_getElem?_getD,List.getElem?_eq_getElem h',Option.getD_some];rfl
set_option maxRecDepth 100000 in
set_option maxHeartbeats 4000000 in
theorem sixes_t (w:World) (A:Option Addr) (n c:Nat) (l:List UInt8) (hb:Byts w A n l) (hmax:n≤1000000):Calls Tryz.prog 281 #[.string sWeb,.slice A n c] w fun e w'=>∃v,e= .returned v∧BIn w w' v (webM l):=by
 have hln:l.length=n:=Byts.length hb;have hbh:=zh hb;have hqs:=sweb_size;have hqat:=zh (fun(j:Nat) (h:j<sWeb.size)=>sweb_at h);obtain⟨q,hq⟩:∃z,Hid (sWeb=z):=⟨_,zh rfl⟩
 rw [hq.o]at hqs hqat⊢;clear hb;go_enter Tryz.func281,Tryz.ntmps281;go_wp2_with fail
 go_loopg [5,6,7,9,12] (n+1) (fun gk s5 s6 s7 s9 s12 wr=>∃(i held nb:Nat) (out:List UInt8),s12= .int .i64 i∧s6= .int .i64 held∧s7= .int .i64 nb∧i≤n∧n - i<gk∧BIn w wr s5 out∧(nb=0∨nb=2∨nb=4)∧held<2^nb∧out.length≤2*i∧sixGo (l.drop i) held nb out=webM l)
 case atStart=>exact⟨0,0,0,[],rfl,rfl,rfl,by omega,by omega,BIn.nil w,by omega,by decide,by simp,rfl⟩
 case round=>
  obtain⟨i,held,nb,out,rfl,rfl,rfl,hi,hk,hB,hbits,hheld,hlen,hgo⟩:=hrel;have hgoh:=zh hgo;have hBh:=zh hB;clear hgo;obtain⟨A2,c2,rfl,O2,R2,F2⟩:=hB;obtain⟨n2,hn2⟩:∃z,Hid (out.length=z):=⟨_,zh rfl⟩
  rw [hn2.o]at O2 R2 hlen⊢;by_cases hlt:i<n
  ·have hlt':(i:Int)<n:=by omega
   have hlth:=zh hlt;have hi':i<l.length:=by omega
   have hdr:=zh (List.drop_eq_getElem_cons hi');have hbr:=Rd.fr hbh.o F2 (by simp [Off]);obtain⟨b,o,rfl,hcell⟩:=hbr.2 (by omega);have cx:=hcell i (bv l[i]) (by rw [List.getElem?_map,List.getElem?_eq_getElem hi'];rfl);clear hcell hbr;obtain⟨x,hx⟩:∃z,Hid (l[i]=z):=⟨_,zh rfl⟩
   rw [hx.o]at cx hdr;unfold bv at cx;have hx256:x.toNat<256:=x.toNat_lt;obtain⟨h,hh⟩:∃z,Hid (held*256+x.toNat=z):=⟨_,zh rfl⟩
   have hb16:held<16:=by rcases hbits with rfl |rfl |rfl<;>omega
   have hor:bits .or .i64 ((held:Int)*256) (x.toNat:Int)=(h:Int):=by have:=or_byte ⟨held,hb16⟩ ⟨x.toNat,hx256⟩;simp only at this;rw [this,hh.o]
   have hh4:h<4096:=by have:=hh.o;omega
   rcases hbits with rfl |rfl |rfl
   ·have hj:h / 4<q.size:=by have:=hh.o;rw [hqs];omega
    obtain⟨j,hjj⟩:∃z,Hid (h / 4=z):=⟨_,zh rfl⟩
    rw [hjj.o]at hj;have hsh:(h:Int) / 4=(j:Int):=by have:=hjj.o;omega
    have hqj:=zh (hqat.o _ hj);have hand:=(and_at hh4).2.1;have hst:=zh (show sixByte held 0 x=([webS.getD j 0],h%4,2) by
     unfold sixByte;simp only [hh.o];rw [if_neg (by decide)];show([webS.getD (h / 4) 0],h%4,2)=_;rw [hjj.o])
    go_wp2_with fail
    go_step3
    go_wp2_with fail
    go_step3
    go_wp2_with fail
    refine wp_loop_rounds 2 ?_;rw [rounds_succ];go_wp2_with (refine wpList_own_append tB1 (O2.fr ((Fr.refl [] _).alloc _) (by simp)) (byte_new _ _ (q[j]) _ rfl) (fun u hu=>by simp at hu;rw [hu];rfl) (by simp) (by unfold maxLen;omega) (by omega) rfl rfl rfl rfl (fun v3 w3 p13 p23 p33=> ?_);obtain⟨A3,c3,rfl,hA3⟩:=p13.form)
    rw [rounds_succ];go_wp2_with fail
    rw [Exit.noGoto_normal];go_wp2_with fail
    go_roundg (n - i)
    case measure=>omega
    case rel=>
     refine⟨i+1,h%4,2,out++ [webS.getD j 0],by go_num,by first |rfl | (simp;done) | (congr 1;omega),rfl,by have:=hlth.o;omega,by have:=hlth.o;omega,?_,by omega,by omega,by rw [List.length_append,hn2.o,List.length_singleton];omega,?_⟩
     ·rw [←hqj.o];exact BIn.push hn2.o R2 F2 p13 p23 p33
     ·rw [←hgoh.o,hdr.o,sixGo,hst.o]
   ·have hj:h / 16<q.size:=by have:=hh.o;rw [hqs];omega
    obtain⟨j,hjj⟩:∃z,Hid (h / 16=z):=⟨_,zh rfl⟩
    rw [hjj.o]at hj;have hsh:(h:Int) / 16=(j:Int):=by have:=hjj.o;omega
    have hqj:=zh (hqat.o _ hj);have hand:=(and_at hh4).2.2;have hst:=zh (show sixByte held 2 x=([webS.getD j 0],h%16,4) by
     unfold sixByte;simp only [hh.o];rw [if_neg (by decide)];show([webS.getD (h / 16) 0],h%16,4)=_;rw [hjj.o])
    go_wp2_with fail
    go_step3
    go_wp2_with fail
    go_step3
    go_wp2_with fail
    refine wp_loop_rounds 2 ?_;rw [rounds_succ];go_wp2_with (refine wpList_own_append tB1 (O2.fr ((Fr.refl [] _).alloc _) (by simp)) (byte_new _ _ (q[j]) _ rfl) (fun u hu=>by simp at hu;rw [hu];rfl) (by simp) (by unfold maxLen;omega) (by omega) rfl rfl rfl rfl (fun v3 w3 p13 p23 p33=> ?_);obtain⟨A3,c3,rfl,hA3⟩:=p13.form)
    rw [rounds_succ];go_wp2_with fail
    rw [Exit.noGoto_normal];go_wp2_with fail
    go_roundg (n - i)
    case measure=>omega
    case rel=>
     refine⟨i+1,h%16,4,out++ [webS.getD j 0],by go_num,by first |rfl | (simp;done) | (congr 1;omega),rfl,by have:=hlth.o;omega,by have:=hlth.o;omega,?_,by omega,by omega,by rw [List.length_append,hn2.o,List.length_singleton];omega,?_⟩
     ·rw [←hqj.o];exact BIn.push hn2.o R2 F2 p13 p23 p33
     ·rw [←hgoh.o,hdr.o,sixGo,hst.o]
   ·have hj:h / 64<q.size:=by have:=hh.o;rw [hqs];omega
    obtain⟨j,hjj⟩:∃z,Hid (h / 64=z):=⟨_,zh rfl⟩
    rw [hjj.o]at hj;have hsh:(h:Int) / 64=(j:Int):=by have:=hjj.o;omega
    have hj2:h%64<q.size:=by rw [hqs];omega
    have hand:=and_63 hh4;have hst:=zh (show sixByte held 4 x=([webS.getD j 0,webS.getD (h%64) 0],0,0) by
     unfold sixByte;simp only [hh.o];rw [if_pos (by decide),hjj.o])
    obtain⟨k,hkk⟩:∃z,Hid (h%64=z):=⟨_,zh rfl⟩
    rw [hkk.o]at hj2 hand hst;have hqj:=zh (hqat.o _ hj);have hqk:=zh (hqat.o _ hj2);have hk4:k<4096:=by have:=hkk.o;omega
    have hand2:=(and_at hk4).1;go_wp2_with fail
    go_step3
    go_wp2_with fail
    go_step3
    go_wp2_with fail
    refine wp_loop_rounds 3 ?_;rw [rounds_succ];go_wp2_with (refine wpList_own_append tB1 (O2.fr ((Fr.refl [] _).alloc _) (by simp)) (byte_new _ _ (q[j]) _ rfl) (fun u hu=>by simp at hu;rw [hu];rfl) (by simp) (by unfold maxLen;omega) (by omega) rfl rfl rfl rfl (fun v3 w3 p13 p23 p33=> ?_);obtain⟨A3,c3,rfl,hA3⟩:=p13.form)
    have hB3:=BIn.push hn2.o R2 F2 p13 p23 p33;obtain⟨A5,c5,hs5,O5,R5,F5⟩:=hB3;obtain⟨rfl,rfl⟩:A3=A5∧c3=c5:=by injection hs5 with h1 _ h3;exact⟨h1,h3⟩
    have hl3:(out++ [q[j]]).length=n2+1:=by rw [List.length_append,hn2.o,List.length_singleton]
    rw [hl3]at O5 R5;clear hs5 p13 p23 p33;rw [rounds_succ];go_wp2_with (refine wpList_own_append tB1 (O5.fr ((Fr.refl [] _).alloc _) (by simp)) (byte_new _ _ (q[k]) _ rfl) (fun u hu=>by simp at hu;rw [hu];rfl) (by simp) (by unfold maxLen;omega) (by omega) rfl rfl rfl rfl (fun v4 w4 p14 p24 p34=> ?_);obtain⟨A4,c4,rfl,hA4⟩:=p14.form)
    rw [rounds_succ];go_wp2_with fail
    rw [Exit.noGoto_normal];go_wp2_with fail
    go_roundg (n - i)
    case measure=>omega
    case rel=>
     refine⟨i+1,0,0,out++ [webS.getD j 0,webS.getD k 0],by go_num,rfl,rfl,by have:=hlth.o;omega,by have:=hlth.o;omega,?_,by omega,by decide,by rw [List.length_append,hn2.o];simp;omega,?_⟩
     ·have:=BIn.push hl3 R5 F5 p14 p24 p34;rw [hqj.o,hqk.o,List.append_assoc]at this;exact this
     ·rw [←hgoh.o,hdr.o,sixGo,hst.o]
  ·have hge:¬(i:Int)<n:=by omega
   have hfin:=hgoh.o;rw [List.drop_eq_nil_of_le (by omega),sixGo]at hfin;have hfinh:=zh hfin;clear hlt hk hfin;rcases hbits with rfl |rfl |rfl
   ·go_wp2_with fail
    go_ret;refine⟨_,rfl,?_⟩;have:=hBh.o;rw [hn2.o]at this;rw [←hfinh.o];first
     |rw [if_pos rfl]
     |simp only [if_true]
    exact this
   ·have hj:held*16<q.size:=by rw [hqs];omega
    obtain⟨j,hjj⟩:∃z,Hid (held*16=z):=⟨_,zh rfl⟩
    rw [hjj.o]at hj;have hsh:(held:Int)*16=(j:Int):=by have:=hjj.o;omega
    have hqj:=zh (hqat.o _ hj);go_wp2_with (refine wpList_own_append tB1 (O2.fr ((Fr.refl [] _).alloc _) (by simp)) (byte_new _ _ (q[j]) _ rfl) (fun u hu=>by simp at hu;rw [hu];rfl) (by simp) (by unfold maxLen;omega) (by omega) rfl rfl rfl rfl (fun v3 w3 p13 p23 p33=> ?_);obtain⟨A3,c3,rfl,hA3⟩:=p13.form)
    go_ret;refine⟨_,rfl,?_⟩;rw [←hfinh.o,if_neg (by decide),show held*2^(6 - 2)=j from hjj.o,←hqj.o];exact BIn.push hn2.o R2 F2 p13 p23 p33
   ·have hj:held*4<q.size:=by rw [hqs];omega
    obtain⟨j,hjj⟩:∃z,Hid (held*4=z):=⟨_,zh rfl⟩
    rw [hjj.o]at hj;have hsh:(held:Int)*4=(j:Int):=by have:=hjj.o;omega
    have hqj:=zh (hqat.o _ hj);go_wp2_with (refine wpList_own_append tB1 (O2.fr ((Fr.refl [] _).alloc _) (by simp)) (byte_new _ _ (q[j]) _ rfl) (fun u hu=>by simp at hu;rw [hu];rfl) (by simp) (by unfold maxLen;omega) (by omega) rfl rfl rfl rfl (fun v3 w3 p13 p23 p33=> ?_);obtain⟨A3,c3,rfl,hA3⟩:=p13.form)
    go_ret;refine⟨_,rfl,?_⟩;rw [←hfinh.o,if_neg (by decide),show held*2^(6 - 4)=j from hjj.o,←hqj.o];exact BIn.push hn2.o R2 F2 p13 p23 p33
end Go.Proofs.YtpmgepijkhaonaaGreat
namespace Go.Proofs.YtpmgepijkhaonaaGreat
open Go.RowKit Go.Sig
theorem tStr:Tryz.prog.underlying 9=some .string:=by kernel_rfl
theorem web_t (w:World) (A:Option Addr) (n c:Nat) (l:List UInt8) (hb:Byts w A n l) (hmax:n≤1000000) (h0:0<(webM l).length):Calls Tryz.prog 246 #[.slice A n c] w fun e w'=>e= .returned (.string ⟨(webM l).toArray⟩)∧Fr [] w w':=by
 have hs:=sixes_t w A n c l hb hmax;rw [show sWeb=⟨#[65,66,67,68,69,70,71,72,73,74,75,76,77,78,79,80,81,82,83,84,85,86,87,88,89,90,97,98,99,100,101,102,103,104,105,106,107,108,109,110,111,112,113,114,115,116,117,118,119,120,121,122,48,49,50,51,52,53,54,55,56,57,45,95]⟩from rfl]at hs;obtain⟨bs,hbs⟩:∃z,Hid (webM l=z):=⟨_,zh rfl⟩
 rw [hbs.o]at hs h0⊢;go_enter Tryz.func246,Tryz.ntmps246;go_wp2_with fail
 refine hs.mono ?_;rintro e w' ⟨v,rfl,A2,c2,rfl,O2,R2,F2⟩;obtain⟨b,o,rfl,hcell⟩:=O2.rd.2 h0;have hcv:=run_convert_bytes_back (P:=Tryz.prog) w' 42 9 5 ⟨b,o,none⟩ c2 bs tBytes (by kernel_rfl) tStr (fun j hj=>by
  rw [Addr.add_lit];exact hcell j _ (by rw [List.getElem?_map,List.getElem?_eq_getElem hj];rfl))
 have F2h:=zh F2;clear hcell O2 R2 F2 hs;go_wp2_with fail
 go_ret;exact⟨rfl,F2h.o⟩
theorem acc_step {acc x y:Nat}:(acc ||| (x^^^y)=0)↔(acc=0∧x=y):=by
 rw [Nat.or_eq_zero_iff];have:x^^^y=0↔x=y:=by
  constructor
  ·intro h;apply Nat.eq_of_testBit_eq;intro i;have hb:=congrArg (fun n=>Nat.testBit n i) h;simp only [Nat.testBit_xor,Nat.zero_testBit]at hb
   revert hb
   cases x.testBit i<;>cases y.testBit i<;>decide
  ·intro h;rw [h,Nat.xor_self]
 rw [this]
set_option maxHeartbeats 2000000 in
theorem osame_t (w:World) (A B:Option Addr) (n m c d:Nat) (a b:List UInt8) (hA:Byts w A n a) (hB:Byts w B m b) (hmax:n≤1000000) (hmax2:m≤1000000):
  Calls Tryz.prog 228 #[.slice A n c,.slice B m d] w fun e w'=>e= .returned (.bool (decide (a=b)))∧Fr [] w w':=by
 have hna:a.length=n:=Byts.length hA;have hmb:b.length=m:=Byts.length hB;have hAh:=zh hA;have hBh:=zh hB;clear hA hB;by_cases hnm:n=m
 ·subst hnm;go_enter Tryz.func228,Tryz.ntmps228;go_wp2_with fail
  go_loopg [5,6,14] (n+1) (fun gk s5 s6 s14 wr=>∃(i acc:Nat),s14= .int .i64 i∧s5= .int .u8 acc∧acc<256∧i≤n∧n - i<gk∧(acc=0↔a.take i=b.take i)∧Fr [] w wr)
  case atStart=>exact⟨0,0,rfl,rfl,by omega,by omega,by omega,by simp,Fr.refl _ _⟩
  case round=>
   obtain⟨i,acc,rfl,rfl,hacc,hi,hk,hq,hF⟩:=hrel;have hqh:=zh hq;have hFh:=zh hF;clear hq;by_cases hlt:i<n
   ·have hlt':(i:Int)<n:=by omega
    have hlth:=zh hlt;have ha':i<a.length:=by omega
    have hb':i<b.length:=by omega
    obtain⟨ba,oa,rfl,hca⟩:=(Rd.fr hAh.o hF (by simp [Off])).2 (by omega);obtain⟨bb,ob,rfl,hcb⟩:=(Rd.fr hBh.o hF (by simp [Off])).2 (by omega);have cx:=hca i (bv a[i]) (by rw [List.getElem?_map,List.getElem?_eq_getElem ha'];rfl);have cy:=hcb i (bv b[i]) (by rw [List.getElem?_map,List.getElem?_eq_getElem hb'];rfl);have hta:=zh (List.take_succ_eq_append_getElem ha');have htb:=zh (List.take_succ_eq_append_getElem hb');clear hca hcb hF;obtain⟨x,hx⟩:∃z,Hid (a[i]=z):=⟨_,zh rfl⟩
    obtain⟨y,hy⟩:∃z,Hid (b[i]=z):=⟨_,zh rfl⟩
    rw [hx.o]at cx hta;rw [hy.o]at cy htb;unfold bv at cx cy;have h1:=u8_xor_nat x.toNat y.toNat x.toNat_lt y.toNat_lt;have hxo:x.toNat^^^y.toNat<256:=Nat.xor_lt_two_pow (n:=8) x.toNat_lt y.toNat_lt;have h2:=u8_or_nat acc (x.toNat^^^y.toNat) hacc hxo;have ho:acc ||| (x.toNat^^^y.toNat)<256:=Nat.or_lt_two_pow (n:=8) hacc hxo
    have hst:=zh (acc_step (acc:=acc) (x:=x.toNat) (y:=y.toNat));obtain⟨q,hq⟩:∃z,Hid (x.toNat^^^y.toNat=z):=⟨_,zh rfl⟩
    rw [hq.o]at h1 h2 hxo ho hst;obtain⟨r,hr⟩:∃z,Hid (acc |||q=z):=⟨_,zh rfl⟩
    rw [hr.o]at h2 ho hst;go_upto_region 7 with(fail)
    go_quiet (fail)
    go_wp2;go_roundg (n - i)
    case measure=>omega
    case rel=>
     refine⟨i+1,r,by go_num,rfl,ho,by have:=hlth.o;omega,by have:=hlth.o;omega,?_,hFh.o.drewN _⟩;rw [hst.o,hqh.o,hta.o,htb.o];constructor
     ·rintro⟨e1,e2⟩;rw [e1,UInt8.toNat_inj.1 e2]
     ·intro e;have:=List.append_inj' e rfl;exact⟨this.1,by rw [List.cons.inj this.2 |>.1]⟩
   ·have hin:i=n:=by omega
    have hge:¬(i:Int)<n:=by omega
    have hq:=hqh.o;rw [List.take_of_length_le (by omega),List.take_of_length_le (by omega)]at hq;have hqh2:=zh hq;clear hlt hk hF hq;by_cases h0:acc=0
    ·have h0':((acc:Int)==0)=true:=by rw [beq_iff_eq];omega
     have h0h:=zh h0;clear h0;go_wp2;go_ret;exact⟨ret_eq (decide_eq_true (hqh2.o.1 h0h.o)).symm,hFh.o⟩
    ·have h0':((acc:Int)==0)=false:=by rw [beq_eq_false_iff_ne];omega
     have h0h:=zh h0;clear h0;go_wp2;go_ret;exact⟨ret_eq (decide_eq_false (fun h=>h0h.o (hqh2.o.2 h))).symm,hFh.o⟩
 ·have hne:¬(n:Int)=m:=by omega
  have hne2:((n:Int) !=m)=true:=by simpa using hne
  have hab:=zh (show¬a=b from fun h=>hnm (by rw [←hna,←hmb,h]));clear hnm hne;go_enter Tryz.func228,Tryz.ntmps228;go_wp2;go_ret;exact⟨ret_eq (decide_eq_false hab.o).symm,Fr.refl _ _⟩
end Go.Proofs.YtpmgepijkhaonaaGreat
namespace Go.Proofs.YtpmgepijkhaonaaGreat
open Go.RowKit Go.Sig
def methA:Value:= .agg #[.string sPlain,.func (.func 243) #[] #[],.func (.func 244) #[] #[]]
def methB:Value:= .agg #[.string sS256,.func (.func 245) #[] #[],.func (.func 247) #[] #[]]
def methN:Value:= .agg #[.string ⟨#[]⟩,.nilFunc,.nilFunc]
def FindPost (w:World) (name:ByteArray) (e:Ending) (w':World):Prop:=
 Fr [] w w'∧((name=sPlain∧e= .returned (.tuple #[methA,.bool true]))∨(name=sS256∧e= .returned (.tuple #[methB,.bool true]))∨(name≠sPlain∧name≠sS256∧e= .returned (.tuple #[methN,.bool false])))
theorem uMeth:Tryz.prog.underlying 270=some (.struct (Tryz.prog.fieldsOf 270)):=by kernel_rfl
theorem infoMeth {a b c:Value}:(Tryz.prog.info? 270).map (·.size)=some (#[a,b,c]:Array Value).size:=by kernel_rfl
theorem results_meth {fn:Func}{p q:Tmp}(h:fn.results=#[.cell p 270,.tmp q]) (tmps:Array Value) (w:World) (g:Nat) (t:TypeId) (x y z:Value)
  (hp:tmps.getD p undef= .pointer (some ⟨g,0,none⟩)) (hg:w.heap[g]? =some (.cells #[x,y,z] t (0,0))):
  (results fn tmps).run Tryz.prog w= .ok (.tuple #[.agg #[x,y,z],tmps.getD q undef]) w:=by
 have hp':tmps[p]?.getD undef= .pointer (some ⟨g,0,none⟩):=by simpa using hp
 have hl:=run_loadVar_row w g t 270 #[x,y,z] (0,0) _ hg uMeth rfl infoMeth;simp [results,h,hp',asAddr,hl]
set_option maxRecDepth 100000 in
set_option maxHeartbeats 4000000 in
theorem find_t (w:World) (name:ByteArray):Calls Tryz.prog 201 #[.string name] w (FindPost w name):=by
 go_enter Tryz.func201,Tryz.ntmps201;go_upto_region 1 with(fail)
 refine wp_gen (fun W=>(∃zs,Blk W w.heap.size 270 zs∧zs.size=3)∧Fr [] w W) ⟨⟨_,Blk.new _ _ _,by kernel_rfl⟩,(Fr.refl _ _).alloc _⟩ ?_;rintro W ⟨⟨zs,hR,hz⟩,fW⟩;obtain⟨gr,HGR⟩:∃z,Hid (w.heap.size=z):=⟨_,zh rfl⟩
 rw [HGR.o]at hR⊢;go_upto_block 0 with(fail)
 refine wp_gen (fun W2=>(∃ty,Blk W2 W.heap.size ty #[.string sPlain,.func (.func 243) #[] #[],.func (.func 244) #[] #[],.string sS256,.func (.func 245) #[] #[],.func (.func 247) #[] #[]])∧Fr [] W W2) ⟨⟨_,Blk.new _ _ _⟩,(Fr.refl _ _).alloc _⟩ ?_;rintro W2 ⟨⟨ty,hS⟩,f2⟩;obtain⟨gs,HGS⟩:∃z,Hid (W.heap.size=z):=⟨_,zh rfl⟩
 obtain⟨pl,hpl⟩:∃z,Hid (sPlain=z):=⟨_,zh rfl⟩
 obtain⟨qs,hqs⟩:∃z,Hid (sS256=z):=⟨_,zh rfl⟩
 rw [HGS.o,hpl.o,hqs.o]at hS;rw [HGS.o];have hR2:=hR.fr f2 (by simp);have fw2:=zh (fW.trans f2);have hcells:=zh (fun(W3:World) (hF:Fr [] W2 W3)=>show W3.cell? ⟨gs,0,none⟩=some (.string pl)∧W3.cell? ⟨gs,1,none⟩=some (.func (.func 243) #[] #[])∧W3.cell? ⟨gs,2,none⟩=some (.func (.func 244) #[] #[])∧W3.cell? ⟨gs,3,none⟩=some (.string qs)∧W3.cell? ⟨gs,4,none⟩=some (.func (.func 245) #[] #[])∧W3.cell? ⟨gs,5,none⟩=some (.func (.func 247) #[] #[])∧gs<W3.heap.size by
  have h:=hS.fr hF (by simp);exact⟨h.cell 0,h.cell 1,h.cell 2,h.cell 3,h.cell 4,h.cell 5,h.lt⟩)
 obtain⟨c0,c1,c2,c3,c4,c5,hgl⟩:=hcells.o W2 (Fr.refl _ _);clear hR hS fW f2;go_wp2_with fail
 refine wp_loop_rounds 3 ?_;rw [rounds_succ];go_upto_region 4 with(refine wpList_store_row rfl 270 _ _ rfl W2.heap.size #[.string pl,.func (.func 243) #[] #[],.func (.func 244) #[] #[]] rfl rfl 270 _ (Blk.new _ _ _) infoMeth (by kernel_rfl) (by kernel_rfl) ?_)
 refine wp_gen (fun W3=>Blk W3 W2.heap.size 270 #[.string pl,.func (.func 243) #[] #[],.func (.func 244) #[] #[]]∧Fr [] W2 W3) ⟨Blk.setRow (Blk.new _ _ _) _,((Fr.refl _ _).alloc _).setRow (.inr (Nat.le_refl _)) _⟩ ?_;rintro W3 ⟨hM,f3⟩;obtain⟨gm,HGM⟩:∃z,Hid (W2.heap.size=z):=⟨_,zh rfl⟩
 rw [HGM.o]at hM⊢;have hR3:=hR2.fr f3 (by simp);obtain⟨e0,e1,e2⟩:=hM.c3;have hgl:=hM.lt;have hrl:=hR3.lt;have h1:=toList_beq pl name;have h2:=toList_beq qs name;by_cases hp:pl=name
 ·rw [decide_eq_true hp]at h1;have hph:=zh hp;clear hp h2;go_wp2_with (refine wpList_store_row rfl 270 _ _ rfl gr #[.string pl,.func (.func 243) #[] #[],.func (.func 244) #[] #[]] rfl rfl 270 zs hR3 infoMeth (by rw [hz];rfl) (by kernel_rfl) ?_)
  refine bodyPost_ret (v:= .tuple #[methA,.bool true]) ?_ rfl ⟨(fw2.o.trans f3).setRow (.inr (Nat.le_of_eq HGR.o)) _,.inl ⟨by rw [hpl.o];exact hph.o.symm,rfl⟩⟩;unfold methA;rw [hpl.o];refine(results_meth (p:=2) (q:=3) ?_ _ _ gr 270 _ _ _ ?_ (Blk.setRow hR3 _)).trans ?_<;>rfl
 ·rw [decide_eq_false hp]at h1;have hph:=zh hp;have f3h:=zh (fw2.o.trans f3);obtain⟨c0,c1,c2,c3,c4,c5,hgl2⟩:=hcells.o W3 f3;clear hp;go_wp2_with fail
  rw [rounds_succ];go_upto_region 4 with(refine wpList_store_row rfl 270 _ _ rfl W3.heap.size #[.string qs,.func (.func 245) #[] #[],.func (.func 247) #[] #[]] rfl rfl 270 _ (Blk.new _ _ _) infoMeth (by kernel_rfl) (by kernel_rfl) ?_)
  refine wp_gen (fun W4=>Blk W4 W3.heap.size 270 #[.string qs,.func (.func 245) #[] #[],.func (.func 247) #[] #[]]∧Fr [] W3 W4) ⟨Blk.setRow (Blk.new _ _ _) _,((Fr.refl _ _).alloc _).setRow (.inr (Nat.le_refl _)) _⟩ ?_;rintro W4 ⟨hM4,f4⟩;obtain⟨g4,HG4⟩:∃z,Hid (W3.heap.size=z):=⟨_,zh rfl⟩
  rw [HG4.o]at hM4⊢;have hR4:=hR3.fr f4 (by simp);obtain⟨e0,e1,e2⟩:=hM4.c3;have hgl:=hM4.lt;have hrl:=hR4.lt;have f4h:=zh (f3h.o.trans f4);clear h1;by_cases hq:qs=name
  ·rw [decide_eq_true hq]at h2;have hqh:=zh hq;clear hq;go_wp2_with (refine wpList_store_row rfl 270 _ _ rfl gr #[.string qs,.func (.func 245) #[] #[],.func (.func 247) #[] #[]] rfl rfl 270 zs hR4 infoMeth (by rw [hz];rfl) (by kernel_rfl) ?_)
   refine bodyPost_ret (v:= .tuple #[methB,.bool true]) ?_ rfl ⟨f4h.o.setRow (.inr (Nat.le_of_eq HGR.o)) _,.inr (.inl ⟨by rw [hqs.o];exact hqh.o.symm,rfl⟩)⟩;unfold methB;rw [hqs.o];refine(results_meth (p:=2) (q:=3) ?_ _ _ gr 270 _ _ _ ?_ (Blk.setRow hR4 _)).trans ?_<;>rfl
  ·rw [decide_eq_false hq]at h2;have hqh:=zh hq;clear hq;go_wp2_with fail
   rw [rounds_succ];go_wp2_with (refine wpList_store_row rfl 270 _ _ rfl gr #[.string ⟨#[]⟩,.nilFunc,.nilFunc] rfl rfl 270 zs hR4 infoMeth (by rw [hz];rfl) (by kernel_rfl) ?_)
   refine bodyPost_ret (v:= .tuple #[.agg #[.string ⟨#[]⟩,.nilFunc,.nilFunc],.bool false]) ?_ rfl ⟨f4h.o.setRow (.inr (Nat.le_of_eq HGR.o)) _,.inr (.inr ⟨by rw [hpl.o];exact fun e=>hph.o e.symm,by rw [hqs.o];exact fun e=>hqh.o e.symm,rfl⟩)⟩;refine(results_meth (p:=2) (q:=3) ?_ _ _ gr 270 _ _ _ ?_ (Blk.setRow hR4 _)).trans ?_<;>rfl
end Go.Proofs.YtpmgepijkhaonaaGreat
namespace Go.Proofs.YtpmgepijkhaonaaGreat
open Go.RowKit Go.Sig
theorem cell_fr {w w':World}{a:Addr}{v:Value}(hf:Fr [] w w') (h:w.cell? a=some v):w'.cell? a=some v:=(hf.cell (block_lt_of_cell h) (by simp)).trans h
def convC (s:ByteArray) (w:World):Nat:=grownCap w s.size 0 5
def convW (s:ByteArray) (w:World):World:=w.drew.alloc (.cells (bytesRow s (convC s w)) 5 ((bytesRow s (convC s w)).size,(bytesRow s (convC s w)).size+1))
theorem conv_run (s:ByteArray) (w:World):(convert 9 42 (.string s)).run Tryz.prog w= .ok (.slice (some ⟨w.heap.size,0,none⟩) s.size (convC s w)) (convW s w):=
 run_bytes_of_string w 9 42 5 s tStr tBytes (by kernel_rfl)
theorem convC_ge (s:ByteArray) (w:World):s.size≤convC s w:=grownCap_ge _ _ _ _
@[simp] theorem convW_size (s:ByteArray) (w:World):(convW s w).heap.size=w.heap.size+1:=by simp [convW]
theorem convW_fr (s:ByteArray) (w:World):Fr [] w (convW s w):=((Fr.refl [] w).drew).alloc _
theorem byts_cvn {s:ByteArray}{w:World}{g:Nat}(hg:g=w.heap.size):Byts (convW s w) (some ⟨g,0,none⟩) s.size s.data.toList:=by
 subst hg;have hds:s.data.toList.length=s.size:=by rw [Array.length_toList];rfl
 refine⟨by rw [List.length_map,hds,Nat.mul_one],fun _=>⟨w.heap.size,0,rfl,fun j v hv=> ?_⟩⟩;have hj:j<s.data.size:=by have:=(List.getElem?_eq_some_iff.1 hv).1;simpa using this
 have e:(convW s w).heap[w.heap.size]? =some (.cells (bytesRow s (convC s w)) 5 ((bytesRow s (convC s w)).size,(bytesRow s (convC s w)).size+1)):=heap_alloc_new w.drew _;rw [Nat.zero_add];have e2:=cell_of_row (convW s w) w.heap.size j _ _ _ e;rw [e2,bytesRow_at s _ j hj,←hv,List.getElem?_map,Array.getElem?_toList,Array.getElem?_eq_getElem hj];rfl
theorem conv_any (s:ByteArray):∃(cW:World→World) (cC:World→Nat),(∀w,(convert 9 42 (.string s)).run Tryz.prog w= .ok (.slice (some ⟨w.heap.size,0,none⟩) s.size (cC w)) (cW w))∧(∀w,Fr [] w (cW w))∧
  (∀w g,g=w.heap.size→Byts (cW w) (some ⟨g,0,none⟩) s.size s.data.toList)∧(∀w,(cW w).heap.size=w.heap.size+1)∧(∀w,s.size≤cC w):=
 ⟨convW s,convC s,conv_run s,convW_fr s,fun _ _ h=>byts_cvn h,convW_size s,convC_ge s⟩
theorem byts_dig {w:World}{g:Nat}{t:TypeId}{l:List UInt8}(h:Blk w g t (digCells l)) (hl:l.length=32):Byts w (some ⟨g,0,none⟩) 32 l:=byts_new h rfl hl
theorem findA_t (w:World) (v:ByteArray):Calls Tryz.prog 243 #[.string v] w fun e w'=>e= .returned (.string v)∧w=w':=by
 go_enter Tryz.func243,Tryz.ntmps243;go_wp2;go_ret;exact⟨rfl,rfl⟩
theorem sixGo_pos:∀(l:List UInt8) (h n:Nat) (out:List UInt8),0<out.length→0<(sixGo l h n out).length
 | [],h,n,out,ho=>by
  rw [sixGo];split
  ·exact ho
  ·rw [List.length_append];omega
 |x::l,h,n,out,ho=>by rw [sixGo];exact sixGo_pos l _ _ _ (by rw [List.length_append];omega)
theorem webM_pos {l:List UInt8}(h:0<l.length):0<(webM l).length:=by
 cases l with
 |nil=>simp at h
 |cons x l=>unfold webM;rw [sixGo];refine sixGo_pos l _ _ _ ?_;unfold sixByte;simp
set_option maxRecDepth 100000 in
set_option maxHeartbeats 1000000 in
theorem findB_t (w:World) (v:ByteArray) (hv:v.size≤1000000):Calls Tryz.prog 245 #[.string v] w fun e w'=>e= .returned (.string ⟨(webM (sha v.data.toList)).toArray⟩)∧Fr [] w w':=by
 obtain⟨cW,cC,hcv,hcF,hcB,hcS,hcc⟩:=conv_any v;have hlen:=sha_length v.data.toList;have hsum:=sum1_t (cW w) _ _ (cC w) _ (hcB w w.heap.size rfl) (hcc w) (by omega);have hF0:=zh (hcF w);obtain⟨D,HD⟩:∃z,Hid (sha v.data.toList=z):=⟨_,zh rfl⟩
 rw [HD.o]at hsum hlen⊢;have hpos:=webM_pos (l:=D) (by omega);clear hcB hcS hcc hcF;go_enter Tryz.func245,Tryz.ntmps245;go_wp2_with fail
 refine hsum.mono ?_;rintro e W1 ⟨rfl,F1⟩;have f1:=zh (hF0.o.trans F1);clear hsum F1 hcv;go_upto_region 2 with(refine wpList_store_row rfl 74 _ _ rfl W1.heap.size (digCells D) rfl rfl 74 _ (Blk.new W1 74 _) (infoDigA hlen) (by rw [digCells_size hlen];rfl) (digCells_one D) ?_)
 refine wp_gen (fun W2=>Blk W2 W1.heap.size 74 (digCells D)∧Fr [] W1 W2) ⟨Blk.setRow (Blk.new W1 74 _) _,((Fr.refl _ _).alloc _).setRow (.inr (Nat.le_refl _)) _⟩ ?_;rintro W2 ⟨hB2,F2⟩;obtain⟨gd,HGD⟩:∃z,Hid (W1.heap.size=z):=⟨_,zh rfl⟩
 rw [HGD.o]at hB2⊢;have hweb:=web_t W2 _ 32 32 D (byts_dig hB2 hlen) (by decide) hpos;have f2:=zh (f1.o.trans F2);have hgl:=hB2.lt;clear F2 hB2;go_wp2_with (go_at_call 246;refine hweb.mono ?_;rintro e W3 ⟨rfl,F3⟩)
 go_ret;exact⟨rfl,f2.o.trans F3⟩
set_option maxRecDepth 100000 in
theorem findC_t (w:World) (c:ByteArray) (hc:c.size≤1000000):Calls Tryz.prog 247 #[.string c] w fun e w'=>e= .returned (.bool ((unwebM c.data.toList).any fun b=>decide (b.length=32)))∧Fr [] w w':=by
 have hu:=unweb_t w c hc;cases hr:unwebM c.data.toList with
 |none=>
  rw [hr]at hu;go_enter Tryz.func247,Tryz.ntmps247;go_wp2_with (go_at_call 248;refine Calls.mono (show Calls Tryz.prog 248 _ _ _ from hu) ?_;rintro e w' ⟨rfl,F⟩)
  go_ret;exact⟨rfl,F⟩
 |some bs=>
  rw [hr]at hu;by_cases h32:bs.length=32
  ·have h32':((bs.length:Int)==32)=true:=by rw [beq_iff_eq];omega
   have h32h:=zh h32;clear h32;go_enter Tryz.func247,Tryz.ntmps247;go_wp2_with (go_at_call 248;refine Calls.mono (show Calls Tryz.prog 248 _ _ _ from hu) ?_;rintro e w' ⟨v,rfl,A2,c2,rfl,O2,R2,F2⟩)
   go_ret;exact⟨ret_eq (by rw [Option.any_some,decide_eq_true h32h.o]),F2⟩
  ·have h32':((bs.length:Int)==32)=false:=by rw [beq_eq_false_iff_ne];omega
   have h32h:=zh h32;clear h32;go_enter Tryz.func247,Tryz.ntmps247;go_wp2_with (go_at_call 248;refine Calls.mono (show Calls Tryz.prog 248 _ _ _ from hu) ?_;rintro e w' ⟨v,rfl,A2,c2,rfl,O2,R2,F2⟩)
   go_ret;exact⟨ret_eq (by rw [Option.any_some,decide_eq_false h32h.o]),F2⟩
end Go.Proofs.YtpmgepijkhaonaaGreat
