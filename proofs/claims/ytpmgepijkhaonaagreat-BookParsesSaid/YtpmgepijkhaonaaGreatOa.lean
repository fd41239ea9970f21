/- The document's records: what is written, and read again: plain laws. Conditions: each theorem's own. -/
import Derived.Test.YtpmgepijkhaonaaGreatLn
namespace Go.Sig
open Go.RowKit
def nextM (most:Nat):Nat→Nat→Nat→List UInt8→Nat×List UInt8×Int
 | 0,_,_,bs=>(0,bs,3)
 |_+1,_,_,[]=>(0,[],4)
 |f+1,k,n,d::bs=>
  if(k=9∧1<d.toNat)∨(0<k∧d.toNat=0)then(0,bs,3)
  else if d.toNat<128 then(if n+d.toNat*128^k≤most then(n+d.toNat*128^k,bs,0)else(0,bs,3))
  else nextM most f (k+1) (n+d.toNat%128*128^k) bs
abbrev RdS:=List UInt8×Int
def numR (most:Nat) (r:RdS):Nat×RdS:=if r.2=0 then nextM most 10 0 0 r.1 else(0,r)
def zag (n:Nat):Int:=if n%2=1 then -((n / 2:Nat):Int) - 1 else((n / 2:Nat):Int)
def intR (r:RdS):Int×RdS:=(zag (numR 18446744073709551615 r).1,(numR 18446744073709551615 r).2)
def textR (r:RdS):ByteArray×RdS:=
 if(numR 65536 r).2.2≠0 then(⟨#[]⟩,(numR 65536 r).2)
 else if(numR 65536 r).2.1.length<(numR 65536 r).1 then(⟨#[]⟩,((numR 65536 r).2.1,4))
 else(⟨((numR 65536 r).2.1.take (numR 65536 r).1).toArray⟩,((numR 65536 r).2.1.drop (numR 65536 r).1,0))
def boolR (r:RdS):Bool×RdS:=(decide ((numR 1 r).1=1),(numR 1 r).2)
def textsF:Nat→List ByteArray→RdS→List ByteArray×RdS
 | 0,l,r=>(l,r)
 |n+1,l,r=>if r.2=0 then textsF n (l++ [(textR r).1]) (textR r).2 else(l,r)
def textsR (r:RdS):List ByteArray×RdS:=
 (if(textsF (numR 4096 r).1 [] (numR 4096 r).2).2.2=0 then(textsF (numR 4096 r).1 [] (numR 4096 r).2).1 else [],(textsF (numR 4096 r).1 [] (numR 4096 r).2).2)
def tokRd (r:RdS):GTok×RdS:=(⟨((numR 4096 r).1:Nat),(textsR (numR 4096 r).2).1,(boolR (textsR (numR 4096 r).2).2).1⟩,(boolR (textsR (numR 4096 r).2).2).2)
def toksF:Nat→List GTok→RdS→List GTok×RdS
 | 0,l,r=>(l,r)
 |n+1,l,r=>toksF n (l++ [(tokRd r).1]) (tokRd r).2
def intsF:Nat→List Int→RdS→List Int×RdS
 | 0,l,r=>(l,r)
 |n+1,l,r=>intsF n (l++ [(intR r).1]) (intR r).2
def famR (r0:RdS):GFam×RdS:=
 let a:=textR r0
 let b:=textR a.2
 let c:=textR b.2
 let d:=textsR c.2
 let e:=textR d.2
 let f:=textR e.2
 let g:=textR f.2
 let h:=numR 4096 g.2
 let i:=numR 4096 h.2
 let j:=toksF i.1 [] i.2
 let k:=boolR j.2
 let l:=numR 4096 k.2
 let m:=intsF l.1 [] l.2
 (⟨a.1,b.1,c.1,d.1,e.1,f.1,g.1,(h.1:Nat),j.1,k.1,m.1⟩,m.2)
def num4 (b:List UInt8):Nat:=((b.getD 0 0).toNat*256+(b.getD 1 0).toNat)*65536+((b.getD 2 0).toNat*256+(b.getD 3 0).toNat)
def openR (s:List UInt8):List UInt8×Int:=
 if s.length<8 then([],4)
 else if 65536<num4 s then([],2)
 else if s.length - 8<num4 s then([],4)
 else if num4 s<s.length - 8 then([],3)
 else if(crcM (s.drop 8)).toNat≠num4 (s.drop 4)then([],5)
 else(s.drop 8,0)
def endR (r:RdS):Int:=if r.2=0∧r.1≠ []then 3 else r.2
def shiftU (c:UInt32):UInt32:=(c>>>1)^^^(if c&&&1=1 then 0x82f63b78 else 0)
theorem and1_xor (a b:UInt32):(a^^^b)&&&1=(a&&&1)^^^(b&&&1):=by
 apply UInt32.toBitVec_inj.1;simp only [UInt32.toBitVec_and,UInt32.toBitVec_xor];ext i hi;simp;cases a.toBitVec[i]<;>cases b.toBitVec[i]<;>simp
theorem and1_01 (a:UInt32):a&&&1=0∨a&&&1=1:=by
 have h:(a&&&1).toNat=a.toNat%2:=by rw [UInt32.toNat_and];exact Nat.and_one_is_mod _
 have h2:a.toNat%2=0∨a.toNat%2=1:=by omega
 rcases h2 with h2 |h2
 ·left;apply UInt32.toNat_inj.1;rw [h,h2];rfl
 ·right;apply UInt32.toNat_inj.1;rw [h,h2];rfl
theorem shiftU_xor (a b:UInt32):shiftU (a^^^b)=shiftU a^^^shiftU b:=by
 have e:(a^^^b)>>>1=(a>>>1)^^^(b>>>1):=UInt32.shiftRight_xor ..
 unfold shiftU;rw [and1_xor,e];have ac:∀p q r s:UInt32,(p^^^q)^^^(r^^^s)=(p^^^r)^^^(q^^^s):=fun p q r s=>by rw [UInt32.xor_assoc,←UInt32.xor_assoc q r s,UInt32.xor_comm q r,UInt32.xor_assoc r q s,←UInt32.xor_assoc]
 rw [ac (a>>>1) _ (b>>>1) _];congr 1;rcases and1_01 a with ha |ha<;>rcases and1_01 b with hb |hb<;>rw [ha,hb]<;>decide
theorem shiftU_even {a:UInt32}(h:a.toNat%2=0):shiftU a=a>>>1:=by
 have h1:a&&&1=0:=by apply UInt32.toNat_inj.1;rw [UInt32.toNat_and];show a.toNat&&&1=0;rw [Nat.and_one_is_mod,h]
 unfold shiftU;rw [h1,if_neg (by decide),UInt32.xor_zero]
theorem low_four:∀n:Nat,n<16→shiftU (shiftU (shiftU (shiftU (UInt32.ofNat n))))=crcTab.getD n 0:=by decide
theorem shr_toNat (a:UInt32):(a>>>1).toNat=a.toNat / 2:=by
 rw [UInt32.toNat_shiftRight];show a.toNat>>>(1%32)=_;rw [Nat.shiftRight_eq_div_pow]
theorem high_four {a:UInt32}(h:a.toNat%16=0):shiftU (shiftU (shiftU (shiftU a)))=a>>>4:=by
 have h1:shiftU a=a>>>1:=shiftU_even (by omega);have h2:shiftU (a>>>1)=a>>>1>>>1:=shiftU_even (by rw [shr_toNat];omega);have h3:shiftU (a>>>1>>>1)=a>>>1>>>1>>>1:=shiftU_even (by rw [shr_toNat,shr_toNat];omega);have h4:shiftU (a>>>1>>>1>>>1)=a>>>1>>>1>>>1>>>1:=shiftU_even (by rw [shr_toNat,shr_toNat,shr_toNat];omega);rw [h1,h2,h3,h4];apply UInt32.toNat_inj.1;rw [shr_toNat,shr_toNat,shr_toNat,shr_toNat,UInt32.toNat_shiftRight];show _=a.toNat>>>(4%32);rw [Nat.shiftRight_eq_div_pow];show _=a.toNat / 16;omega
theorem split_four (c:UInt32):c=(c&&&15)^^^(c&&&0xfffffff0):=by
 apply UInt32.toBitVec_inj.1;simp only [UInt32.toBitVec_and,UInt32.toBitVec_xor];ext i hi;have h:(15:BitVec 32)[i]= !(0xfffffff0:BitVec 32)[i]:=by
  have:∀j:Fin 32,(15:BitVec 32).getLsbD j.1= !(0xfffffff0:BitVec 32).getLsbD j.1:=by decide
  have:=this ⟨i,hi⟩;rwa [BitVec.getLsbD_eq_getElem hi,BitVec.getLsbD_eq_getElem hi]at this
 have h1:UInt32.toBitVec 15=15#32:=rfl;have h2:UInt32.toBitVec 0xfffffff0=0xfffffff0#32:=rfl;simp only [h1,h2,BitVec.getElem_xor,BitVec.getElem_and]at*;have h':(15#32)[i]= !(0xfffffff0#32)[i]:=h;rw [h'];cases c.toBitVec[i]<;>cases(0xfffffff0#32)[i]<;>rfl
theorem shift_four (c:UInt32):shiftU (shiftU (shiftU (shiftU c)))=crcHalf c:=by
 have h15:(c&&&15).toNat<16:=by rw [UInt32.toNat_and];show c.toNat&&&15<16;have:=Nat.and_le_right (n:=c.toNat) (m:=15);omega
 have e15:c&&&15=UInt32.ofNat (c&&&15).toNat:=by apply UInt32.toNat_inj.1;rw [UInt32.toNat_ofNat'];omega
 have hhi:(c&&&0xfffffff0).toNat%16=0:=by rw [UInt32.toNat_and];show(c.toNat&&&0xfffffff0)%2^4=0;rw [Nat.and_mod_two_pow];show c.toNat%16&&&0=0;exact Nat.and_zero _
 have hsh:(c&&&0xfffffff0)>>>4=c>>>4:=by rw [UInt32.shiftRight_and];apply UInt32.toNat_inj.1;rw [UInt32.toNat_and,UInt32.toNat_shiftRight];show(c.toNat>>>(4%32))&&&0xfffffff=c.toNat>>>(4%32);rw [Nat.shiftRight_eq_div_pow,show(0xfffffff:Nat)=2^28 - 1 from rfl,Nat.and_two_pow_sub_one_eq_mod];have:=c.toNat_lt;exact Nat.mod_eq_of_lt (by show c.toNat / 16<268435456;omega)
 have h1:shiftU (shiftU (shiftU (shiftU c)))=shiftU (shiftU (shiftU (shiftU (c&&&15))))^^^shiftU (shiftU (shiftU (shiftU (c&&&0xfffffff0)))):=by rw [←shiftU_xor,←shiftU_xor,←shiftU_xor,←shiftU_xor,←split_four]
 rw [h1,high_four hhi,hsh,e15,low_four _ h15];unfold crcHalf;rw [UInt32.xor_comm]
end Go.Sig
namespace Go.Proofs.YtpmgepijkhaonaaGreat
open Go.RowKit Go.Sig
def RdB (w:World) (g B:Nat) (A:Option Addr) (n:Nat) (xs:List Value):Prop:=RdX w [g] 1 A n xs∧g<B∧(0<n→∀ad,A=some ad→ad.block<B)
theorem RdB.fr {w w':World}{g B:Nat}{A:Option Addr}{n:Nat}{xs:List Value}(h:RdB w g B A n xs) (hF:Fr [g] w w'):RdB w' g B A n xs:=⟨RdX.fr h.1 hF,h.2⟩
def RdAt (w:World) (g B:Nat) (r:RdS):Prop:=∃A c,Blk w g 176 #[.slice A r.1.length c,.int .i64 r.2]∧r.1.length≤c∧c≤9223372036854775807∧RdB w g B A r.1.length (r.1.map bv)
theorem RdAt.keep {w w':World}{g B:Nat}{r:RdS}{S:List Nat}(h:RdAt w g B r) (hF:Fr S w w') (hS:∀x∈S,B≤x):RdAt w' g B r:=by
 obtain⟨A,c,h1,h2,h3,h4,h5,h6⟩:=h;refine⟨A,c,h1.fr hF fun hm=> ?_,h2,h3,⟨h4.1.fr hF fun hn ad e hm=> ?_,h4.2⟩,h5,h6⟩
 ·have:=hS _ hm;omega
 ·have h7:=hS _ hm;have h8:=h6 hn ad e;omega
theorem RdAt.fr0 {w w':World}{g B:Nat}{r:RdS}(h:RdAt w g B r) (hF:Fr [] w w'):RdAt w' g B r:=h.keep hF (by simp)
theorem RdAt.lt {w:World}{g B:Nat}{r:RdS}(h:RdAt w g B r):g<w.heap.size:=by
 obtain⟨A,c,h1,_⟩:=h;exact h1.lt
theorem RdAt.low {w:World}{g B:Nat}{r:RdS}(h:RdAt w g B r):g<B:=by
 obtain⟨A,c,_,_,_,_,h,_⟩:=h;exact h
def firstE (bad e:Int):Int:=if bad=0 then e else bad
theorem rfail_t (w:World) (g:Nat) (v:Value) (bad e:Int) (hB:Blk w g 176 #[v,.int .i64 bad]):Calls Tryz.prog 98 #[.pointer (some ⟨g,0,none⟩),.int .i64 e] w fun en w'=>en= .returned (.tuple #[])∧Blk w' g 176 #[v,.int .i64 (firstE bad e)]∧Fr [g] w w':=by
 have c1:=hB.cell 1;have z1:=hB.frozen 1;have hl:=hB.lt;simp only [zG,zH,zI]at c1;have hBh:=zh hB;clear hB;go_enter Tryz.func98,Tryz.ntmps98;by_cases hb:bad=0
 ·subst hb;go_wp2_with fail
  refine bodyPost_end (results_none rfl _ _ _) rfl ?_;exact⟨rfl,hBh.o.set 1 _,(Fr.refl [g] w).setCell (p:=⟨g,1,none⟩) (.inl (by simp)) _⟩
 ·have hb2:(bad==0)=false:=by simpa using hb
  have hbh:=zh hb;clear hb;go_wp2_with fail
  refine bodyPost_end (results_none rfl _ _ _) rfl ?_;exact⟨rfl,by rw [show firstE bad e=bad from if_neg hbh.o];exact hBh.o,Fr.refl _ _⟩
theorem wrapU (n:Nat) (h:n<18446744073709551616):IntKind.u64.wrap (n:Int)=n:=by
 simp only [IntKind.wrap,IntKind.bits,IntKind.signed];simp;omega
theorem pow128 {k:Nat}(h:k≤9):128^k≤9223372036854775808∧(k≤8→128^k≤72057594037927936):=by
 have h9:=Nat.pow_le_pow_right (n:=128) (by decide) h;have e9:(128:Nat)^9=9223372036854775808:=by decide
 refine⟨by omega,fun h8=> ?_⟩;have h8:=Nat.pow_le_pow_right (n:=128) (by decide) h8;have e8:(128:Nat)^8=72057594037927936:=by decide
 omega
theorem next_bound {k m:Nat}(hk:k≤9) (hm:m<128) (h9:k=9→m≤1):m*128^k<18446744073709551616:=by
 obtain⟨p9,p8⟩:=pow128 hk;by_cases h:k=9
 ·have:=Nat.mul_le_mul (h9 h) p9;omega
 ·have:=Nat.mul_le_mul (show m≤127 by omega) (p8 (by omega));omega
theorem next_or {acc k:Nat}(hk:k≤9) (ha:acc<128^k) {d:UInt8}(h9:k=9→d.toNat≤1):bits .or .u64 (acc:Int) (IntKind.u64.wrap (IntKind.u64.wrap (bits .and .u8 (d.toNat:Int) 127)*2^(7*k)))=((acc+d.toNat%128*128^k:Nat):Int):=by
 have h127:d.toNat&&&127=d.toNat%128:=Nat.and_two_pow_sub_one_eq_mod d.toNat 7;have e1:bits .and .u8 (d.toNat:Int) 127=((d.toNat%128:Nat):Int):=by have h:=u8_and_nat d.toNat 127 d.toNat_lt (by decide);rw [h127]at h;exact h
 have e3:(128:Nat)^k=2^(7*k):=by rw [Nat.pow_mul]
 have e2:(2:Int)^(7*k)=((128^k:Nat):Int):=by rw [e3,Int.natCast_pow];rfl
 have hb:=next_bound hk (show d.toNat%128<128 by omega) (fun h=>by have:=h9 h;omega);have hp:=(pow128 hk).1;rw [e1,wrapU _ (by omega),e2,←Int.natCast_mul,wrapU _ hb,u64_or_nat _ _ (by omega) hb];congr 1;rw [e3]at ha⊢;rw [Nat.or_comm,Nat.mul_comm,←Nat.two_pow_add_eq_or_of_lt ha,Nat.add_comm]
theorem addr_slice {b o c i B:Nat}(h:(⟨b,o,none⟩:Addr).block<B):∀ad,(if c=i then some (⟨b,o,none⟩:Addr)else some ⟨b,o+i,none⟩)=some ad→ad.block<B:=by
 intro ad e;split at e
 ·cases e;exact h
 ·cases e;exact h
def NextRel (r:RdS) (most k acc:Nat) (rs:RdS):Prop:=if rs.2=0 then r.2=0∧k≤9∧acc<128^k∧nextM most (10 - k) k acc rs.1=nextM most 10 0 0 r.1 else numR most r=(0,rs)
def NextLeft (rs:RdS) (k:Nat):Nat:=if rs.2=0 then 11 - k else 0
set_option maxRecDepth 100000 in
set_option maxHeartbeats 4000000 in
theorem rnext_t (w:World) (g B:Nat) (r:RdS) (most:Nat) (hm:most<18446744073709551616) (h:RdAt w g B r):Calls Tryz.prog 109 #[.pointer (some ⟨g,0,none⟩),.int .u64 most] w fun e w'=>e= .returned (.int .u64 ((numR most r).1:Nat))∧RdAt w' g B (numR most r).2∧Fr [g] w w':=by
 have hh:=zh h;have hmh:=zh hm;clear h hm;go_enter Tryz.func109,Tryz.ntmps109;go_wp2_with fail
 go_loopg [5,6] 12 (fun gk s5 s6 wr=>∃(k acc:Nat) (rs:RdS),s6= .int .i64 k∧s5= .int .u64 acc∧NextRel r most k acc rs∧NextLeft rs k<gk∧RdAt wr g B rs∧Fr [g] w wr)
 case atStart=>
  refine⟨0,0,r,rfl,rfl,?_,by unfold NextLeft;split<;>omega,hh.o,Fr.refl _ _⟩;unfold NextRel;split
  ·rename_i h0;exact⟨h0,by omega,by decide,rfl⟩
  ·rename_i h0;unfold numR;rw [if_neg h0]
 case round=>
  obtain⟨k,acc,⟨bs,bad⟩,rfl,rfl,hR,hk,hA,hF⟩:=hrel;obtain⟨A,c,hB,hc1,hc2,hX⟩:=hA;have c0:=hB.cell 0;have c1:=hB.cell 1;have z0:=hB.frozen 0;have hl:=hB.lt;simp only [zG,zH,zI]at c0 c1;have hBh:=zh hB;have hFh:=zh hF;have hXh:=zh hX;clear hB hF hX;by_cases hb:bad=0
  ·subst hb;unfold NextRel at hR;simp only [if_true]at hR;obtain⟨hr0,hk9,hacc,hnx⟩:=hR;have hr0h:=zh hr0;have hnxh:=zh hnx;clear hr0 hnx;cases bs with
   |nil=>
    have hf:=rfail_t wr g (.slice A 0 c) 0 4 hBh.o;have hnn:=zh (show numR most r=(0,([],4)) by
     unfold numR;rw [if_pos hr0h.o,←hnxh.o,show 10 - k=(9 - k)+1 by omega];rfl)
    clear hk hacc hk9 hc1;go_wp2_with (go_at_call 98;refine hf.mono ?_;rintro e V ⟨rfl,hB2,F2⟩)
    go_ret;rw [hnn.o];exact⟨rfl,⟨A,c,hB2,Nat.zero_le _,hc2,⟨RdX.nil _ _ _ _,hXh.o.2.1,fun h=>absurd h (by simp)⟩⟩,hFh.o.trans F2⟩
   |cons d bs=>
    simp only [List.length_cons]at c0 hc1;obtain⟨b0,o0,rfl,hcc⟩:=hXh.o.1.1.2 (by simp);have e0:wr.cell? ⟨b0,o0,none⟩=some (.int .u8 (d.toNat:Nat)):=hcc 0 (bv d) rfl;have hne:((bs.length:Int)+1==0)=false:=beq_eq_false_iff_ne.2 (by omega);clear hcc;go_upto_region 9 with(fail)
    obtain⟨A2,hA2⟩:∃z,Hid ((if c=1 then some (⟨b0,o0,none⟩:Addr)else some ⟨b0,o0+1,none⟩)=z):=⟨_,zh rfl⟩
    rw [hA2.o];refine wp_gen (fun V=>Blk V g 176 #[.slice A2 bs.length (c - 1),.int .i64 0]∧Fr [g] wr V) ⟨hBh.o.set 0 _,(Fr.refl [g] wr).setCell (p:=⟨g,0,none⟩) (.inl (by simp)) _⟩ ?_;rintro V ⟨hB2,F2⟩;have hX2:RdB V g B A2 bs.length (bs.map bv):=by have h1:Byts wr (some ⟨b0,o0,none⟩) (bs.length+1) (d::bs):=hXh.o.1.1;have h2:=byts_slice (i:=1) h1 (by omega) hc1;have h3:=off_slice (c:=c) (i:=1) (hXh.o.1.2 (by simp));have h4:=addr_slice (c:=c) (i:=1) (B:=B) (hXh.o.2.2 (by simp) _ rfl);rw [hA2.o]at h2 h3 h4;exact RdB.fr ⟨⟨h2,fun _=>h3⟩,hXh.o.2.1,fun _=>h4⟩ F2
    have hX2h:=zh hX2;have hB2h:=zh hB2;have FF:=zh (hFh.o.trans F2);have hne2:=zh (show c - 1≤9223372036854775807∧bs.length≤c - 1 by omega);clear c0 c1 e0 z0 hl hB2 F2 hX2 hne hXh hBh hFh hc1 hc2;have c1:=hB2h.o.cell 1;have hl:=hB2h.o.lt;simp only [zG,zH,zI]at c1;by_cases hbad:(k=9∧1<d.toNat)∨(0<k∧d.toNat=0)
    ·have hcs:(((k:Int)==9)=true∧decide (1<(d.toNat:Int))=true)∨(((k:Int)==9)=true∧decide (1<(d.toNat:Int))=false∧decide (0<k)=true∧((d.toNat:Int)==0)=true)∨(((k:Int)==9)=false∧decide (0<k)=true∧((d.toNat:Int)==0)=true):=by
      simp only [beq_iff_eq,beq_eq_false_iff_ne,decide_eq_true_eq,decide_eq_false_iff_not];omega
     have hf:=rfail_t V g (.slice A2 bs.length (c - 1)) 0 3 hB2h.o;have hnn:=zh (show numR most r=(0,(bs,3)) by
      unfold numR;rw [if_pos hr0h.o,←hnxh.o,show 10 - k=(9 - k)+1 by omega,nextM,if_pos hbad])
     have hA2h:=zh hA2;clear hk hacc hk9 hbad;rcases hcs with⟨t1,t2⟩ | ⟨t1,t2,t3,t4⟩ | ⟨t1,t2,t3⟩<;>
      (go_wp2_with (go_at_call 98;refine hf.mono ?_;rintro e V2 ⟨rfl,hB3,F3⟩)
       go_ret;rw [hnn.o];exact⟨rfl,⟨A2,c - 1,hB3,hne2.o.2,hne2.o.1,hX2h.o.fr F3⟩,FF.o.trans F3⟩)
    ·have hcs:(((k:Int)==9)=true∧decide (1<(d.toNat:Int))=false∧decide (0<k)=true∧((d.toNat:Int)==0)=false)∨(((k:Int)==9)=false∧decide (0<k)=true∧((d.toNat:Int)==0)=false)∨(((k:Int)==9)=false∧decide (0<k)=false):=by
      simp only [beq_iff_eq,beq_eq_false_iff_ne,decide_eq_true_eq,decide_eq_false_iff_not];omega
     have hor:=next_or hk9 hacc (d:=d) (fun h=>by omega);obtain⟨n2,hn2⟩:∃z,Hid (acc+d.toNat%128*128^k=z):=⟨_,zh rfl⟩
     rw [hn2.o]at hor;by_cases hd:d.toNat<128
     ·have td:decide ((d.toNat:Int)<128)=true:=decide_eq_true (by omega);by_cases hle:n2≤most
      ·have tm:decide (n2≤most)=true:=decide_eq_true (by omega);have hnn:=zh (show numR most r=(n2,(bs,0)) by
        unfold numR;rw [if_pos hr0h.o,←hnxh.o,show 10 - k=(9 - k)+1 by omega,nextM,if_neg hbad,if_pos hd];rw [Nat.mod_eq_of_lt hd]at hn2;rw [hn2.o,if_pos hle])
       clear hk hacc hbad hd hle;rcases hcs with⟨t1,t2,t3,t4⟩ | ⟨t1,t2,t3⟩ | ⟨t1,t2⟩<;>
        (go_wp2_with fail
         go_ret;rw [hnn.o];exact⟨rfl,⟨A2,c - 1,hB2h.o,hne2.o.2,hne2.o.1,hX2h.o⟩,FF.o⟩)
      ·have tm:decide (n2≤most)=false:=decide_eq_false (by omega);have hf:=rfail_t V g (.slice A2 bs.length (c - 1)) 0 3 hB2h.o;have hnn:=zh (show numR most r=(0,(bs,3)) by
        unfold numR;rw [if_pos hr0h.o,←hnxh.o,show 10 - k=(9 - k)+1 by omega,nextM,if_neg hbad,if_pos hd];rw [Nat.mod_eq_of_lt hd]at hn2;rw [hn2.o,if_neg hle])
       have hkl:=zh (show 1<gk by unfold NextLeft at hk;simp only [if_true]at hk;omega);clear hk hacc hbad hd hle;rcases hcs with⟨t1,t2,t3,t4⟩ | ⟨t1,t2,t3⟩ | ⟨t1,t2⟩<;>
        (go_wp2_with (go_at_call 98;refine hf.mono ?_;rintro e V2 ⟨rfl,hB3,F3⟩)
         go_roundg 1
         (case measure=>exact hkl.o)
         (case rel=>exact⟨k+1,n2,(bs,3),by go_num,rfl,hnn.o,by unfold NextLeft;rw [if_neg (show¬(bs,(3:Int)).2=0 from(by decide:¬(3:Int)=0))];omega,⟨A2,c - 1,hB3,hne2.o.2,hne2.o.1,hX2h.o.fr F3⟩,FF.o.trans F3⟩))
     ·have td:decide ((d.toNat:Int)<128)=false:=decide_eq_false (by omega);have hk8:k≤8:=by
       by_cases h:k=9
       ·exact absurd (Or.inl ⟨h,by omega⟩) hbad
       ·omega
      have hnn:=zh (show NextRel r most (k+1) n2 (bs,0) by
       unfold NextRel;rw [if_pos rfl];refine⟨hr0h.o,by omega,?_,?_⟩
       ·have h1:d.toNat%128*128^k≤127*128^k:=Nat.mul_le_mul_right _ (by omega);rw [Nat.pow_succ,←hn2.o];omega
       ·rw [←hnxh.o,show 10 - k=(10 - (k+1))+1 by omega,nextM,if_neg hbad,if_neg hd,hn2.o])
      have hkl:=zh (show 11 - k<gk by unfold NextLeft at hk;simp only [if_true]at hk;omega);clear hk hacc hbad hd;rcases hcs with⟨t1,t2,t3,t4⟩ | ⟨t1,t2,t3⟩ | ⟨t1,t2⟩<;>
       (go_wp2_with fail
        go_roundg (11 - k)
        (case measure=>exact hkl.o)
        (case rel=>exact⟨k+1,n2,(bs,0),by go_num,rfl,hnn.o,by unfold NextLeft;rw [if_pos rfl];omega,⟨A2,c - 1,hB2h.o,hne2.o.2,hne2.o.1,hX2h.o⟩,FF.o⟩))
  ·have hb2:(bad==0)=false:=by simpa using hb
   have hRh:=zh hR;have hbh:=zh hb;have hfin:=zh (show RdAt wr g B (bs,bad)from⟨A,c,hBh.o,hc1,hc2,hXh.o⟩);clear hb hR hk;go_wp2_with fail
   go_ret;have hn:=hRh.o;unfold NextRel at hn;rw [if_neg (show¬(bs,bad).2=0 from hbh.o)]at hn;rw [hn];exact⟨rfl,hfin.o,hFh.o⟩
theorem nextM_le {most:Nat}:∀(f k n:Nat) (bs:List UInt8),(nextM most f k n bs).1≤most
 | 0,_,_,_=>Nat.zero_le _
 |_+1,_,_,[]=>Nat.zero_le _
 |f+1,k,n,d::bs=>by
  unfold nextM;split
  ·exact Nat.zero_le _
  ·split
   ·split
    ·rename_i h;exact h
    ·exact Nat.zero_le _
   ·exact nextM_le f _ _ bs
theorem numR_le {most:Nat}(r:RdS):(numR most r).1≤most:=by
 unfold numR;split
 ·exact nextM_le _ _ _ _
 ·exact Nat.zero_le _
theorem rcount_t (w:World) (g B:Nat) (r:RdS) (h:RdAt w g B r):Calls Tryz.prog 49 #[.pointer (some ⟨g,0,none⟩)] w fun e w'=>e= .returned (.int .i64 ((numR 4096 r).1:Nat))∧RdAt w' g B (numR 4096 r).2∧Fr [g] w w':=by
 have hn:=rnext_t w g B r 4096 (by decide) h;have hle:=numR_le (most:=4096) r;obtain⟨q,hq⟩:∃z,Hid ((numR 4096 r).1=z):=⟨_,zh rfl⟩
 rw [hq.o]at hn hle⊢;have hl:=h.lt;clear h;go_enter Tryz.func49,Tryz.ntmps49;go_wp2_with (go_at_call 109;refine hn.mono ?_;rintro e V ⟨rfl,hA,hF⟩)
 go_ret;exact⟨rfl,hA,hF⟩
theorem rbool_t (w:World) (g B:Nat) (r:RdS) (h:RdAt w g B r):Calls Tryz.prog 50 #[.pointer (some ⟨g,0,none⟩)] w fun e w'=>e= .returned (.bool (boolR r).1)∧RdAt w' g B (boolR r).2∧Fr [g] w w':=by
 have hn:=rnext_t w g B r 1 (by decide) h;unfold boolR;obtain⟨q,hq⟩:∃z,Hid ((numR 1 r).1=z):=⟨_,zh rfl⟩
 simp only;rw [hq.o]at hn⊢;have hl:=h.lt;obtain⟨b,hb⟩:∃z,Hid (decide (q=1)=z):=⟨_,zh rfl⟩
 rw [hb.o];have hqb:((q:Int)==1)=b:=by rw [←hb.o,Bool.eq_iff_iff];simp;omega
 clear h;go_enter Tryz.func50,Tryz.ntmps50;go_wp2_with (go_at_call 109;refine hn.mono ?_;rintro e V ⟨rfl,hA,hF⟩)
 go_ret;exact⟨rfl,hA,hF⟩
theorem i64_xor0 (a:Nat) (h:a<9223372036854775808):bits .xor .i64 (a:Int) 0=(a:Int):=by
 show IntKind.i64.wrap ((BitVec.ofInt 64 (a:Int)^^^BitVec.ofInt 64 0).toNat:Int)=_;rw [show(BitVec.ofInt 64 0)=0#64 from rfl,BitVec.xor_zero,ofInt_u64 a (by omega),IntWalk.i64_left,IntWalk.wrap64_in _ (by omega)]
theorem i64_xorM (a:Nat) (h:a<9223372036854775808):bits .xor .i64 (a:Int) (-1)= -(a:Int) - 1:=by
 show IntKind.i64.wrap ((BitVec.ofInt 64 (a:Int)^^^BitVec.ofInt 64 (-1)).toNat:Int)=_;rw [show(BitVec.ofInt 64 (-1))=BitVec.allOnes 64 from rfl,BitVec.xor_allOnes,BitVec.toNat_not,ofInt_u64 a (by omega),IntWalk.i64_left];unfold wrap64;omega
theorem zag_bits (q:Nat) (hq:q≤18446744073709551615):bits .xor .i64 ((q:Int) / 2) (wrap64 (-wrap64 (bits .and .u64 (q:Int) 1)))=zag q:=by
 have h1:=u64_and_nat q 1 (by omega) (by omega);rw [nat_mask1]at h1;rw [show((1:Nat):Int)=1 from rfl]at h1;rw [h1,show(q:Int) / 2=((q / 2:Nat):Int) by omega];unfold zag;by_cases h:q%2=1
 ·rw [if_pos h,h,show wrap64 (-wrap64 ((1:Nat):Int))= -1 from by unfold wrap64;omega,i64_xorM _ (by omega)]
 ·rw [if_neg h,show q%2=0 by omega,show wrap64 (-wrap64 ((0:Nat):Int))=0 from by unfold wrap64;omega,i64_xor0 _ (by omega)]
theorem rint_t (w:World) (g B:Nat) (r:RdS) (h:RdAt w g B r):Calls Tryz.prog 51 #[.pointer (some ⟨g,0,none⟩)] w fun e w'=>e= .returned (.int .i64 (intR r).1)∧RdAt w' g B (intR r).2∧Fr [g] w w':=by
 have hn:=rnext_t w g B r 18446744073709551615 (by decide) h;have hle:=numR_le (most:=18446744073709551615) r;unfold intR;simp only;obtain⟨q,hq⟩:∃z,Hid ((numR 18446744073709551615 r).1=z):=⟨_,zh rfl⟩
 rw [hq.o]at hn hle⊢;have hl:=h.lt;clear h;go_enter Tryz.func51,Tryz.ntmps51;go_wp2_with (go_at_call 109;refine hn.mono ?_;rintro e V ⟨rfl,hA,hF⟩)
 go_ret;refine⟨?_,hA,hF⟩;rw [←zag_bits q hle];rfl
theorem rend_t (w:World) (g B:Nat) (r:RdS) (h:RdAt w g B r):Calls Tryz.prog 52 #[.pointer (some ⟨g,0,none⟩)] w fun e w'=>e= .returned (.int .i64 (endR r))∧w=w':=by
 obtain⟨bs,bad⟩:=r;obtain⟨A,c,hB,_,_,_⟩:=h;have c0:=hB.cell 0;have c1:=hB.cell 1;have hl:=hB.lt;simp only [zG,zH,zI]at c0 c1;obtain⟨n,hn⟩:∃z,Hid (bs.length=z):=⟨_,zh rfl⟩
 rw [hn.o]at c0;have hre:endR (bs,bad)=if bad=0∧n≠0 then 3 else bad:=by unfold endR;simp only;rw [←hn.o];simp only [ne_eq,List.length_eq_zero_iff]
 clear hB;by_cases hb:bad=0
 ·subst hb;by_cases h0:n=0
  ·rw [if_neg (fun h=>h.2 h0)]at hre;subst h0;have hv:=zh hre;clear hre;go_enter Tryz.func52,Tryz.ntmps52;go_wp2_with fail
   go_ret;exact⟨by rw [hv.o];rfl,rfl⟩
  ·rw [if_pos ⟨rfl,h0⟩]at hre;have hd:decide (0<n)=true:=decide_eq_true (by omega);have hv:=zh hre;clear hre h0;go_enter Tryz.func52,Tryz.ntmps52;go_wp2_with fail
   go_ret;exact⟨by rw [hv.o];rfl,rfl⟩
 ·rw [if_neg (fun h=>hb h.1)]at hre;have hb2:(bad==0)=false:=by simpa using hb
  have hv:=zh hre;clear hre hb;go_enter Tryz.func52,Tryz.ntmps52;go_wp2_with fail
  go_ret;exact⟨by rw [hv.o];rfl,rfl⟩
set_option maxRecDepth 100000 in
set_option maxHeartbeats 4000000 in
theorem conv_nil (A:Option Addr) (c:Nat) (w:World):(convert 42 9 (.slice A 0 c)).run Tryz.prog w= .ok (.string ⟨#[]⟩) w:=by
 cases A with
 |none=>kernel_rfl
 |some a=>exact run_convert_bytes_back (P:=Tryz.prog) w 42 9 5 a c [] tW1.ty (by kernel_rfl) und_str (fun j hj=>absurd hj (by simp))
set_option maxRecDepth 100000 in
set_option maxHeartbeats 4000000 in
theorem rtext_t (w:World) (g B:Nat) (r:RdS) (h:RdAt w g B r):Calls Tryz.prog 47 #[.pointer (some ⟨g,0,none⟩)] w fun e w'=>e= .returned (.string (textR r).1)∧RdAt w' g B (textR r).2∧Fr [g] w w':=by
 have hn:=rnext_t w g B r 65536 (by decide) h;have hle:=numR_le (most:=65536) r;have htx:∀q bs bad,numR 65536 r=(q,(bs,bad))→textR r=if bad≠0 then(⟨#[]⟩,(bs,bad))else if bs.length<q then(⟨#[]⟩,(bs,4))else(⟨(bs.take q).toArray⟩,(bs.drop q,0)):=fun q bs bad h=>by unfold textR;rw [h]
 obtain⟨⟨q,bs,bad⟩,hq⟩:∃z,Hid (numR 65536 r=z):=⟨_,zh rfl⟩
 have htx:=htx q bs bad hq.o;rw [hq.o]at hn hle;simp only at hn hle;have hl:=h.lt;clear h;by_cases hb:bad=0
 ·subst hb;rw [if_neg (by simp)]at htx;by_cases hs:bs.length<q
  ·rw [if_pos hs]at htx;have hv:=zh htx;have hs1:decide (bs.length<q)=true:=decide_eq_true (by omega);clear htx;go_enter Tryz.func47,Tryz.ntmps47;go_upto_region 4 with(go_at_call 109;refine hn.mono ?_;rintro e V ⟨rfl,hA,hF⟩)
   obtain⟨A,c,hB,h1,h2,h3⟩:=hA;have c0:=hB.cell 0;have hgl:=hB.lt;simp only [zG,zH]at c0;have hf:=rfail_t V g (.slice A bs.length c) 0 4 hB;have h3h:=zh h3;have hFh:=zh hF;clear hn hB h3 hF;go_upto_region 6 with(go_at_call 98;refine hf.mono ?_;rintro e V2 ⟨rfl,hB2,F2⟩)
   have c1:=hB2.cell 1;have hgl2:=hB2.lt;simp only [zG,zH,zI]at c1;have e4:firstE 0 4=4:=rfl;rw [e4]at c1 hB2;have hB2h:=zh hB2;have F2h:=zh F2;clear c0 hf hB2 F2 e4;go_wp2_with fail
   go_ret;rw [hv.o];exact⟨rfl,⟨A,c,hB2h.o,h1,h2,h3h.o.fr F2h.o⟩,hFh.o.trans F2h.o⟩
  ·rw [if_neg hs]at htx;have hv:=zh htx;have hs1:decide (bs.length<q)=false:=decide_eq_false (by omega);clear htx;go_enter Tryz.func47,Tryz.ntmps47;go_upto_region 4 with(go_at_call 109;refine hn.mono ?_;rintro e V ⟨rfl,hA,hF⟩)
   obtain⟨A,c,hB,h1,h2,h3⟩:=hA;dsimp only at h1 h3 hB;have c0:=hB.cell 0;have c1:=hB.cell 1;have hgl:=hB.lt;simp only [zG,zH,zI]at c0 c1;have h3h:=zh h3;have hFh:=zh hF;have hBh:=zh hB;clear hn hB h3 hF;have hss:=zh hs;by_cases h0:q=0
   ·subst h0;have hcn:=fun A c=>conv_nil A c V;have z0:=hBh.o.frozen 0;clear hs;cases A with
    |none=>
     go_upto_region 10 with(fail)
     refine wp_gen (fun W=>RdAt W g B (bs,0)∧Fr [g] V W) ⟨⟨_,c,hBh.o.set 0 _,h1,h2,h3h.o.fr ((Fr.refl [g] V).setCell (p:=⟨g,0,none⟩) (.inl (by simp)) _)⟩,(Fr.refl [g] V).setCell (p:=⟨g,0,none⟩) (.inl (by simp)) _⟩ ?_;rintro W ⟨hAW,hFW⟩;go_wp2_with fail
     go_ret;rw [hv.o];exact⟨rfl,hAW,hFh.o.trans hFW⟩
    |some a=>
     go_upto_region 10 with(fail)
     refine wp_gen (fun W=>RdAt W g B (bs,0)∧Fr [g] V W) ⟨⟨_,c,hBh.o.set 0 _,h1,h2,h3h.o.fr ((Fr.refl [g] V).setCell (p:=⟨g,0,none⟩) (.inl (by simp)) _)⟩,(Fr.refl [g] V).setCell (p:=⟨g,0,none⟩) (.inl (by simp)) _⟩ ?_;rintro W ⟨hAW,hFW⟩;go_wp2_with fail
     go_ret;rw [hv.o];exact⟨rfl,hAW,hFh.o.trans hFW⟩
   ·obtain⟨b0,o0,rfl,hcc⟩:=h3h.o.1.1.2 (show 0<bs.length by omega);have hcv:∀V2,Fr [] V V2→(convert 42 9 (.slice (some ⟨b0,o0,none⟩) q c)).run Tryz.prog V2= .ok (.string ⟨(bs.take q).toArray⟩) V2:=fun V2 hF=>by
     have ht:(bs.take q).length=q:=by rw [List.length_take];omega
     have h:=run_convert_bytes_back (P:=Tryz.prog) V2 42 9 5 ⟨b0,o0,none⟩ c (bs.take q) tW1.ty (by kernel_rfl) und_str (fun j hj=>by
      rw [Addr.add_lit];rw [ht]at hj;exact cell_fr hF (hcc j _ (by rw [List.getElem?_map,List.getElem?_eq_getElem (by omega),List.getElem_take];rfl)))
     rw [ht]at h;exact h
    have hcv0:=hcv V (Fr.refl _ _);have hqc:q≤bs.length:=by have:=hss.o;omega
    clear hs hcc hcv;have z0:=hBh.o.frozen 0;go_upto_region 10 with(fail)
    obtain⟨A2,hA2⟩:∃z,Hid ((if c=q then some (⟨b0,o0,none⟩:Addr)else some ⟨b0,o0+q,none⟩)=z):=⟨_,zh rfl⟩
    rw [hA2.o];have hX2:RdB V g B A2 (bs.length - q) ((bs.drop q).map bv):=by have k1:Byts V (some ⟨b0,o0,none⟩) bs.length bs:=h3h.o.1.1;have k2:=byts_slice (i:=q) k1 (by have:=hss.o;omega) h1;have k3:=off_slice (c:=c) (i:=q) (h3h.o.1.2 (by have:=hss.o;omega));have k4:=addr_slice (c:=c) (i:=q) (B:=B) (h3h.o.2.2 (by have:=hss.o;omega) _ rfl);rw [hA2.o]at k2 k3 k4;exact⟨⟨k2,fun _=>k3⟩,h3h.o.2.1,fun _=>k4⟩
    have F2:Fr [g] V (V.setCell ⟨g,0,none⟩ (.slice A2 (bs.length - q) (c - q))):=(Fr.refl [g] V).setCell (p:=⟨g,0,none⟩) (.inl (by simp)) _;have hB2:=hBh.o.set 0 (.slice A2 (bs.length - q) (c - q));have hfin:=zh (show RdAt (V.setCell ⟨g,0,none⟩ (.slice A2 (bs.length - q) (c - q))) g B (bs.drop q,0)from⟨A2,c - q,by simp only [List.length_drop];exact hB2,by simp only [List.length_drop];omega,by omega,by simp only [List.length_drop];exact hX2.fr F2⟩);have FF:=zh (hFh.o.trans F2);clear hX2 F2 hB2;go_wp2_with fail
    go_ret;rw [hv.o];exact⟨rfl,hfin.o,FF.o⟩
 ·rw [if_pos hb]at htx;have hv:=zh htx;have hbh:=zh hb;have hb2:(bad==0)=false:=by simpa using hb
  have hb3:(bad !=0)=true:=by simpa using hb
  clear htx hb;go_enter Tryz.func47,Tryz.ntmps47;go_upto_region 4 with(go_at_call 109;refine hn.mono ?_;rintro e V ⟨rfl,hA,hF⟩)
  have hAh:=zh hA;obtain⟨A,c,hB,h1,h2,h3⟩:=hA;dsimp only at h1 h3 hB;have c0:=hB.cell 0;have c1:=hB.cell 1;have hgl:=hB.lt;simp only [zG,zH,zI]at c0 c1;have hFh:=zh hF;have hf:=rfail_t V g (.slice A bs.length c) bad 4 hB;rw [show firstE bad 4=bad from if_neg hbh.o]at hf;have h3h:=zh h3;have hh12:=zh (And.intro h1 h2);clear hn hB h3 hF;by_cases hs:bs.length<q
  ·have hs1:decide (bs.length<q)=true:=decide_eq_true (by omega);clear hs h1 h2;go_upto_region 6 with(go_at_call 98;refine hf.mono ?_;rintro e V2 ⟨rfl,hB2,F2⟩)
   have d1:=hB2.cell 1;have hgl2:=hB2.lt;simp only [zG,zH,zI]at d1;have hB2h:=zh hB2;have F2h:=zh F2;clear c0 c1 hf hB2 F2;go_wp2_with fail
   go_ret;rw [hv.o];exact⟨rfl,⟨A,c,hB2h.o,hh12.o.1,hh12.o.2,h3h.o.fr F2h.o⟩,hFh.o.trans F2h.o⟩
  ·have hs1:decide (bs.length<q)=false:=decide_eq_false (by omega);clear hs h1 h2 hf;go_wp2_with fail
   go_ret;rw [hv.o];exact⟨rfl,hAh.o,hFh.o⟩
end Go.Proofs.YtpmgepijkhaonaaGreat
namespace Go.Proofs.YtpmgepijkhaonaaGreat
open Go.RowKit Go.Sig
def TextsPost (w:World) (g B:Nat) (res:List ByteArray×RdS) (e:Ending) (w':World):Prop:=
 ∃A c,e= .returned (.slice A res.1.length c)∧Own w' 9 1 (.slice A res.1.length c) res.1.length (strCells res.1)∧From w.heap.size A∧RdAt w' g B res.2∧Fr [g] w w'
set_option maxRecDepth 100000 in
set_option maxHeartbeats 4000000 in
theorem rdtexts_t (w:World) (g B:Nat) (r:RdS) (h:RdAt w g B r) (hBw:B≤w.heap.size):Calls Tryz.prog 48 #[.pointer (some ⟨g,0,none⟩)] w (TextsPost w g B (textsR r)):=by
 have hc:=rcount_t w g B r h;have hle:=numR_le (most:=4096) r;have hX:textsR r=(if(textsF (numR 4096 r).1 [] (numR 4096 r).2).2.2=0 then(textsF (numR 4096 r).1 [] (numR 4096 r).2).1 else [],(textsF (numR 4096 r).1 [] (numR 4096 r).2).2):=rfl;obtain⟨⟨q,r1⟩,hq⟩:∃z,Hid (numR 4096 r=z):=⟨_,zh rfl⟩
 rw [hq.o]at hX hc hle;simp only at hX hc hle;obtain⟨X,hXe⟩:∃z,Hid (textsF q [] r1=z):=⟨_,zh rfl⟩
 rw [hXe.o]at hX;have hXh:=zh hX;clear h hX;go_enter Tryz.func48,Tryz.ntmps48;go_wp2_with (go_at_call 49;refine hc.mono ?_;rintro e V ⟨rfl,hA,hF⟩)
 have hVF:=zh hF;have hAh:=zh hA;clear hc hA hF;go_loopg [3,4] (q+1) (fun gk s3 s4 wr=>∃(j:Nat) (l:List ByteArray) (rs:RdS) (A:Option Addr) (d:Nat),s4= .int .i64 j∧s3= .slice A l.length d∧textsF j l rs=X∧j<gk∧l.length+j≤4096∧Own wr 9 1 (.slice A l.length d) l.length (strCells l)∧From w.heap.size A∧RdAt wr g B rs∧Fr [g] w wr)
 case atStart=>exact⟨q,[],r1,none,0,rfl,rfl,hXe.o,by omega,by simpa using hle,Own.nil _ _ _,(fun ad e=>by cases e),hAh.o,hVF.o⟩
 case round=>
  obtain⟨j,l,⟨bs,bad⟩,A,d,rfl,rfl,hX,hj,hlen,hO,hFA,hA,hF⟩:=hrel;have hXX:=zh hX;have hOh:=zh hO;have hFAh:=zh hFA;have hAAh:=zh hA;have hFFh:=zh hF;obtain⟨A0,c0,hB,h1,h2,h3⟩:=hA;have c1:=hB.cell 1;have hgl:=hB.lt;simp only [zG,zH,zI]at c1;obtain⟨n,hn⟩:∃z,Hid (l.length=z):=⟨_,zh rfl⟩
  rw [hn.o]at hO hlen⊢;clear hX hFA hF hB h1 h2 h3;by_cases hb:bad=0
  ·subst hb;by_cases h0:j=0
   ·have hv:=zh (show textsR r=(l,(bs,0)) by
     have e:=hXX.o;rw [h0,textsF]at e;rw [hXh.o,←e,if_pos rfl])
    have hd0:decide (0<j)=false:=decide_eq_false (by omega);clear hO h0 hj;go_wp2_with fail
    go_ret;rw [hv.o];exact⟨A,d,by rw [hn.o];rfl,hOh.o,hFAh.o,hAAh.o,hFFh.o⟩
   ·have hd0:decide (0<j)=true:=decide_eq_true (by omega);have hjh:=zh (show j≠0 from h0);have hjk:=zh hj;have ht:=rtext_t wr g B (bs,0) hAAh.o;obtain⟨⟨s,rs2⟩,hs⟩:∃z,Hid (textR (bs,0)=z):=⟨_,zh rfl⟩
    rw [hs.o]at ht;dsimp only at ht;have hrow:∀x∈rowOf (.slice A n d),w.heap.size≤x:=fun x hx=>by obtain⟨ad,e,rfl⟩:=rowOf_mem.1 hx;exact hFAh.o ad e
    have hg:g∉rowOf (.slice A n d):=fun hm=>by have h1:=hrow _ hm;have h2:=hAAh.o.low;omega
    have hrowh:=zh hrow;have hgh:=zh hg;clear hO h0 hj hg hrow;go_wp2_with (first
     | (go_at_call 47;refine ht.mono ?_;rintro e V2 ⟨rfl,hA2,F2⟩;have hO2:=hOh.o;rw [hn.o]at hO2;have hO2:=hO2.fr F2 (fun q hq hm=>hgh.o (by rw [←List.mem_singleton.1 hm];exact hq)))
     | (refine wpList_own_append tStrs (hO2.fr ((Fr.refl [] _).alloc _) (by simp)) (str_new _ _ _) (strCells_one _) (by simp) (by unfold maxLen;omega) (by omega) rfl rfl rfl rfl (fun v2 w2 p1 p2 p3=> ?_);obtain⟨A3,c3,rfl,hA3⟩:=p1.form))
    go_roundg j
    case measure=>exact hjk.o
    case rel=>
     have hlen2:(l++ [s]).length=n+1:=by rw [List.length_append,hn.o];rfl
     refine⟨j - 1,l++ [s],rs2,A3,c3,by have:=hjh.o;go_num,by rw [hlen2],?_,by have:=hjh.o;omega,by have:=hjh.o;omega,by rw [hlen2,strCells_append];exact p1,fun ad e=> ?_,?_,?_⟩
     ·rw [←hXX.o,show j=(j - 1)+1 by have:=hjh.o;omega,textsF,if_pos rfl,hs.o];rfl
     ·rcases p3 ad.block (rowOf_mem.2 ⟨ad,e,rfl⟩)with h |h
      ·obtain⟨ad2,e2,h2⟩:=rowOf_mem.1 h;rw [←h2];exact hFAh.o ad2 e2
      ·have h5:=hFFh.o.size;have h6:=F2.size;rw [h,World.size_alloc];omega
     ·exact hA2.keep (((Fr.refl _ V2).alloc _).trans p2) fun x hx=>Nat.le_trans hBw (hrowh.o x hx)
     ·exact(hFFh.o.trans (F2.alloc _)).andThen p2 fun x hx=> .inr (hrowh.o x hx)
  ·have hb2:(bad==0)=false:=by simpa using hb
   have hb3:(bad !=0)=true:=by simpa using hb
   have hv:=zh (show textsR r=([],(bs,bad)) by
    have e:=hXX.o;cases j with
    |zero=>rw [textsF]at e;rw [hXh.o,←e,if_neg hb]
    |succ j=>
     rw [textsF,if_neg hb]at e;rw [hXh.o,←e,if_neg hb])
   clear hO hj hb;go_wp2_with fail
   all_goals (go_ret;rw [hv.o];exact⟨none,0,rfl,Own.nil _ _ _,(fun ad e=>by cases e),hAAh.o,hFFh.o⟩)
theorem word4_nat (a b c d:UInt8):(word4 a b c d).toNat=(a.toNat*256+b.toNat)*65536+(c.toNat*256+d.toNat):=by
 unfold word4;have h0:=a.toNat_lt;have h1:=b.toNat_lt;have h2:=c.toNat_lt;have h3:=d.toNat_lt;rw [UInt32.toNat_ofNat_of_lt' (by simp [UInt32.size];omega)];omega
theorem word_num (l:List UInt8):(word4 (l.getD 0 0) (l.getD 1 0) (l.getD 2 0) (l.getD 3 0)).toNat=num4 l:=word4_nat _ _ _ _
theorem num4_lt (l:List UInt8):num4 l<4294967296:=by
 rw [←word_num];exact(word4 _ _ _ _).toNat_lt
set_option maxRecDepth 100000 in
set_option maxHeartbeats 4000000 in
theorem rdword_t (w:World) (A:Option Addr) (n c:Nat) (l:List UInt8) (h:Byts w A n l) (h4:4≤n):Calls Tryz.prog 108 #[.slice A n c] w fun e w'=>e= .returned (.int .u32 ((num4 l:Nat):Int))∧∃m,w'=w.drewN m:=by
 obtain⟨b,o,rfl,_,c0⟩:=h.at (show 0<n by omega);obtain⟨b1,o1,e1,_,c1⟩:=h.at (show 1<n by omega);obtain⟨b2,o2,e2,_,c2⟩:=h.at (show 2<n by omega);obtain⟨b3,o3,e3,_,c3⟩:=h.at (show 3<n by omega);cases e1
 cases e2
 cases e3
 have hw:=word4_eq (l.getD 0 0) (l.getD 1 0) (l.getD 2 0) (l.getD 3 0);rw [word_num]at hw;obtain⟨N,hN⟩:∃z,Hid (num4 l=z):=⟨_,zh rfl⟩
 rw [hN.o]at hw⊢;obtain⟨x0,hx0⟩:∃z,Hid (((l.getD 0 0).toNat:Int)=z):=⟨_,zh rfl⟩
 obtain⟨x1,hx1⟩:∃z,Hid (((l.getD 1 0).toNat:Int)=z):=⟨_,zh rfl⟩
 obtain⟨x2,hx2⟩:∃z,Hid (((l.getD 2 0).toNat:Int)=z):=⟨_,zh rfl⟩
 obtain⟨x3,hx3⟩:∃z,Hid (((l.getD 3 0).toNat:Int)=z):=⟨_,zh rfl⟩
 rw [hx0.o]at c0 hw;rw [hx1.o]at c1 hw;rw [hx2.o]at c2 hw;rw [hx3.o]at c3 hw;rw [Nat.add_zero]at c0;clear h;go_enter Tryz.func108,Tryz.ntmps108;go_upto_region 1 with(fail)
 go_quiet (fail)
 go_wp2_with fail
 go_ret;exact⟨rfl,_,rfl⟩
def OpenPost (w:World) (s:List UInt8) (e:Ending) (w':World):Prop:=
 Fr [] w w'∧(((openR s).2=0∧∃g,e= .returned (.tuple #[.pointer (some ⟨g,0,none⟩),.int .i64 0])∧RdAt w' g w'.heap.size ((openR s).1,0)∧w.heap.size≤g)∨((openR s).2≠0∧e= .returned (.tuple #[.pointer none,.int .i64 (openR s).2])))
theorem open_no {w w':World}{s:List UInt8}{k:Int}(hF:Fr [] w w') (h:(openR s).2=k) (hk:k≠0):OpenPost w s (.returned (.tuple #[.pointer none,.int .i64 k])) w':=⟨hF,.inr ⟨by rw [h];exact hk,by rw [h]⟩⟩
theorem open_ok {w w2:World}{s:List UInt8}{N c3:Nat}{A3:Option Addr}(hF:Fr [] w w2) (hv:openR s=(s.drop 8,0)) (hl:(s.drop 8).length=N) (p1:Own w2 5 1 (.slice A3 N c3) N ((s.drop 8).map bv)):
  OpenPost w s (.returned (.tuple #[.pointer (some ⟨w2.heap.size,0,none⟩),.int .i64 0])) (w2.alloc (.cells #[.slice A3 N c3,.int .i64 0] 176)):=by
 have hB:=Blk.new w2 176 #[.slice A3 N c3,.int .i64 0];have hO:=p1.fr ((Fr.refl [] w2).alloc (.cells #[.slice A3 N c3,.int .i64 0] 176)) (by simp);have hlt:=p1.lt;have hb:N≤c3∧c3≤9223372036854775807:=by
  rcases p1.2 with⟨hv3,h0⟩ | ⟨g,cap,cur,hv3,_,_,h1,h2,_⟩
  ·injection hv3 with _ _ e
   omega
  ·injection hv3 with _ _ e
   unfold maxLen at h2;omega
 refine⟨hF.alloc _,.inl ⟨by rw [hv],_,rfl,?_,hF.size⟩⟩;rw [hv];refine⟨A3,c3,by dsimp only;rw [hl];exact hB,by dsimp only;rw [hl];exact hb.1,hb.2,⟨by dsimp only;rw [hl];exact hO.rd,fun _ ad e hm=> ?_⟩,by rw [World.size_alloc];omega,fun _ ad e=> ?_⟩
 ·have h1:=hlt ad.block (rowOf_mem.2 ⟨ad,e,rfl⟩);have h2:=List.mem_singleton.1 hm;omega
 ·have h1:=hlt ad.block (rowOf_mem.2 ⟨ad,e,rfl⟩);rw [World.size_alloc];omega
set_option maxRecDepth 100000 in
set_option maxHeartbeats 8000000 in
theorem rnew_t (w:World) (A:Option Addr) (n c:Nat) (s:List UInt8) (h:Byts w A n s) (hc:n≤c) (hmax:n≤1000000):Calls Tryz.prog 46 #[.slice A n c] w (OpenPost w s):=by
 have hsl:s.length=n:=h.length;have hh:=zh h;by_cases h8:n<8
 ·have hv:=zh (show(openR s).2=4 by unfold openR;rw [if_pos (by omega)]);have t1:decide ((n:Int)<8)=true:=decide_eq_true (by omega);clear h hc hmax hsl h8;go_enter Tryz.func46,Tryz.ntmps46;go_wp2_with fail
  go_ret2;exact open_no (Fr.refl _ _) hv.o (by decide)
 ·obtain⟨b,o,rfl,hcc⟩:=h.2 (by omega);have hw:∀k,Calls Tryz.prog 108 #[.slice (some ⟨b,o,none⟩) n c] (w.drewN k) fun e w'=>e= .returned (.int .u32 ((num4 s:Nat):Int))∧∃m,w'=w.drewN m:=fun k=>(rdword_t (w.drewN k) (some ⟨b,o,none⟩) n c s h (by omega)).mono fun e w' ⟨h1,m,h2⟩=>⟨h1,k+m,by rw [h2,World.drewN_drewN]⟩
  have t1:decide ((n:Int)<8)=false:=decide_eq_false (by omega);have h8h:=zh h8;go_enter Tryz.func46,Tryz.ntmps46;go_upto_region 3 with(fail)
  go_quiet ((go_at_call 108;exact hw _))
  obtain⟨A2,hA2⟩:∃z,Hid ((if c=8 then some (⟨b,o,none⟩:Addr)else some ⟨b,o+8,none⟩)=z):=⟨_,zh rfl⟩
  rw [hA2.o,wrapU _ (by have:=num4_lt s;omega)];have hB2:Byts w A2 (n - 8) (s.drop 8):=by have h2:=byts_slice (i:=8) h (by omega) hc;rwa [hA2.o]at h2
  obtain⟨N,hN⟩:∃z,Hid (num4 s=z):=⟨_,zh rfl⟩
  have hN4:N<4294967296:=by rw [←hN.o];exact num4_lt s
  rw [hN.o];have hB2h:=zh hB2;have hop:openR s=if 65536<N then([],2)else if n - 8<N then([],4)else if N<n - 8 then([],3)else if(crcM (s.drop 8)).toNat≠num4 (s.drop 4)then([],5)else(s.drop 8,0):=by unfold openR;rw [if_neg (by omega),hsl,hN.o]
  have hoph:=zh hop;have hsz:=zh (And.intro hc hmax);clear hw hB2 hcc hop;by_cases q1:65536<N
  ·have hv:=zh (show(openR s).2=2 by rw [hoph.o,if_pos q1]);have t2:decide (65536<(N:Int))=true:=decide_eq_true (by omega);clear q1 h;go_wp2_with fail
   go_ret2;exact open_no ((Fr.refl _ _).drewN _) hv.o (by decide)
  ·have t2:decide (65536<(N:Int))=false:=decide_eq_false (by omega);by_cases q2:n - 8<N
   ·have hv:=zh (show(openR s).2=4 by rw [hoph.o,if_neg q1,if_pos q2]);have t3:decide (n - 8<N)=true:=decide_eq_true q2;clear q1 q2 h;go_wp2_with fail
    go_ret2;exact open_no ((Fr.refl _ _).drewN _) hv.o (by decide)
   ·have t3:decide (n - 8<N)=false:=decide_eq_false q2;by_cases q3:N<n - 8
    ·have hv:=zh (show(openR s).2=3 by rw [hoph.o,if_neg q1,if_neg q2,if_pos q3]);have t4:decide (N<n - 8)=true:=decide_eq_true q3;clear q1 q2 q3 h;go_wp2_with fail
     go_ret2;exact open_no ((Fr.refl _ _).drewN _) hv.o (by decide)
    ·have t4:decide (N<n - 8)=false:=decide_eq_false q3;have hop2:openR s=if(crcM (s.drop 8)).toNat≠num4 (s.drop 4)then([],5)else(s.drop 8,0):=by rw [hoph.o,if_neg q1,if_neg q2,if_neg q3]
     have hN65:=zh (show N≤65536∧n - 8=N by omega);have hop2h:=zh hop2;obtain⟨A4,hA4⟩:∃z,Hid ((if c=4 then some (⟨b,o,none⟩:Addr)else some ⟨b,o+4,none⟩)=z):=⟨_,zh rfl⟩
     have hB4:Byts w A4 (n - 4) (s.drop 4):=by have h2:=byts_slice (i:=4) h (by omega) hc;rwa [hA4.o]at h2
     have hcr:=zh (fun(V:World) (hV:Fr [] w V)=>crcsum_t V A2 (n - 8) (c - 8) (s.drop 8) (Rd.fr hB2h.o hV (by simp [Off])) (by have:=hsz.o.2;omega));have hwd:=zh (fun(V:World) (hV:Fr [] w V)=>rdword_t V A4 (n - 4) (c - 4) (s.drop 4) (Rd.fr hB4 hV (by simp [Off])) (by have:=h8h.o;omega));obtain⟨CR,hCR⟩:∃z,Hid ((crcM (s.drop 8)).toNat=z):=⟨_,zh rfl⟩
     obtain⟨NR,hNR⟩:∃z,Hid (num4 (s.drop 4)=z):=⟨_,zh rfl⟩
     rw [hCR.o]at hcr;rw [hNR.o]at hwd;clear q1 q2 q3 h hop2 hB4;go_upto_region 10 with(fail)
     refine wp_gen (fun V=>Fr [] w V) ((Fr.refl _ _).drewN _) ?_;rintro V FV;have h4i:(4:Int)≤(n:Int):=by omega
     have FVh:=zh FV;clear FV;refine wp_region_z (fun _=>True) [] (by kernel_rfl) trivial ?_;intro hHeld;refine wpZ_tk (i:=0) (v:= ?_) hHeld ?_ ?_;rotate_left
     ·(intro w hSw;go_simp<;>with_reducible rfl)
     try simp only [zA,zC,Act.put,zD,zE,zF]
     refine wpZ_tk (i:=2) (v:= ?_) hHeld ?_ ?_;rotate_left
     ·(intro w hSw;go_simp<;>with_reducible rfl)
     try simp only [zA,zB,zC,Act.put,zD,zE,zF]
     refine wpZ_tk (i:=3) (v:= ?_) hHeld ?_ ?_;rotate_left
     ·(intro w hSw;go_simp<;>with_reducible rfl)
     try simp only [zA,zB,zC,Act.put,zD,zE,zF]
     refine wpZ_one (i:=1) (by kernel_rfl) rfl (fun K hK=> ?_);go_simp;refine Calls.mono (show Calls Tryz.prog 100 _ _ _ from hcr.o _ (FVh.o.trans (Fr.refl _ _).drew)) ?_;rintro e V1 ⟨rfl,G1⟩;have G1':Fr [] V V1:=G1.of_drew;try dsimp only
     refine hK.out _ _ trivial (fun hHeld=> ?_);clear hK K;try simp only [zA,zB,zC,Act.put,zD,zE,zF]
     refine wpZ_one (i:=4) (by kernel_rfl) rfl (fun K hK=> ?_);go_simp;rw [hA4.o];refine Calls.mono (show Calls Tryz.prog 108 _ _ _ from hwd.o _ (FVh.o.trans G1')) ?_;rintro e V2 ⟨rfl,m2,G2⟩;have G2':Fr [] V V2:=G1'.trans (by rw [G2];exact(Fr.refl _ _).drewN _);try dsimp only
     refine hK.out _ _ trivial (fun hHeld=> ?_);clear hK K;try simp only [zA,zB,zC,Act.put,zD,zE,zF]
     refine wpZ_tk (i:=5) (v:= ?_) hHeld ?_ ?_;rotate_left
     ·(intro w hSw;go_simp<;>with_reducible rfl)
     try simp only [zA,zB,zC,Act.put,zD,zE,zF]
     refine wpZ_tk (i:=6) (v:= ?_) hHeld ?_ ?_;rotate_left
     ·(intro w hSw;go_simp<;>with_reducible rfl)
     try simp only [zA,zB,zC,Act.put,zD,zE,zF]
     refine wpZ_done (by kernel_rfl) ?_ _;have FF:=zh (FVh.o.trans G2');by_cases q5:CR=NR
     ·have hv:=zh (show openR s=(s.drop 8,0) by rw [hop2h.o,hCR.o,hNR.o,if_neg (fun h=>h q5)]);have t5:((CR:Int) !=(NR:Int))=false:=by rw [q5];simp
      clear G1 G2 G1' q5;have hr:=Rd.fr hB2h.o FF.o (by simp [Off]);have hn1:=hN65.o.1;have hn2:=hN65.o.2;go_wp2_with (refine wpList_own_append tW1 (Own.nil _ _ _) hr (fun u hu=>by obtain⟨x,_,rfl⟩:=List.mem_map.1 hu;rfl) (fun e=>by rw [←hA2.o]at e;split at e<;>cases e) (by unfold maxLen;omega) (by omega) rfl rfl rfl rfl (fun v2 w2 p1 p2 p3=> ?_);obtain⟨A3,c3,rfl,hA3⟩:=p1.form)
      go_ret2;have hv2:openR s=(s.drop 8,0):=hv.o;have hl8:(s.drop 8).length=N:=by rw [List.length_drop,hsl];exact hn2
      exact open_ok (FF.o.nil.andThen p2 (fun x hx=>by simp [rowOf,Value.ownBlock]at hx)) hv2 hl8 (by rw [hn2]at p1;simpa using p1)
     ·have hv:=zh (show(openR s).2=5 by rw [hop2h.o,hCR.o,hNR.o,if_pos q5]);have t5:((CR:Int) !=(NR:Int))=true:=by rw [bne_iff_ne];omega
      clear G1 G2 G1' q5;go_wp2_with fail
      go_ret2;exact open_no FF.o hv.o (by decide)
end Go.Proofs.YtpmgepijkhaonaaGreat
namespace Go.Proofs.YtpmgepijkhaonaaGreat
open Go.RowKit Go.Sig
theorem btext_no (w:World) (x:FA) (hx:FamIn w [] x) (hz:FamSz x) (hno:rightM x.f=false):Calls Tryz.prog 8 #[x.val] w fun e w'=>e= .returned (.tuple #[.string ⟨#[]⟩,.int .i64 1])∧Fr [] w w':=by
 have hxh:=zh hx;have hzh:=zh hz;have hnh:=zh hno;clear hx hz hno;unfold FA.val;go_enter Tryz.func8,Tryz.ntmps8;go_upto_region 1 with(fail)
 refine wp_gen (fun W=>Blk W w.heap.size 26 x.cells∧Fr [] w W) ⟨Blk.new _ _ _,(Fr.refl _ _).alloc _⟩ ?_;rintro W0 ⟨hB,f0⟩;obtain⟨gf,HGF⟩:∃z,Hid (w.heap.size=z):=⟨_,zh rfl⟩
 rw [HGF.o]at hB⊢;have hr:=right_t W0 x (hxh.o.fr f0) hzh.o;rw [hnh.o]at hr;have f0h:=zh f0;clear f0;go_wp2_with (refine wpList_load_at rfl 26 _ rfl rfl hB (sub_self _) uFam rfl (infoFamL _) ?_;rw [Array.toArray_toList])
 refine hr.mono ?_;rintro e W1 ⟨rfl,F1⟩;have FF:=zh (f0h.o.trans F1);clear hr F1 hB;go_wp2_with fail
 go_ret2;exact⟨rfl,FF.o⟩
def textM (f:GFam):ByteArray×Int:=if rightM f=true then(famText f,0)else(⟨#[]⟩,1)
theorem btextM_t (w:World) (x:FA) (hx:FamIn w [] x) (hz:FamSz x):Calls Tryz.prog 8 #[x.val] w fun e w'=>e= .returned (.tuple #[.string (textM x.f).1,.int .i64 (textM x.f).2])∧Fr [] w w':=by
 by_cases h:rightM x.f=true
 ·unfold textM;rw [if_pos h];exact btext_t w x hx (rightM_ok.1 h)
 ·unfold textM;rw [if_neg h];exact btext_no w x hx hz (by simpa using h)
def parseM (s:ByteArray):GFam×Int:=
 if(openR s.data.toList).2≠0 then(zeroF,(openR s.data.toList).2)
 else if endR (famR ((openR s.data.toList).1,0)).2≠0 then(zeroF,endR (famR ((openR s.data.toList).1,0)).2)
 else if(textM (famR ((openR s.data.toList).1,0)).1).2=0∧(textM (famR ((openR s.data.toList).1,0)).1).1=s then((famR ((openR s.data.toList).1,0)).1,0)
 else(zeroF,3)
theorem textR_sz (r:RdS):(textR r).1.size≤65536:=by
 have h:=numR_le (most:=65536) r;unfold textR;split
 ·exact Nat.zero_le _
 ·split
  ·exact Nat.zero_le _
  ·simp [ByteArray.size];omega
theorem textsF_sz:∀(n:Nat) (l:List ByteArray) (r:RdS),(∀s∈l,s.size≤65536)→(textsF n l r).1.length≤l.length+n∧∀s∈(textsF n l r).1,s.size≤65536
 | 0,l,r,h=>⟨by simp [textsF],by simpa [textsF]using h⟩
 |n+1,l,r,h=>by
  rw [textsF];split
  ·have:=textsF_sz n (l++ [(textR r).1]) (textR r).2 (fun s hs=>by
    rcases List.mem_append.1 hs with hs |hs
    ·exact h s hs
    ·rw [List.mem_singleton.1 hs];exact textR_sz r)
   refine⟨?_,this.2⟩;have h1:=this.1;simp at h1;omega
  ·exact⟨by simp,h⟩
theorem textsR_sz (r:RdS):(textsR r).1.length≤4096∧∀s∈(textsR r).1,s.size≤65536:=by
 have h:=textsF_sz (numR 4096 r).1 [] (numR 4096 r).2 (by simp);have h2:=numR_le (most:=4096) r;unfold textsR;dsimp only;split
 ·refine⟨?_,h.2⟩;have:=h.1;simp at this;omega
 ·exact⟨by simp,by simp⟩
theorem toksF_sz:∀(n:Nat) (l:List GTok) (r:RdS),(∀t∈l,t.scope.length≤4096∧∀s∈t.scope,s.size≤65536)→(toksF n l r).1.length=l.length+n∧∀t∈(toksF n l r).1,t.scope.length≤4096∧∀s∈t.scope,s.size≤65536
 | 0,l,r,h=>⟨by simp [toksF],by simpa [toksF]using h⟩
 |n+1,l,r,h=>by
  rw [toksF];have:=toksF_sz n (l++ [(tokRd r).1]) (tokRd r).2 (fun t ht=>by
   rcases List.mem_append.1 ht with ht |ht
   ·exact h t ht
   ·rw [List.mem_singleton.1 ht];exact textsR_sz _)
  refine⟨?_,this.2⟩;have h1:=this.1;simp at h1;omega
theorem intsF_sz:∀(n:Nat) (l:List Int) (r:RdS),(intsF n l r).1.length=l.length+n
 | 0,l,r=>by simp [intsF]
 |n+1,l,r=>by rw [intsF,intsF_sz];simp;omega
theorem fam_sz {w:World}{B:Nat}{x:FA}{r:RdS}(h:FamW w B x) (hf:(famR r).1=x.f):FamSz x:=by
 have hl:=h.len;have ht:=h.ts;rw [←hf]at hl ht;have k1:=fun r=>toksF_sz (numR 4096 r).1 [] (numR 4096 r).2 (by simp);have k2:=fun r=>numR_le (most:=4096) r;have k3:=fun r=>intsF_sz (numR 4096 r).1 [] (numR 4096 r).2;refine⟨?_,?_,?_,?_,?_,?_⟩
 ·rw [←hf];exact Nat.le_trans (textR_sz _) (by decide)
 ·rw [←hf];exact Nat.le_trans (textsR_sz _).1 (by decide)
 ·rw [←hf];exact fun s hs=>Nat.le_trans ((textsR_sz _).2 s hs) (by decide)
 ·rw [hl];unfold famR;dsimp only;rw [(k1 _).1];exact Nat.le_trans (Nat.add_le_add_left (k2 _) _) (by decide)
 ·intro t htm;have hm:t.tok∈(famR r).1.tokens:=by
   rw [←ht];exact List.mem_map_of_mem htm
  have:=(k1 _).2 t.tok hm;exact⟨by omega,fun s hs=>Nat.le_trans (this.2 s hs) (by decide)⟩
 ·rw [←hf];unfold famR;dsimp only;rw [k3];exact Nat.le_trans (Nat.add_le_add_left (k2 _) _) (by decide)
theorem tIntsR:SliceTy Tryz.prog 24 3 1 8 (.int .i64 0):=⟨by kernel_rfl,by kernel_rfl,rfl,by decide⟩
theorem int_newR (w:World) (x:Int) (ty:TypeId):Rd (w.alloc (.cells #[.int .i64 x] ty)) 1 (some ⟨w.heap.size,0,none⟩) 1 (intCells [x]):=by
 refine⟨rfl,fun _=>⟨_,0,rfl,fun j u hu=> ?_⟩⟩;rw [(Blk.new w ty #[.int .i64 x]).cell,Nat.zero_add,zG];exact hu
theorem parse_push {V V2 v3:World}{pf B tn:Nat}{x:FA}{t:TA}{o:Obj}{A3:Option Addr}{c3:Nat}{S:List Nat}(hW:FamW V B x) (hB:Blk V pf 26 x.cells) (hpf:FOff x [pf]) (hBV:B≤V.heap.size) (hBp:B≤pf) (htn:x.ts.length=tn)
  (f2:Fr S V V2) (hS:∀g∈S,g<B) (hO2:Own V2 9 1 (.slice t.A t.tok.scope.length t.c) t.tok.scope.length (strCells t.tok.scope)) (hA2:From V.heap.size t.A)
  (g1:Own v3 29 3 (.slice A3 (tn+1) c3) (tn+1) (tokCells x.ts++tokCells [t])) (g2:Fr (rowOf (.slice x.tA tn x.tc)) (V2.alloc o) v3)
  (g3:∀g,g∈rowOf (.slice A3 (tn+1) c3)→g∈rowOf (.slice x.tA tn x.tc)∨g=(V2.alloc o).heap.size):
  ∃x1:FA,x1.f={x.f with tokens:=x.f.tokens++ [t.tok]}∧x1.ts.length=tn+1∧Blk (v3.setCell ⟨pf,8,none⟩ (.slice A3 (tn+1) c3)) pf 26 x1.cells∧
   FamW (v3.setCell ⟨pf,8,none⟩ (.slice A3 (tn+1) c3)) B x1∧FOff x1 [pf]∧Fr (pf::rowOf (.slice x.tA tn x.tc)) V2 (v3.setCell ⟨pf,8,none⟩ (.slice A3 (tn+1) c3)):=by
 subst htn;refine⟨{x with f:={x.f with tokens:=x.f.tokens++ [t.tok]},tA:=A3,tc:=c3,ts:=x.ts++ [t]},rfl,by simp,?_⟩;have hFa:Fr S V (V2.alloc o):=f2.alloc o;have hWa:=hW.fr hFa hS;have hplV:=hB.lt;have hpl2:pf<(V2.alloc o).heap.size:=Nat.lt_of_lt_of_le hplV hFa.size;have hsz2:(V2.alloc o).heap.size=V2.heap.size+1:=by simp
 have hVV2:V.heap.size≤V2.heap.size:=f2.size;have hpS:pf∉S:=fun h=>by have:=hS _ h;omega
 have zero:∀{W:World}{A:Option Addr}{n c m e size:Nat}{xs:List Value},Own W e size (.slice A n c) m xs→∀ad,A=some ad→ad.off=0∧ad.spot=none:=fun h ad e=>by
  obtain⟨A',c',k1,k2⟩:=h.form;injection k1 with k1 _ _
  rcases k2 with k2 | ⟨g,k2,_⟩
  ·rw [k1,k2]at e;cases e
  ·rw [k1,k2]at e;cases e;exact⟨rfl,rfl⟩
 have hAlo:∀ad,A3=some ad→x.tA=some ad∨(V2.alloc o).heap.size≤ad.block:=fun ad e=>by
  rcases g3 ad.block (rowOf_mem.2 ⟨ad,e,rfl⟩)with h |h
  ·obtain⟨ad2,e2,h2⟩:=rowOf_mem.1 h;left;have o1:=zero g1 ad e;have o2:=zero hW.toks ad2 e2;obtain⟨a1,a2,a3⟩:=ad;obtain⟨b1,b2,b3⟩:=ad2;simp only at o1 o2 h2;rw [e2,h2,o1.1,o1.2,o2.1,o2.2]
  ·exact .inr (by omega)
 have hO2a:=hO2.fr ((Fr.refl [] V2).alloc o) (by simp);have hA2lt:∀ad,t.A=some ad→ad.block<V2.heap.size:=fun ad e=>hO2.lt _ (rowOf_mem.2 ⟨ad,e,rfl⟩);have hT0:∀ad,x.tA=some ad→ad.block<V.heap.size:=fun ad e=>hW.toks.lt _ (rowOf_mem.2 ⟨ad,e,rfl⟩);have hL0:∀ad,x.lA=some ad→ad.block<V.heap.size:=fun ad e=>hW.leases.lt _ (rowOf_mem.2 ⟨ad,e,rfl⟩);have hap3:Apart A3 t.A:=fun p q ep eq=>by
  have h5:=hA2 q eq;have h6:=hA2lt q eq;rcases hAlo p ep with h |h
  ·have:=hT0 p h;omega
  ·omega
 have hO2b:=hO2a.fr g2 (rowOf_off (fun ad e hg=>by
  obtain⟨ad2,e2,h2⟩:=rowOf_mem.1 hg;have:=hT0 ad2 e2;have:=hA2 ad e;omega))
 have hF3:Fr (pf::rowOf (.slice x.tA x.ts.length x.tc)) (V2.alloc o) v3:=g2.mono (fun i hi=>List.mem_cons_of_mem _ hi);have hoff:∀z,z∈rowOf (.slice x.tA x.ts.length x.tc)→pf≠z:=fun z hz e=>by obtain⟨ad,e2,rfl⟩:=rowOf_mem.1 hz;exact hpf.t ad e2 (by simp [e])
 have hW3:=fam_push (t:=t) (pf:=pf) hWa (by omega) (by rw [tokCells_append];exact g1) hF3 hAlo hpf hO2b (fun ad e=>by have:=hA2 ad e;omega) hap3 (fun p q ep eq=>by
  have:=hL0 p ep;have:=hA2 q eq;omega)
 have hpf3:=foff_push (t:=t) (c:=c3) hpf (fun g hg=>by simp at hg;rw [hg];exact hpl2) hAlo (fun ad e=>by have:=hA2 ad e;simp;omega) {x.f with tokens:=x.f.tokens++ [t.tok]};have hB3:Blk (v3.setCell ⟨pf,8,none⟩ (.slice A3 (x.ts.length+1) c3)) pf 26 (FA.mk {x.f with tokens:=x.f.tokens++ [t.tok]} x.sA x.sc A3 c3 (x.ts++ [t]) x.lA x.lc).cells:=by have h:=((hB.fr hFa hpS).fr g2 (fun hz=>hoff _ hz rfl)).set 8 (.slice A3 (x.ts.length+1) c3);unfold FA.cells at h⊢;simpa using h
 have hF4:Fr [pf] v3 (v3.setCell ⟨pf,8,none⟩ (.slice A3 (x.ts.length+1) c3)):=(Fr.refl [pf] v3).setCell (p:=⟨pf,8,none⟩) (.inl (by simp)) _;exact⟨hB3,hW3.frO hF4 hpf3,hpf3,(((Fr.refl [] V2).alloc o).nil.trans hF3).setCell (p:=⟨pf,8,none⟩) (.inl (by simp)) _⟩
theorem parse_lease {V V2 v3:World}{pf B n:Nat}{x:FA}{e:Int}{o:Obj}{A3:Option Addr}{c3:Nat}{S:List Nat}(hW:FamW V B x) (hB:Blk V pf 26 x.cells) (hpf:FOff x [pf]) (hBV:B≤V.heap.size) (hBp:B≤pf) (hn:x.f.leases.length=n)
  (f2:Fr S V V2) (hS:∀g∈S,g<B)
  (g1:Own v3 3 1 (.slice A3 (n+1) c3) (n+1) (intCells x.f.leases++intCells [e])) (g2:Fr (rowOf (.slice x.lA n x.lc)) (V2.alloc o) v3)
  (g3:∀g,g∈rowOf (.slice A3 (n+1) c3)→g∈rowOf (.slice x.lA n x.lc)∨g=(V2.alloc o).heap.size):
  ∃x1:FA,x1.f={x.f with leases:=x.f.leases++ [e]}∧Blk (v3.setCell ⟨pf,10,none⟩ (.slice A3 (n+1) c3)) pf 26 x1.cells∧
   FamW (v3.setCell ⟨pf,10,none⟩ (.slice A3 (n+1) c3)) B x1∧FOff x1 [pf]∧Fr (pf::rowOf (.slice x.lA n x.lc)) V2 (v3.setCell ⟨pf,10,none⟩ (.slice A3 (n+1) c3)):=by
 subst hn;refine⟨{x with f:={x.f with leases:=x.f.leases++ [e]},lA:=A3,lc:=c3},rfl,?_⟩;have hFa:Fr S V (V2.alloc o):=f2.alloc o;have hWa:=hW.fr hFa hS;have hplV:=hB.lt;have hpl2:pf<(V2.alloc o).heap.size:=Nat.lt_of_lt_of_le hplV hFa.size;have hpS:pf∉S:=fun h=>by have:=hS _ h;omega
 have far:∀{A:Option Addr}{k c m z size:Nat}{xs:List Value},Own (V2.alloc o) z size (.slice A k c) m xs→Apart x.lA A→Off (rowOf (.slice A3 (x.f.leases.length+1) c3)) A:=fun h ha ad e hm=>by
  have h1:=h.lt ad.block (rowOf_mem.2 ⟨ad,e,rfl⟩);rcases g3 _ hm with h2 |h2
  ·obtain⟨ad2,e2,h3⟩:=rowOf_mem.1 h2;exact ha ad2 ad e2 e h3
  ·omega
 have hpA:pf∉rowOf (.slice A3 (x.f.leases.length+1) c3):=fun hm=>by
  rcases g3 _ hm with h2 |h2
  ·obtain⟨ad2,e2,h3⟩:=rowOf_mem.1 h2;exact hpf.l ad2 e2 (by simp [h3])
  ·omega
 have hBA:From B A3:=fun ad e=>by
  rcases g3 ad.block (rowOf_mem.2 ⟨ad,e,rfl⟩)with h2 |h2
  ·obtain⟨ad2,e2,h3⟩:=rowOf_mem.1 h2;have:=hW.fl ad2 e2;omega
  ·have:=hFa.size;omega
 have apart:∀{A:Option Addr},Off (rowOf (.slice A3 (x.f.leases.length+1) c3)) A→Apart A3 A:=fun h p q ep eq hpq=>h q eq (rowOf_mem.2 ⟨p,ep,hpq⟩);have old:∀{A:Option Addr},Apart x.lA A→Off (rowOf (.slice x.lA x.f.leases.length x.lc)) A:=fun h q eq hm=>by obtain⟨p,ep,hpq⟩:=rowOf_mem.1 hm;exact h p q ep eq hpq
 have hlp:pf∉rowOf (.slice x.lA x.f.leases.length x.lc):=fun hm=>by obtain⟨p,ep,hpq⟩:=rowOf_mem.1 hm;exact hpf.l p ep (by simp [hpq])
 have hF3:Fr [pf] v3 (v3.setCell ⟨pf,10,none⟩ (.slice A3 (x.f.leases.length+1) c3)):=(Fr.refl [pf] v3).setCell (p:=⟨pf,10,none⟩) (.inl (by simp)) _;have hlt2:=hW.tl;have hls2:=hW.ls;have swap:∀{A C:Option Addr},Apart A C→Apart C A:=fun h p q ep eq hpq=>h q p eq ep hpq.symm;refine⟨?_,⟨hW.ts,?_,?_,?_,?_,hW.fs,hW.ft,hBA,hW.fe,hW.ts_,?_,hW.te,?_,?_⟩,⟨hpf.s,hpf.t,fun ad e hm=>hpA (rowOf_mem.2 ⟨ad,e,by simpa using hm⟩),hpf.e⟩,?_⟩
 ·have h:=((hB.fr hFa hpS).fr g2 hlp).set 10 (.slice A3 (x.f.leases.length+1) c3);unfold FA.cells at h⊢;simpa using h
 ·exact(hWa.scope.fr g2 (rowOf_off (old hls2))).fr hF3 (rowOf_off hpf.s)
 ·exact(hWa.toks.fr g2 (rowOf_off (old (swap hlt2)))).fr hF3 (rowOf_off hpf.t)
 ·have h:=g1.fr hF3 (fun q hq hm=>hpA (by rw [←List.mem_singleton.1 hm];exact hq));simpa [intCells]using h
 ·exact fun t ht=>((hWa.each t ht).fr g2 (rowOf_off (old (hW.le t ht)))).fr hF3 (rowOf_off (hpf.e t ht))
 ·exact swap (apart (far hWa.toks (swap hlt2)))
 ·exact apart (far hWa.scope hls2)
 ·exact fun t ht=>apart (far (hWa.each t ht) (hW.le t ht))
 ·exact(((Fr.refl [] V2).alloc o).nil.trans (g2.mono (fun i hi=>List.mem_cons_of_mem _ hi))).setCell (p:=⟨pf,10,none⟩) (.inl (by simp)) _
def ParsePost (w:World) (f:GFam) (k:Int) (e:Ending) (w':World):Prop:=
 ∃y:FA,e= .returned (.tuple #[y.val,.int .i64 k])∧y.f=f∧FamW w' w.heap.size y∧Fr [] w w'
def zFA:FA:=⟨zeroF,none,0,none,0,[],none,0⟩
theorem zFA_W (w:World) (B:Nat):FamW w B zFA:=
 ⟨rfl,Own.nil _ _ _,Own.nil _ _ _,Own.nil _ _ _,(fun _ h=>by cases h),(fun _ e=>by cases e),(fun _ e=>by cases e),(fun _ e=>by cases e),(fun _ h=>by cases h),(fun _ _ e=>by cases e),(fun _ _ e=>by cases e),(fun _ h=>by cases h),(fun _ _ e=>by cases e),(fun _ h=>by cases h)⟩
theorem zero_post {w V:World}{P:GFam×Int}{k:Int}{gr:Nat}{cs:Array Value}(hP:P=(zeroF,k)) (F:Fr [] w V) (hg:w.heap.size≤gr):ParsePost w P.1 P.2 (.returned (.tuple #[zFA.val,.int .i64 k])) (V.setRow gr cs):=
 ⟨zFA,by rw [hP],by rw [hP];rfl,zFA_W _ _,F.andThen ((Fr.refl [gr] V).setRow (.inl (by simp)) _) fun g h=> .inr (by simp at h;omega)⟩
set_option maxRecDepth 100000 in
set_option maxHeartbeats 4000000 in
theorem bparse_bad (w:World) (s:ByteArray) (hs:s.size≤1000000) (hbad:(openR s.data.toList).2≠0):Calls Tryz.prog 10 #[.string s] w (ParsePost w zeroF (openR s.data.toList).2):=by
 obtain⟨cW,cC,hcv,hcF,hcB,hcS,hcc⟩:=conv_any s;obtain⟨k,hk⟩:∃z,Hid ((openR s.data.toList).2=z):=⟨_,zh rfl⟩
 have hn:=fun V:World=>rnew_t (cW V) (some ⟨V.heap.size,0,none⟩) s.size (cC V) s.data.toList (hcB V V.heap.size rfl) (hcc V) hs;rw [hk.o]at hbad⊢;have hb3:(k !=0)=true:=by simpa using hbad
 have hnh:=zh hn;have hcFh:=zh hcF;clear hcB hcS hcc hn hs hcF;obtain⟨zs,hz,hzh⟩:∃zs:Array Value,zs.size=11∧Hid (zs=zFA.cells):=⟨_,rfl,zh rfl⟩
 go_enter Tryz.func10,Tryz.ntmps10;go_upto_region 1 with(fail)
 refine wp_gen (fun W=>Blk W w.heap.size 26 zs∧Fr [] w W) ⟨by rw [hzh.o];exact Blk.new _ _ _,(Fr.refl _ _).alloc _⟩ ?_;rintro W ⟨hR,fW⟩;obtain⟨gr,HGR⟩:∃z,Hid (w.heap.size=z):=⟨_,zh rfl⟩
 rw [HGR.o]at hR⊢;have hRh:=zh hR;have fWh:=zh fW;clear fW hR;go_upto_region 2 with(go_at_call 46;refine(hnh.o _).mono ?_;rintro e V ⟨fV,⟨h0,_⟩ | ⟨_,rfl⟩⟩;(exact absurd h0 (by rw [hk.o];exact hbad));rw [hk.o])
 have hRV:=hRh.o.fr ((hcFh.o W).trans fV) (by simp);have hFV:=zh ((fWh.o.trans (hcFh.o W)).trans fV);clear fV;have hrl:=hRV.lt;go_wp2_with (refine wpList_store_row rfl 26 _ _ rfl gr zFA.cells rfl rfl 26 zs hRV (infoFamA zFA) (by rw [hz];rfl) (by kernel_rfl) ?_)
 refine bodyPost_ret (v:= .tuple #[zFA.val,.int .i64 k]) (results_ct (p:=2) (q:=3) rfl _ _ gr 26 zFA.cells (0,0) _ rfl (Blk.setRow hRV _) uFam rfl (infoFamA zFA) rfl) rfl ?_;exact zero_post (P:=(zeroF,k)) rfl hFV.o (Nat.le_of_eq HGR.o)
structure ParsU (w:World) (zs:Array Value) (gr gf gd B:Nat) (r:RdS) (x:FA) (U:World):Prop where
 blk:Blk U gf 26 x.cells
 fam:FamW U B x
 off:FOff x [gf]
 rd:RdAt U gd B r
 fr:Fr [] w U
 res:Blk U gr 26 zs
 size:B≤U.heap.size
 high:B≤gf
theorem ParsU.step {w U V:World}{zs:Array Value}{gr gf gd B:Nat}{r r':RdS}{x x':FA}{S:List Nat}(h:ParsU w zs gr gf gd B r x U) (hw:w.heap.size≤gr) (hg:gr<gd) (F:Fr [gd] U V) (V':World) (hR:RdAt V gd B r') (k1:Blk V' gf 26 x'.cells) (k2:FamW V' B x') (k3:FOff x' [gf]) (k4:Fr S V V') (hS:∀g∈S,B≤g):ParsU w zs gr gf gd B r' x' V':=by
 have hgd:=hR.low;have h1:=F.size;have h2:=k4.size;refine⟨k1,k2,k3,hR.keep k4 hS,(h.fr.andThen F fun g hg=> .inr ?_).andThen k4 fun g hg=> .inr ?_,(h.res.fr F ?_).fr k4 ?_,?_,h.high⟩
 ·simp at hg;omega
 ·have:=hS g hg;omega
 ·simp;omega
 ·intro hm;have:=hS _ hm;omega
 ·have:=h.size;omega
set_option maxRecDepth 100000 in
set_option maxHeartbeats 4000000 in
theorem bparse_good (w:World) (s:ByteArray) (hs:s.size≤1000000) (hok:(openR s.data.toList).2=0):Calls Tryz.prog 10 #[.string s] w (ParsePost w (parseM s).1 (parseM s).2):=by
 obtain⟨cW,cC,hcv,hcF,hcB,hcS,hcc⟩:=conv_any s;obtain⟨P,hP⟩:∃z,Hid (parseM s=z):=⟨_,zh rfl⟩
 rw [hP.o];obtain⟨r0,hr0⟩:∃z,Hid (((openR s.data.toList).1,(0:Int))=z):=⟨_,zh rfl⟩
 obtain⟨⟨v1,r1⟩,hq1⟩:∃z,Hid (textR r0=z):=⟨_,zh rfl⟩
 obtain⟨⟨v2,r2⟩,hq2⟩:∃z,Hid (textR r1=z):=⟨_,zh rfl⟩
 obtain⟨⟨v3,r3⟩,hq3⟩:∃z,Hid (textR r2=z):=⟨_,zh rfl⟩
 obtain⟨⟨v4,r4⟩,hq4⟩:∃z,Hid (textsR r3=z):=⟨_,zh rfl⟩
 obtain⟨⟨v5,r5⟩,hq5⟩:∃z,Hid (textR r4=z):=⟨_,zh rfl⟩
 obtain⟨⟨v6,r6⟩,hq6⟩:∃z,Hid (textR r5=z):=⟨_,zh rfl⟩
 obtain⟨⟨v7,r7⟩,hq7⟩:∃z,Hid (textR r6=z):=⟨_,zh rfl⟩
 obtain⟨⟨v8,r8⟩,hq8⟩:∃z,Hid (numR 4096 r7=z):=⟨_,zh rfl⟩
 obtain⟨⟨v9,r9⟩,hq9⟩:∃z,Hid (numR 4096 r8=z):=⟨_,zh rfl⟩
 have hn:=fun V:World=>rnew_t (cW V) (some ⟨V.heap.size,0,none⟩) s.size (cC V) s.data.toList (hcB V V.heap.size rfl) (hcc V) hs;have hnh:=zh hn;have hcFh:=zh hcF;have hokh:=zh hok;clear hcB hcS hcc hn hs hcF hok;obtain⟨zs,hz,hzh⟩:∃zs:Array Value,zs.size=11∧Hid (zs=zFA.cells):=⟨_,rfl,zh rfl⟩
 go_enter Tryz.func10,Tryz.ntmps10;go_upto_region 1 with(fail)
 refine wp_gen (fun W=>Blk W w.heap.size 26 zs∧Fr [] w W) ⟨by rw [hzh.o];exact Blk.new _ _ _,(Fr.refl _ _).alloc _⟩ ?_;rintro W ⟨hR,fW⟩;obtain⟨gr,HGR⟩:∃z,Hid (w.heap.size=z):=⟨_,zh rfl⟩
 rw [HGR.o]at hR⊢;have hRh:=zh hR;have fWh:=zh fW;clear fW hR;go_upto_region 2 with(go_at_call 46;refine(hnh.o _).mono ?_;rintro e V ⟨fV,⟨_,gd,rfl,hA,hgd⟩ | ⟨h0,_⟩⟩;rotate_left;(exact absurd hokh.o h0);rw [hr0.o]at hA)
 have hRV:=zh (hRh.o.fr ((hcFh.o W).trans fV) (by simp));have hFV:=zh ((fWh.o.trans (hcFh.o W)).trans fV);have hgw:gr<gd:=by have h1:=(hcFh.o W).size;have h2:=hRh.o.lt;omega
 obtain⟨B,HB⟩:∃z,Hid (V.heap.size=z):=⟨_,zh rfl⟩
 rw [HB.o]at hA;have hA0:=zh hA;have hgwh:=zh hgw;have G0:=zh (Fr.refl [gd] V);clear fV hgd hA hgw hRh fWh;go_upto_region 4 with(fail)
 go_upto_region 5 with(first | (go_at_call 47;first | (refine(rtext_t _ _ B r6 hA6.o).mono ?_;rintro e V7 ⟨rfl,hb,F7⟩;rw [hq7.o]at hb⊢;have hA7:=zh hb;clear hb;have G7:=zh (G6.o.trans F7);have H7:=zh (H6.o.trans F7);clear F7;dsimp only) | (refine(rtext_t _ _ B r5 hA5.o).mono ?_;rintro e V6 ⟨rfl,hb,F6⟩;rw [hq6.o]at hb⊢;have hA6:=zh hb;clear hb;have G6:=zh (G5.o.trans F6);have H6:=zh (H5.o.trans F6);clear F6;dsimp only) | (refine(rtext_t _ _ B r4 hA4.o).mono ?_;rintro e V5 ⟨rfl,hb,F5⟩;rw [hq5.o]at hb⊢;have hA5:=zh hb;clear hb;have G5:=zh (G4.o.trans F5);have H5:=zh (H4.o.trans F5);clear F5;dsimp only) | (refine(rtext_t _ _ B r2 hA2.o).mono ?_;rintro e V3 ⟨rfl,hb,F3⟩;rw [hq3.o]at hb⊢;have hA3:=zh hb;clear hb;have G3:=zh (G2.o.trans F3);clear F3;dsimp only) | (refine(rtext_t _ _ B r1 hA1.o).mono ?_;rintro e V2 ⟨rfl,hb,F2⟩;rw [hq2.o]at hb⊢;have hA2:=zh hb;clear hb;have G2:=zh (G1.o.trans F2);clear F2;dsimp only) |go_loud (refine(rtext_t _ _ B r0 hA0.o).mono ?_;rintro e V1 ⟨rfl,hb,F1⟩;rw [hq1.o]at hb⊢;have hA1:=zh hb;clear hb;have G1:=zh (G0.o.trans F1);clear F1;dsimp only)) | (go_at_call 48;go_loud (refine(rdtexts_t _ _ B r3 hA3.o (HB.o▸G3.o.size)).mono ?_;rintro e V4 ⟨scA,scc,rfl,hO4,hFA4,hb,F4⟩;rw [hq4.o]at hb hO4⊢;have hA4:=zh hb;clear hb;have hO4h:=zh hO4;have hFA4h:=zh (hFA4.mono (HB.o▸G3.o.size));clear hO4 hFA4;have G4:=zh (G3.o.trans F4);have H4:=zh (Fr.refl [gd] V4);clear F4;dsimp only)) | (go_at_call 49;go_loud (refine(rcount_t _ _ B r7 hA7.o).mono ?_;rintro e V8 ⟨rfl,hb,F8⟩;rw [hq8.o]at hb⊢;have hA8:=zh hb;clear hb;have G8:=zh (G7.o.trans F8);have H8:=zh (H7.o.trans F8);clear F8;dsimp only)) | (refine wpList_store_row rfl 26 _ _ rfl V8.heap.size #[.string v1,.string v2,.string v3,.slice scA v4.length scc,.string v5,.string v6,.string v7,.int .i64 v8,.slice none 0 0,.bool false,.slice none 0 0] rfl rfl 26 _ (Blk.new _ _ _) infoFam (by kernel_rfl) (by kernel_rfl) ?_))
 obtain⟨f0,hf0⟩:∃f0,f0=(⟨v1,v2,v3,v4,v5,v6,v7,(v8:Nat),[],false,[]⟩:GFam):=⟨_,rfl⟩
 refine wp_gen (fun U=>∃x:FA,x.f=f0∧ParsU w zs gr V8.heap.size gd B r8 x U) ?_ ?_
 ·have hsz:=G8.o.size;have hBV:=HB.o;have hgd:=hA0.o.low;have hlt:=hO4h.o.lt;have h48:=H8.o.size;have FU:Fr [] V8 ((V8.alloc (.cells zFA.cells 26)).setRow V8.heap.size #[.string v1,.string v2,.string v3,.slice scA v4.length scc,.string v5,.string v6,.string v7,.int .i64 v8,.slice none 0 0,.bool false,.slice none 0 0]):=((Fr.refl _ _).alloc _).setRow (.inr (Nat.le_refl _)) _;refine⟨⟨f0,scA,scc,none,0,[],none,0⟩,rfl,?_,?_,?_,hA8.o.fr0 FU,?_,?_,?_,by omega⟩
  ·rw [hf0];exact Blk.setRow (Blk.new V8 26 _) _
  ·rw [hf0];exact⟨rfl,(hO4h.o.fr H8.o (rowOf_off fun ad e hm=>by
    have:=hFA4h.o ad e;simp at hm;omega)).fr FU (by simp),Own.nil _ _ _,Own.nil _ _ _,(fun _ h=>by cases h),hFA4h.o,(fun _ e=>by cases e),(fun _ e=>by cases e),(fun _ h=>by cases h),(fun _ _ e=>by cases e),(fun _ _ e=>by cases e),(fun _ h=>by cases h),(fun _ _ e=>by cases e),(fun _ h=>by cases h)⟩
  ·refine⟨fun ad e hm=> ?_,(fun _ e=>by cases e),(fun _ e=>by cases e),(fun _ h=>by cases h)⟩;have:=hlt ad.block (rowOf_mem.2 ⟨ad,e,rfl⟩);simp at hm;omega
  ·exact(hFV.o.andThen G8.o fun g hg=> .inr (by
    have:=HGR.o;have:=hgwh.o;simp at hg;omega)).andThen FU (by simp)
  ·exact(hRV.o.fr G8.o (by
    have:=hgwh.o;simp;omega)).fr FU (by simp)
  ·exact Nat.le_trans (HB.o▸hsz) FU.size
 rintro U ⟨x,hxf,hU⟩;obtain⟨gf,HGF⟩:∃z,Hid (V8.heap.size=z):=⟨_,zh rfl⟩
 rw [HGF.o]at hU⊢;have hrc:=rcount_t U gd B r8 hU.rd;have hle:=numR_le (most:=4096) r8;rw [hq9.o]at hrc hle;simp only at hrc hle;have hUh:=zh hU;have hxfh:=zh hxf;have hf0h:=zh hf0;clear hU hxf hf0 hO4h hFA4h;go_wp2_with (go_at_call 49;refine hrc.mono ?_;rintro e U2 ⟨rfl,hA9,F9⟩)
 have hFU:=zh F9;have hU9:=zh hA9;clear hrc F9 hA9;obtain⟨T,hT⟩:∃z,Hid (toksF v9 [] r9=z):=⟨_,zh rfl⟩
 have hgx:gd≠gf:=by have:=hUh.o.high;have:=hUh.o.rd.low;omega
 have hP0:=hUh.o.step (x':=x) (S:= []) (by have:=HGR.o;omega) hgwh.o hFU.o U2 hU9.o (hUh.o.blk.fr hFU.o (by simp;omega)) (hUh.o.fam.fr hFU.o (fun g hg=>by have:=hUh.o.rd.low;simp at hg;omega)) hUh.o.off (Fr.refl _ _) (by simp);have hP0h:=zh hP0;clear hP0;go_loopg [7] (v9+1) (fun gk s7 wr=>∃(j:Nat) (x:FA) (rs:RdS),s7= .int .i64 j∧j<gk∧x.f={f0 with tokens:=x.f.tokens}∧x.f.tokens.length+j≤4096∧toksF j x.f.tokens rs=T∧ParsU w zs gr gf gd B rs x wr)
 case atStart=>exact⟨v9,x,r9,rfl,by omega,by rw [hxfh.o,hf0h.o],by rw [hxfh.o,hf0h.o];simpa using hle,by rw [hxfh.o,hf0h.o];exact hT.o,hP0h.o⟩
 case round=>
  obtain⟨j,x,rs,rfl,hj,hxf,hlen,hX,hU⟩:=hrel;have hXh:=zh hX;have hUh:=zh hU;have hxfh:=zh hxf;have hlenh:=zh hlen;clear hX hU hxf hlen;by_cases h0:j=0
  ·have hd0:decide (0<j)=false:=decide_eq_false (by omega);have hTT:=zh (show(x.f.tokens,rs)=T by
    have e:=hXh.o;rwa [h0,toksF]at e)
   clear h0 hj;obtain⟨⟨vb,q1⟩,hk1⟩:∃z,Hid (boolR rs=z):=⟨_,zh rfl⟩
   obtain⟨⟨vn,q2⟩,hk2⟩:∃z,Hid (numR 4096 q1=z):=⟨_,zh rfl⟩
   have hgxh:=zh hgx;clear hgx;go_upto_region 10 with(go_at_call 50;refine(rbool_t wr gd B rs hUh.o.rd).mono ?_;rintro e U1 ⟨rfl,hA1,F1⟩;rw [hk1.o]at hA1⊢;have hA1h:=zh hA1;clear hA1;have hB1:=hUh.o.blk.fr F1 (by simp;exact fun h=>hgxh.o h.symm);have hB1h:=zh hB1;obtain⟨q0,q1',q2',q3',q4,q5,q6,q7,c8,q9,q10,hpl⟩:=fam_cells hB1;clear q0 q1' q2' q3' q4 q5 q6 q7 c8 q10;have hz9:U1.frozen? ⟨gf,9,none⟩=false:=hB1.frozen 9;clear hB1)
   obtain⟨x2,hx2⟩:∃x2:FA,x2={x with f:={x.f with revoked:=vb}}:=⟨_,rfl⟩
   refine wp_gen (fun V=>ParsU w zs gr gf gd B q1 x2 V) ?_ ?_
   ·have FS:Fr [gf] U1 (U1.setCell ⟨gf,9,none⟩ (.bool vb)):=(Fr.refl [gf] U1).setCell (p:=⟨gf,9,none⟩) (.inl (by simp)) _;have hW:=(hUh.o.fam.fr F1 (fun g hg=>by have:=hUh.o.rd.low;simp at hg;omega)).frO FS hUh.o.off;have hB2:=hB1h.o.set 9 (.bool vb);subst hx2;exact hUh.o.step (by have:=HGR.o;omega) hgwh.o F1 _ hA1h.o (by unfold FA.cells at hB2⊢;simpa using hB2) ⟨hW.ts,hW.scope,hW.toks,hW.leases,hW.each,hW.fs,hW.ft,hW.fl,hW.fe,hW.ts_,hW.tl,hW.te,hW.ls,hW.le⟩ ⟨hUh.o.off.s,hUh.o.off.t,hUh.o.off.l,hUh.o.off.e⟩ FS (fun g hg=>by
     have:=hUh.o.high;simp at hg;omega)
   rintro V hV;have hVh:=zh hV;clear hV;have hrc:=rcount_t V gd B q1 hVh.o.rd;have hle:=numR_le (most:=4096) q1;rw [hk2.o]at hrc hle;simp only at hrc hle;go_wp2_with (go_at_call 49;refine hrc.mono ?_;rintro e V2 ⟨rfl,hA2,F2⟩)
   have hgx:=hgxh.o;have hP2:=hVh.o.step (x':=x2) (S:= []) (by have:=HGR.o;omega) hgwh.o F2 V2 hA2 (hVh.o.blk.fr F2 (by simp;omega)) (hVh.o.fam.fr F2 (fun g hg=>by have:=hVh.o.rd.low;simp at hg;omega)) hVh.o.off (Fr.refl _ _) (by simp);have hP2h:=zh hP2;have hx2h:=zh hx2;obtain⟨L,hL⟩:∃z,Hid (intsF vn [] q2=z):=⟨_,zh rfl⟩
   have hx0:x2.f.leases= []:=by rw [hx2,hxfh.o,hf0h.o]
   have hx0h:=zh hx0;obtain⟨f2,hf2⟩:∃z,Hid (x2.f=z):=⟨_,zh rfl⟩
   clear hrc hA2 F2 hP2 hx2 hx0 hgx;go_loopg [8] (vn+1) (fun gk s8 wr=>∃(j:Nat) (x:FA) (rs:RdS),s8= .int .i64 j∧j<gk∧x.f={f2 with leases:=x.f.leases}∧x.f.leases.length+j≤4096∧intsF j x.f.leases rs=L∧ParsU w zs gr gf gd B rs x wr)
   case atStart=>exact⟨vn,x2,q2,rfl,by omega,by rw [hf2.o],by rw [hx0h.o];simpa using hle,by rw [hx0h.o];exact hL.o,hP2h.o⟩
   case round=>
    obtain⟨j,y,rs2,rfl,hj,hyf,hlen2,hL2,hY⟩:=hrel;have hLLh:=zh hL2;have hYh:=zh hY;have hyfh:=zh hyf;have hlen2h:=zh hlen2;clear hL2 hY hyf hlen2;by_cases h0:j=0
    ·have hd0:decide (0<j)=false:=decide_eq_false (by omega);have hLe:=zh (show(y.f.leases,rs2)=L by
      have e:=hLLh.o;rwa [h0,intsF]at e)
     clear h0 hj;have hfam:famR r0=(y.f,rs2):=by
      have e1:=hyfh.o;have e2:f2={x.f with revoked:=vb}:=by rw [←hf2.o,hx2h.o]
      have e3:=hxfh.o;rw [e2,e3,hf0h.o]at e1;unfold famR;simp only [hq1.o,hq2.o,hq3.o,hq4.o,hq5.o,hq6.o,hq7.o,hq8.o,hq9.o,hT.o,←hTT.o,hk1.o,hk2.o,hL.o,←hLe.o];exact Prod.ext e1.symm rfl
     have hPM:P=if endR rs2≠0 then(zeroF,endR rs2)else if(textM y.f).2=0∧(textM y.f).1=s then(y.f,0)else(zeroF,3):=by rw [←hP.o];unfold parseM;rw [if_neg (by simp [hokh.o]),hr0.o,hfam]
     have hPMh:=zh hPM;have hre:=rend_t wr gd B rs2 hYh.o.rd;obtain⟨k,hk⟩:∃z,Hid (endR rs2=z):=⟨_,zh rfl⟩
     rw [hk.o]at hre;clear hPM;by_cases hk0:k=0
     ·have hkb:(k !=0)=false:=by simpa using hk0
      subst hk0;have hsz:FamSz y:=fam_sz hYh.o.fam (congrArg Prod.fst hfam);have hbt:=btextM_t wr y (hYh.o.fam.fam (X:= []) (by simp)) hsz;obtain⟨⟨ts,te⟩,ht⟩:∃z,Hid (textM y.f=z):=⟨_,zh rfl⟩
      rw [ht.o]at hbt;dsimp only at hbt;have hB:=hYh.o.blk;go_upto_region 17 with(go_at_call 52;refine hre.mono ?_;rintro e V3 ⟨rfl,rfl⟩)
      go_upto_region 18 with(first | (refine wpList_load_at rfl 26 _ rfl rfl hB (sub_self _) uFam rfl (infoFamL _) ?_;rw [Array.toArray_toList]) | (go_at_call 8;refine hbt.mono ?_;rintro e V4 ⟨rfl,F4⟩))
      have hY4:ParsU w zs gr gf gd B rs2 y V4:=hYh.o.step (x':=y) (S:= []) (by have:=HGR.o;omega) hgwh.o F4.nil V4 (hYh.o.rd.fr0 F4) (hYh.o.blk.fr F4 (by simp)) (hYh.o.fam.fr0 F4) hYh.o.off (Fr.refl _ _) (by simp);have hY4h:=zh hY4;clear hbt hB F4 hY4 hre;have hRr:=hY4h.o.res;have hrl:=hRr.lt;have hB:=hY4h.o.blk;by_cases hgood:te=0∧ts=s
      ·obtain⟨rfl,rfl⟩:=hgood;have hPz:P=(y.f,0):=by
        rw [hPMh.o,hk.o,if_neg (by simp),ht.o,if_pos ⟨rfl,rfl⟩]
       have heq:(ts.toList==ts.toList)=true:=by simp
       go_wp2_with (first | (refine wpList_load_at rfl 26 _ rfl rfl hB (sub_self _) uFam rfl (infoFamL _) ?_;rw [Array.toArray_toList]) | (refine wpList_store_row rfl 26 _ _ rfl gr y.cells rfl rfl 26 zs hRr (infoFamA y) (by rw [hz];rfl) (by kernel_rfl) ?_))
       refine bodyPost_ret (v:= .tuple #[y.val,.int .i64 0]) (results_ct (p:=2) (q:=3) rfl _ _ gr 26 y.cells (0,0) _ rfl (Blk.setRow hRr _) uFam rfl (infoFamA y) rfl) rfl ?_;have FR:Fr [gr] V4 (V4.setRow gr y.cells):=(Fr.refl [gr] V4).setRow (.inl (by simp)) _;have hlow:∀g∈ [gr],g<B:=fun g hg=>by have h1:=hY4h.o.rd.low;have h2:=hgwh.o;simp at hg;omega
       have hBw:w.heap.size≤B:=by have h1:=hY4h.o.rd.low;have h2:=hgwh.o;have h3:=HGR.o;omega
       exact⟨y,by first |rfl |rw [hPz],by first |rfl |rw [hPz],(hY4h.o.fam.fr FR hlow).below hBw,hY4h.o.fr.andThen FR (fun g hg=> .inr (by have:=HGR.o;simp at hg;omega))⟩
      ·have hPz:P=(zeroF,3):=by
        rw [hPMh.o,hk.o,if_neg (by simp),ht.o,if_neg hgood]
       by_cases hte:te=0
       ·have hne:(ts.toList==s.toList)=false:=by
         have h:ts≠s:=fun h=>hgood ⟨hte,h⟩;rw [toList_beq];simp [h]
        subst hte;go_wp2_with (refine wpList_store_row rfl 26 _ _ rfl gr zFA.cells rfl rfl 26 zs hRr (infoFamA zFA) (by rw [hz];rfl) (by kernel_rfl) ?_)
        refine bodyPost_ret (v:= .tuple #[zFA.val,.int .i64 3]) (results_ct (p:=2) (q:=3) rfl _ _ gr 26 zFA.cells (0,0) _ rfl (Blk.setRow hRr _) uFam rfl (infoFamA zFA) rfl) rfl ?_;exact zero_post (P:=(zeroF,3)) rfl hY4h.o.fr (Nat.le_of_eq HGR.o)
       ·have hteb:(te !=0)=true:=by simpa using hte
        clear hte;go_wp2_with (refine wpList_store_row rfl 26 _ _ rfl gr zFA.cells rfl rfl 26 zs hRr (infoFamA zFA) (by rw [hz];rfl) (by kernel_rfl) ?_)
        refine bodyPost_ret (v:= .tuple #[zFA.val,.int .i64 3]) (results_ct (p:=2) (q:=3) rfl _ _ gr 26 zFA.cells (0,0) _ rfl (Blk.setRow hRr _) uFam rfl (infoFamA zFA) rfl) rfl ?_;exact zero_post hPz hY4h.o.fr (Nat.le_of_eq HGR.o)
     ·have hkb:(k !=0)=true:=by simpa using hk0
      have hPz:P=(zeroF,k):=by rw [hPMh.o,hk.o,if_pos hk0]
      have hRr:=hYh.o.res;have hrl:=hRr.lt;clear hk0;go_wp2_with (first | (go_at_call 52;refine hre.mono ?_;rintro e V3 ⟨rfl,rfl⟩) | (refine wpList_store_row rfl 26 _ _ rfl gr zFA.cells rfl rfl 26 zs hRr (infoFamA zFA) (by rw [hz];rfl) (by kernel_rfl) ?_))
      refine bodyPost_ret (v:= .tuple #[zFA.val,.int .i64 k]) (results_ct (p:=2) (q:=3) rfl _ _ gr 26 zFA.cells (0,0) _ rfl (Blk.setRow hRr _) uFam rfl (infoFamA zFA) rfl) rfl ?_;exact⟨zFA,by rw [hPz],by rw [hPz];rfl,zFA_W _ _,hYh.o.fr.andThen ((Fr.refl [gr] wr).setRow (.inl (by simp)) _) (fun g hg=> .inr (by have:=HGR.o;simp at hg;omega))⟩
    ·have hd0:decide (0<j)=true:=decide_eq_true (by omega);obtain⟨⟨ie,q3⟩,hk3⟩:∃z,Hid (intR rs2=z):=⟨_,zh rfl⟩
     obtain⟨n,hn⟩:∃z,Hid (y.f.leases.length=z):=⟨_,zh rfl⟩
     have hn4:n≤4096:=by have h2:=hlen2h.o;have:=hn.o;omega
     obtain⟨p0,p1,p2,p3,p4,p5,p6,p7,p8,p9,c10,hpl⟩:=fam_cells hYh.o.blk;clear p0 p1 p2 p3 p4 p5 p6 p7 p8 p9;rw [hn.o]at c10;have hz10:wr.frozen? ⟨gf,10,none⟩=false:=hYh.o.blk.frozen 10;have hOT:=hYh.o.fam.leases;rw [hn.o]at hOT;have hOTh:=zh hOT;have honeh:=zh intCells_one;have hj4:j≤4096:=by have:=hlen2h.o;omega
     have hjh:=zh h0;have hjk:=zh hj;clear hOT h0 hj;go_upto_region 13 with(fail)
     refine wp_region_z (fun w'=>w'.cell? ⟨gf,10,none⟩=some (.slice y.lA n y.lc)) [7] (by kernel_rfl) c10 ?_;intro hHeld;refine wpZ_tk (i:=0) (v:= ?_) hHeld ?_ ?_;rotate_left
     ·(intro w hSw;go_simp<;>with_reducible rfl)
     try simp only [zA,zC,Act.put,zD,zE,zF]
     refine wpZ_tk (i:=1) (v:= ?_) hHeld ?_ ?_;rotate_left
     ·(intro w hSw;go_simp<;>with_reducible rfl)
     try simp only [zA,zB,zC,Act.put,zD,zE,zF]
     refine wpZ_tk (i:=2) (v:= ?_) hHeld ?_ ?_;rotate_left
     ·(intro w hSw;go_simp<;>with_reducible rfl)
     try simp only [zA,zB,zC,Act.put,zD,zE,zF]
     refine wpZ_one (i:=3) (by kernel_rfl) rfl (fun K hK=> ?_);go_simp;refine(rint_t wr.drew gd B rs2 hYh.o.rd).mono ?_;rintro e U1 ⟨rfl,hA1,F1⟩;rw [hk3.o]at hA1⊢;have F1:Fr [gd] wr U1:=F1.of_drew;have hl1:gf<U1.heap.size:=Nat.lt_of_lt_of_le hpl F1.size;have c11:=(F1.cell (p:=⟨gf,10,none⟩) hpl (by simp;exact fun h=>hgxh.o h.symm)).trans c10;have hz11:=(frozen_fr F1 (j:=10) hpl (by simp;exact fun h=>hgxh.o h.symm)).trans hz10;dsimp only;refine hK.out _ _ c11 (fun hHeld=> ?_);clear hK K;try simp only [zA,zB,zC,Act.put,zD,zE,zF]
     refine wpZ_one (i:=4) (by kernel_rfl) rfl (fun K hK=> ?_);go_simp;refine hK.out _ _ (cell_fr ((Fr.refl [] U1).alloc _) c11) (fun hHeld=> ?_);clear hK K;try simp only [zA,zB,zC,Act.put,zD,zE,zF]
     refine wpZ_one (i:=5) (by kernel_rfl) rfl (fun K hK=> ?_);refine own_append_op (P:=Tryz.prog) (xs:=intCells y.f.leases) (news:=intCells [ie]) tIntsR (((hOTh.o.fr F1 (rowOf_off fun ad e hm=>by
      have h1:=hYh.o.fam.fl ad e;have h2:=hYh.o.rd.low;simp at hm;omega)).fr ((Fr.refl [] U1).alloc _) (by simp))) (m:=1) (c:=1) (A:=some ⟨U1.heap.size,0,none⟩) (int_newR U1 ie 3) (honeh.o _) (by simp) (by unfold maxLen;omega) (by omega) rfl rfl rfl rfl (fun v' w3 g1 g2 g3=> ?_)
     have g1:=g1;obtain⟨A3,c3,rfl,_⟩:=g1.form;have hoff:∀z,z∈rowOf (.slice y.lA n y.lc)→gf≠z:=fun z hz e=>by obtain⟨ad,e2,rfl⟩:=rowOf_mem.1 hz;exact hYh.o.off.l ad e2 (by simp [e])
     have hl4:gf<(U1.alloc (.cells #[.int .i64 ie] 3)).heap.size:=by simp;omega
     have c12:w3.cell? ⟨gf,10,none⟩=some (.slice y.lA n y.lc):=(g2.cell (p:=⟨gf,10,none⟩) hl4 (fun hz=>hoff _ hz rfl)).trans (cell_fr ((Fr.refl [] U1).alloc _) c11);have hz12:w3.frozen? ⟨gf,10,none⟩=false:=(frozen_fr g2 hl4 (fun hz=>hoff _ hz rfl)).trans ((frozen_fr ((Fr.refl [] U1).alloc (.cells #[.int .i64 ie] 3)) hl1 (by simp)).trans hz11);have hl5:gf<w3.heap.size:=Nat.lt_of_lt_of_le hl4 g2.size;try dsimp only
     refine hK.out _ _ c12 (fun hHeld=> ?_);clear hK K;try simp only [zA,zB,zC,Act.put,zD,zE,zF]
     refine wpZ_tk (i:=6) (v:= ?_) hHeld ?_ ?_;rotate_left
     ·(intro w hSw;go_simp<;>with_reducible rfl)
     try simp only [zA,zB,zC,Act.put,zD,zE,zF]
     refine wpZ_end (i:=7) (by kernel_rfl) rfl rfl (fun K hK=> ?_);go_simp;refine hK.out _ _ ?_;clear hK K;try simp only [zA,zB,zC,Act.put,zD,zE,zF]
     refine wpZ_done (by kernel_rfl) ?_ _;obtain⟨y1,hy1,hB1,hW1,hO1,hF1⟩:=parse_lease (e:=ie) hYh.o.fam hYh.o.blk hYh.o.off hYh.o.size hYh.o.high hn.o F1 (fun g hg=>by have:=hYh.o.rd.low;simp at hg;omega) g1 g2 g3;have hN:=hYh.o.step (x':=y1) (by have:=HGR.o;omega) hgwh.o F1 _ hA1 hB1 hW1 hO1 hF1 (fun g hg=>by
      rcases List.mem_cons.1 hg with rfl |hg
      ·exact hYh.o.high
      ·obtain⟨ad,e,rfl⟩:=rowOf_mem.1 hg;exact hYh.o.fam.fl ad e)
     have hNh:=zh hN;clear hN hB1 hW1 hO1 hF1 g1 g2 g3;go_wp2_with fail
     go_roundg j
     case measure=>exact hjk.o
     case rel=>
      refine⟨j - 1,y1,q3,by have:=hjh.o;go_num,by have:=hjh.o;have:=hjk.o;omega,?_,?_,?_,hNh.o⟩
      ·have e:=hyfh.o;rw [hy1];generalize y.f=z at e⊢;rw [e]
      ·have:=hlen2h.o;have:=hjh.o;rw [hy1];simp;omega
      ·rw [←hLLh.o,show j=(j - 1)+1 by have:=hjh.o;omega,intsF,hk3.o,hy1];rfl
  ·have hd0:decide (0<j)=true:=decide_eq_true (by omega);obtain⟨⟨tk,q1⟩,hk1⟩:∃z,Hid (numR 4096 rs=z):=⟨_,zh rfl⟩
   obtain⟨⟨tl,q2⟩,hk2⟩:∃z,Hid (textsR q1=z):=⟨_,zh rfl⟩
   obtain⟨⟨tb,q3⟩,hk3⟩:∃z,Hid (boolR q2=z):=⟨_,zh rfl⟩
   obtain⟨tn,htn⟩:∃z,Hid (x.ts.length=z):=⟨_,zh rfl⟩
   have htn4:tn≤4096:=by have h1:=hUh.o.fam.len;have h2:=hlenh.o;rw [htn.o]at h1;omega
   obtain⟨q0,q1',q2',q3',q4,q5,q6,q7,c8,q9,q10,hpl⟩:=fam_cells hUh.o.blk;clear q0 q1' q2' q3' q4 q5 q6 q7 q9 q10;rw [htn.o]at c8;have hz8:wr.frozen? ⟨gf,8,none⟩=false:=hUh.o.blk.frozen 8;have hOT:=hUh.o.fam.toks;rw [htn.o]at hOT;have hOTh:=zh hOT;have honeh:=zh tokCells_one;have hj4:j≤4096:=by have:=hlenh.o;omega
   have hjh:=zh h0;have hjk:=zh hj;have hgxh:=zh hgx;have hBwh:=zh hUh.o.size;clear hOT h0 hj hgx;go_upto_region 8 with(fail)
   refine wp_region_z (fun w'=>w'.cell? ⟨gf,8,none⟩=some (.slice x.tA tn x.tc)) [12] (by kernel_rfl) c8 ?_;intro hHeld;refine wpZ_tk (i:=0) (v:= ?_) hHeld ?_ ?_;rotate_left
   ·(intro w hSw;go_simp<;>with_reducible rfl)
   try simp only [zA,zC,Act.put,zD,zE,zF]
   refine wpZ_tk (i:=1) (v:= ?_) hHeld ?_ ?_;rotate_left
   ·(intro w hSw;go_simp<;>with_reducible rfl)
   try simp only [zA,zB,zC,Act.put,zD,zE,zF]
   refine wpZ_tk (i:=2) (v:= ?_) hHeld ?_ ?_;rotate_left
   ·(intro w hSw;go_simp<;>with_reducible rfl)
   try simp only [zA,zB,zC,Act.put,zD,zE,zF]
   refine wpZ_tk (i:=4) (v:= ?_) hHeld ?_ ?_;rotate_left
   ·(intro w hSw;go_simp<;>with_reducible rfl)
   try simp only [zA,zB,zC,Act.put,zD,zE,zF]
   refine wpZ_tk (i:=6) (v:= ?_) hHeld ?_ ?_;rotate_left
   ·(intro w hSw;go_simp<;>with_reducible rfl)
   try simp only [zA,zB,zC,Act.put,zD,zE,zF]
   refine wpZ_one (i:=3) (by kernel_rfl) rfl (fun K hK=> ?_);go_simp;refine(rcount_t wr.drew gd B rs hUh.o.rd).mono ?_;rintro e U1 ⟨rfl,hA1,F1⟩;rw [hk1.o]at hA1⊢;have F1:Fr [gd] wr U1:=F1.of_drew;have hl1:gf<U1.heap.size:=Nat.lt_of_lt_of_le hpl F1.size;have c81:=(F1.cell (p:=⟨gf,8,none⟩) hpl (by simp;exact fun h=>hgxh.o h.symm)).trans c8;have hz81:=(frozen_fr F1 (j:=8) hpl (by simp;exact fun h=>hgxh.o h.symm)).trans hz8;dsimp only;refine hK.out _ _ c81 (fun hHeld=> ?_);clear hK K;try simp only [zA,zB,zC,Act.put,zD,zE,zF]
   refine wpZ_one (i:=5) (by kernel_rfl) rfl (fun K hK=> ?_);go_simp;refine(rdtexts_t U1 gd B q1 hA1 (Nat.le_trans hBwh.o F1.size)).mono ?_;rintro e U2 ⟨A2,c2,rfl,hO2,hA2n,hA2,F2⟩;rw [hk2.o]at hA2 hO2⊢;have hl2:gf<U2.heap.size:=Nat.lt_of_lt_of_le hl1 F2.size;have c82:=(F2.cell (p:=⟨gf,8,none⟩) hl1 (by simp;exact fun h=>hgxh.o h.symm)).trans c81;have hz82:=(frozen_fr F2 (j:=8) hl1 (by simp;exact fun h=>hgxh.o h.symm)).trans hz81;dsimp only;refine hK.out _ _ c82 (fun hHeld=> ?_);clear hK K;try simp only [zA,zB,zC,Act.put,zD,zE,zF]
   refine wpZ_one (i:=7) (by kernel_rfl) rfl (fun K hK=> ?_);go_simp;refine(rbool_t U2 gd B q2 hA2).mono ?_;rintro e U3 ⟨rfl,hA3,F3⟩;rw [hk3.o]at hA3⊢;have hl3:gf<U3.heap.size:=Nat.lt_of_lt_of_le hl2 F3.size;have c83:=(F3.cell (p:=⟨gf,8,none⟩) hl2 (by simp;exact fun h=>hgxh.o h.symm)).trans c82;have hz83:=(frozen_fr F3 (j:=8) hl2 (by simp;exact fun h=>hgxh.o h.symm)).trans hz82;dsimp only;refine hK.out _ _ c83 (fun hHeld=> ?_);clear hK K;try simp only [zA,zB,zC,Act.put,zD,zE,zF]
   refine wpZ_tk (i:=8) (v:= ?_) hHeld ?_ ?_;rotate_left
   ·(intro w hSw;go_simp<;>with_reducible rfl)
   try simp only [zA,zB,zC,Act.put,zD,zE,zF]
   refine wpZ_one (i:=9) (by kernel_rfl) rfl (fun K hK=> ?_);go_simp;refine hK.out _ _ (cell_fr ((Fr.refl [] U3).alloc _) c83) (fun hHeld=> ?_);clear hK K;try simp only [zA,zB,zC,Act.put,zD,zE,zF]
   refine wpZ_one (i:=10) (by kernel_rfl) rfl (fun K hK=> ?_);refine own_append_op (P:=Tryz.prog) (xs:=tokCells x.ts) (news:=tokCells [⟨⟨tk,tl,tb⟩,A2,c2⟩]) tIss (((hOTh.o.fr ((F1.trans F2).trans F3) (rowOf_off fun ad e hm=>by
    have h1:=hUh.o.fam.ft ad e;have h2:=hUh.o.rd.low;simp at hm;omega)).fr ((Fr.refl [] U3).alloc _) (by simp))) (m:=1) (c:=1) (A:=some ⟨U3.heap.size,0,none⟩) (tok_new U3 ⟨⟨tk,tl,tb⟩,A2,c2⟩ 29) (honeh.o _) (by simp) (by unfold maxLen;omega) (by omega) rfl rfl rfl rfl (fun v' w3 g1 g2 g3=> ?_)
   have g1:=g1;obtain⟨A3,c3,rfl,_⟩:=g1.form;have hoff:∀z,z∈rowOf (.slice x.tA tn x.tc)→gf≠z:=fun z hz e=>by obtain⟨ad,e2,rfl⟩:=rowOf_mem.1 hz;exact hUh.o.off.t ad e2 (by simp [e])
   have hl4:gf<(U3.alloc (.cells #[.int .i64 tk,.slice A2 tl.length c2,.bool tb] 29)).heap.size:=by simp;omega
   have c84:w3.cell? ⟨gf,8,none⟩=some (.slice x.tA tn x.tc):=(g2.cell (p:=⟨gf,8,none⟩) hl4 (fun hz=>hoff _ hz rfl)).trans (cell_fr ((Fr.refl [] U3).alloc _) c83);have hz84:w3.frozen? ⟨gf,8,none⟩=false:=(frozen_fr g2 hl4 (fun hz=>hoff _ hz rfl)).trans ((frozen_fr ((Fr.refl [] U3).alloc (.cells #[.int .i64 tk,.slice A2 tl.length c2,.bool tb] 29)) hl3 (by simp)).trans hz83);have hl5:gf<w3.heap.size:=Nat.lt_of_lt_of_le hl4 g2.size;try dsimp only
   refine hK.out _ _ c84 (fun hHeld=> ?_);clear hK K;try simp only [zA,zB,zC,Act.put,zD,zE,zF]
   refine wpZ_tk (i:=11) (v:= ?_) hHeld ?_ ?_;rotate_left
   ·(intro w hSw;go_simp<;>with_reducible rfl)
   try simp only [zA,zB,zC,Act.put,zD,zE,zF]
   refine wpZ_end (i:=12) (by kernel_rfl) rfl rfl (fun K hK=> ?_);go_simp;refine hK.out _ _ ?_;clear hK K;try simp only [zA,zB,zC,Act.put,zD,zE,zF]
   refine wpZ_done (by kernel_rfl) ?_ _;obtain⟨x1,hx1,hl1',hB1,hW1,hO1,hF1⟩:=parse_push (t:=⟨⟨tk,tl,tb⟩,A2,c2⟩) hUh.o.fam hUh.o.blk hUh.o.off hUh.o.size hUh.o.high htn.o ((F1.trans F2).trans F3) (fun g hg=>by have:=hUh.o.rd.low;simp at hg;omega) (hO2.fr F3 (rowOf_off fun ad e hm=>by
    have h1:=hA2n ad e;have h2:=hUh.o.rd.low;have h3:=hUh.o.size;have h4:=F1.size;simp at hm;omega)) (hA2n.mono F1.size) g1 g2 g3
   have hN:=hUh.o.step (x':=x1) (by have:=HGR.o;omega) hgwh.o ((F1.trans F2).trans F3) _ hA3 hB1 hW1 hO1 hF1 (fun g hg=>by
    rcases List.mem_cons.1 hg with rfl |hg
    ·exact hUh.o.high
    ·obtain⟨ad,e,rfl⟩:=rowOf_mem.1 hg;exact hUh.o.fam.ft ad e)
   have hNh:=zh hN;clear hN hB1 hW1 hO1 hF1 g1 g2 g3;go_wp2_with fail
   go_roundg j
   case measure=>exact hjk.o
   case rel=>
    have ht:tokRd rs=(⟨tk,tl,tb⟩,q3):=by unfold tokRd;rw [hk1.o];dsimp only;rw [hk2.o];dsimp only;rw [hk3.o]
    refine⟨j - 1,x1,q3,by have:=hjh.o;go_num,by have:=hjh.o;have:=hjk.o;omega,?_,?_,?_,hNh.o⟩
    ·have e:=hxfh.o;rw [hx1];generalize x.f=z at e⊢;rw [e]
    ·have:=hlenh.o;have:=hjh.o;rw [hx1];simp;omega
    ·rw [←hXh.o,show j=(j - 1)+1 by have:=hjh.o;omega,toksF,ht,hx1];rfl
theorem bparse_t (w:World) (s:ByteArray) (hs:s.size≤1000000):Calls Tryz.prog 10 #[.string s] w (ParsePost w (parseM s).1 (parseM s).2):=by
 by_cases h:(openR s.data.toList).2=0
 ·exact bparse_good w s hs h
 ·have e:parseM s=(zeroF,(openR s.data.toList).2):=by
   unfold parseM;rw [if_pos h]
  rw [e];exact bparse_bad w s hs h
end Go.Proofs.YtpmgepijkhaonaaGreat
namespace Go.Proofs.YtpmgepijkhaonaaGreat
open Go.RowKit Go.Sig
inductive PutM where
 |num (n:Int)
 |txt (s:ByteArray)
 |tru (b:Bool)
 |cnt (n:Int)
 |txs (l:List ByteArray)
def putB:PutM→List UInt8
 | .num n=>intB n
 | .txt s=>textB s
 | .tru b=>boolB b
 | .cnt n=>numB n.toNat
 | .txs l=>textsB l
def putBad:PutM→Bool
 | .cnt n=>decide (n<0) ||decide (4096<n)
 | .txs l=>decide (4096<l.length)
 |_=>false
def putF (p:PutM):List UInt8:=if putBad p=true then []else putB p
def flatP (l:List PutM):List UInt8:=l.flatMap putF
def writeM (l:List PutM):List UInt8×Int:=if l.any putBad=true then([],3)else if 65536<(flatP l).length then([],2)else(frameB (flatP l),0)
def tokP (t:GTok):List PutM:= [.cnt t.kind,.txs t.scope,.tru t.used]
def famP0 (f:GFam):List PutM:= [.txt f.id,.txt f.client,.txt f.user,.txs f.scope,.txt f.redirect,.txt f.challenge,.txt f.method,.cnt f.code,.cnt f.tokens.length]
def famP (f:GFam):List PutM:=famP0 f++f.tokens.flatMap tokP++ [.tru f.revoked,.cnt f.leases.length]++f.leases.map .num
theorem flatP_append (l m:List PutM):flatP (l++m)=flatP l++flatP m:=List.flatMap_append
theorem flatP_good {l:List PutM}(h:l.any putBad=false):flatP l=l.flatMap putB:=by
 unfold flatP;induction l with
 |nil=>rfl
 |cons p l ih=>rw [List.any_cons,Bool.or_eq_false_iff]at h;rw [List.flatMap_cons,List.flatMap_cons,ih h.2];congr 1;unfold putF;rw [h.1,if_neg (by simp)]
theorem famP_good {f:GFam}(h:FamOk f):(famP f).any putBad=false:=by
 have hc:=h.code;have hts:=h.tokens;have hl:=leases_len h.leases h.edges;have hs:=(setM_sizes h.set).1;rw [List.any_eq_false];intro p hp;unfold famP famP0 at hp;simp only [List.mem_append,List.mem_cons,List.not_mem_nil,or_false,List.mem_flatMap,List.mem_map]at hp;rcases hp with((hp | ⟨t,ht,hp⟩) |hp) | ⟨n,_,rfl⟩
 ·rcases hp with rfl |rfl |rfl |rfl |rfl |rfl |rfl |rfl |rfl<;>simp [putBad]<;>omega
 ·have k:=h.each t ht;have k1:=k.kind;have k2:=(setM_sizes k.set).1;simp only [tokP,List.mem_cons,List.not_mem_nil,or_false]at hp;rcases hp with rfl |rfl |rfl<;>simp [putBad]<;>omega
 ·rcases hp with rfl |rfl<;>simp [putBad]
  omega
 ·simp [putBad]
theorem famP_flat {f:GFam}(h:FamOk f):flatP (famP f)=famB f:=by
 rw [flatP_good (famP_good h)];have e1:∀l:List GTok,(l.flatMap tokP).flatMap putB=l.flatMap tokB:=fun l=>by
  induction l with
  |nil=>rfl
  |cons t l ih=>rw [List.flatMap_cons,List.flatMap_append,ih,List.flatMap_cons];congr 1;simp [tokP,tokB,putB]
 have e2:∀l:List Int,(l.map PutM.num).flatMap putB=l.flatMap intB:=fun l=>by
  induction l with
  |nil=>rfl
  |cons n l ih=>rw [List.map_cons,List.flatMap_cons,ih,List.flatMap_cons];rfl
 unfold famP famB;rw [List.flatMap_append,List.flatMap_append,List.flatMap_append,e1,e2];simp [famP0,putB]
theorem write_fam {f:GFam}(h:FamOk f):writeM (famP f)=(frameB (famB f),0):=by
 have:=famB_length h;unfold writeM;rw [famP_good h,famP_flat h,if_neg (by simp),if_neg (by omega)]
def Cut (f c:List UInt8):Prop:=if f.length≤65536 then c=f else 65536<c.length
theorem Cut.nil:Cut [] []:=by
 unfold Cut;rw [if_pos (by decide)]
theorem Cut.add {f c x y:List UInt8}(h:Cut f c) (hx:y=x∨(65536<x.length∧65536<y.length)):Cut (f++x) (c++y):=by
 unfold Cut at*
 by_cases h1:f.length≤65536
 ·rw [if_pos h1]at h;subst h;rcases hx with rfl | ⟨h2,h3⟩
  ·split
   ·rfl
   ·rename_i h2;omega
  ·rw [if_neg (by rw [List.length_append];omega),List.length_append];omega
 ·rw [if_neg h1]at h;rw [if_neg (by rw [List.length_append];omega),List.length_append];omega
theorem Cut.take {f c:List UInt8}(h:Cut f c):Cut f (c.take 65537):=by
 unfold Cut at*
 split
 ·rename_i h1;rw [if_pos h1]at h;subst h;rw [List.take_of_length_le (by omega)]
 ·rename_i h1;rw [if_neg h1]at h;rw [List.length_take];omega
theorem Cut.full {f c x:List UInt8}(h:Cut f c) (hc:65536<c.length):Cut (f++x) c:=by
 unfold Cut at*
 by_cases h1:f.length≤65536
 ·rw [if_pos h1]at h;subst h;omega
 ·rw [if_neg (by rw [List.length_append];omega)];exact hc
end Go.Proofs.YtpmgepijkhaonaaGreat
