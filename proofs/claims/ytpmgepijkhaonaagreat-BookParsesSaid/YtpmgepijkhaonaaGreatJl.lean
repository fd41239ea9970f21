/- Signs as bytes: the document's way, bit by bit, is the other's: plain laws. Conditions: each theorem's own. -/
import Derived.Test.YtpmgepijkhaonaaGreatJj
namespace Go.Sig
open Go.RowKit
theorem bnum_from (acc:Nat):∀m:List Bool,m.foldl (fun n b=>2*n+b.toNat) acc=acc*2^m.length+m.foldl (fun n b=>2*n+b.toNat) 0
 | []=>by simp
 |b::m=>by rw [List.foldl_cons,List.foldl_cons,bnum_from (2*acc+b.toNat) m,bnum_from (2*0+b.toNat) m,List.length_cons,Nat.pow_succ,Nat.add_mul,Nat.mul_comm 2 acc,Nat.mul_assoc,Nat.mul_comm 2 (2^m.length),Nat.mul_zero,Nat.zero_add];omega
theorem bnum_append (l m:List Bool):bnum (l++m)=bnum l*2^m.length+bnum m:=by
 unfold bnum;rw [List.foldl_append,bnum_from]
theorem sg_w:∀k:Fin 64,worthR (sgnAt k.val)=k.val∧worthM (sgnAt k.val)=some k.val:=by decide+kernel
theorem wm_all:∀c:Fin 256,(match worthM (UInt8.ofNat c.val)with |some v=>decide (worthR (UInt8.ofNat c.val)=v)&&decide (sgnAt v=UInt8.ofNat c.val)&&decide (v<64) |none=>true)=true:=by decide+kernel
theorem wm_some {c:UInt8}{v:Nat}(h:worthM c=some v):worthR c=v∧sgnAt v=c∧v<64:=by
 have h1:=wm_all ⟨c.toNat,c.toNat_lt⟩;simp only [UInt8.ofNat_toNat,h,Bool.and_eq_true,decide_eq_true_eq]at h1;exact⟨h1.1.1,h1.1.2,h1.2⟩
theorem bit6_num:∀v:Fin 64,bnum (bit6 v.val)=v.val:=by decide+kernel
theorem num_bit6:∀a b c d e f:Bool,bit6 (bnum [a,b,c,d,e,f])= [a,b,c,d,e,f]:=by decide+kernel
theorem num_bit8:∀a b c d e f g h:Bool,bit8 (UInt8.ofNat (bnum [a,b,c,d,e,f,g,h]))= [a,b,c,d,e,f,g,h]:=by decide+kernel
theorem bit8_parts:∀x:Fin 256,bnum ((bit8 (UInt8.ofNat x.val)).take 6)=x.val / 4∧bnum ((bit8 (UInt8.ofNat x.val)).drop 6)=x.val%4∧bnum ((bit8 (UInt8.ofNat x.val)).take 4)=x.val / 16∧bnum ((bit8 (UInt8.ofNat x.val)).drop 4)=x.val%16∧bnum ((bit8 (UInt8.ofNat x.val)).take 2)=x.val / 64∧bnum ((bit8 (UInt8.ofNat x.val)).drop 2)=x.val%64:=by decide+kernel
theorem bit8_part (x:UInt8):bnum ((bit8 x).take 6)=x.toNat / 4∧bnum ((bit8 x).drop 6)=x.toNat%4∧bnum ((bit8 x).take 4)=x.toNat / 16∧bnum ((bit8 x).drop 4)=x.toNat%16∧bnum ((bit8 x).take 2)=x.toNat / 64∧bnum ((bit8 x).drop 2)=x.toNat%64:=by
 have h:=bit8_parts ⟨x.toNat,x.toNat_lt⟩;simpa only [UInt8.ofNat_toNat]using h
theorem six_bits {l:List Bool}(h:l.length=6):bit6 (bnum l)=l:=by
 match l,h with
 | [a,b,c,d,e,f],_=>exact num_bit6 a b c d e f
theorem eight_bits {l:List Bool}(h:l.length=8):bit8 (UInt8.ofNat (bnum l))=l:=by
 match l,h with
 | [a,b,c,d,e,f,g,i],_=>exact num_bit8 a b c d e f g i
theorem sgnL_cons {a l:List Bool}(h:a.length=6):sgnL (a++l)=sgnAt (bnum a)::sgnL l:=by
 unfold sgnL;rw [List.length_append,h,show(6+l.length) / 6=l.length / 6+1 by omega,List.range_succ_eq_map,List.map_cons,List.map_map];congr 1
 ·rw [Nat.mul_zero,List.drop_zero,List.take_left' h]
 ·refine List.map_congr_left fun i _=> ?_;simp only [Function.comp];rw [show 6*(i+1)=a.length+6*i by rw [h];omega,←List.drop_drop,List.drop_left]
theorem bytL_cons {a l:List Bool}(h:a.length=8):bytL (a++l)=UInt8.ofNat (bnum a)::bytL l:=by
 unfold bytL;rw [List.length_append,h,show(8+l.length) / 8=l.length / 8+1 by omega,List.range_succ_eq_map,List.map_cons,List.map_map];congr 1
 ·rw [Nat.mul_zero,List.drop_zero,List.take_left' h]
 ·refine List.map_congr_left fun i _=> ?_;simp only [Function.comp];rw [show 8*(i+1)=a.length+8*i by rw [h];omega,←List.drop_drop,List.drop_left]
theorem pad6_cons {a l:List Bool}(h:a.length=6):pad6 (a++l)=a++pad6 l:=by
 unfold pad6;rw [List.length_append,h,List.append_assoc,show padN (6+l.length)=padN l.length by unfold padN;omega]
theorem sgnL_nil {l:List Bool}(h:l.length=0):sgnL l= []:=by
 unfold sgnL;rw [h];rfl
theorem bitsB_cons (x:UInt8) (l:List UInt8):bitsB (x::l)=bit8 x++bitsB l:=List.flatMap_cons
theorem six_web:∀(xs:List UInt8) (l0:List Bool) (out:List UInt8),l0.length=0∨l0.length=2∨l0.length=4→sixGo xs (bnum l0) l0.length out=out++sgnL (pad6 (l0++bitsB xs))
 | [],l0,out,h=>by
  have hb:bitsB []= []:=rfl;rw [hb,List.append_nil,sixGo];rcases h with h |h |h
  ·rw [h,if_pos rfl,sgnL_nil (by rw [pad6_length,h];rfl),List.append_nil]
  ·rw [h,if_neg (by decide)];have hp:pad6 l0=(l0++List.replicate 4 false)++ []:=by unfold pad6;rw [h,List.append_nil];rfl
   rw [hp,sgnL_cons (by rw [List.length_append,h];rfl),sgnL_nil rfl,bnum_append];rfl
  ·rw [h,if_neg (by decide)];have hp:pad6 l0=(l0++List.replicate 2 false)++ []:=by unfold pad6;rw [h,List.append_nil];rfl
   rw [hp,sgnL_cons (by rw [List.length_append,h];rfl),sgnL_nil rfl,bnum_append];rfl
 |x::xs,l0,out,h=>by
  obtain⟨b1,b2,b3,b4,b5,b6⟩:=bit8_part x;rw [sixGo,bitsB_cons];unfold sixByte;simp only;rcases h with h |h |h
  ·have h0:l0= []:=List.eq_nil_of_length_eq_zero h;subst h0;have e:=six_web xs ((bit8 x).drop 6) (out++ [webS.getD ((bnum []*256+x.toNat) / 2^(0+2)) 0]) (.inr (.inl rfl));have hl:([]:List Bool)++(bit8 x++bitsB xs)=(bit8 x).take 6++((bit8 x).drop 6++bitsB xs):=by rw [List.nil_append,←List.append_assoc,List.take_append_drop]
   have h1:bnum ([]:List Bool)=0:=rfl;rw [hl,pad6_cons rfl,sgnL_cons rfl,b1];rw [b2]at e;rw [List.length_nil,if_neg (by decide)];simp only [h1]at e⊢;rw [show(0*256+x.toNat)%2^(0+2)=x.toNat%4 by omega];refine(show _=_ from e).trans ?_;rw [List.append_assoc,show(0*256+x.toNat) / 2^(0+2)=x.toNat / 4 by omega];rfl
  ·have e:=six_web xs ((bit8 x).drop 4) (out++ [webS.getD ((bnum l0*256+x.toNat) / 2^(2+2)) 0]) (.inr (.inr rfl));have hl:l0++(bit8 x++bitsB xs)=(l0++(bit8 x).take 4)++((bit8 x).drop 4++bitsB xs):=by rw [List.append_assoc,←List.append_assoc ((bit8 x).take 4),List.take_append_drop]
   rw [hl,pad6_cons (by rw [List.length_append,h];rfl),sgnL_cons (by rw [List.length_append,h];rfl),bnum_append,b3];rw [b4]at e;rw [h,if_neg (by decide)];simp only;rw [show(bnum l0*256+x.toNat)%2^(2+2)=x.toNat%16 by omega];refine(show _=_ from e).trans ?_;rw [List.append_assoc,show(bnum l0*256+x.toNat) / 2^(2+2)=bnum l0*2^((bit8 x).take 4).length+x.toNat / 16 by
    show _=bnum l0*2^4+x.toNat / 16;omega]
   rfl
  ·have e:=six_web xs [] (out++ [webS.getD ((bnum l0*256+x.toNat) / 64) 0,webS.getD ((bnum l0*256+x.toNat)%64) 0]) (.inl rfl);have hl:l0++(bit8 x++bitsB xs)=(l0++(bit8 x).take 2)++((bit8 x).drop 2++bitsB xs):=by rw [List.append_assoc,←List.append_assoc ((bit8 x).take 2),List.take_append_drop]
   rw [hl,pad6_cons (by rw [List.length_append,h];rfl),sgnL_cons (by rw [List.length_append,h];rfl),pad6_cons rfl,sgnL_cons rfl,bnum_append,b5,b6];rw [h,if_pos rfl];simp only;refine(show _=_ from e).trans ?_;rw [List.append_assoc,show(bnum l0*256+x.toNat) / 64=bnum l0*2^((bit8 x).take 2).length+x.toNat / 64 by
    show _=bnum l0*2^2+x.toNat / 64;omega,show(bnum l0*256+x.toNat)%64=x.toNat%64 by omega]
   rfl
theorem web_eq (b:List UInt8):webR b=webM b:=by
 have h:=six_web b [] [] (.inl rfl);unfold webR webM;exact(show _=_ from h).symm
end Go.Sig
namespace Go.Sig
open Go.RowKit Go.Proofs.YtpmgepijkhaonaaGreat
theorem bnum_cons (b:Bool) (l:List Bool):bnum (b::l)=b.toNat*2^l.length+bnum l:=by
 have h:=bnum_append [b] l;have e:bnum [b]=b.toNat:=by cases b<;>rfl
 rw [e]at h;exact h
theorem bnum_zero:∀{l:List Bool},bnum l=0↔l=List.replicate l.length false
 | []=>by simp [bnum]
 |b::l=>by
  rw [bnum_cons,List.length_cons,List.replicate_succ];cases b with
  |true=>have:0<2^l.length:=Nat.pos_of_ne_zero (by simp);simp only [Bool.toNat_true,Nat.one_mul,List.cons.injEq,Bool.true_eq_false,false_and,iff_false];omega
  |false=>simp only [Bool.toNat_false,Nat.zero_mul,Nat.zero_add,List.cons.injEq,true_and];exact bnum_zero
def tail8 (l:List Bool):List Bool:=l.drop (8*(l.length / 8))
theorem tail8_cons {a l:List Bool}(h:a.length=8):tail8 (a++l)=tail8 l:=by
 unfold tail8;rw [List.length_append,h,show 8*((8+l.length) / 8)=a.length+8*(l.length / 8) by rw [h];omega,←List.drop_drop,List.drop_left]
theorem bytL_nil {l:List Bool}(h:l.length<8):bytL l= []:=by
 unfold bytL;rw [show l.length / 8=0 by omega];rfl
theorem tail8_nil {l:List Bool}(h:l.length<8):tail8 l=l:=by
 unfold tail8;rw [show l.length / 8=0 by omega,Nat.mul_zero,List.drop_zero]
theorem bitsS_cons (c:UInt8) (l:List UInt8):bitsS (c::l)=bit6 (worthR c)++bitsS l:=List.flatMap_cons
theorem bit6_parts:∀v:Fin 64,bnum ((bit6 v.val).take 4)=v.val / 4∧bnum ((bit6 v.val).drop 4)=v.val%4∧bnum ((bit6 v.val).take 2)=v.val / 16∧bnum ((bit6 v.val).drop 2)=v.val%16:=by decide+kernel
theorem unsix_bits:∀(s:List UInt8) (l0:List Bool) (out:List UInt8),(l0.length=0∨l0.length=2∨l0.length=4∨l0.length=6)→(∀c∈s,(worthM c).isSome=true)→
  unsixGo s (bnum l0) l0.length out=if bnum (tail8 (l0++bitsS s))=0 then some (out++bytL (l0++bitsS s))else none
 | [],l0,out,h,_=>by have hb:bitsS []= []:=rfl;rw [hb,List.append_nil,unsixGo,tail8_nil (by omega),bytL_nil (by omega),List.append_nil]
 |c::cs,l0,out,h,hv=>by
  obtain⟨v,hcv⟩:=Option.isSome_iff_exists.1 (hv c (by simp));obtain⟨hw,_,hv64⟩:=wm_some hcv;have hcs:∀c∈cs,(worthM c).isSome=true:=fun x hx=>hv x (by simp [hx]);have hb6:=bit6_num ⟨v,hv64⟩;obtain⟨p1,p2,p3,p4⟩:=bit6_parts ⟨v,hv64⟩;simp only at hb6 p1 p2 p3 p4;rw [unsixGo_step hcv,bitsS_cons,hw];unfold unsixStep;rcases h with h |h |h |h
  ·have e:=unsix_bits cs (l0++bit6 v) out (.inr (.inr (.inr (by rw [List.length_append,h];rfl)))) hcs;rw [h,if_neg (by decide)];simp only;rw [bnum_append,hb6,List.length_append,h,List.append_assoc]at e;rw [List.append_nil];exact e
  ·have e:=unsix_bits cs [] (out++ [UInt8.ofNat (bnum (l0++bit6 v))]) (.inl rfl) hcs;rw [h,if_pos (by decide)];simp only;rw [List.nil_append,bnum_append,hb6]at e;have h8:(l0++bit6 v).length=8:=by rw [List.length_append,h];rfl
   rw [←List.append_assoc,tail8_cons h8,bytL_cons h8,bnum_append,hb6];rw [show(bnum l0*64+v)%2^(2+6 - 8)=bnum ([]:List Bool) by simp [bnum,Nat.mod_one],show(bnum l0*64+v) / 2^(2+6 - 8)=bnum l0*2^(bit6 v).length+v by simp [bit6_length]];refine(show _=_ from e).trans ?_;rw [List.append_assoc];rfl
  ·have e:=unsix_bits cs ((bit6 v).drop 4) (out++ [UInt8.ofNat (bnum (l0++(bit6 v).take 4))]) (.inr (.inl rfl)) hcs;rw [h,if_pos (by decide)];simp only;rw [p2,bnum_append,p1]at e;have h8:(l0++(bit6 v).take 4).length=8:=by rw [List.length_append,h];rfl
   have hl:l0++(bit6 v++bitsS cs)=(l0++(bit6 v).take 4)++((bit6 v).drop 4++bitsS cs):=by rw [List.append_assoc,←List.append_assoc ((bit6 v).take 4),List.take_append_drop]
   rw [hl,tail8_cons h8,bytL_cons h8,bnum_append,p1];rw [show(bnum l0*64+v)%2^(4+6 - 8)=v%4 by omega,show(bnum l0*64+v) / 2^(4+6 - 8)=bnum l0*2^((bit6 v).take 4).length+v / 4 by
    show _=bnum l0*2^4+v / 4;omega]
   refine(show _=_ from e).trans ?_;rw [List.append_assoc];rfl
  ·have e:=unsix_bits cs ((bit6 v).drop 2) (out++ [UInt8.ofNat (bnum (l0++(bit6 v).take 2))]) (.inr (.inr (.inl rfl))) hcs;rw [h,if_pos (by decide)];simp only;rw [p4,bnum_append,p3]at e;have h8:(l0++(bit6 v).take 2).length=8:=by rw [List.length_append,h];rfl
   have hl:l0++(bit6 v++bitsS cs)=(l0++(bit6 v).take 2)++((bit6 v).drop 2++bitsS cs):=by rw [List.append_assoc,←List.append_assoc ((bit6 v).take 2),List.take_append_drop]
   rw [hl,tail8_cons h8,bytL_cons h8,bnum_append,p3];rw [show(bnum l0*64+v)%2^(6+6 - 8)=v%16 by omega,show(bnum l0*64+v) / 2^(6+6 - 8)=bnum l0*2^((bit6 v).take 2).length+v / 16 by
    show _=bnum l0*2^2+v / 16;omega]
   refine(show _=_ from e).trans ?_;rw [List.append_assoc];rfl
theorem unsix_bad:∀(s:List UInt8) (held bits:Nat) (out:List UInt8),(∃c∈s,worthM c=none)→unsixGo s held bits out=none
 | [],_,_,_,h=>by obtain⟨c,hc,_⟩:=h;cases hc
 |x::s,held,bits,out,h=>by
  cases hx:worthM x with
  |none=>rw [unsixGo,hx]
  |some v=>
   rw [unsixGo_step hx];refine unsix_bad s _ _ _ ?_;obtain⟨c,hc,hn⟩:=h;rcases List.mem_cons.1 hc with rfl |hc
   ·rw [hx]at hn;cases hn
   ·exact⟨c,hc,hn⟩
theorem bits_bytes:∀(n:Nat) (l:List Bool),l.length / 8=n→bitsB (bytL l)=l.take (8*n)
 | 0,l,h=>by rw [bytL_nil (by omega),Nat.mul_zero,List.take_zero];rfl
 |n+1,l,h=>by
  have h8:(l.take 8).length=8:=by rw [List.length_take];omega
  have e:l=l.take 8++l.drop 8:=(List.take_append_drop 8 l).symm;have ih:=bits_bytes n (l.drop 8) (by rw [List.length_drop];omega);rw [e,bytL_cons h8,bitsB_cons,eight_bits h8,ih,show 8*(n+1)=(l.take 8).length+8*n by rw [h8];omega,List.take_length_add_append]
theorem signs_bits:∀s:List UInt8,(∀c∈s,(worthM c).isSome=true)→sgnL (bitsS s)=s
 | [],_=>rfl
 |c::s,h=>by obtain⟨v,hcv⟩:=Option.isSome_iff_exists.1 (h c (by simp));obtain⟨hw,hs,hv64⟩:=wm_some hcv;rw [bitsS_cons,sgnL_cons (bit6_length _),signs_bits s (fun x hx=>h x (by simp [hx])),hw,bit6_num ⟨v,hv64⟩,hs]
theorem bits_signs:∀(n:Nat) (l:List Bool),l.length=6*n→bitsS (sgnL l)=l
 | 0,l,h=>by have:l= []:=List.eq_nil_of_length_eq_zero (by omega);subst this;rfl
 |n+1,l,h=>by
  have h6:(l.take 6).length=6:=by rw [List.length_take];omega
  have e:l=l.take 6++l.drop 6:=(List.take_append_drop 6 l).symm;have ih:=bits_signs n (l.drop 6) (by rw [List.length_drop];omega);have hb:=bnum_six h6;rw [e,sgnL_cons h6,bitsS_cons,(sg_w ⟨bnum (l.take 6),hb⟩).1,six_bits h6,ih]
theorem signs_valid (l:List Bool):∀c∈sgnL l,(worthM c).isSome=true:=by
 intro c hc;unfold sgnL at hc;obtain⟨i,hi,rfl⟩:=List.mem_map.1 hc;have hi:=List.mem_range.1 hi;have h6:((l.drop (6*i)).take 6).length=6:=by rw [List.length_take,List.length_drop];omega
 rw [(sg_w ⟨_,bnum_six h6⟩).2];rfl
theorem pad_tail {n:Nat}(h4:¬n%4=1):padN (8*(6*n / 8))=6*n - 8*(6*n / 8):=by
 unfold padN;obtain⟨f,hf⟩:∃f,n=4*f∨n=4*f+2∨n=4*f+3:=⟨n / 4,by omega⟩
 rcases hf with rfl |rfl |rfl
 ·rw [show 6*(4*f) / 8=3*f by omega];omega
 ·rw [show 6*(4*f+2) / 8=3*f+1 by omega];omega
 ·rw [show 6*(4*f+3) / 8=3*f+2 by omega];omega
theorem unweb_eq (s:List UInt8):(if webM (unsixR s)=s then some (unsixR s)else none)=unwebM s:=by
 rw [←web_eq];have hL:(bitsS s).length=6*s.length:=by rw [bitsS_length];omega
 have hB:bitsB (unsixR s)=(bitsS s).take (8*((bitsS s).length / 8)):=bits_bytes _ _ rfl;have hsp:bitsS s=(bitsS s).take (8*((bitsS s).length / 8))++tail8 (bitsS s):=(List.take_append_drop _ _).symm;have htl:(tail8 (bitsS s)).length=(bitsS s).length - 8*((bitsS s).length / 8):=by unfold tail8;rw [List.length_drop]
 have hkl:((bitsS s).take (8*((bitsS s).length / 8))).length=8*((bitsS s).length / 8):=by rw [List.length_take];omega
 have hwr:webR (unsixR s)=sgnL (pad6 ((bitsS s).take (8*((bitsS s).length / 8)))):=by unfold webR;rw [hB]
 by_cases hv:∀c∈s,(worthM c).isSome=true
 ·have hu:=unsix_bits s [] [] (.inl rfl) hv;rw [List.nil_append,List.nil_append]at hu;unfold unwebM;by_cases h4:s.length%4=1
  ·rw [if_pos h4,if_neg];intro e;have h:=congrArg List.length e;rw [hwr,sgnL_length,pad6_length,hkl,hL]at h;unfold padN at h;omega
  ·rw [if_neg h4];refine Eq.trans ?_ hu.symm;by_cases h0:bnum (tail8 (bitsS s))=0
   ·rw [if_pos h0,if_pos]
    ·rfl
    ·rw [hwr];have hp:pad6 ((bitsS s).take (8*((bitsS s).length / 8)))=bitsS s:=by
      rw [bnum_zero.1 h0]at hsp;unfold pad6;rw [hkl,show padN (8*((bitsS s).length / 8))=(tail8 (bitsS s)).length by rw [htl,hL];exact pad_tail h4];exact hsp.symm
     rw [hp,signs_bits s hv]
   ·rw [if_neg h0,if_neg];intro e;rw [hwr]at e;have hq:=bits_signs ((pad6 ((bitsS s).take (8*((bitsS s).length / 8)))).length / 6) (pad6 ((bitsS s).take (8*((bitsS s).length / 8)))) (by have:=pad6_six ((bitsS s).take (8*((bitsS s).length / 8)));omega);rw [e]at hq;unfold pad6 at hq;have ht:=List.append_cancel_left (hsp.symm.trans hq);exact h0 (bnum_zero.2 (by rw [ht,List.length_replicate]))
 ·have hex:∃c∈s,worthM c=none:=by
   simp only [Classical.not_forall]at hv;obtain⟨c,hc,hn⟩:=hv;exact⟨c,hc,by simpa using hn⟩
  have hu:=unsix_bad s 0 0 [] hex;rw [if_neg]
  ·unfold unwebM;split
   ·rfl
   ·exact hu.symm
  ·intro e;rw [hwr]at e;obtain⟨c,hc,hn⟩:=hex;have h:=signs_valid (pad6 ((bitsS s).take (8*((bitsS s).length / 8)))) c (by rw [e];exact hc);rw [hn]at h;cases h
end Go.Sig
