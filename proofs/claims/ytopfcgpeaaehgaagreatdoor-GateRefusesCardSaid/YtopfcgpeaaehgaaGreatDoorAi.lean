/- Walks: the bytes of signs, by any sixty-four signs; of the basic ones. Conditions: each theorem's own. -/
import Derived.Test.YtopfcgpeaaehgaaGreatDoorAh
namespace Go.Proofs.YtopfcgpeaaehgaaGreatDoor
open Go.RowKit Go.Sig
def worthSI (S:List UInt8) (c:UInt8):Int:=match worthS S c with |some v=>v |none=> -1
theorem unsixS_step {S:List UInt8}{c:UInt8}{cs:List UInt8}{held bits v:Nat}{out:List UInt8}(h:worthS S c=some v):unsixS S (c::cs) held bits out=unsixS S cs (unsixStep held bits v).1 (unsixStep held bits v).2.1 (out++(unsixStep held bits v).2.2):=by
 rw [unsixS,h];unfold unsixStep;simp only;split<;>simp
set_option maxHeartbeats 2000000 in
theorem unsixS_t (S:List UInt8) (q:ByteArray) (hw:∀(W:World) (c:UInt8),Calls Tryz.prog 159 #[.string q,.int .u8 (c.toNat:Int)] W fun e w'=>e= .returned (.int .i64 (worthSI S c))∧W=w') (hS64:∀c v,worthS S c=some v→v<64) (w:World) (s:ByteArray) (hs:s.size≤140737488351232):Calls Tryz.prog 127 #[.string q,.string s] w (BytesPost w (unsixM S s.data.toList)):=by
 go_enter Tryz.func127,Tryz.ntmps127;by_cases h4:s.size%4=1
 ·have h4':((s.size:Int)%4==1)=true:=by rw [beq_iff_eq];omega
  have h4h:=zh h4;clear h4;go_wp2_with fail
  go_ret2;have e:unsixM S s.data.toList=none:=by unfold unsixM;rw [if_pos (by rw [Array.length_toList];exact h4h.o)]
  rw [e];exact⟨rfl,Fr.refl _ _⟩
 ·have h4':((s.size:Int)%4==1)=false:=by rw [beq_eq_false_iff_ne];omega
  have hun:=zh (show unsixM S s.data.toList=unsixS S s.data.toList 0 0 [] by
   unfold unsixM;rw [if_neg (by rw [Array.length_toList];exact h4)])
  clear h4;go_wp2_with fail
  clear h4';go_loopg [6,7,8,9,10] (s.size+1) (fun gk s6 s7 s8 s9 s10 wr=>∃(i held nb:Nat) (out:List UInt8),s9= .int .i64 i∧s7= .int .i64 held∧s8= .int .i64 nb∧i≤s.size∧s.size - i<gk∧BIn w wr s6 out∧(nb=0∨nb=2∨nb=4∨nb=6)∧held<2^nb∧out.length≤i∧unsixS S (s.data.toList.drop i) held nb out=unsixM S s.data.toList)
  case atStart=>exact⟨0,0,0,[],rfl,rfl,rfl,by omega,by omega,BIn.nil w,by omega,by decide,by simp,hun.o.symm⟩
  case round=>
   obtain⟨i,held,nb,out,rfl,rfl,rfl,hi,hk,hB,hbits,hheld,hlen,hgo⟩:=hrel;have hgoh:=zh hgo;have hBh:=zh hB;clear hgo hun hB;by_cases hlt:i<s.size
   ·have hlt':(i:Int)<s.size:=by omega
    have hlth:=zh hlt;have hdr:=zh (show s.data.toList.drop i=s[i]::s.data.toList.drop (i+1) by
     have h':i<s.data.toList.length:=by rw [Array.length_toList];exact hlt
     rw [List.drop_eq_getElem_cons h',Array.getElem_toList];rfl)
    have hwi:=hw wr s[i];obtain⟨c,hc⟩:∃z,Hid (s[i]=z):=⟨_,zh rfl⟩
    rw [hc.o]at hdr hwi;have hix:(s[i]'hlth.o)=c:=hc.o;cases hv:worthS S c with
    |none=>
     have hvh:=zh hv;rw [show worthSI S c= -1 by unfold worthSI;rw [hv]]at hwi;clear hv;go_wp2_with (go_at_call 159;refine hwi.mono ?_;rintro e w' ⟨rfl,rfl⟩)
     go_ret2;rw [←hgoh.o,hdr.o];unfold unsixS;rw [hvh.o];obtain⟨A,c2,_,_,_,hF⟩:=hBh.o;exact⟨rfl,hF⟩
    |some v=>
     have hvh:=zh hv;have hv64:=hS64 _ _ hv;rw [show worthSI S c=(v:Int) by unfold worthSI;rw [hv]]at hwi;have hv0:¬(v:Int)<0:=by omega
     clear hv;obtain⟨A2,c2,rfl,O2,R2,F2⟩:=hBh.o;obtain⟨n2,hn2⟩:∃z,Hid (out.length=z):=⟨_,zh rfl⟩
     rw [hn2.o]at O2 R2 hlen⊢;obtain⟨h,hh⟩:∃z,Hid (held*64+v=z):=⟨_,zh rfl⟩
     have hor:bits .or .i64 ((held:Int)*64) (v:Int)=(h:Int):=by
      have hb:held<64:=by rcases hbits with rfl |rfl |rfl |rfl<;>omega
      have:=or_six ⟨held,hb⟩ ⟨v,hv64⟩;simp only at this;rw [this,hh.o]
     have hh4:h<4096:=by have:=hh.o;have hb:held<64:=by{rcases hbits with rfl |rfl |rfl |rfl<;>omega};omega
     rcases hbits with rfl |rfl |rfl |rfl
     ·have hst:=zh (show unsixStep held 0 v=(h,6,[]) by unfold unsixStep;rw [hh.o];rfl);go_wp2_with (go_at_call 159;refine hwi.mono ?_;rintro e w' ⟨rfl,rfl⟩)
      go_roundg (s.size - i)
      case measure=>omega
      case rel=>have hbb:=hBh.o;rw [hn2.o]at hbb;refine⟨i+1,h,6,out,by go_num,rfl,rfl,by have:=hlth.o;omega,by have:=hlth.o;omega,hbb,by omega,by have:=hh.o;omega,by rw [hn2.o];omega,?_⟩;rw [←hgoh.o,hdr.o,unsixS_step hvh.o,hst.o,List.append_nil]
     ·have hst:=zh (show unsixStep held 2 v=(h%1,0,[UInt8.ofNat (h / 1)]) by unfold unsixStep;rw [hh.o];rfl);have hand:=(and_at hh4).1;have hx:(UInt8.ofNat (h / 1)).toNat=h / 1%256:=by simp
      go_wp2_with (first
       | (go_at_call 159;refine hwi.mono ?_;rintro e w' ⟨rfl,rfl⟩)
       | (refine wpList_own_append tB1 (O2.fr ((Fr.refl [] _).alloc _) (by simp)) (byte_new _ _ (UInt8.ofNat (h / 1)) _ (by rw [hx];omega)) (fun u hu=>by simp at hu;rw [hu];rfl) (by simp) (by unfold maxLen;omega) (by omega) rfl rfl rfl rfl (fun v2 w2 p1 p2 p3=> ?_);obtain⟨A3,c3,rfl,hA3⟩:=p1.form))
      go_roundg (s.size - i)
      case measure=>omega
      case rel=>refine⟨i+1,h%1,0,out++ [UInt8.ofNat (h / 1)],by go_num,by first |rfl | (simp;done) | (congr 1;omega),rfl,by have:=hlth.o;omega,by have:=hlth.o;omega,BIn.push hn2.o R2 F2 p1 p2 p3,by omega,by omega,by rw [List.length_append,hn2.o,List.length_singleton];omega,?_⟩;rw [←hgoh.o,hdr.o,unsixS_step hvh.o,hst.o]
     ·have hst:=zh (show unsixStep held 4 v=(h%4,2,[UInt8.ofNat (h / 4)]) by unfold unsixStep;rw [hh.o];rfl);have hand:=(and_at hh4).2.1;have hx:(UInt8.ofNat (h / 4)).toNat=h / 4%256:=by simp
      go_wp2_with (first
       | (go_at_call 159;refine hwi.mono ?_;rintro e w' ⟨rfl,rfl⟩)
       | (refine wpList_own_append tB1 (O2.fr ((Fr.refl [] _).alloc _) (by simp)) (byte_new _ _ (UInt8.ofNat (h / 4)) _ (by rw [hx];omega)) (fun u hu=>by simp at hu;rw [hu];rfl) (by simp) (by unfold maxLen;omega) (by omega) rfl rfl rfl rfl (fun v2 w2 p1 p2 p3=> ?_);obtain⟨A3,c3,rfl,hA3⟩:=p1.form))
      go_roundg (s.size - i)
      case measure=>omega
      case rel=>refine⟨i+1,h%4,2,out++ [UInt8.ofNat (h / 4)],by go_num,by first |rfl | (simp;done) | (congr 1;omega),rfl,by have:=hlth.o;omega,by have:=hlth.o;omega,BIn.push hn2.o R2 F2 p1 p2 p3,by omega,by omega,by rw [List.length_append,hn2.o,List.length_singleton];omega,?_⟩;rw [←hgoh.o,hdr.o,unsixS_step hvh.o,hst.o]
     ·have hst:=zh (show unsixStep held 6 v=(h%16,4,[UInt8.ofNat (h / 16)]) by unfold unsixStep;rw [hh.o];rfl);have hand:=(and_at hh4).2.2;have hx:(UInt8.ofNat (h / 16)).toNat=h / 16%256:=by simp
      go_wp2_with (first
       | (go_at_call 159;refine hwi.mono ?_;rintro e w' ⟨rfl,rfl⟩)
       | (refine wpList_own_append tB1 (O2.fr ((Fr.refl [] _).alloc _) (by simp)) (byte_new _ _ (UInt8.ofNat (h / 16)) _ (by rw [hx];omega)) (fun u hu=>by simp at hu;rw [hu];rfl) (by simp) (by unfold maxLen;omega) (by omega) rfl rfl rfl rfl (fun v2 w2 p1 p2 p3=> ?_);obtain⟨A3,c3,rfl,hA3⟩:=p1.form))
      go_roundg (s.size - i)
      case measure=>omega
      case rel=>refine⟨i+1,h%16,4,out++ [UInt8.ofNat (h / 16)],by go_num,by first |rfl | (simp;done) | (congr 1;omega),rfl,by have:=hlth.o;omega,by have:=hlth.o;omega,BIn.push hn2.o R2 F2 p1 p2 p3,by omega,by omega,by rw [List.length_append,hn2.o,List.length_singleton];omega,?_⟩;rw [←hgoh.o,hdr.o,unsixS_step hvh.o,hst.o]
   ·have hge:¬(i:Int)<s.size:=by omega
    have hfin:=hgoh.o;rw [List.drop_eq_nil_of_le (by rw [Array.length_toList];show s.size≤i;omega)]at hfin;unfold unsixS at hfin;have hfinh:=zh hfin;clear hlt hk hfin;by_cases h0:held=0
    ·have h0':((held:Int) !=0)=false:=by simp;omega
     have h0'':((held:Int)==0)=true:=by rw [beq_iff_eq];omega
     have h0h:=zh h0;clear h0;go_wp2_with fail
     go_ret2;rw [←hfinh.o,if_pos h0h.o];exact⟨_,rfl,hBh.o⟩
    ·have h0':((held:Int) !=0)=true:=by simp;omega
     have h0'':((held:Int)==0)=false:=by rw [beq_eq_false_iff_ne];omega
     have h0h:=zh h0;clear h0;go_wp2_with fail
     go_ret2;rw [←hfinh.o,if_neg h0h.o];obtain⟨A,c2,_,_,_,hF⟩:=hBh.o;exact⟨rfl,hF⟩
theorem worthS_lt {S:List UInt8}{c:UInt8}{v:Nat}(h:worthS S c=some v):v<S.length:=by
 unfold worthS at h;rw [List.findIdx?_eq_some_iff_getElem]at h;obtain⟨h,_⟩:=h;exact h
def sBas:ByteArray:=⟨basS.toArray⟩
theorem worthB_t (w:World) (c:UInt8):Calls Tryz.prog 159 #[.string sBas,.int .u8 (c.toNat:Int)] w fun e w'=>e= .returned (.int .i64 (worthSI basS c))∧w=w':=by
 refine(worth_t w sBas (by decide) c).mono ?_;rintro e w' ⟨k,rfl,hk,rfl⟩;refine⟨?_,rfl⟩;have e1:sBas.data.toList=basS:=by decide
 unfold WorthIs at hk;rw [e1]at hk;unfold worthSI worthS;rcases hk with⟨v,h1,rfl⟩ | ⟨h1,rfl⟩<;>rw [h1]
theorem unsixB_t (w:World) (s:ByteArray) (hs:s.size≤140737488351232):Calls Tryz.prog 127 #[.string sBas,.string s] w (BytesPost w (unsixM basS s.data.toList)):=unsixS_t basS sBas worthB_t (fun _ _ h=>worthS_lt h) w s hs
set_option maxHeartbeats 2000000 in
theorem unbas_t (w:World) (s:ByteArray) (hs:s.size≤140737488351232):Calls Tryz.prog 91 #[.string s] w (BytesPost w (unbasM s.data.toList)):=by
 have sz:s.data.toList.length=s.size:=by rw [Array.length_toList];rfl
 by_cases h4:s.size%4=0
 ·have t0:((s.size:Int)%4 !=0)=false:=by simp;omega
  have hres:=zh (show unbasM s.data.toList=unsixM basS (s.data.toList.take (stripN s.data.toList)) by unfold unbasM;rw [if_neg (by rw [sz];omega)]);have h4h:=zh h4;go_enter Tryz.func91,Tryz.ntmps91;go_wp2_with fail
  clear t0;go_loopg [4] 4 (fun gk s4 wr=>∃(j n:Nat),s4= .int .i64 n∧n+j=s.size∧j≤2∧3 - j<gk∧(0<j→s.data.toList[s.size - 1]? =some 61)∧(1<j→s.data.toList[s.size - 2]? =some 61)∧w=wr)
  case atStart=>exact⟨0,s.size,rfl,by omega,by omega,by omega,by omega,by omega,rfl⟩
  case round=>
   obtain⟨j,n,rfl,hn,hj,hk,h1,h2,rfl⟩:=hrel;have h1h:=zh h1;have h2h:=zh h2;clear h1 h2;have hnb:n≤140737488351232:=by omega
   by_cases hstep:0<n∧j<2∧s.data.toList[n - 1]? =some 61
   ·obtain⟨hn0,hj2,h61⟩:=hstep;have t1:(0:Int)<(n:Int):=by omega
    have t2:(s.size:Int) - 2<(n:Int):=by omega
    have hlt:n - 1<s.size:=by omega
    obtain⟨m,rfl⟩:∃m,n=m+1:=⟨n - 1,by omega⟩
    rw [show m+1 - 1=m by omega]at h61 hlt;have hc:=at_lt hlt;rw [h61]at hc;have hc':(s[m]'hlt)=61:=(Option.some.inj hc).symm;have hlt':(m:Int)<s.size:=by omega
    have hm1:(((m+1:Nat)):Int) - 1=(m:Int):=by omega
    have hm2:(((m+1:Nat)):Int)=(m:Int)+1:=by omega
    have h61h:=zh h61;clear h61 hc;rw [hm2]at t1 t2⊢;go_wp2_with fail
    go_roundg (3 - j)
    case measure=>omega
    case rel=>exact⟨j+1,m,by go_num,by omega,by omega,by omega,fun _=>by
      rcases Nat.lt_or_ge 0 j with h |h
      ·exact h1h.o h
      ·have:=h61h.o;rwa [show m=s.size - 1 by omega]at this,fun _=>by have:=h61h.o;rwa [show m=s.size - 2 by omega]at this,rfl⟩
   ·have hN:Hid (stripN s.data.toList=n):=zh (by
     unfold stripN;rw [sz];have h4':=h4h.o;by_cases h0:n=0
     ·rcases Nat.lt_or_ge 1 j with h |h
      ·rw [if_pos (h1h.o (by omega)),if_pos (h2h.o h)];omega
      ·obtain rfl:j=0:=by omega
       rw [if_neg]
       ·omega
       ·rw [at_ge (by omega)];simp
     ·rcases Nat.lt_or_ge 1 j with h |h
      ·rw [if_pos (h1h.o (by omega)),if_pos (h2h.o h)];omega
      ·have hno:¬s.data.toList[n - 1]? =some 61:=fun e=>hstep ⟨by omega,by omega,e⟩;rcases Nat.lt_or_ge 0 j with hj1 |hj0
       ·rw [if_pos (h1h.o hj1),if_neg (by rwa [show n - 1=s.size - 2 by omega]at hno)];omega
       ·rw [if_neg (by rwa [show n - 1=s.size - 1 by omega]at hno)];omega)
    have hu:=unsixB_t w (s.extract 0 n) (by rw [ext_take];show(s.data.toList.take n).toArray.size≤_;rw [List.size_toArray,List.length_take];omega);rw [show(s.extract 0 n).data.toList=s.data.toList.take n by rw [ext_take,lst_bA],show sBas=⟨#[65,66,67,68,69,70,71,72,73,74,75,76,77,78,79,80,81,82,83,84,85,86,87,88,89,90,97,98,99,100,101,102,103,104,105,106,107,108,109,110,111,112,113,114,115,116,117,118,119,120,121,122,48,49,50,51,52,53,54,55,56,57,43,47]⟩from rfl]at hu;have hns:(n:Int)≤s.size:=by omega
    have h0n:(0:Int)≤(n:Int):=by omega
    by_cases h0:n=0
    ·have t1:¬(0:Int)<(n:Int):=by omega
     clear h0 hstep;cases hv':unsixM basS (s.data.toList.take n)with
     |none=>
      have hv:=zh hv';rw [hv']at hu;clear hv';go_wp2_with (go_at_call 127;refine Calls.mono (show Calls Tryz.prog 127 _ _ _ from hu) ?_;clear hu;rintro e w' ⟨rfl,F⟩)
      go_ret2;rw [hres.o,hN.o,hv.o];exact⟨rfl,F⟩
     |some bs=>
      have hv:=zh hv';rw [hv']at hu;clear hv';go_wp2_with (go_at_call 127;refine Calls.mono (show Calls Tryz.prog 127 _ _ _ from hu) ?_;clear hu;rintro e w' ⟨v,rfl,F⟩)
      go_ret2;rw [hres.o,hN.o,hv.o];exact⟨_,rfl,F⟩
    by_cases hj2:j=2
    ·have t1:(0:Int)<(n:Int):=by omega
     have t2:¬(s.size:Int) - 2<(n:Int):=by omega
     clear h0 hstep hj2;cases hv':unsixM basS (s.data.toList.take n)with
     |none=>
      have hv:=zh hv';rw [hv']at hu;clear hv';go_wp2_with (go_at_call 127;refine Calls.mono (show Calls Tryz.prog 127 _ _ _ from hu) ?_;clear hu;rintro e w' ⟨rfl,F⟩)
      go_ret2;rw [hres.o,hN.o,hv.o];exact⟨rfl,F⟩
     |some bs=>
      have hv:=zh hv';rw [hv']at hu;clear hv';go_wp2_with (go_at_call 127;refine Calls.mono (show Calls Tryz.prog 127 _ _ _ from hu) ?_;clear hu;rintro e w' ⟨v,rfl,F⟩)
      go_ret2;rw [hres.o,hN.o,hv.o];exact⟨_,rfl,F⟩
    have t1:(0:Int)<(n:Int):=by omega
    have t2:(s.size:Int) - 2<(n:Int):=by omega
    have hlt:n - 1<s.size:=by omega
    have hno:¬s.data.toList[n - 1]? =some 61:=fun e=>hstep ⟨by omega,by omega,e⟩;obtain⟨m,rfl⟩:∃m,n=m+1:=⟨n - 1,by omega⟩
    rw [show m+1 - 1=m by omega]at hno hlt;rw [at_lt hlt]at hno;obtain⟨c,hc⟩:∃c,s[m]'hlt=c:=⟨_,rfl⟩
    rw [hc]at hno;have t3:((c.toNat:Int)==61)=false:=by rw [beq_eq_false_iff_ne];intro h;exact hno (by rw [show c=61 from UInt8.toNat_inj.1 (by show c.toNat=61;omega)])
    have hlt':(m:Int)<s.size:=by omega
    have hm2:(((m+1:Nat)):Int)=(m:Int)+1:=by omega
    clear hno hstep h0 hj2;rw [hm2]at t1 t2 hns h0n⊢;cases hv':unsixM basS (s.data.toList.take (m+1))with
    |none=>
     have hv:=zh hv';rw [hv']at hu;clear hv';go_wp2_with (go_at_call 127;refine Calls.mono (show Calls Tryz.prog 127 _ _ _ from hu) ?_;clear hu;rintro e w' ⟨rfl,F⟩)
     go_ret2;rw [hres.o,hN.o,hv.o];exact⟨rfl,F⟩
    |some bs=>
     have hv:=zh hv';rw [hv']at hu;clear hv';go_wp2_with (go_at_call 127;refine Calls.mono (show Calls Tryz.prog 127 _ _ _ from hu) ?_;clear hu;rintro e w' ⟨v,rfl,F⟩)
     go_ret2;rw [hres.o,hN.o,hv.o];exact⟨_,rfl,F⟩
 ·have t0:((s.size:Int)%4 !=0)=true:=by simp;omega
  have hres:Hid (unbasM s.data.toList=none):=zh (by unfold unbasM;rw [if_pos (by rw [sz];exact h4)]);clear h4;go_enter Tryz.func91,Tryz.ntmps91;go_wp2_with fail
  go_ret2;rw [hres.o];exact⟨rfl,Fr.refl _ _⟩
end Go.Proofs.YtopfcgpeaaehgaaGreatDoor
