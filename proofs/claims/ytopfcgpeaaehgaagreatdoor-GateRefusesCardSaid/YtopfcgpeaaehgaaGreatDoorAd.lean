/- Walks of forms: a text, unquoted. Conditions: each theorem's own. -/
import Derived.Test.YtopfcgpeaaehgaaGreatDoorGh
import Derived.Laws.IdiomStrings
import Derived.Test.YtopfcgpeaaehgaaGreatDoorAc
namespace Go.Proofs.YtopfcgpeaaehgaaGreatDoor
open Go.RowKit Go.Sig
theorem conv_str {w:World}{A:Option Addr}{n c:Nat}{l:List UInt8}(h:Byts w A n l):(convert 23 9 (.slice A n c)).run Tryz.prog w= .ok (.string (bA l)) w:=by
 have hl:=h.length;by_cases h0:0<n
 ·obtain⟨b,o,rfl,hcell⟩:=h.2 h0;subst hl;exact run_convert_bytes_back (P:=Tryz.prog) w 23 9 5 ⟨b,o,none⟩ c l tBytes (by kernel_rfl) (by kernel_rfl) (fun j hj=>by
   rw [Addr.add_lit];exact hcell j _ (by rw [List.getElem?_map,List.getElem?_eq_getElem hj];rfl))
 ·obtain rfl:n=0:=by omega
  obtain rfl:l= []:=List.eq_nil_of_length_eq_zero hl;rw [run_convert_bytes_string w 23 9 5 A 0 c tBytes (by kernel_rfl) (by kernel_rfl)];cases A<;>simp [Conv.bytesToString,loadCells]
  all_goals rfl
def BAc (X:List Nat) (w wr:World) (s:Value) (bs:List UInt8):Prop:=
 ∃A c,s= .slice A bs.length c∧Own wr 5 1 (.slice A bs.length c) bs.length (bs.map bv)∧(∀g,g∈rowOf (.slice A bs.length c)→w.heap.size≤g)∧Fr X w wr
theorem BAc.nil {X:List Nat}{w wr:World}(hF:Fr X w wr):BAc X w wr (.slice none 0 0) []:=⟨none,0,rfl,Own.nil _ _ _,by simp [rowOf,Value.ownBlock],hF⟩
theorem BAc.fr {X:List Nat}{w wr w2:World}{s:Value}{bs:List UInt8}(h:BAc X w wr s bs) (hX:∀x∈X,x<w.heap.size) (hF:Fr X wr w2):BAc X w w2 s bs:=by
 obtain⟨A,c,rfl,hO,hR,hB⟩:=h;exact⟨A,c,rfl,hO.fr hF (fun g hg hx=>by have:=hR g hg;have:=hX g hx;omega),hR,hB.trans hF⟩
theorem BAc.push {X:List Nat}{w wr w2:World}{o:Obj}{A A2:Option Addr}{c c2 n:Nat}{bs:List UInt8}{b:UInt8}(hn:bs.length=n) (hR:∀g,g∈rowOf (.slice A n c)→w.heap.size≤g) (hF:Fr X w wr)
  (p1:Own w2 5 1 (.slice A2 (n+1) c2) (n+1) (bs.map bv++ [b].map bv)) (p2:Fr (rowOf (.slice A n c)) (wr.alloc o) w2)
  (p3:∀g,g∈rowOf (.slice A2 (n+1) c2)→g∈rowOf (.slice A n c)∨g=(wr.alloc o).heap.size):BAc X w w2 (.slice A2 (n+1) c2) (bs++ [b]):=by
 have hl:(bs++ [b]).length=n+1:=by simp [hn]
 refine⟨A2,c2,by rw [hl],?_,?_,(hF.alloc _).andThen p2 (fun x hx=> .inr (hR x hx))⟩
 ·rw [hl,List.map_append];exact p1
 ·rw [hl];exact fun g hg=>(p3 g hg).elim (hR g) (fun e=>by rw [e];exact Nat.le_trans hF.size (by simp))
def nextI (s:ByteArray) (i:Nat):Int:=match s.data.toList[i]? with |some c=>hexI c |none=> -1
theorem at_lt {s:ByteArray}{i:Nat}(h:i<s.size):s.data.toList[i]? =some (s[i]'h):=by
 have h':i<s.data.toList.length:=by rw [Array.length_toList];exact h
 rw [List.getElem?_eq_getElem h',Array.getElem_toList];rfl
theorem at_ge {s:ByteArray}{i:Nat}(h:s.size≤i):s.data.toList[i]? =none:=List.getElem?_eq_none (by rw [Array.length_toList];exact h)
set_option maxHeartbeats 1000000 in
theorem next_t (w:World) (ga gs:Nat) (s:ByteArray) (i:Nat) (hA:Blk w ga 3 #[.int .i64 i]) (hS:Blk w gs 9 #[.string s]) (hne:ga≠gs) (hs:s.size≤150000000000000) (hi:i≤s.size):
  Calls Tryz.prog 116 #[.pointer (some ⟨ga,0,none⟩),.pointer (some ⟨gs,0,none⟩)] w fun e w'=>e= .returned (.int .i64 (nextI s i))∧Blk w' ga 3 #[.int .i64 ((min (i+1) s.size:Nat):Int)]∧Fr [ga] w w':=by
 have eA:=hA.cell 0;have eS:=hS.cell 0;have zA:=hA.frozen 0;simp only [zG,zH]at eA eS;have hAh:=zh hA;have hSh:=zh hS;have hgl:=hA.lt;have hsl:=hS.lt;clear hA hS;go_enter Tryz.func116,Tryz.ntmps116;by_cases hlt:i<s.size
 ·obtain⟨c,hc⟩:∃c,s[i]'hlt=c:=⟨_,rfl⟩
  have hn:nextI s i=hexI c:=by unfold nextI;rw [at_lt hlt,hc]
  rw [hn];have hww:=fun W=>fworth_t W c;obtain⟨r,hr⟩:∃z,Hid (hexI c=z):=⟨_,zh rfl⟩
  rw [hr.o]at hww⊢;have hlt':¬(s.size:Int)≤i:=by omega
  have hmin:=zh (show min (i+1) s.size=i+1 by omega);rw [hmin.o];clear hn;go_upto_region 4 with(fail)
  refine wp_gen (fun W=>Blk W ga 3 #[.int .i64 ((i:Int)+1)]∧Blk W gs 9 #[.string s]∧Fr [ga] w W) ⟨by have:=hAh.o.set 0 (.int .i64 ((i:Int)+1));simpa using this,hSh.o.far hne.symm _,(Fr.refl _ _).setCell (.inl (by simp)) _⟩ ?_;rintro W ⟨bA,bS,fW⟩;have eA2:=bA.cell 0;have eS2:=bS.cell 0;simp only [zG,zH]at eA2 eS2;have bAh:=zh bA;clear bA bS eA eS;have hlt2:(i:Int)<s.size:=by omega
  have hw2:=hww W;go_wp2_with (go_at_call 117;refine hw2.mono ?_;rintro e w' ⟨rfl,rfl⟩)
  go_ret;exact⟨rfl,by have:=bAh.o;rw [show(((i+1:Nat)):Int)=(i:Int)+1 by omega];exact this,fW⟩
 ·have hge:(s.size:Int)≤i:=by omega
  have hn:nextI s i= -1:=by unfold nextI;rw [at_ge (by omega)]
  rw [hn];have hmin:=zh (show min (i+1) s.size=i by omega);rw [hmin.o];clear hlt hn;go_wp2_with fail
  go_ret;exact⟨rfl,hAh.o,Fr.refl _ _⟩
theorem or_hex:∀(a b:Fin 16),bits .or .i64 ((a.val:Int)*16) (b.val:Int)=((16*a.val+b.val:Nat):Int):=by decide+kernel
theorem hexV_lt {c:UInt8}{v:Nat}(h:hexV c=some v):v<16:=by
 unfold hexV at h;split at h
 ·cases h;omega
 ·split at h
  ·cases h;omega
  ·split at h
   ·cases h;omega
   ·cases h
theorem hexI_neg {c:UInt8}(h:hexV c=none):hexI c= -1:=by unfold hexI;rw [h]
theorem hexI_val {c:UInt8}{v:Nat}(h:hexV c=some v):hexI c=(v:Int):=by unfold hexI;rw [h]
theorem drop_at {l:List UInt8}{i:Nat}{c:UInt8}(h:l[i]? =some c):l.drop i=c::l.drop (i+1):=by
 obtain⟨h1,h2⟩:=List.getElem?_eq_some_iff.1 h;rw [List.drop_eq_getElem_cons h1,h2]
theorem unqL_bad {c:UInt8}{r:List UInt8}(h:c.toNat<33∨126<c.toNat):unqL (c::r)=none:=by unfold unqL;rw [if_pos h]
theorem unqL_one {c:UInt8}{r:List UInt8}(h:¬(c.toNat<33∨126<c.toNat)) (h2:c.toNat≠37):unqL (c::r)=(unqL r).map ((if c.toNat=43 then 32 else c):: ·):=by conv=>lhs;unfold unqL;rw [if_neg h,if_neg h2]
theorem unqL_pct {c:UInt8}{r:List UInt8}(h:c.toNat=37):unqL (c::r)=match r with
  |h::l::r'=>match hexV h,hexV l with
   |some a,some b=>(unqL r').map (UInt8.ofNat (16*a+b):: ·)
   |_,_=>none
  |_=>none:=by
 conv=>lhs;unfold unqL;rw [if_neg (by omega),if_pos h]
 rfl
theorem unqL_two {s:ByteArray}{i:Nat}{c:UInt8}(hc:s.data.toList[i]? =some c) (h37:c.toNat=37) (hi:i<s.size):
  (∃a b:Nat,a<16∧b<16∧i+2<s.size∧nextI s (i+1)=a∧nextI s (i+2)=b∧unqL (s.data.toList.drop i)=(unqL (s.data.toList.drop (i+3))).map (UInt8.ofNat (16*a+b):: ·))∨
  ((nextI s (i+1)<0∨nextI s (min (i+2) s.size)<0)∧unqL (s.data.toList.drop i)=none):=by
 rw [drop_at hc,unqL_pct h37];by_cases h1:i+1<s.size
 ·have e1:=at_lt h1;obtain⟨x,hx⟩:∃x,s[i+1]'h1=x:=⟨_,rfl⟩
  rw [hx]at e1;rw [drop_at e1];by_cases h2:i+2<s.size
  ·have e2:=at_lt h2;obtain⟨y,hy⟩:∃y,s[i+2]'h2=y:=⟨_,rfl⟩
   rw [hy]at e2;have n1:nextI s (i+1)=hexI x:=by unfold nextI;rw [e1]
   have n2:nextI s (i+2)=hexI y:=by unfold nextI;rw [e2]
   rw [show i+1+1=i+2 from rfl,drop_at e2];simp only;cases ha:hexV x with
   |none=>exact .inr ⟨.inl (by rw [n1,hexI_neg ha];decide),rfl⟩
   |some a=>cases hb:hexV y with
    |none=>exact .inr ⟨.inr (by rw [Nat.min_eq_left (by omega),n2,hexI_neg hb];decide),rfl⟩
    |some b=>exact .inl ⟨a,b,hexV_lt ha,hexV_lt hb,h2,by rw [n1,hexI_val ha],by rw [n2,hexI_val hb],rfl⟩
  ·have e2:=at_ge (s:=s) (i:=i+2) (by omega);rw [show i+1+1=i+2 from rfl,List.drop_of_length_le (i:=i+2) (by rw [Array.length_toList];show s.size≤_;omega)];exact .inr ⟨.inr (by rw [Nat.min_eq_right (by omega)];unfold nextI;rw [at_ge (Nat.le_refl _)];decide),rfl⟩
 ·have e1:=at_ge (s:=s) (i:=i+1) (by omega);rw [List.drop_of_length_le (i:=i+1) (by rw [Array.length_toList];show s.size≤_;omega)];exact .inr ⟨.inl (by unfold nextI;rw [e1];decide),rfl⟩
def UnqPost (w:World) (r:Option (List UInt8)) (e:Ending) (w':World):Prop:=(match r with
 |some bs=>e= .returned (.tuple #[.string (bA bs),.int .i64 0])
 |none=>e= .returned (.tuple #[.string ⟨#[]⟩,.int .i64 3]))∧Fr [] w w'
set_option maxHeartbeats 2000000 in
theorem unq_t (w:World) (s:ByteArray) (hs:s.size≤140737488351232):Calls Tryz.prog 78 #[.string s] w (UnqPost w (unqL s.data.toList)):=by
 have hmf:∀(fn:Fn) (first cap:Array Value) (w:World),(Instr.makeFunc fn first cap).run Tryz.prog w= .ok (.func fn first cap) w:=fun _ _ _ _=>rfl;have hun:=zh (rfl:unqL s.data.toList=unqL s.data.toList);go_enter Tryz.func78,Tryz.ntmps78;go_upto_block 0 with(fail)
 refine wp_gen (fun W=>Blk W w.heap.size 9 #[.string s]∧Blk W (w.heap.size+1) 3 #[.int .i64 0]∧Fr [] w W∧w.heap.size+2≤W.heap.size) ?_ ?_
 ·exact⟨(Blk.new _ _ _).alloc _,Blk.new' _ _ (by simp),((Fr.refl _ _).alloc _).alloc _,by simp⟩
 rintro W ⟨bS,bA,fW,hsz⟩;obtain⟨gs,Hs⟩:∃z,Hid (w.heap.size=z):=⟨_,zh rfl⟩
 rw [Hs.o]at bS bA hsz⊢;obtain⟨ga,Ha⟩:∃z,Hid (gs+1=z):=⟨_,zh rfl⟩
 rw [Ha.o]at bA⊢;have hne:ga≠gs:=by have:=Ha.o;omega
 have eg:∀args w,(callFunc 116 args).run Tryz.prog w= .ok (.enter 116 args) w:=enters_of Tryz.func116 (by kernel_rfl) rfl;have bSh:=zh bS;have fWh:=zh fW;have hgaW:ga<W.heap.size:=by have:=Ha.o;omega
 go_wp2_with fail
 go_loopg [4,7,8,9] (s.size+1) (fun gk s4 s7 s8 s9 wr=>∃(i:Nat) (out:List UInt8),i≤s.size∧s.size - i<gk∧Blk wr ga 3 #[.int .i64 i]∧BAc [ga] W wr s4 out∧out.length≤i∧(unqL (s.data.toList.drop i)).map (out++ ·)=unqL s.data.toList)
 case atStart=>exact⟨0,[],by omega,by omega,bA,BAc.nil (Fr.refl _ _),by simp,by simp⟩
 case round=>
  clear bA;obtain⟨i,out,hi,hk,bA,hB,hlen,hgo⟩:=hrel;obtain⟨A2,c2,rfl,O2,R2,F2⟩:=hB;have bS1:=bSh.o.fr F2 (by simp [hne.symm]);have eA:=bA.cell 0;have eS:=bS1.cell 0;have zA:=bA.frozen 0;simp only [zG,zH]at eA eS;have hgoh:=zh hgo;have bAh:=zh bA;have bS1h:=zh bS1;have O2h:=zh O2;have R2h:=zh R2;have F2h:=zh F2;have hgl:=bA.lt;have hsl:=bS1.lt;obtain⟨n2,hn2⟩:∃z,Hid (out.length=z):=⟨_,zh rfl⟩
  rw [hn2.o]at O2h R2h hlen⊢;clear hgo bA bS1 O2 R2 F2;by_cases hlt:i<s.size
  ·obtain⟨c,hc⟩:∃c,s[i]'hlt=c:=⟨_,rfl⟩
   have hat:=zh (show s.data.toList[i]? =some c by rw [at_lt hlt,hc]);have hlt':(i:Int)<s.size:=by omega
   go_upto_region 7 with(fail)
   refine wp_gen (fun W2=>Blk W2 ga 3 #[.int .i64 ((i:Int)+1)]∧Blk W2 gs 9 #[.string s]∧Fr [ga] wr W2) ⟨by have:=bAh.o.set 0 (.int .i64 ((i:Int)+1));simpa using this,bS1h.o.far hne.symm _,(Fr.refl _ _).setCell (.inl (by simp)) _⟩ ?_;rintro W2 ⟨bA2,bS2,fW2⟩;have hO:=zh (O2h.o.fr fW2 (fun g hg hx=>by have:=R2h.o g hg;simp at hx;omega));have hF:=zh (F2h.o.trans fW2);have bA2h:=zh bA2;have bS2h:=zh bS2;have hlth:=zh hlt;clear eA eS zA bA2 bS2 fW2 hc hlt hlt';by_cases hbad:c.toNat<33∨126<c.toNat
   ·have hbh:=zh hbad;have hres:Hid (unqL s.data.toList=none):=zh (by rw [←hgoh.o,drop_at hat.o,unqL_bad hbh.o];rfl);rcases hbad with h |h
    ·have t1:(c.toNat:Int)<33:=by omega
     clear h;go_wp2_with fail
     go_ret2;rw [hres.o];exact⟨rfl,fWh.o.andThen hF.o (fun g hg=> .inr (by have:=Hs.o;have:=Ha.o;simp at hg;omega))⟩
    ·have t1:¬(c.toNat:Int)<33:=by omega
     have t2:126<(c.toNat:Int):=by omega
     clear h;go_wp2_with fail
     go_ret2;rw [hres.o];exact⟨rfl,fWh.o.andThen hF.o (fun g hg=> .inr (by have:=Hs.o;have:=Ha.o;simp at hg;omega))⟩
   have hbh:=zh hbad;have t1:¬(c.toNat:Int)<33:=by omega
   have t2:¬126<(c.toNat:Int):=by omega
   clear hbad;by_cases h43:c.toNat=43
   ·have t3:((c.toNat:Int)==43)=true:=by rw [beq_iff_eq];omega
    have h43h:=zh h43;clear h43;have O2f:=hO.o;go_wp2_with ((refine wpList_own_append tB1 (O2f.fr ((Fr.refl [] _).alloc _) (by simp)) (byte_new _ _ (32:UInt8) _ (by rfl)) (fun u hu=>by simp at hu;rw [hu];rfl) (by simp) (by unfold maxLen;omega) (by omega) rfl rfl rfl rfl (fun v2 w2 p1 p2 p3=> ?_);obtain⟨A3,c3,rfl,hA3⟩:=p1.form))
    go_roundg (s.size - i)
    case measure=>have:=hlth.o;omega
    case rel=>
     have hgr:ga∉rowOf (.slice A2 n2 c2):=fun hg=>by have:=R2h.o ga hg;omega
     refine⟨i+1,out++ [(32:UInt8)],by have:=hlth.o;omega,by have:=hlth.o;omega,?_,BAc.push hn2.o R2h.o hF.o p1 p2 p3,by rw [List.length_append,hn2.o,List.length_singleton];omega,?_⟩
     ·have:=((bA2h.o.alloc _).fr p2 hgr)
      exact this
     ·rw [←hgoh.o,drop_at hat.o,unqL_one hbh.o (by have:=h43h.o;omega),if_pos h43h.o,Option.map_map];congr 1;funext z;simp
   have t3:((c.toNat:Int)==43)=false:=by rw [beq_eq_false_iff_ne];omega
   have h43h:=zh h43;clear h43;by_cases h37:c.toNat=37
   ·have t4:((c.toNat:Int)==37)=true:=by rw [beq_iff_eq];omega
    have htwo:=unqL_two hat.o h37 hlth.o;clear h37;have nx1:=next_t W2 ga gs s (i+1) (by rw [show(((i+1:Nat)):Int)=(i:Int)+1 by omega];exact bA2h.o) bS2h.o hne (by omega) (by have:=hlth.o;omega);rw [show i+1+1=i+2 from rfl]at nx1;rcases htwo with⟨a,b,ha,hb,h2,n1,n2e,hq⟩ | ⟨hneg,hq⟩
    ·have hqh:=zh hq;have hmin:min (i+2) s.size=i+2:=by omega
     have hm2:nextI s (min (i+2) s.size)=b:=by rw [hmin];exact n2e
     rw [n1]at nx1;have hm2h:=zh hm2;have hminh:=zh hmin;have h2h:=zh h2;have ta:¬(a:Int)<0:=by omega
     have tb:¬(b:Int)<0:=by omega
     have ta':(a:Int)<16:=by omega
     obtain⟨q,hqe⟩:∃z,Hid (16*a+b=z):=⟨_,zh rfl⟩
     have hq256:q<256:=by have:=hqe.o;omega
     have hor:bits .or .i64 ((a:Int)*16) (b:Int)=(q:Int):=by have:=or_hex ⟨a,ha⟩ ⟨b,hb⟩;simp only at this;rw [this,hqe.o]
     have hx:(UInt8.ofNat q).toNat=q:=by simp;omega
     have hxh:=zh hx;clear hq n1 n2e hm2 hmin h2 hx;go_wp2_with (first
     | (go_at_fn 116;refine nx1.mono ?_;clear nx1;rintro e1 W3 ⟨rfl,bA3,f3⟩;have nx2:=next_t W3 ga gs s (min (i+2) s.size) bA3 (bS2h.o.fr f3 (by simp [hne.symm])) hne (by omega) (Nat.min_le_right _ _);have hO3:=zh (hO.o.fr f3 (fun g hg hx=>by have:=R2h.o g hg;simp at hx;omega));have hF3:=zh (hF.o.trans f3);rw [hm2h.o]at nx2;clear bA3 f3)
     | (go_at_fn 116;refine nx2.mono ?_;clear nx2;rintro e2 W4 ⟨rfl,bA4,f4⟩;have hO4:=zh (hO3.o.fr f4 (fun g hg hx=>by have:=R2h.o g hg;simp at hx;omega));have hF4:=zh (hF3.o.trans f4);have bA4h:=zh bA4;clear bA4 f4)
     | (refine wpList_own_append tB1 (hO4.o.fr ((Fr.refl [] _).alloc _) (by simp)) (byte_new _ _ (UInt8.ofNat q) _ (by rw [hxh.o])) (fun u hu=>by simp at hu;rw [hu];rfl) (by simp) (by unfold maxLen;omega) (by omega) rfl rfl rfl rfl (fun v2 w2 p1 p2 p3=> ?_);obtain⟨A3,c3,rfl,hA3⟩:=p1.form))
     go_roundg (s.size - i)
     case measure=>have:=hlth.o;omega
     case rel=>
      have hgr:ga∉rowOf (.slice A2 n2 c2):=fun hg=>by have:=R2h.o ga hg;omega
      refine⟨i+3,out++ [UInt8.ofNat q],by have:=h2h.o;omega,by have:=hlth.o;omega,?_,BAc.push hn2.o R2h.o hF4.o p1 p2 p3,by rw [List.length_append,hn2.o,List.length_singleton];omega,?_⟩
      ·have:=((bA4h.o.alloc _).fr p2 hgr)
       rw [hminh.o,Nat.min_eq_left (by have:=h2h.o;omega)]at this;exact this
      ·rw [←hgoh.o,hqh.o,hqe.o,Option.map_map];congr 1;funext z;simp
    ·have hres:Hid (unqL s.data.toList=none):=zh (by rw [←hgoh.o,hq];rfl);obtain⟨r1,hr1⟩:∃z,Hid (nextI s (i+1)=z):=⟨_,zh rfl⟩
     obtain⟨r2,hr2⟩:∃z,Hid (nextI s (min (i+2) s.size)=z):=⟨_,zh rfl⟩
     rw [hr1.o]at nx1 hneg;rw [hr2.o]at hneg;have hnegh:=zh hneg;clear hq hneg;by_cases hr:r1<0
     ·go_wp2_with (first
      | (go_at_fn 116;refine nx1.mono ?_;clear nx1;rintro e1 W3 ⟨rfl,bA3,f3⟩;have nx2:=next_t W3 ga gs s (min (i+2) s.size) bA3 (bS2h.o.fr f3 (by simp [hne.symm])) hne (by omega) (Nat.min_le_right _ _);have hO3:=zh (hO.o.fr f3 (fun g hg hx=>by have:=R2h.o g hg;simp at hx;omega));have hF3:=zh (hF.o.trans f3);rw [hr2.o]at nx2;clear bA3 f3)
      | (go_at_fn 116;refine nx2.mono ?_;clear nx2;rintro e2 W4 ⟨rfl,bA4,f4⟩;have hO4:=zh (hO3.o.fr f4 (fun g hg hx=>by have:=R2h.o g hg;simp at hx;omega));have hF4:=zh (hF3.o.trans f4);have bA4h:=zh bA4;clear bA4 f4))
      go_ret2;rw [hres.o];exact⟨rfl,fWh.o.andThen hF4.o (fun g hg=> .inr (by have:=Hs.o;have:=Ha.o;simp at hg;omega))⟩
     ·have hr':r2<0:=hnegh.o.resolve_left hr;go_wp2_with (first
      | (go_at_fn 116;refine nx1.mono ?_;clear nx1;rintro e1 W3 ⟨rfl,bA3,f3⟩;have nx2:=next_t W3 ga gs s (min (i+2) s.size) bA3 (bS2h.o.fr f3 (by simp [hne.symm])) hne (by omega) (Nat.min_le_right _ _);have hO3:=zh (hO.o.fr f3 (fun g hg hx=>by have:=R2h.o g hg;simp at hx;omega));have hF3:=zh (hF.o.trans f3);rw [hr2.o]at nx2;clear bA3 f3)
      | (go_at_fn 116;refine nx2.mono ?_;clear nx2;rintro e2 W4 ⟨rfl,bA4,f4⟩;have hO4:=zh (hO3.o.fr f4 (fun g hg hx=>by have:=R2h.o g hg;simp at hx;omega));have hF4:=zh (hF3.o.trans f4);have bA4h:=zh bA4;clear bA4 f4))
      go_ret2;rw [hres.o];exact⟨rfl,fWh.o.andThen hF4.o (fun g hg=> .inr (by have:=Hs.o;have:=Ha.o;simp at hg;omega))⟩
   ·have t4:((c.toNat:Int)==37)=false:=by rw [beq_eq_false_iff_ne];omega
    have h37h:=zh h37;clear h37;have O2f:=hO.o;go_wp2_with ((refine wpList_own_append tB1 (O2f.fr ((Fr.refl [] _).alloc _) (by simp)) (byte_new _ _ c _ (by rfl)) (fun u hu=>by simp at hu;rw [hu];rfl) (by simp) (by unfold maxLen;omega) (by omega) rfl rfl rfl rfl (fun v2 w2 p1 p2 p3=> ?_);obtain⟨A3,c3,rfl,hA3⟩:=p1.form))
    go_roundg (s.size - i)
    case measure=>have:=hlth.o;omega
    case rel=>
     have hgr:ga∉rowOf (.slice A2 n2 c2):=fun hg=>by have:=R2h.o ga hg;omega
     refine⟨i+1,out++ [c],by have:=hlth.o;omega,by have:=hlth.o;omega,?_,BAc.push hn2.o R2h.o hF.o p1 p2 p3,by rw [List.length_append,hn2.o,List.length_singleton];omega,?_⟩
     ·have:=((bA2h.o.alloc _).fr p2 hgr)
      exact this
     ·rw [←hgoh.o,drop_at hat.o,unqL_one hbh.o h37h.o,if_neg h43h.o,Option.map_map];congr 1;funext z;simp
  ·have hge:¬(i:Int)<s.size:=by omega
   have hfin:=hgoh.o;rw [List.drop_of_length_le (by rw [Array.length_toList];show s.size≤i;omega)]at hfin;have hfinh:=zh (show unqL s.data.toList=some out by rw [←hfin];simp [unqL]);clear hlt hk hfin;have hcv:=conv_str (c:=c2) (show Byts wr A2 n2 out by have:=O2h.o.rd;exact this);go_wp2_with fail
   go_ret2;rw [hfinh.o];exact⟨rfl,fWh.o.andThen F2h.o (fun g hg=> .inr (by have:=Hs.o;have:=Ha.o;simp at hg;omega))⟩
end Go.Proofs.YtopfcgpeaaehgaaGreatDoor
