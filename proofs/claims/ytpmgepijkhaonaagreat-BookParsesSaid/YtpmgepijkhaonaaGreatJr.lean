/- Walk: the document's: may a family be? Conditions: each theorem's own. -/
import Derived.Test.YtpmgepijkhaonaaGreatJm
import Derived.Test.YtpmgepijkhaonaaGreatIb
namespace Go.Proofs.YtpmgepijkhaonaaGreat
open Go.RowKit Go.Sig
theorem right_no {f:GFam}(h:¬FamOk f):rightM f=false:=by
 rw [←Bool.not_eq_true];exact fun e=>h (rightM_ok.1 e)
set_option maxRecDepth 100000 in
set_option maxHeartbeats 8000000 in
theorem rright_t (w:World) (x:FA) (hx:FamIn w [] x) (hz:FamSz x) (hz2:x.f.scope.length≤1000000∧∀t∈x.ts,t.tok.scope.length≤1000000):Calls Tryz.prog 39 #[x.val] w fun e w'=>e= .returned (.bool (rightM x.f))∧Fr [] w w':=by
 have hxh:=zh hx;have hzh:=zh hz;have hz2h:=zh hz2;clear hx hz hz2;unfold FA.val FA.cells;go_enter Tryz.func39,Tryz.ntmps39;go_upto_region 1 with(fail)
 refine wp_gen (fun W=>Blk W w.heap.size 26 x.cells∧Fr [] w W) ⟨Blk.new _ _ _,(Fr.refl _ _).alloc _⟩ ?_;rintro W0 ⟨hB0,f0⟩;obtain⟨gf,HGF⟩:∃z,Hid (w.heap.size=z):=⟨_,zh rfl⟩
 rw [HGF.o]at hB0⊢;have hB0:=zh hB0;have F0:=zh (Fr.refl [] W0);have f0h:=zh f0;clear f0;obtain⟨c0,c1,c2,c3,c4,c5,c6,c7,c8,c9,c10,hgl⟩:=fam_cells hB0.o;have hc:=rid_t W0 x.f.id hzh.o.id;cases h1:idM x.f.id with
 |false=>
  have hv:=zh (show rightM x.f=false from right_no (fun r=>by have p:=r.id;rw [h1]at p;cases p));rw [h1]at hc;clear h1;go_wp2_with (go_at_call 101;refine Calls.mono (show Calls Tryz.prog 101 _ _ _ from hc) ?_;rintro e W1 ⟨rfl,G1⟩)
  have F1:=zh (F0.o.trans G1);clear G1;go_ret;exact⟨ret_eq hv.o.symm,f0h.o.trans F1.o⟩
 |true=>
  have e1:=zh h1;rw [h1]at hc;clear h1;go_wp2_with fail
  refine Calls.mono (show Calls Tryz.prog 101 _ _ _ from hc) ?_;rintro e W1 ⟨rfl,G1⟩;have F1:=zh (F0.o.trans G1);clear G1;clear hc;clear c0 c1 c2 c3 c4 c5 c6 c7 c8 c9 c10 hgl;obtain⟨c0,c1,c2,c3,c4,c5,c6,c7,c8,c9,c10,hgl⟩:=fam_cells (hB0.o.fr F1.o (by simp));cases h2:decide (x.f.client.size=0)with
  |true=>
   have hv:=zh (show rightM x.f=false from right_no (fun r=>absurd (of_decide_eq_true h2) r.client));have hem:=str_empty x.f.client;rw [h2]at hem;clear h2;go_wp2_with fail
   go_ret;exact⟨ret_eq hv.o.symm,f0h.o.trans F1.o⟩
  |false=>
   have e2:=zh h2;have hem:=str_empty x.f.client;rw [h2]at hem;clear h2;have hAl:Fr [] W1 (W1.alloc (.cells (strCells [x.f.client,x.f.user,x.f.redirect,x.f.challenge,x.f.method]).toArray 9)):=(Fr.refl _ _).alloc _;have hAlh:=zh hAl;have hc:=rtexts_t (W1.alloc (.cells (strCells [x.f.client,x.f.user,x.f.redirect,x.f.challenge,x.f.method]).toArray 9)) (some ⟨W1.heap.size,0,none⟩) 5 5 [x.f.client,x.f.user,x.f.redirect,x.f.challenge,x.f.method] (strs_new W1 _ 9) rfl (by decide);clear hAl;cases h3:textsM [x.f.client,x.f.user,x.f.redirect,x.f.challenge,x.f.method]with
   |false=>
    have hv:=zh (show rightM x.f=false from right_no (fun r=>by have p:=r.texts;rw [h3]at p;cases p));rw [h3]at hc;clear h3;go_wp2_with (go_at_call 102;refine Calls.mono (show Calls Tryz.prog 102 _ _ _ from hc) ?_;rintro e W3 ⟨rfl,G3⟩)
    have G3:Fr [] W1 W3:=by rw [←G3];exact hAlh.o
    have F3:=zh (F1.o.trans G3);clear G3 hAlh;go_ret;exact⟨ret_eq hv.o.symm,f0h.o.trans F3.o⟩
   |true=>
    have e3:=zh h3;rw [h3]at hc;clear h3;go_wp2_with fail
    refine Calls.mono (show Calls Tryz.prog 102 _ _ _ from hc) ?_;rintro e W3 ⟨rfl,G3⟩;have G3:Fr [] W1 W3:=by rw [←G3];exact hAlh.o
    have F3:=zh (F1.o.trans G3);clear G3 hAlh;clear hc;clear c0 c1 c2 c3 c4 c5 c6 c7 c8 c9 c10 hgl;obtain⟨c0,c1,c2,c3,c4,c5,c6,c7,c8,c9,c10,hgl⟩:=fam_cells (hB0.o.fr F3.o (by simp));have hc:=rset17_t W3 x.sA x.f.scope.length x.sc x.f.scope (Rd.fr hxh.o.scope.1 (f0h.o.trans F3.o) (by simp [Off])) rfl hzh.o.sl hzh.o.ss;cases h4:setM x.f.scope with
    |false=>
     have hv:=zh (show rightM x.f=false from right_no (fun r=>by have p:=r.set;rw [h4]at p;cases p));rw [h4]at hc;clear h4;go_wp2_with (go_at_call 103;refine Calls.mono (show Calls Tryz.prog 103 _ _ _ from hc) ?_;rintro e W4 ⟨rfl,G4⟩)
     have F4:=zh (F3.o.trans G4);clear G4;go_ret;exact⟨ret_eq hv.o.symm,f0h.o.trans F4.o⟩
    |true=>
     have e4:=zh h4;rw [h4]at hc;clear h4;go_wp2_with fail
     refine Calls.mono (show Calls Tryz.prog 103 _ _ _ from hc) ?_;rintro e W4 ⟨rfl,G4⟩;have F4:=zh (F3.o.trans G4);clear G4;clear hc;clear c0 c1 c2 c3 c4 c5 c6 c7 c8 c9 c10 hgl;obtain⟨c0,c1,c2,c3,c4,c5,c6,c7,c8,c9,c10,hgl⟩:=fam_cells (hB0.o.fr F4.o (by simp));cases h5:decide (8<x.f.tokens.length)with
     |true=>
      have hv:=zh (show rightM x.f=false from right_no (fun r=>absurd (of_decide_eq_true h5) (by have:=r.tokens;omega)));have z8:decide (8<(x.ts.length:Int))=true:=by have h1:=of_decide_eq_true h5;have h2:=hxh.o.len;exact decide_eq_true (by omega)
      clear h5;go_wp2_with fail
      go_ret;exact⟨ret_eq hv.o.symm,f0h.o.trans F4.o⟩
     |false=>
      have e5:=zh h5;have z8:decide (8<(x.ts.length:Int))=false:=by have h1:=of_decide_eq_false h5;have h2:=hxh.o.len;exact decide_eq_false (by omega)
      clear h5;have F5h:=zh (f0h.o.trans F4.o);have hB1:=zh (hB0.o.fr F4.o (by simp));have hset:=e4;have hch:x.f.challenge.size≤100000:=by have:=textsM_mem e3.o (s:=x.f.challenge) (by simp);omega
      have hlen:=zh hxh.o.len;go_upto_block 0 with(fail)
      go_cut []from 44 to 97 (fun wx=>midR x.f=true∧(0≤x.f.code∧x.f.code≤2)∧Fr [] W4 wx)
      case first=>
       by_cases k0:x.f.code=0
       ·have b0:(x.f.code==0)=true:=by rw [beq_iff_eq];exact k0
        have k0h:=zh k0;clear k0;cases h11:decide (x.f.user.size=0)with
        |false=>
         have hv:=zh (show rightM x.f=false from right_no (fun r=>absurd (r.none k0h.o).1 (of_decide_eq_false h11)));have em_user:=str_empty x.f.user;rw [h11]at em_user;clear h11;go_wp2_with fail
         go_ret;exact⟨ret_eq hv.o.symm,f0h.o.trans F4.o⟩
        |true=>
         have e11:=zh h11;have em_user:=str_empty x.f.user;rw [h11]at em_user;clear h11;cases h12:decide (x.f.redirect.size=0)with
         |false=>
          have hv:=zh (show rightM x.f=false from right_no (fun r=>absurd (r.none k0h.o).2.1 (of_decide_eq_false h12)));have em_redirect:=str_empty x.f.redirect;rw [h12]at em_redirect;clear h12;go_wp2_with fail
          go_ret;exact⟨ret_eq hv.o.symm,f0h.o.trans F4.o⟩
         |true=>
          have e12:=zh h12;have em_redirect:=str_empty x.f.redirect;rw [h12]at em_redirect;clear h12;cases h13:decide (x.f.challenge.size=0)with
          |false=>
           have hv:=zh (show rightM x.f=false from right_no (fun r=>absurd (r.none k0h.o).2.2.1 (of_decide_eq_false h13)));have em_challenge:=str_empty x.f.challenge;rw [h13]at em_challenge;clear h13;go_wp2_with fail
           go_ret;exact⟨ret_eq hv.o.symm,f0h.o.trans F4.o⟩
          |true=>
           have e13:=zh h13;have em_challenge:=str_empty x.f.challenge;rw [h13]at em_challenge;clear h13;cases h14:decide (x.f.method.size=0)with
           |false=>
            have hv:=zh (show rightM x.f=false from right_no (fun r=>absurd (r.none k0h.o).2.2.2 (of_decide_eq_false h14)));have em_method:=str_empty x.f.method;rw [h14]at em_method;clear h14;go_wp2_with fail
            go_ret;exact⟨ret_eq hv.o.symm,f0h.o.trans F4.o⟩
           |true=>
            have e14:=zh h14;have em_method:=str_empty x.f.method;rw [h14]at em_method;clear h14;cases h15:decide (x.ts.length=0)with
            |true=>
             have hv:=zh (show rightM x.f=false from right_no (fun r=>absurd (r.many.1 (List.eq_nil_of_length_eq_zero (by rw [←hlen.o];exact of_decide_eq_true h15))) (by rw [k0h.o];decide)));have z0:((x.ts.length:Int)==0)=true:=by have:=of_decide_eq_true h15;rw [beq_iff_eq];omega
             clear h15;go_wp2_with fail
             go_ret;exact⟨ret_eq hv.o.symm,f0h.o.trans F4.o⟩
            |false=>
             have e15:=zh h15;have z0:((x.ts.length:Int)==0)=false:=by have:=of_decide_eq_false h15;rw [beq_eq_false_iff_ne];omega
             clear h15;have hm:=zh (show midR x.f=true by unfold midR bare;rw [e11.o,e12.o,e13.o,e14.o,decide_eq_true k0h.o,decide_eq_false (show¬x.f.tokens.length=0 by rw [←hlen.o];exact of_decide_eq_false e15.o),decide_eq_false (show¬x.f.code=1 by have:=k0h.o;omega)];unfold shownM;rw [if_pos (of_decide_eq_true e13.o),e14.o];rfl);have hcd:=zh (show 0≤x.f.code∧x.f.code≤2 by have:=k0h.o;omega);go_wp2_with fail
             go_meet;exact⟨hm.o,hcd.o,Fr.refl _ _⟩
       ·have b0:(x.f.code==0)=false:=by rw [beq_eq_false_iff_ne];exact k0
        by_cases kC:x.f.code=1
        ·have b1:(x.f.code==1)=true:=by rw [beq_iff_eq];exact kC
         clear k0;have kCh:=zh kC;clear kC;have hc:=rshown_t W4 x.f.challenge x.f.method hch;cases hs:shownM x.f.challenge x.f.method with
         |false=>
          have hv:=zh (show rightM x.f=false from right_no (fun r=>by have p:=r.shown;rw [hs]at p;cases p));rw [hs]at hc;clear hs;go_wp2_with (go_at_call 104;refine Calls.mono (show Calls Tryz.prog 104 _ _ _ from hc) ?_;rintro e V6 ⟨rfl,G6⟩)
          go_ret;exact⟨ret_eq hv.o.symm,F5h.o.trans G6⟩
         |true=>
          have hsn:=zh hs;rw [hs]at hc;clear hs;go_wp2_with fail
          refine Calls.mono (show Calls Tryz.prog 104 _ _ _ from hc) ?_;rintro e V6 ⟨rfl,G6⟩;have G6h:=zh G6;clear hc G6;clear c0 c1 c2 c3 c4 c5 c6 c7 c8 c9 c10 hgl;obtain⟨c0,c1,c2,c3,c4,c5,c6,c7,c8,c9,c10,hgl⟩:=fam_cells (hB1.o.fr G6h.o (by simp));cases h15:decide (x.ts.length=0)with
          |false=>
           have hv:=zh (show rightM x.f=false from right_no (fun r=>absurd (by rw [hlen.o,r.many.2 kCh.o];rfl) (of_decide_eq_false h15)));have z1:0<x.ts.length:=by have:=of_decide_eq_false h15;omega
           clear h15;go_wp2_with fail
           go_ret;exact⟨ret_eq hv.o.symm,F5h.o.trans G6h.o⟩
          |true=>
           have e15:=zh h15;have z1:¬0<x.ts.length:=by have:=of_decide_eq_true h15;omega
           clear h15;have hm:=zh (show midR x.f=true by unfold midR;rw [hsn.o,decide_eq_false (show¬x.f.code=0 by have:=kCh.o;omega),decide_eq_true (show x.f.tokens.length=0 by rw [←hlen.o];exact of_decide_eq_true e15.o),decide_eq_true (show x.f.code=1 by have:=kCh.o;omega)];rfl);have hcd:=zh (show 0≤x.f.code∧x.f.code≤2 by have:=kCh.o;omega);go_wp2_with fail
           go_meet;exact⟨hm.o,hcd.o,G6h.o⟩
        ·have b1:(x.f.code==1)=false:=by rw [beq_eq_false_iff_ne];exact kC
         have k1:=kC;clear kC;by_cases kC:x.f.code=2
         ·have b2:(x.f.code==2)=true:=by rw [beq_iff_eq];exact kC
          clear k0 k1;have kCh:=zh kC;clear kC;have hc:=rshown_t W4 x.f.challenge x.f.method hch;cases hs:shownM x.f.challenge x.f.method with
          |false=>
           have hv:=zh (show rightM x.f=false from right_no (fun r=>by have p:=r.shown;rw [hs]at p;cases p));rw [hs]at hc;clear hs;go_wp2_with (go_at_call 104;refine Calls.mono (show Calls Tryz.prog 104 _ _ _ from hc) ?_;rintro e V6 ⟨rfl,G6⟩)
           go_ret;exact⟨ret_eq hv.o.symm,F5h.o.trans G6⟩
          |true=>
           have hsn:=zh hs;rw [hs]at hc;clear hs;go_wp2_with fail
           refine Calls.mono (show Calls Tryz.prog 104 _ _ _ from hc) ?_;rintro e V6 ⟨rfl,G6⟩;have G6h:=zh G6;clear hc G6;clear c0 c1 c2 c3 c4 c5 c6 c7 c8 c9 c10 hgl;obtain⟨c0,c1,c2,c3,c4,c5,c6,c7,c8,c9,c10,hgl⟩:=fam_cells (hB1.o.fr G6h.o (by simp));cases h15:decide (x.ts.length=0)with
           |true=>
            have hv:=zh (show rightM x.f=false from right_no (fun r=>absurd (r.many.1 (List.eq_nil_of_length_eq_zero (by rw [←hlen.o];exact of_decide_eq_true h15))) (by rw [kCh.o];decide)));have z0:((x.ts.length:Int)==0)=true:=by have:=of_decide_eq_true h15;rw [beq_iff_eq];omega
            clear h15;go_wp2_with fail
            go_ret;exact⟨ret_eq hv.o.symm,F5h.o.trans G6h.o⟩
           |false=>
            have e15:=zh h15;have z0:((x.ts.length:Int)==0)=false:=by have:=of_decide_eq_false h15;rw [beq_eq_false_iff_ne];omega
            clear h15;have hm:=zh (show midR x.f=true by unfold midR;rw [hsn.o,decide_eq_false (show¬x.f.code=0 by have:=kCh.o;omega),decide_eq_false (show¬x.f.tokens.length=0 by rw [←hlen.o];exact of_decide_eq_false e15.o),decide_eq_false (show¬x.f.code=1 by have:=kCh.o;omega)];rfl);have hcd:=zh (show 0≤x.f.code∧x.f.code≤2 by have:=kCh.o;omega);go_wp2_with fail
            go_meet;exact⟨hm.o,hcd.o,G6h.o⟩
         ·have b2:(x.f.code==2)=false:=by rw [beq_eq_false_iff_ne];exact kC
          have hv:=zh (show rightM x.f=false from right_no (fun r=>by rcases r.code with h |h |h;exact k0 h;exact k1 h;exact kC h));clear k0 k1 kC;go_wp2_with fail
          go_ret;exact⟨ret_eq hv.o.symm,F5h.o⟩
      case rest=>
       obtain⟨hmd,hcode,fc⟩:=hcut;have hmd:=zh hmd;have fch:=zh (F5h.o.trans fc);have hB2:=zh (hB1.o.fr fc (by simp));have hhm:=zh (show(headR x.f&&midR x.f)=true by
        rw [hmd.o,Bool.and_true];unfold headR;rw [e1.o,e2.o,e3.o,e4.o,decide_eq_false (show¬x.f.code<0 by omega),decide_eq_false (show¬2<x.f.code by omega),e5.o];rfl)
       obtain⟨W2,hW2⟩:∃W2:World,W2=wc:=⟨_,rfl⟩
       subst hW2;clear fc hcode c0 c1 c2 c3 c4 c5 c6 c7 c8 c9 c10 hgl;obtain⟨c0,c1,c2,c3,c4,c5,c6,c7,c8,c9,c10,hgl⟩:=fam_cells hB2.o;obtain⟨n,hn⟩:∃z,Hid (x.ts.length=z):=⟨_,zh rfl⟩
       obtain⟨tA,htA⟩:∃z,Hid (x.tA=z):=⟨_,zh rfl⟩
       have hn8:=hzh.o.tl;rw [hn.o,htA.o]at c8;rw [hn.o]at hn8;rw [htA.o];go_upto_block 1 with(fail)
       go_cut [3]from 98 to 153 (fun s91 wx=>Fr [] W2 wx∧x.f.tokens.all (tokR x.f)=true)
       case first=>
        go_wp2_with fail
        go_loopg [3] (n+1) (fun gk s91 wr=>∃(i:Nat),s91= .int .i64 i∧i≤n∧n - i<gk∧(x.f.tokens.take i).all (tokR x.f)=true∧Fr [] W2 wr)
        case atStart=>exact⟨0,rfl,by omega,by omega,by simp,Fr.refl _ _⟩
        case round=>
         obtain⟨i,rfl,hi,hk,hall,hF⟩:=hrel;have hFh:=zh hF;have hallh:=zh hall;obtain⟨_,_,_,_,_,_,_,_,c8,_,_,hgl⟩:=fam_cells (hB2.o.fr hF (by simp));rw [hn.o,htA.o]at c8;clear hF hall;by_cases hlt:i<n
         ·have hlt':(i:Int)<n:=by omega
          have hlth:=zh hlt;obtain⟨t,tb,tof,eA,hti,htr⟩:=TA.row (Rd.fr hxh.o.toks.1 (fch.o.trans hFh.o) (by simp [Off])) rfl (by rw [hn.o];exact hlt);rw [htA.o]at eA;have htm:=zh (List.mem_of_getElem? hti);have hit:=zh (show∃h:i<x.f.tokens.length,x.f.tokens[i]=t.tok by
           have h1:i<x.ts.length:=by rw [hn.o];exact hlt
           rw [List.getElem?_eq_getElem h1]at hti;obtain rfl:=Option.some.inj hti;refine⟨by rw [←hxh.o.ts,List.length_map];exact h1,?_⟩;simp only [←hxh.o.ts,List.getElem_map])
          subst eA;have htrh:=zh htr;clear hti htr hlt;go_upto_region 18 with(first
           | (refine wpList_load_cells rfl 29 _ rfl rfl (ys:=t.cells.toArray) (fun j v hv=>htrh.o j v (by rw [←zG];exact hv)) uIss rfl (infoTA _) ?_)
           | (refine wpList_store_row rfl 29 _ _ rfl wr.heap.size _ rfl rfl 29 _ (Blk.new _ _ _) (infoTA t) (by kernel_rfl) (TA.all1 t) ?_))
          refine wp_gen (fun W=>Blk W wr.heap.size 29 t.cells.toArray∧Fr [] wr W) ⟨Blk.setRow (Blk.new _ _ _) _,((Fr.refl [] wr).alloc _).setRow (.inr (Nat.le_refl _)) _⟩ ?_;rintro W3 ⟨hT,f3⟩;obtain⟨g4,HG4⟩:∃z,Hid (wr.heap.size=z):=⟨_,zh rfl⟩
          rw [HG4.o]at hT⊢;have hT3:=zh hT;have FF3:=zh (hFh.o.trans f3);have hB3:=zh (hB2.o.fr FF3.o (by simp));have F0:=zh (Fr.refl [] W3);clear hT f3;dsimp only [Act.put];go_cut [153]from 110 to 152 (fun s138 wx=>s138= .bool (!tokR x.f t.tok)∧Fr [] W3 wx)
          case first=>
           obtain⟨t0,t1,t2,htl⟩:=tok_cells hT3.o;obtain⟨_,_,_,c3,_,_,_,_,_,_,_,hgl⟩:=fam_cells hB3.o;have hxe:=(hxh.o.each t htm.o).1;have hxeh:=zh (Rd.fr hxe ((fch.o.trans FF3.o)) (by simp [Off]));have hxsh:=zh (Rd.fr hxh.o.scope.1 ((fch.o.trans FF3.o)) (by simp [Off]));obtain⟨kd,hkd⟩:∃z,Hid (t.tok.kind=z):=⟨_,zh rfl⟩
           rw [hkd.o]at t0;clear hxe;by_cases k2:kd=2
           ·have b2:(kd !=2)=false:=by subst k2;rfl
            have b2':(kd==2)=true:=by subst k2;rfl
            have b3':(kd==3)=false:=by subst k2;rfl
            have hk2:=zh (show decide (kd=2)=true from decide_eq_true k2);have hk3:=zh (show decide (kd=3)=false from decide_eq_false (by omega));clear k2;cases hu:t.tok.used with
            |true=>
             have hv:=zh (show tokR x.f t.tok=false by unfold tokR;rw [hkd.o,hk2.o,hu];simp);rw [hu]at t2;clear hu;go_wp2_with fail
             go_meet;exact⟨by rw [hv.o];rfl,F0.o⟩
            |false=>
             have huh:=zh hu;rw [hu]at t2;clear hu;have hc:=rset17_t W3 t.A t.tok.scope.length t.c t.tok.scope hxeh.o rfl (hzh.o.te t htm.o).1 (hzh.o.te t htm.o).2;cases hs:setM t.tok.scope with
             |false=>
              have hv:=zh (show tokR x.f t.tok=false by unfold tokR;rw [hs];simp);rw [hs]at hc;clear hs;go_wp2_with (go_at_call 103;refine Calls.mono (show Calls Tryz.prog 103 _ _ _ from hc) ?_;rintro e V1 ⟨rfl,G1⟩)
              go_meet;exact⟨by rw [hv.o];rfl,G1⟩
             |true=>
              have hsh:=zh hs;rw [hs]at hc;clear hs;go_wp2_with fail
              refine Calls.mono (show Calls Tryz.prog 103 _ _ _ from hc) ?_;rintro e V1 ⟨rfl,G1⟩;have F1:=zh G1;clear hc G1;clear t0 t1 t2 htl c3 hgl;obtain⟨t0,t1,t2,htl⟩:=tok_cells (hT3.o.fr F1.o (by simp));obtain⟨_,_,_,c3,_,_,_,_,_,_,_,hgl⟩:=fam_cells (hB3.o.fr F1.o (by simp));rw [hkd.o]at t0;have hc:=rwithin_t V1 t.A x.sA t.tok.scope.length x.f.scope.length t.c x.sc t.tok.scope x.f.scope (Rd.fr hxeh.o F1.o (by simp [Off])) rfl (Rd.fr hxsh.o F1.o (by simp [Off])) rfl (hzh.o.te t htm.o).1 hzh.o.sl (hzh.o.te t htm.o).2;cases hw:within t.tok.scope x.f.scope with
              |false=>
               have hv:=zh (show tokR x.f t.tok=false by unfold tokR;rw [hw];simp);rw [hw]at hc;clear hw;go_wp2_with (go_at_call 105;refine Calls.mono (show Calls Tryz.prog 105 _ _ _ from hc) ?_;rintro e V2 ⟨rfl,rfl⟩)
               go_meet;exact⟨by rw [hv.o];rfl,F1.o⟩
              |true=>
               have hv:=zh (show tokR x.f t.tok=true by unfold tokR;rw [hkd.o,hk2.o,hk3.o,huh.o,hsh.o,hw];rfl);rw [hw]at hc;clear hw;go_wp2_with (go_at_call 105;refine Calls.mono (show Calls Tryz.prog 105 _ _ _ from hc) ?_;rintro e V2 ⟨rfl,rfl⟩)
               go_meet;exact⟨by rw [hv.o];rfl,F1.o⟩
           ·have b2:(kd !=2)=true:=by rw [bne_iff_ne];exact k2
            have b2':(kd==2)=false:=by rw [beq_eq_false_iff_ne];exact k2
            have hk2:=zh (show decide (kd=2)=false from decide_eq_false k2);clear k2;by_cases k3:kd=3
            ·have b3:(kd !=3)=false:=by subst k3;rfl
             have b3':(kd==3)=true:=by subst k3;rfl
             have hk3:=zh (show decide (kd=3)=true from decide_eq_true k3);clear k3;have hc:=rsameg_t W3 t.A x.sA t.tok.scope.length x.f.scope.length t.c x.sc t.tok.scope x.f.scope hxeh.o rfl hxsh.o rfl (by have:=hz2h.o.2 t htm.o;omega) hzh.o.sl;cases he:decide (t.tok.scope=x.f.scope)with
             |false=>
              have hv:=zh (show tokR x.f t.tok=false by unfold tokR;rw [hkd.o,hk3.o,he];simp);rw [he]at hc;clear he;go_wp2_with (go_at_call 53;refine Calls.mono (show Calls Tryz.prog 53 _ _ _ from hc) ?_;rintro e V1 ⟨rfl,G1⟩)
              go_meet;exact⟨by rw [hv.o];rfl,G1⟩
             |true=>
              have hsf:=of_decide_eq_true he;have hv:=zh (show tokR x.f t.tok=true by unfold tokR;rw [hkd.o,hk2.o,hk3.o,he,hsf,hset.o,within_self];rfl);rw [he]at hc;clear he hsf;go_wp2_with fail
              refine Calls.mono (show Calls Tryz.prog 53 _ _ _ from hc) ?_;rintro e V1 ⟨rfl,G1⟩;have F1:=zh G1;clear hc G1;clear t0 t1 t2 htl c3 hgl;obtain⟨t0,t1,t2,htl⟩:=tok_cells (hT3.o.fr F1.o (by simp));obtain⟨_,_,_,c3,_,_,_,_,_,_,_,hgl⟩:=fam_cells (hB3.o.fr F1.o (by simp));rw [hkd.o]at t0;go_wp2_with fail
              go_meet;exact⟨by rw [hv.o];rfl,F1.o⟩
            ·have b3:(kd !=3)=true:=by rw [bne_iff_ne];exact k3
             have b3':(kd==3)=false:=by rw [beq_eq_false_iff_ne];exact k3
             have hk3:=zh (show decide (kd=3)=false from decide_eq_false k3);have hv:=zh (show tokR x.f t.tok=false by unfold tokR;rw [hkd.o,hk2.o,hk3.o];rfl);clear k3;go_wp2_with fail
             go_meet;exact⟨by rw [hv.o];rfl,F0.o⟩
          case rest=>
           obtain⟨rfl,fc⟩:=hcut;have FF4:=zh (FF3.o.trans fc);clear fc;obtain⟨tk,htk⟩:∃z,Hid (tokR x.f t.tok=z):=⟨_,zh rfl⟩
           rw [htk.o];cases tk with
           |false=>
            have hres:=zh (show rightM x.f=false by
             obtain⟨hi1,hi2⟩:=hit.o;unfold rightM;rw [all_not (List.getElem_mem hi1) (by rw [hi2];exact htk.o),Bool.and_false,Bool.false_and])
            go_wp2_with fail
            go_ret;exact⟨ret_eq hres.o.symm,fch.o.trans FF4.o⟩
           |true=>
            go_wp2_with fail
            go_roundg (n - i)
            case measure=>have:=hlth.o;omega
            case rel=>obtain⟨hi1,hi2⟩:=hit.o;exact⟨i+1,by go_num,by have:=hlth.o;omega,by have:=hlth.o;omega,all_more hi1 hallh.o (by rw [hi2];exact htk.o),FF4.o⟩
         ·have hge:¬(i:Int)<n:=by omega
          have hin:i=n:=by omega
          go_wp2_with fail
          go_meet;case rel=>exact⟨hFh.o,by have h:=hallh.o;rwa [hin,←hn.o,hxh.o.len,List.take_length]at h⟩
       case rest=>
        obtain⟨fc,hall⟩:=hcut;have hallh:=zh hall;have fch:=zh (fch.o.trans fc);have hB3:=zh (hB2.o.fr fc (by simp));have hlR:=zh (Rd.fr hxh.o.leases.1 fch.o (by simp [Off]));obtain⟨W3,hW3⟩:∃W3:World,W3=wc:=⟨_,rfl⟩
        subst hW3;clear fc hall c0 c1 c2 c3 c4 c5 c6 c7 c8 c9 c10 hgl hn8;obtain⟨c0,c1,c2,c3,c4,c5,c6,c7,c8,c9,c10,hgl⟩:=fam_cells hB3.o;obtain⟨m,hm⟩:∃z,Hid (x.f.leases.length=z):=⟨_,zh rfl⟩
        have hm8:=hzh.o.ll;have hlR2:=hlR.o;obtain⟨lA,hlA⟩:∃z,Hid (x.lA=z):=⟨_,zh rfl⟩
        rw [hm.o,hlA.o]at c10 hlR2;rw [hm.o]at hm8;rw [hlA.o];have hlRh:=zh hlR2;clear hlR2;go_wp2_with fail
        go_loopg [5] (m+1) (fun gk s143 wr=>∃(i:Nat),s143= .int .i64 i∧i≤m∧m - i<gk∧(∀j,j<i→leR x.f.leases j=true)∧Fr [] W3 wr)
        case atStart=>exact⟨0,rfl,by omega,by omega,by omega,Fr.refl _ _⟩
        case round=>
         obtain⟨i,rfl,hi,hk,hall,hF3⟩:=hrel;have hF3h:=zh hF3;clear c10;obtain⟨_,_,_,_,_,_,_,_,_,_,c10,hgl⟩:=fam_cells (hB3.o.fr hF3 (by simp));rw [hm.o,hlA.o]at c10;have hall3:=zh hall;clear hall;by_cases hlt:i<m
         ·have hlt':(i:Int)<m:=by omega
          have hlth:=zh hlt;obtain⟨lb,lo,eA,hlc⟩:=(Rd.fr hlRh.o hF3 (by simp [Off])).2 (by omega);have hci:∀j,j<m→wr.cell? ⟨lb,lo+j,none⟩=some (.int .i64 (x.f.leases.getD j 0)):=fun j hj=>hlc j _ (by
           have h1:j<x.f.leases.length:=by rw [hm.o];exact hj
           rw [getD_lt _ h1];unfold intCells;rw [List.getElem?_map,List.getElem?_eq_getElem h1];rfl)
          subst eA;have e0:=hci i hlt;have hprev:=zh (fun(h0:0<i)=>hci (i - 1) (by omega));obtain⟨e,he⟩:∃z,Hid (x.f.leases.getD i 0=z):=⟨_,zh rfl⟩
          rw [he.o]at e0;have hbad:=zh (fun(h:leR x.f.leases i=false)=>show rightM x.f=false by
           unfold rightM leaR;rw [all_not (List.mem_range.2 (show i<x.f.leases.length by rw [hm.o];exact hlth.o)) h,Bool.and_false])
          clear hci hlc hlt hF3;by_cases h1:e<0
          ·have hres:=zh (hbad.o (by unfold leR;rw [he.o,decide_eq_false (show¬0≤e by omega)];rfl));go_upto_region 23 with(fail)
           go_quiet (fail)
           go_wp2_with fail
           go_ret;exact⟨ret_eq hres.o.symm,fch.o.trans (hF3h.o.drewN _)⟩
          ·by_cases h2:32≤e
           ·have hres:=zh (hbad.o (by unfold leR;rw [he.o,decide_eq_false (show¬e<32 by omega),Bool.and_false];rfl));go_upto_region 23 with(fail)
            go_quiet (fail)
            go_wp2_with fail
            go_ret;exact⟨ret_eq hres.o.symm,fch.o.trans (hF3h.o.drewN _)⟩
           ·by_cases h0:0<i
            ·have h0':0<(i:Int):=by omega
             have ep:=hprev.o h0;have hi1:(((i - 1:Nat)):Int)=(i:Int) - 1:=by omega
             obtain⟨e2,he2⟩:∃z,Hid (x.f.leases.getD (i - 1) 0=z):=⟨_,zh rfl⟩
             rw [he2.o]at ep;obtain⟨i1,hi1e⟩:∃z,Hid (i - 1=z):=⟨_,zh rfl⟩
             have hi1':(i:Int) - 1=(i1:Int):=by have:=hi1e.o;omega
             rw [hi1e.o]at ep;clear hi1;by_cases h3:e≤e2
             ·have hres:=zh (hbad.o (by unfold leR;rw [he.o,he2.o,decide_eq_true h0,decide_eq_true h3];simp));go_upto_region 23 with(fail)
              go_quiet (fail)
              go_wp2_with fail
              go_ret;exact⟨ret_eq hres.o.symm,fch.o.trans (hF3h.o.drewN _)⟩
             ·have hgood:=zh (show leR x.f.leases i=true by
               unfold leR;rw [he.o,he2.o,decide_eq_true (show 0≤e by omega),decide_eq_true (show e<32 by omega),decide_eq_false h3];simp)
              go_upto_region 23 with(fail)
              go_quiet (fail)
              go_wp2_with fail
              go_roundg (m - i)
              case measure=>have:=hlth.o;omega
              case rel=>exact⟨i+1,by go_num,by have:=hlth.o;omega,by have:=hlth.o;omega,fun j hj=>if hji:j=i then hji▸hgood.o else hall3.o j (by omega),hF3h.o.drewN _⟩
            ·have h0':¬0<(i:Int):=by omega
             have hgood:=zh (show leR x.f.leases i=true by
              unfold leR;rw [he.o,decide_eq_true (show 0≤e by omega),decide_eq_true (show e<32 by omega),decide_eq_false h0];simp)
             go_upto_region 23 with(fail)
             go_quiet (fail)
             go_wp2_with fail
             go_roundg (m - i)
             case measure=>have:=hlth.o;omega
             case rel=>exact⟨i+1,by go_num,by have:=hlth.o;omega,by have:=hlth.o;omega,fun j hj=>if hji:j=i then hji▸hgood.o else hall3.o j (by omega),hF3h.o.drewN _⟩
         ·have hge:¬(i:Int)<m:=by omega
          have hin:i=m:=by omega
          have hres:=zh (show rightM x.f=true by
           unfold rightM leaR;rw [hhm.o,hallh.o,Bool.true_and,Bool.true_and,List.all_eq_true];intro j hj;exact hall3.o j (by rw [hin,←hm.o];exact List.mem_range.1 hj))
          go_wp2_with fail
          go_ret;exact⟨ret_eq hres.o.symm,fch.o.trans hF3h.o⟩
end Go.Proofs.YtpmgepijkhaonaaGreat
