/- Walk: families that are put and dropped. Conditions: each theorem's own. -/
import Derived.Test.YtdeoinjjphdbmaaGreatJm
import Derived.Test.YtdeoinjjphdbmaaGreatIb
import Derived.Test.YtdeoinjjphdbmaaGreatHk
import Derived.Test.YtdeoinjjphdbmaaGreatKm
namespace Go.Proofs.YtdeoinjjphdbmaaGreat
open Go.RowKit Go.Sig
theorem right_no {f:GFam}(h:¬FamOk f):rightM f=false:=by
 rw [←Bool.not_eq_true]
 exact fun e=>h (rightM_ok.1 e)
set_option maxRecDepth 100000 in
set_option maxHeartbeats 8000000 in
theorem rright_t (w:World) (x:FA) (hx:FamIn w [] x) (hz:FamSz x) (hz2:x.f.scope.length≤1000000∧∀t∈x.ts,t.tok.scope.length≤1000000):Calls Tryz.prog 25 #[x.val] w fun e w'=>e= .returned (.bool (rightM x.f))∧Fr [] w w':=by
 have hxh:=zh hx
 have hzh:=zh hz
 have hz2h:=zh hz2
 clear hx hz hz2
 unfold FA.val FA.cells
 go_enter Tryz.func25,Tryz.ntmps25
 go_upto_region 1 with(fail)
 refine wp_gen (fun W=>Blk W w.heap.size 39 x.cells∧Fr [] w W) ⟨Blk.new _ _ _,(Fr.refl _ _).alloc _⟩ ?_
 rintro W0 ⟨hB0,f0⟩
 obtain⟨gf,HGF⟩:∃z,Hid (w.heap.size=z):=⟨_,zh rfl⟩
 rw [HGF.o]at hB0⊢
 have hB0:=zh hB0
 have F0:=zh (Fr.refl [] W0)
 have f0h:=zh f0
 clear f0
 obtain⟨c0,c1,c2,c3,c4,c5,c6,c7,c8,c9,c10,hgl⟩:=fam_cells hB0.o
 have hc:=rid_t W0 x.f.id hzh.o.id
 cases h1:idM x.f.id with
 |false=>
  have hv:=zh (show rightM x.f=false from right_no (fun r=>by have p:=r.id;rw [h1]at p;cases p))
  rw [h1]at hc
  clear h1
  go_wp2_with (go_at_call 54;refine Calls.mono (show Calls Tryz.prog 54 _ _ _ from hc) ?_;rintro e W1 ⟨rfl,G1⟩)
  have F1:=zh (F0.o.trans G1)
  clear G1
  go_ret
  exact⟨ret_eq hv.o.symm,f0h.o.trans F1.o⟩
 |true=>
  have e1:=zh h1
  rw [h1]at hc
  clear h1
  go_wp2_with fail
  refine Calls.mono (show Calls Tryz.prog 54 _ _ _ from hc) ?_
  rintro e W1 ⟨rfl,G1⟩
  have F1:=zh (F0.o.trans G1)
  clear G1
  clear hc
  clear c0 c1 c2 c3 c4 c5 c6 c7 c8 c9 c10 hgl
  obtain⟨c0,c1,c2,c3,c4,c5,c6,c7,c8,c9,c10,hgl⟩:=fam_cells (hB0.o.fr F1.o (by simp))
  cases h2:decide (x.f.client.size=0)with
  |true=>
   have hv:=zh (show rightM x.f=false from right_no (fun r=>absurd (of_decide_eq_true h2) r.client))
   have hem:=str_empty x.f.client
   rw [h2]at hem
   clear h2
   go_wp2_with fail
   go_ret
   exact⟨ret_eq hv.o.symm,f0h.o.trans F1.o⟩
  |false=>
   have e2:=zh h2
   have hem:=str_empty x.f.client
   rw [h2]at hem
   clear h2
   have hAl:Fr [] W1 (W1.alloc (.cells (strCells [x.f.client,x.f.user,x.f.redirect,x.f.challenge,x.f.method]).toArray 9)):=(Fr.refl _ _).alloc _
   have hAlh:=zh hAl
   have hc:=rtexts_t (W1.alloc (.cells (strCells [x.f.client,x.f.user,x.f.redirect,x.f.challenge,x.f.method]).toArray 9)) (some ⟨W1.heap.size,0,none⟩) 5 5 [x.f.client,x.f.user,x.f.redirect,x.f.challenge,x.f.method] (strs_new W1 _ 9) rfl (by decide)
   clear hAl
   cases h3:textsM [x.f.client,x.f.user,x.f.redirect,x.f.challenge,x.f.method]with
   |false=>
    have hv:=zh (show rightM x.f=false from right_no (fun r=>by have p:=r.texts;rw [h3]at p;cases p))
    rw [h3]at hc
    clear h3
    go_wp2_with (go_at_call 55;refine Calls.mono (show Calls Tryz.prog 55 _ _ _ from hc) ?_;rintro e W3 ⟨rfl,G3⟩)
    have G3:Fr [] W1 W3:=by rw [←G3];exact hAlh.o
    have F3:=zh (F1.o.trans G3)
    clear G3 hAlh
    go_ret
    exact⟨ret_eq hv.o.symm,f0h.o.trans F3.o⟩
   |true=>
    have e3:=zh h3
    rw [h3]at hc
    clear h3
    go_wp2_with fail
    refine Calls.mono (show Calls Tryz.prog 55 _ _ _ from hc) ?_
    rintro e W3 ⟨rfl,G3⟩
    have G3:Fr [] W1 W3:=by rw [←G3];exact hAlh.o
    have F3:=zh (F1.o.trans G3)
    clear G3 hAlh
    clear hc
    clear c0 c1 c2 c3 c4 c5 c6 c7 c8 c9 c10 hgl
    obtain⟨c0,c1,c2,c3,c4,c5,c6,c7,c8,c9,c10,hgl⟩:=fam_cells (hB0.o.fr F3.o (by simp))
    have hc:=rset17_t W3 x.sA x.f.scope.length x.sc x.f.scope (Rd.fr hxh.o.scope.1 (f0h.o.trans F3.o) (by simp [Off])) rfl hzh.o.sl hzh.o.ss
    cases h4:setM x.f.scope with
    |false=>
     have hv:=zh (show rightM x.f=false from right_no (fun r=>by have p:=r.set;rw [h4]at p;cases p))
     rw [h4]at hc
     clear h4
     go_wp2_with (go_at_call 56;refine Calls.mono (show Calls Tryz.prog 56 _ _ _ from hc) ?_;rintro e W4 ⟨rfl,G4⟩)
     have F4:=zh (F3.o.trans G4)
     clear G4
     go_ret
     exact⟨ret_eq hv.o.symm,f0h.o.trans F4.o⟩
    |true=>
     have e4:=zh h4
     rw [h4]at hc
     clear h4
     go_wp2_with fail
     refine Calls.mono (show Calls Tryz.prog 56 _ _ _ from hc) ?_
     rintro e W4 ⟨rfl,G4⟩
     have F4:=zh (F3.o.trans G4)
     clear G4
     clear hc
     clear c0 c1 c2 c3 c4 c5 c6 c7 c8 c9 c10 hgl
     obtain⟨c0,c1,c2,c3,c4,c5,c6,c7,c8,c9,c10,hgl⟩:=fam_cells (hB0.o.fr F4.o (by simp))
     cases h5:decide (8<x.f.tokens.length)with
     |true=>
      have hv:=zh (show rightM x.f=false from right_no (fun r=>absurd (of_decide_eq_true h5) (by have:=r.tokens;omega)))
      have z8:decide (8<(x.ts.length:Int))=true:=by have h1:=of_decide_eq_true h5;have h2:=hxh.o.len;exact decide_eq_true (by omega)
      clear h5
      go_wp2_with fail
      go_ret
      exact⟨ret_eq hv.o.symm,f0h.o.trans F4.o⟩
     |false=>
      have e5:=zh h5
      have z8:decide (8<(x.ts.length:Int))=false:=by have h1:=of_decide_eq_false h5;have h2:=hxh.o.len;exact decide_eq_false (by omega)
      clear h5
      have F5h:=zh (f0h.o.trans F4.o)
      have hB1:=zh (hB0.o.fr F4.o (by simp))
      have hset:=e4
      have hch:x.f.challenge.size≤100000:=by have:=textsM_mem e3.o (s:=x.f.challenge) (by simp);omega
      have hlen:=zh hxh.o.len
      go_upto_block 0 with(fail)
      go_cut []from 44 to 97 (fun wx=>midR x.f=true∧(0≤x.f.code∧x.f.code≤2)∧Fr [] W4 wx)
      case first=>
       by_cases k0:x.f.code=0
       ·have b0:(x.f.code==0)=true:=by rw [beq_iff_eq];exact k0
        have k0h:=zh k0
        clear k0
        cases h11:decide (x.f.user.size=0)with
        |false=>
         have hv:=zh (show rightM x.f=false from right_no (fun r=>absurd (r.none k0h.o).1 (of_decide_eq_false h11)))
         have em_user:=str_empty x.f.user
         rw [h11]at em_user
         clear h11
         go_wp2_with fail
         go_ret
         exact⟨ret_eq hv.o.symm,f0h.o.trans F4.o⟩
        |true=>
         have e11:=zh h11
         have em_user:=str_empty x.f.user
         rw [h11]at em_user
         clear h11
         cases h12:decide (x.f.redirect.size=0)with
         |false=>
          have hv:=zh (show rightM x.f=false from right_no (fun r=>absurd (r.none k0h.o).2.1 (of_decide_eq_false h12)))
          have em_redirect:=str_empty x.f.redirect
          rw [h12]at em_redirect
          clear h12
          go_wp2_with fail
          go_ret
          exact⟨ret_eq hv.o.symm,f0h.o.trans F4.o⟩
         |true=>
          have e12:=zh h12
          have em_redirect:=str_empty x.f.redirect
          rw [h12]at em_redirect
          clear h12
          cases h13:decide (x.f.challenge.size=0)with
          |false=>
           have hv:=zh (show rightM x.f=false from right_no (fun r=>absurd (r.none k0h.o).2.2.1 (of_decide_eq_false h13)))
           have em_challenge:=str_empty x.f.challenge
           rw [h13]at em_challenge
           clear h13
           go_wp2_with fail
           go_ret
           exact⟨ret_eq hv.o.symm,f0h.o.trans F4.o⟩
          |true=>
           have e13:=zh h13
           have em_challenge:=str_empty x.f.challenge
           rw [h13]at em_challenge
           clear h13
           cases h14:decide (x.f.method.size=0)with
           |false=>
            have hv:=zh (show rightM x.f=false from right_no (fun r=>absurd (r.none k0h.o).2.2.2 (of_decide_eq_false h14)))
            have em_method:=str_empty x.f.method
            rw [h14]at em_method
            clear h14
            go_wp2_with fail
            go_ret
            exact⟨ret_eq hv.o.symm,f0h.o.trans F4.o⟩
           |true=>
            have e14:=zh h14
            have em_method:=str_empty x.f.method
            rw [h14]at em_method
            clear h14
            cases h15:decide (x.ts.length=0)with
            |true=>
             have hv:=zh (show rightM x.f=false from right_no (fun r=>absurd (r.many.1 (List.eq_nil_of_length_eq_zero (by rw [←hlen.o];exact of_decide_eq_true h15))) (by rw [k0h.o];decide)))
             have z0:((x.ts.length:Int)==0)=true:=by have:=of_decide_eq_true h15;rw [beq_iff_eq];omega
             clear h15
             go_wp2_with fail
             go_ret
             exact⟨ret_eq hv.o.symm,f0h.o.trans F4.o⟩
            |false=>
             have e15:=zh h15
             have z0:((x.ts.length:Int)==0)=false:=by have:=of_decide_eq_false h15;rw [beq_eq_false_iff_ne];omega
             clear h15
             have hm:=zh (show midR x.f=true by unfold midR bare;rw [e11.o,e12.o,e13.o,e14.o,decide_eq_true k0h.o,decide_eq_false (show¬x.f.tokens.length=0 by rw [←hlen.o];exact of_decide_eq_false e15.o),decide_eq_false (show¬x.f.code=1 by have:=k0h.o;omega)];unfold shownM;rw [if_pos (of_decide_eq_true e13.o),e14.o];rfl)
             have hcd:=zh (show 0≤x.f.code∧x.f.code≤2 by have:=k0h.o;omega)
             go_wp2_with fail
             go_meet
             exact⟨hm.o,hcd.o,Fr.refl _ _⟩
       ·have b0:(x.f.code==0)=false:=by rw [beq_eq_false_iff_ne];exact k0
        by_cases kC:x.f.code=1
        ·have b1:(x.f.code==1)=true:=by rw [beq_iff_eq];exact kC
         clear k0
         have kCh:=zh kC
         clear kC
         have hc:=rshown_t W4 x.f.challenge x.f.method hch
         cases hs:shownM x.f.challenge x.f.method with
         |false=>
          have hv:=zh (show rightM x.f=false from right_no (fun r=>by have p:=r.shown;rw [hs]at p;cases p))
          rw [hs]at hc
          clear hs
          go_wp2_with (go_at_call 57;refine Calls.mono (show Calls Tryz.prog 57 _ _ _ from hc) ?_;rintro e V6 ⟨rfl,G6⟩)
          go_ret
          exact⟨ret_eq hv.o.symm,F5h.o.trans G6⟩
         |true=>
          have hsn:=zh hs
          rw [hs]at hc
          clear hs
          go_wp2_with fail
          refine Calls.mono (show Calls Tryz.prog 57 _ _ _ from hc) ?_
          rintro e V6 ⟨rfl,G6⟩
          have G6h:=zh G6
          clear hc G6
          clear c0 c1 c2 c3 c4 c5 c6 c7 c8 c9 c10 hgl
          obtain⟨c0,c1,c2,c3,c4,c5,c6,c7,c8,c9,c10,hgl⟩:=fam_cells (hB1.o.fr G6h.o (by simp))
          cases h15:decide (x.ts.length=0)with
          |false=>
           have hv:=zh (show rightM x.f=false from right_no (fun r=>absurd (by rw [hlen.o,r.many.2 kCh.o];rfl) (of_decide_eq_false h15)))
           have z1:0<x.ts.length:=by have:=of_decide_eq_false h15;omega
           clear h15
           go_wp2_with fail
           go_ret
           exact⟨ret_eq hv.o.symm,F5h.o.trans G6h.o⟩
          |true=>
           have e15:=zh h15
           have z1:¬0<x.ts.length:=by have:=of_decide_eq_true h15;omega
           clear h15
           have hm:=zh (show midR x.f=true by unfold midR;rw [hsn.o,decide_eq_false (show¬x.f.code=0 by have:=kCh.o;omega),decide_eq_true (show x.f.tokens.length=0 by rw [←hlen.o];exact of_decide_eq_true e15.o),decide_eq_true (show x.f.code=1 by have:=kCh.o;omega)];rfl)
           have hcd:=zh (show 0≤x.f.code∧x.f.code≤2 by have:=kCh.o;omega)
           go_wp2_with fail
           go_meet
           exact⟨hm.o,hcd.o,G6h.o⟩
        ·have b1:(x.f.code==1)=false:=by rw [beq_eq_false_iff_ne];exact kC
         have k1:=kC
         clear kC
         by_cases kC:x.f.code=2
         ·have b2:(x.f.code==2)=true:=by rw [beq_iff_eq];exact kC
          clear k0 k1
          have kCh:=zh kC
          clear kC
          have hc:=rshown_t W4 x.f.challenge x.f.method hch
          cases hs:shownM x.f.challenge x.f.method with
          |false=>
           have hv:=zh (show rightM x.f=false from right_no (fun r=>by have p:=r.shown;rw [hs]at p;cases p))
           rw [hs]at hc
           clear hs
           go_wp2_with (go_at_call 57;refine Calls.mono (show Calls Tryz.prog 57 _ _ _ from hc) ?_;rintro e V6 ⟨rfl,G6⟩)
           go_ret
           exact⟨ret_eq hv.o.symm,F5h.o.trans G6⟩
          |true=>
           have hsn:=zh hs
           rw [hs]at hc
           clear hs
           go_wp2_with fail
           refine Calls.mono (show Calls Tryz.prog 57 _ _ _ from hc) ?_
           rintro e V6 ⟨rfl,G6⟩
           have G6h:=zh G6
           clear hc G6
           clear c0 c1 c2 c3 c4 c5 c6 c7 c8 c9 c10 hgl
           obtain⟨c0,c1,c2,c3,c4,c5,c6,c7,c8,c9,c10,hgl⟩:=fam_cells (hB1.o.fr G6h.o (by simp))
           cases h15:decide (x.ts.length=0)with
           |true=>
            have hv:=zh (show rightM x.f=false from right_no (fun r=>absurd (r.many.1 (List.eq_nil_of_length_eq_zero (by rw [←hlen.o];exact of_decide_eq_true h15))) (by rw [kCh.o];decide)))
            have z0:((x.ts.length:Int)==0)=true:=by have:=of_decide_eq_true h15;rw [beq_iff_eq];omega
            clear h15
            go_wp2_with fail
            go_ret
            exact⟨ret_eq hv.o.symm,F5h.o.trans G6h.o⟩
           |false=>
            have e15:=zh h15
            have z0:((x.ts.length:Int)==0)=false:=by have:=of_decide_eq_false h15;rw [beq_eq_false_iff_ne];omega
            clear h15
            have hm:=zh (show midR x.f=true by unfold midR;rw [hsn.o,decide_eq_false (show¬x.f.code=0 by have:=kCh.o;omega),decide_eq_false (show¬x.f.tokens.length=0 by rw [←hlen.o];exact of_decide_eq_false e15.o),decide_eq_false (show¬x.f.code=1 by have:=kCh.o;omega)];rfl)
            have hcd:=zh (show 0≤x.f.code∧x.f.code≤2 by have:=kCh.o;omega)
            go_wp2_with fail
            go_meet
            exact⟨hm.o,hcd.o,G6h.o⟩
         ·have b2:(x.f.code==2)=false:=by rw [beq_eq_false_iff_ne];exact kC
          have hv:=zh (show rightM x.f=false from right_no (fun r=>by rcases r.code with h |h |h;exact k0 h;exact k1 h;exact kC h))
          clear k0 k1 kC
          go_wp2_with fail
          go_ret
          exact⟨ret_eq hv.o.symm,F5h.o⟩
      case rest=>
       obtain⟨hmd,hcode,fc⟩:=hcut
       have hmd:=zh hmd
       have fch:=zh (F5h.o.trans fc)
       have hB2:=zh (hB1.o.fr fc (by simp))
       have hhm:=zh (show(headR x.f&&midR x.f)=true by
        rw [hmd.o,Bool.and_true]
        unfold headR
        rw [e1.o,e2.o,e3.o,e4.o,decide_eq_false (show¬x.f.code<0 by omega),decide_eq_false (show¬2<x.f.code by omega),e5.o]
        rfl)
       obtain⟨W2,hW2⟩:∃W2:World,W2=wc:=⟨_,rfl⟩
       subst hW2
       clear fc hcode c0 c1 c2 c3 c4 c5 c6 c7 c8 c9 c10 hgl
       obtain⟨c0,c1,c2,c3,c4,c5,c6,c7,c8,c9,c10,hgl⟩:=fam_cells hB2.o
       obtain⟨n,hn⟩:∃z,Hid (x.ts.length=z):=⟨_,zh rfl⟩
       obtain⟨tA,htA⟩:∃z,Hid (x.tA=z):=⟨_,zh rfl⟩
       have hn8:=hzh.o.tl
       rw [hn.o,htA.o]at c8
       rw [hn.o]at hn8
       rw [htA.o]
       go_upto_block 1 with(fail)
       go_cut [3]from 98 to 153 (fun s91 wx=>Fr [] W2 wx∧x.f.tokens.all (tokR x.f)=true)
       case first=>
        go_wp2_with fail
        go_loopg [3] (n+1) (fun gk s91 wr=>∃(i:Nat),s91= .int .i64 i∧i≤n∧n - i<gk∧(x.f.tokens.take i).all (tokR x.f)=true∧Fr [] W2 wr)
        case atStart=>exact⟨0,rfl,by omega,by omega,by simp,Fr.refl _ _⟩
        case round=>
         obtain⟨i,rfl,hi,hk,hall,hF⟩:=hrel
         have hFh:=zh hF
         have hallh:=zh hall
         obtain⟨_,_,_,_,_,_,_,_,c8,_,_,hgl⟩:=fam_cells (hB2.o.fr hF (by simp))
         rw [hn.o,htA.o]at c8
         clear hF hall
         by_cases hlt:i<n
         ·have hlt':(i:Int)<n:=by omega
          have hlth:=zh hlt
          obtain⟨t,tb,tof,eA,hti,htr⟩:=TA.row (Rd.fr hxh.o.toks.1 (fch.o.trans hFh.o) (by simp [Off])) rfl (by rw [hn.o];exact hlt)
          rw [htA.o]at eA
          have htm:=zh (List.mem_of_getElem? hti)
          have hit:=zh (show∃h:i<x.f.tokens.length,x.f.tokens[i]=t.tok by
           have h1:i<x.ts.length:=by rw [hn.o];exact hlt
           rw [List.getElem?_eq_getElem h1]at hti
           obtain rfl:=Option.some.inj hti
           refine⟨by rw [←hxh.o.ts,List.length_map];exact h1,?_⟩
           simp only [←hxh.o.ts,List.getElem_map])
          subst eA
          have htrh:=zh htr
          clear hti htr hlt
          go_upto_region 18 with(first
           | (refine wpList_load_cells rfl 55 _ rfl rfl (ys:=t.cells.toArray) (fun j v hv=>htrh.o j v (by rw [←zG];exact hv)) uIss rfl (infoTA _) ?_)
           | (refine wpList_store_row rfl 55 _ _ rfl wr.heap.size _ rfl rfl 55 _ (Blk.new _ _ _) (infoTA t) (by kernel_rfl) (TA.all1 t) ?_))
          refine wp_gen (fun W=>Blk W wr.heap.size 55 t.cells.toArray∧Fr [] wr W) ⟨Blk.setRow (Blk.new _ _ _) _,((Fr.refl [] wr).alloc _).setRow (.inr (Nat.le_refl _)) _⟩ ?_
          rintro W3 ⟨hT,f3⟩
          obtain⟨g4,HG4⟩:∃z,Hid (wr.heap.size=z):=⟨_,zh rfl⟩
          rw [HG4.o]at hT⊢
          have hT3:=zh hT
          have FF3:=zh (hFh.o.trans f3)
          have hB3:=zh (hB2.o.fr FF3.o (by simp))
          have F0:=zh (Fr.refl [] W3)
          clear hT f3
          dsimp only [Act.put]
          go_cut [153]from 110 to 152 (fun s138 wx=>s138= .bool (!tokR x.f t.tok)∧Fr [] W3 wx)
          case first=>
           obtain⟨t0,t1,t2,htl⟩:=tok_cells hT3.o
           obtain⟨_,_,_,c3,_,_,_,_,_,_,_,hgl⟩:=fam_cells hB3.o
           have hxe:=(hxh.o.each t htm.o).1
           have hxeh:=zh (Rd.fr hxe ((fch.o.trans FF3.o)) (by simp [Off]))
           have hxsh:=zh (Rd.fr hxh.o.scope.1 ((fch.o.trans FF3.o)) (by simp [Off]))
           obtain⟨kd,hkd⟩:∃z,Hid (t.tok.kind=z):=⟨_,zh rfl⟩
           rw [hkd.o]at t0
           clear hxe
           by_cases k2:kd=2
           ·have b2:(kd !=2)=false:=by subst k2;rfl
            have b2':(kd==2)=true:=by subst k2;rfl
            have b3':(kd==3)=false:=by subst k2;rfl
            have hk2:=zh (show decide (kd=2)=true from decide_eq_true k2)
            have hk3:=zh (show decide (kd=3)=false from decide_eq_false (by omega))
            clear k2
            cases hu:t.tok.used with
            |true=>
             have hv:=zh (show tokR x.f t.tok=false by unfold tokR;rw [hkd.o,hk2.o,hu];simp)
             rw [hu]at t2
             clear hu
             go_wp2_with fail
             go_meet
             exact⟨by rw [hv.o];rfl,F0.o⟩
            |false=>
             have huh:=zh hu
             rw [hu]at t2
             clear hu
             have hc:=rset17_t W3 t.A t.tok.scope.length t.c t.tok.scope hxeh.o rfl (hzh.o.te t htm.o).1 (hzh.o.te t htm.o).2
             cases hs:setM t.tok.scope with
             |false=>
              have hv:=zh (show tokR x.f t.tok=false by unfold tokR;rw [hs];simp)
              rw [hs]at hc
              clear hs
              go_wp2_with (go_at_call 56;refine Calls.mono (show Calls Tryz.prog 56 _ _ _ from hc) ?_;rintro e V1 ⟨rfl,G1⟩)
              go_meet
              exact⟨by rw [hv.o];rfl,G1⟩
             |true=>
              have hsh:=zh hs
              rw [hs]at hc
              clear hs
              go_wp2_with fail
              refine Calls.mono (show Calls Tryz.prog 56 _ _ _ from hc) ?_
              rintro e V1 ⟨rfl,G1⟩
              have F1:=zh G1
              clear hc G1
              clear t0 t1 t2 htl c3 hgl
              obtain⟨t0,t1,t2,htl⟩:=tok_cells (hT3.o.fr F1.o (by simp))
              obtain⟨_,_,_,c3,_,_,_,_,_,_,_,hgl⟩:=fam_cells (hB3.o.fr F1.o (by simp))
              rw [hkd.o]at t0
              have hc:=rwithin_t V1 t.A x.sA t.tok.scope.length x.f.scope.length t.c x.sc t.tok.scope x.f.scope (Rd.fr hxeh.o F1.o (by simp [Off])) rfl (Rd.fr hxsh.o F1.o (by simp [Off])) rfl (hzh.o.te t htm.o).1 hzh.o.sl (hzh.o.te t htm.o).2
              cases hw:within t.tok.scope x.f.scope with
              |false=>
               have hv:=zh (show tokR x.f t.tok=false by unfold tokR;rw [hw];simp)
               rw [hw]at hc
               clear hw
               go_wp2_with (go_at_call 33;refine Calls.mono (show Calls Tryz.prog 33 _ _ _ from hc) ?_;rintro e V2 ⟨rfl,rfl⟩)
               go_meet
               exact⟨by rw [hv.o];rfl,F1.o⟩
              |true=>
               have hv:=zh (show tokR x.f t.tok=true by unfold tokR;rw [hkd.o,hk2.o,hk3.o,huh.o,hsh.o,hw];rfl)
               rw [hw]at hc
               clear hw
               go_wp2_with (go_at_call 33;refine Calls.mono (show Calls Tryz.prog 33 _ _ _ from hc) ?_;rintro e V2 ⟨rfl,rfl⟩)
               go_meet
               exact⟨by rw [hv.o];rfl,F1.o⟩
           ·have b2:(kd !=2)=true:=by rw [bne_iff_ne];exact k2
            have b2':(kd==2)=false:=by rw [beq_eq_false_iff_ne];exact k2
            have hk2:=zh (show decide (kd=2)=false from decide_eq_false k2)
            clear k2
            by_cases k3:kd=3
            ·have b3:(kd !=3)=false:=by subst k3;rfl
             have b3':(kd==3)=true:=by subst k3;rfl
             have hk3:=zh (show decide (kd=3)=true from decide_eq_true k3)
             clear k3
             have hc:=rsameg_t W3 t.A x.sA t.tok.scope.length x.f.scope.length t.c x.sc t.tok.scope x.f.scope hxeh.o rfl hxsh.o rfl (by have:=hz2h.o.2 t htm.o;omega) hzh.o.sl
             cases he:decide (t.tok.scope=x.f.scope)with
             |false=>
              have hv:=zh (show tokR x.f t.tok=false by unfold tokR;rw [hkd.o,hk3.o,he];simp)
              rw [he]at hc
              clear he
              go_wp2_with (go_at_call 29;refine Calls.mono (show Calls Tryz.prog 29 _ _ _ from hc) ?_;rintro e V1 ⟨rfl,G1⟩)
              go_meet
              exact⟨by rw [hv.o];rfl,G1⟩
             |true=>
              have hsf:=of_decide_eq_true he
              have hv:=zh (show tokR x.f t.tok=true by unfold tokR;rw [hkd.o,hk2.o,hk3.o,he,hsf,hset.o,within_self];rfl)
              rw [he]at hc
              clear he hsf
              go_wp2_with fail
              refine Calls.mono (show Calls Tryz.prog 29 _ _ _ from hc) ?_
              rintro e V1 ⟨rfl,G1⟩
              have F1:=zh G1
              clear hc G1
              clear t0 t1 t2 htl c3 hgl
              obtain⟨t0,t1,t2,htl⟩:=tok_cells (hT3.o.fr F1.o (by simp))
              obtain⟨_,_,_,c3,_,_,_,_,_,_,_,hgl⟩:=fam_cells (hB3.o.fr F1.o (by simp))
              rw [hkd.o]at t0
              go_wp2_with fail
              go_meet
              exact⟨by rw [hv.o];rfl,F1.o⟩
            ·have b3:(kd !=3)=true:=by rw [bne_iff_ne];exact k3
             have b3':(kd==3)=false:=by rw [beq_eq_false_iff_ne];exact k3
             have hk3:=zh (show decide (kd=3)=false from decide_eq_false k3)
             have hv:=zh (show tokR x.f t.tok=false by unfold tokR;rw [hkd.o,hk2.o,hk3.o];rfl)
             clear k3
             go_wp2_with fail
             go_meet
             exact⟨by rw [hv.o];rfl,F0.o⟩
          case rest=>
           obtain⟨rfl,fc⟩:=hcut
           have FF4:=zh (FF3.o.trans fc)
           clear fc
           obtain⟨tk,htk⟩:∃z,Hid (tokR x.f t.tok=z):=⟨_,zh rfl⟩
           rw [htk.o]
           cases tk with
           |false=>
            have hres:=zh (show rightM x.f=false by
             obtain⟨hi1,hi2⟩:=hit.o
             unfold rightM
             rw [all_not (List.getElem_mem hi1) (by rw [hi2];exact htk.o),Bool.and_false,Bool.false_and])
            go_wp2_with fail
            go_ret
            exact⟨ret_eq hres.o.symm,fch.o.trans FF4.o⟩
           |true=>
            go_wp2_with fail
            go_roundg (n - i)
            case measure=>have:=hlth.o;omega
            case rel=>
             obtain⟨hi1,hi2⟩:=hit.o
             exact⟨i+1,by go_num,by have:=hlth.o;omega,by have:=hlth.o;omega,all_more hi1 hallh.o (by rw [hi2];exact htk.o),FF4.o⟩
         ·have hge:¬(i:Int)<n:=by omega
          have hin:i=n:=by omega
          go_wp2_with fail
          go_meet
          case rel=>exact⟨hFh.o,by have h:=hallh.o;rwa [hin,←hn.o,hxh.o.len,List.take_length]at h⟩
       case rest=>
        obtain⟨fc,hall⟩:=hcut
        have hallh:=zh hall
        have fch:=zh (fch.o.trans fc)
        have hB3:=zh (hB2.o.fr fc (by simp))
        have hlR:=zh (Rd.fr hxh.o.leases.1 fch.o (by simp [Off]))
        obtain⟨W3,hW3⟩:∃W3:World,W3=wc:=⟨_,rfl⟩
        subst hW3
        clear fc hall c0 c1 c2 c3 c4 c5 c6 c7 c8 c9 c10 hgl hn8
        obtain⟨c0,c1,c2,c3,c4,c5,c6,c7,c8,c9,c10,hgl⟩:=fam_cells hB3.o
        obtain⟨m,hm⟩:∃z,Hid (x.f.leases.length=z):=⟨_,zh rfl⟩
        have hm8:=hzh.o.ll
        have hlR2:=hlR.o
        obtain⟨lA,hlA⟩:∃z,Hid (x.lA=z):=⟨_,zh rfl⟩
        rw [hm.o,hlA.o]at c10 hlR2
        rw [hm.o]at hm8
        rw [hlA.o]
        have hlRh:=zh hlR2
        clear hlR2
        go_wp2_with fail
        go_loopg [5] (m+1) (fun gk s143 wr=>∃(i:Nat),s143= .int .i64 i∧i≤m∧m - i<gk∧(∀j,j<i→leR x.f.leases j=true)∧Fr [] W3 wr)
        case atStart=>exact⟨0,rfl,by omega,by omega,by omega,Fr.refl _ _⟩
        case round=>
         obtain⟨i,rfl,hi,hk,hall,hF3⟩:=hrel
         have hF3h:=zh hF3
         clear c10
         obtain⟨_,_,_,_,_,_,_,_,_,_,c10,hgl⟩:=fam_cells (hB3.o.fr hF3 (by simp))
         rw [hm.o,hlA.o]at c10
         have hall3:=zh hall
         clear hall
         by_cases hlt:i<m
         ·have hlt':(i:Int)<m:=by omega
          have hlth:=zh hlt
          obtain⟨lb,lo,eA,hlc⟩:=(Rd.fr hlRh.o hF3 (by simp [Off])).2 (by omega)
          have hci:∀j,j<m→wr.cell? ⟨lb,lo+j,none⟩=some (.int .i64 (x.f.leases.getD j 0)):=fun j hj=>hlc j _ (by
           have h1:j<x.f.leases.length:=by rw [hm.o];exact hj
           rw [getD_lt _ h1]
           unfold intCells
           rw [List.getElem?_map,List.getElem?_eq_getElem h1]
           rfl)
          subst eA
          have e0:=hci i hlt
          have hprev:=zh (fun(h0:0<i)=>hci (i - 1) (by omega))
          obtain⟨e,he⟩:∃z,Hid (x.f.leases.getD i 0=z):=⟨_,zh rfl⟩
          rw [he.o]at e0
          have hbad:=zh (fun(h:leR x.f.leases i=false)=>show rightM x.f=false by
           unfold rightM leaR
           rw [all_not (List.mem_range.2 (show i<x.f.leases.length by rw [hm.o];exact hlth.o)) h,Bool.and_false])
          clear hci hlc hlt hF3
          by_cases h1:e<0
          ·have hres:=zh (hbad.o (by unfold leR;rw [he.o,decide_eq_false (show¬0≤e by omega)];rfl))
           go_upto_region 23 with(fail)
           go_quiet (fail)
           go_wp2_with fail
           go_ret
           exact⟨ret_eq hres.o.symm,fch.o.trans (hF3h.o.drewN _)⟩
          ·by_cases h2:32≤e
           ·have hres:=zh (hbad.o (by unfold leR;rw [he.o,decide_eq_false (show¬e<32 by omega),Bool.and_false];rfl))
            go_upto_region 23 with(fail)
            go_quiet (fail)
            go_wp2_with fail
            go_ret
            exact⟨ret_eq hres.o.symm,fch.o.trans (hF3h.o.drewN _)⟩
           ·by_cases h0:0<i
            ·have h0':0<(i:Int):=by omega
             have ep:=hprev.o h0
             have hi1:(((i - 1:Nat)):Int)=(i:Int) - 1:=by omega
             obtain⟨e2,he2⟩:∃z,Hid (x.f.leases.getD (i - 1) 0=z):=⟨_,zh rfl⟩
             rw [he2.o]at ep
             obtain⟨i1,hi1e⟩:∃z,Hid (i - 1=z):=⟨_,zh rfl⟩
             have hi1':(i:Int) - 1=(i1:Int):=by have:=hi1e.o;omega
             rw [hi1e.o]at ep
             clear hi1
             by_cases h3:e≤e2
             ·have hres:=zh (hbad.o (by unfold leR;rw [he.o,he2.o,decide_eq_true h0,decide_eq_true h3];simp))
              go_upto_region 23 with(fail)
              go_quiet (fail)
              go_wp2_with fail
              go_ret
              exact⟨ret_eq hres.o.symm,fch.o.trans (hF3h.o.drewN _)⟩
             ·have hgood:=zh (show leR x.f.leases i=true by
               unfold leR
               rw [he.o,he2.o,decide_eq_true (show 0≤e by omega),decide_eq_true (show e<32 by omega),decide_eq_false h3]
               simp)
              go_upto_region 23 with(fail)
              go_quiet (fail)
              go_wp2_with fail
              go_roundg (m - i)
              case measure=>have:=hlth.o;omega
              case rel=>exact⟨i+1,by go_num,by have:=hlth.o;omega,by have:=hlth.o;omega,fun j hj=>if hji:j=i then hji▸hgood.o else hall3.o j (by omega),hF3h.o.drewN _⟩
            ·have h0':¬0<(i:Int):=by omega
             have hgood:=zh (show leR x.f.leases i=true by
              unfold leR
              rw [he.o,decide_eq_true (show 0≤e by omega),decide_eq_true (show e<32 by omega),decide_eq_false h0]
              simp)
             go_upto_region 23 with(fail)
             go_quiet (fail)
             go_wp2_with fail
             go_roundg (m - i)
             case measure=>have:=hlth.o;omega
             case rel=>exact⟨i+1,by go_num,by have:=hlth.o;omega,by have:=hlth.o;omega,fun j hj=>if hji:j=i then hji▸hgood.o else hall3.o j (by omega),hF3h.o.drewN _⟩
         ·have hge:¬(i:Int)<m:=by omega
          have hin:i=m:=by omega
          have hres:=zh (show rightM x.f=true by
           unfold rightM leaR
           rw [hhm.o,hallh.o,Bool.true_and,Bool.true_and,List.all_eq_true]
           intro j hj
           exact hall3.o j (by rw [hin,←hm.o];exact List.mem_range.1 hj))
          go_wp2_with fail
          go_ret
          exact⟨ret_eq hres.o.symm,fch.o.trans hF3h.o⟩
end Go.Proofs.YtdeoinjjphdbmaaGreat
namespace Go.Proofs.YtdeoinjjphdbmaaGreat
open Go.RowKit Go.Sig
def putM (room:Int) (f:GFam) (b:GBk):GBk×Int:=if rightM f=false then(b,1)else if(aget f.id b).isSome=false∧room≤(b.length:Int)then(b,8)else(aset f.id f b,0)
def dropM (s:ByteArray) (b:GBk):GBk×Int:=if(aget s b).isSome=true then(adel s b,0)else(b,7)
def BkPost (w:World) (p mb:Nat) (room:Int) (X:List Nat) (r:GBk×Int) (e:Ending) (w':World):Prop:=e= .returned (.int .i64 r.2)∧BookAt w' p mb room X r.1∧Fr [mb] w w'
theorem put_ok {room:Int}{f:GFam}{b:GBk}(hb:BkOk b):BkOk (putM room f b).1:=by
 unfold putM
 split
 ·exact hb
 ·split
  ·exact hb
  ·exact aset_ok hb rfl (rightM_ok.1 (by simpa using‹¬rightM f=false›))
theorem drop_ok {s:ByteArray}{b:GBk}(hb:BkOk b):BkOk (dropM s b).1:=by
 unfold dropM
 split
 ·exact adel_ok hb
 ·exact hb
set_option maxRecDepth 100000 in
set_option maxHeartbeats 4000000 in
theorem put_t (w:World) (p mb:Nat) (room:Int) (X:List Nat) (b:GBk) (x:FA) (h:BookAt w p mb room X b) (hx:FamIn w [] x) (hz:FamSz x):
  Calls Tryz.prog 34 #[.pointer (some ⟨p,0,none⟩),x.val] w (BkPost w p mb room X (putM room x.f b)):=by
 have hh:=zh h
 have hxh:=zh hx
 have hzh:=zh hz
 clear h hx hz
 unfold FA.val
 go_enter Tryz.func34,Tryz.ntmps34
 go_upto_region 1 with(fail)
 refine wp_gen (fun W=>Blk W w.heap.size 39 x.cells∧Fr [] w W) ⟨Blk.new _ _ _,(Fr.refl _ _).alloc _⟩ ?_
 rintro W ⟨hB,f0⟩
 obtain⟨gf,HGF⟩:∃z,Hid (w.heap.size=z):=⟨_,zh rfl⟩
 rw [HGF.o]at hB⊢
 have hr:=right_t W x (hxh.o.fr f0) hzh.o
 obtain⟨rv,hrv⟩:∃z,Hid (rightM x.f=z):=⟨_,zh rfl⟩
 rw [hrv.o]at hr
 have hBh:=zh hB
 have f0h:=zh f0
 clear f0
 go_wp2_with (refine wpList_load_at rfl 39 _ rfl rfl hB (sub_self _) uFam rfl (infoFamL _) ?_;rw [Array.toArray_toList])
 refine hr.mono ?_
 rintro e W2 ⟨rfl,F2⟩
 have F2h:=zh (f0h.o.trans F2)
 have hB2h:=zh (hBh.o.fr F2 (by simp))
 clear hr F2 hB
 cases rv with
 |false=>
  go_wp2_with fail
  go_ret
  exact⟨ret_int (by unfold putM;rw [if_pos hrv.o]),by unfold putM;rw [if_pos hrv.o];exact hh.o.fr0 F2h.o,F2h.o.nil⟩
 |true=>
  have hfok:=zh (rightM_ok.1 hrv.o)
  obtain⟨l,hl1,hl2,hl3⟩:=hh.o.hb
  have hP2:=hh.o.hp.fr F2h.o (by simp)
  have hM2:=hl1.fr F2h.o (by simp)
  have e0:=hP2.cell 0
  simp only [zG,zH]at e0
  obtain⟨i0,i1,i2,i3,i4,i5,i6,i7,i8,i9,i10,hgl⟩:=fam_cells hB2h.o
  have hpl:=hP2.lt
  have hl2h:=zh hl2
  have hl3h:=zh hl3
  have hP2h:=zh hP2
  have hM2h:=zh hM2
  obtain⟨z,hze⟩:∃z,Hid ((aget x.f.id l).getD zeroFA=z):=⟨_,zh rfl⟩
  obtain⟨is,hise⟩:∃z,Hid ((aget x.f.id l).isSome=z):=⟨_,zh rfl⟩
  have hisb:=zh (show(aget x.f.id b).isSome=is by rw [←hl2,aget_fa,←hise.o];cases aget x.f.id l<;>rfl)
  have hlook:∀W:World,IsMap W mb Value.string FA.val l→(Instr.lookup 75 (.map (some mb)) (.string x.f.id) true).run Tryz.prog W= .ok (.tuple #[z.val,.bool is]) W:=fun W hW=>by
   have h:=hW.run_lookup_ok kStr (z:=zeroFA.val) uMsf (fun w=>by kernel_rfl) x.f.id
   rw [h,←hze.o,←hise.o]
   cases aget x.f.id l<;>rfl
  have hlookh:=zh hlook
  have hll:(l.length:Int)=(b.length:Int):=by rw [←hl2,List.length_map]
  have hllh:=zh hll
  clear hl1 hl2 hl3 hP2 hM2 hlook hll i1 i2 i3 i4 i5 i6 i7 i8 i9 i10
  go_upto_region 5 with(fail)
  refine wp_region_z (fun w'=>w'.cell? ⟨p,0,none⟩=some (.map (some mb))∧w'.cell? ⟨gf,0,none⟩=some (.string x.f.id)∧IsMap w' mb Value.string FA.val l) [] (by kernel_rfl) ⟨e0,i0,hM2h.o.fr ((Fr.refl [] W2).drew) (by simp)⟩ ?_
  intro hHeld
  refine wpZ_tk (i:=0) (v:= ?_) hHeld ?_ ?_
  rotate_left
  ·(intro w hSw;go_simp<;>with_reducible rfl)
  try simp only [zA,zC,Act.put,zD,zE,zF]
  refine wpZ_tk (i:=1) (v:= ?_) hHeld ?_ ?_
  rotate_left
  ·(intro w hSw;go_simp<;>with_reducible rfl)
  try simp only [zA,zB,zC,Act.put,zD,zE,zF]
  refine wpZ_tk (i:=2) (v:= ?_) hHeld ?_ ?_
  rotate_left
  ·(intro w hSw;go_simp<;>with_reducible rfl)
  try simp only [zA,zB,zC,Act.put,zD,zE,zF]
  refine wpZ_tk (i:=3) (v:= ?_) hHeld ?_ ?_
  rotate_left
  ·(intro w hSw;go_simp<;>with_reducible rfl)
  try simp only [zA,zB,zC,Act.put,zD,zE,zF]
  refine wpZ_tk (i:=4) (v:= ?_) hHeld ?_ ?_
  rotate_left
  ·(intro w hSw;go_simp<;>with_reducible rfl)
  try simp only [zA,zB,zC,Act.put,zD,zE,zF]
  refine wpZ_tk (i:=5) (v:= ?_) hHeld ?_ ?_
  rotate_left
  ·(intro w hSw;go_simp<;>with_reducible rfl)
  try simp only [zA,zB,zC,Act.put,zD,zE,zF]
  refine wpZ_take (i:=6) (v:= .tuple #[z.val,.bool is]) rfl (by kernel_rfl) (by kernel_rfl) (by kernel_rfl) (by kernel_rfl) (fun _ _ _ h=>h) (Or.inl ⟨by rfl,fun w hSw=> ?_⟩) hHeld ?_
  ·have hlk:=hlookh.o w hSw.2.2
   clear hSw
   go_simp
  try simp only [zA,zB,zC,Act.put,zD,zE,zF]
  refine wpZ_tk (i:=7) (v:= ?_) hHeld ?_ ?_
  rotate_left
  ·(intro w hSw;go_simp<;>with_reducible rfl)
  try simp only [zA,zB,zC,Act.put,zD,zE,zF]
  refine wpZ_tk (i:=8) (v:= ?_) hHeld ?_ ?_
  rotate_left
  ·(intro w hSw;go_simp<;>with_reducible rfl)
  try simp only [zA,zB,zC,Act.put,zD,zE,zF]
  refine wpZ_tk (i:=9) (v:= ?_) hHeld ?_ ?_
  rotate_left
  ·(intro w hSw;go_simp<;>with_reducible rfl)
  try simp only [zA,zB,zC,Act.put,zD,zE,zF]
  refine wpZ_one (i:=10) (by kernel_rfl) rfl (fun K hK=> ?_)
  go_simp
  refine hK.out _ _ ⟨cell_fr ((Fr.refl [] W2).drew.alloc _) e0,cell_fr ((Fr.refl [] W2).drew.alloc _) i0,hM2h.o.fr ((Fr.refl [] W2).drew.alloc _) (by simp)⟩ (fun hHeld=> ?_)
  clear hK K
  try simp only [zA,zB,zC,Act.put,zD,zE,zF]
  refine wpZ_one (i:=11) (by kernel_rfl) rfl (fun K hK=> ?_)
  rw [if_pos (wanted_none rfl)]
  refine wp_store_row 39 _ _ rfl W2.heap.size z.cells rfl rfl 39 _ (Blk.new _ _ _) (by unfold FA.cells;exact infoFam) (by unfold FA.cells;kernel_rfl) (by unfold FA.cells;kernel_rfl) ?_
  show K (Act.put _ none undef) _
  refine hK.out _ _ ⟨cell_fr (((Fr.refl [] W2).drew.alloc _).setRow (.inr (Nat.le_refl _)) _) e0,cell_fr (((Fr.refl [] W2).drew.alloc _).setRow (.inr (Nat.le_refl _)) _) i0,hM2h.o.fr (((Fr.refl [] W2).drew.alloc _).setRow (.inr (Nat.le_refl _)) _) (by simp)⟩ (fun hHeld=> ?_)
  clear hK K
  try simp only [Act.put]
  refine wpZ_tk (i:=12) (v:= ?_) hHeld ?_ ?_
  rotate_left
  ·(intro w hSw;go_simp<;>with_reducible rfl)
  try simp only [zA,zB,zC,Act.put,zD,zE,zF]
  refine wpZ_done (by kernel_rfl) ?_ _
  go_upto_region 6 with(fail)
  refine wp_gen (fun W3=>Fr [] W2 W3) (((Fr.refl [] W2).drew.alloc _).setRow (.inr (Nat.le_refl _)) _) ?_
  clear hHeld e0 i0 hpl hgl
  rintro W3 F3
  have hP3:=hP2h.o.fr F3 (by simp)
  have hM3:=hM2h.o.fr F3 (by simp)
  have e0:=hP3.cell 0
  have e1:=hP3.cell 1
  simp only [zG,zH,zI]at e0 e1
  have hpl:=hP3.lt
  have hln:=fun ty k=>(hM3.fr ((Fr.refl [] W3).drewN k) (by simp)).run_len (ty:=ty) uMsf
  rw [hllh.o]at hln
  obtain⟨bn,hbn⟩:∃z,Hid ((b.length:Int)=z):=⟨_,zh rfl⟩
  rw [hbn.o]at hln
  have hP3h:=zh hP3
  have hM3h:=zh hM3
  have F3h:=zh (F2h.o.trans F3)
  have F3h2:=zh F3
  clear hP3 hM3 F3
  by_cases hfull:is=false∧room≤bn
  ·obtain⟨rfl,hle⟩:=hfull
   have hd:decide (room≤bn)=true:=decide_eq_true hle
   have hdg:decide (bn≥room)=true:=decide_eq_true hle
   have hres:=zh (show putM room x.f b=(b,8) by unfold putM;rw [if_neg (by rw [hrv.o];decide),if_pos ⟨hisb.o,by rw [hbn.o];exact hle⟩])
   clear hle
   go_quiet (fail)
   go_wp2_with fail
   go_ret
   exact⟨ret_int (by rw [hres.o]),by rw [hres.o];exact hh.o.fr0 (F3h.o.drewN _),(F3h.o.drewN _).nil⟩
  ·have hdd:is=true∨(is=false∧decide (room≤bn)=false∧decide (bn≥room)=false):=by
    cases is with
    |true=>exact .inl rfl
    |false=>exact .inr ⟨rfl,decide_eq_false fun h=>hfull ⟨rfl,h⟩,decide_eq_false fun h=>hfull ⟨rfl,h⟩⟩
   have hres:=zh (show putM room x.f b=(aset x.f.id x.f b,0) by unfold putM;rw [if_neg (by rw [hrv.o];decide),if_neg (by rw [hisb.o,hbn.o];exact hfull)])
   clear hfull hlookh
   go_cut [35]from 22 to 34 (fun s35 wx=>s35= .bool false∧Fr [] W3 wx)
   case first=>
    rcases hdd with rfl | ⟨rfl,hd,hdg⟩
    ·go_quiet (fail)
     go_wp2_with fail
     go_meet
     exact⟨rfl,(Fr.refl _ _).drewN _⟩
    ·go_quiet (fail)
     go_wp2_with fail
     go_meet
     exact⟨rfl,(Fr.refl _ _).drewN _⟩
   case rest=>
    obtain⟨rfl,F4⟩:=hcut
    have F4h:=zh (F3h.o.trans F4)
    have hP4:=hP3h.o.fr F4 (by simp)
    have hM4h:=zh (hM3h.o.fr F4 (by simp))
    have hB4:=hB2h.o.fr (F3h2.o.trans F4) (by simp)
    have e0:=hP4.cell 0
    simp only [zG,zH]at e0
    have rB:=range_cells hB4
    have rB':wc.rangeAt gf 0 [.string x.f.id,.string x.f.client,.string x.f.user,.slice x.sA x.f.scope.length x.sc,.string x.f.redirect,.string x.f.challenge,.string x.f.method,.int .i64 x.f.code,.slice x.tA x.ts.length x.tc,.bool x.f.revoked,.slice x.lA x.f.leases.length x.lc]:=rB
    have i0:wc.cell? ⟨gf,0,none⟩=some (.string x.f.id):=rB 0 _ rfl
    have hpl:=hP4.lt
    have hgl:=hB4.lt
    have hx4:=hxh.o.fr (F3h.o.trans F4)
    have hown:=own_t wc.drew x (hx4.fr ((Fr.refl [] wc).drew)) (fam_short hx4 (.inl hfok.o))
    have hmbw:mb<wc.heap.size:=hM4h.o.lt
    have hs4:w.heap.size≤wc.heap.size:=F4h.o.size
    clear hP4 hB4 rB hx4 hln hdd F4 e1
    go_upto_region 8 with(fail)
    refine wp_region_z (fun w'=>w'.cell? ⟨p,0,none⟩=some (.map (some mb))∧w'.cell? ⟨gf,0,none⟩=some (.string x.f.id)∧w'.rangeAt gf 0 [.string x.f.id,.string x.f.client,.string x.f.user,.slice x.sA x.f.scope.length x.sc,.string x.f.redirect,.string x.f.challenge,.string x.f.method,.int .i64 x.f.code,.slice x.tA x.ts.length x.tc,.bool x.f.revoked,.slice x.lA x.f.leases.length x.lc]) [8] (by kernel_rfl) ⟨cell_fr ((Fr.refl [] wc).drew) e0,cell_fr ((Fr.refl [] wc).drew) i0,range_fr1 ((Fr.refl [] wc).drew) rB'⟩ ?_
    intro hHeld
    refine wpZ_tk (i:=0) (v:= ?_) hHeld ?_ ?_
    rotate_left
    ·(intro w hSw;go_simp<;>with_reducible rfl)
    try simp only [zA,zC,Act.put,zD,zE,zF]
    refine wpZ_tk (i:=1) (v:= ?_) hHeld ?_ ?_
    rotate_left
    ·(intro w hSw;go_simp<;>with_reducible rfl)
    try simp only [zA,zB,zC,Act.put,zD,zE,zF]
    refine wpZ_tk (i:=2) (v:= ?_) hHeld ?_ ?_
    rotate_left
    ·(intro w hSw;go_simp<;>with_reducible rfl)
    try simp only [zA,zB,zC,Act.put,zD,zE,zF]
    refine wpZ_tk (i:=3) (v:= ?_) hHeld ?_ ?_
    rotate_left
    ·(intro w hSw;go_simp<;>with_reducible rfl)
    try simp only [zA,zB,zC,Act.put,zD,zE,zF]
    refine wpZ_tk (i:=4) (v:= ?_) hHeld ?_ ?_
    rotate_left
    ·(intro w hSw;go_simp<;>with_reducible rfl)
    try simp only [zA,zB,zC,Act.put,zD,zE,zF]
    refine wpZ_tk (i:=5) (v:= ?_) hHeld ?_ ?_
    rotate_left
    ·(intro w hSw;go_simp<;>with_reducible rfl)
    try simp only [zA,zB,zC,Act.put,zD,zE,zF]
    refine wpZ_take (i:=6) rfl (by kernel_rfl) (by kernel_rfl) (by kernel_rfl) (by kernel_rfl) (fun _ _ _ h=>h) (yieldsIf_load_mid (by kernel_rfl) 39 _ rfl gf 0 rfl ([.string x.f.id,.string x.f.client,.string x.f.user,.slice x.sA x.f.scope.length x.sc,.string x.f.redirect,.string x.f.challenge,.string x.f.method,.int .i64 x.f.code,.slice x.tA x.ts.length x.tc,.bool x.f.revoked,.slice x.lA x.f.leases.length x.lc]) _ (fun w h=>h.2.2) uFam rfl (by kernel_rfl)) hHeld ?_
    try simp only [zA,zB,zC,Act.put,zD,zE,zF]
    refine wpZ_one (i:=7) (by kernel_rfl) rfl (fun K hK=> ?_)
    go_simp
    refine Calls.mono (show Calls Tryz.prog _ _ _ _ from hown) ?_
    rintro e W5 ⟨y,rfl,hy,hw5,F5⟩
    have F5:Fr [] wc W5:=F5.of_drew
    have hw5:FamW W5 wc.heap.size y:=hw5
    obtain⟨W6,hrun,hM6,hT6⟩:=(hM4h.o.fr F5 (by simp)).run_update kStr uMsf x.f.id y
    have FS6:Fr [mb] W5 W6:=hT6.fr
    try dsimp only
    refine hK.out _ _ ⟨cell_fr F5 e0,cell_fr F5 i0,range_fr1 F5 rB'⟩ (fun hHeld=> ?_)
    clear hK K
    try simp only [zA,zB,zC,Act.put,zD,zE,zF]
    refine wpZ_end (i:=8) (by kernel_rfl) rfl rfl (fun K hK=> ?_)
    go_simp
    refine hK.out _ _ ?_
    clear hK K
    try simp only [zA,zB,zC,Act.put,zD,zE,zF]
    refine wpZ_done (by kernel_rfl) ?_ _
    go_wp2_with fail
    go_ret
    have FT:=(F4h.o.trans F5).nil.trans FS6
    have hX4:∀g∈X,g<wc.heap.size:=fun g hg=>Nat.lt_of_lt_of_le (hh.o.hX g hg) hs4
    have hy5:FamW W6 wc.heap.size y:=hw5.fr FS6 (fun g hg=>by simp at hg;rw [hg];exact hmbw)
    have hbk:=bk_aset (w0:=w) l hl2h.o hM6 hl3h.o (F4h.o.trans F5) FS6 hh.o.hmb (Y:= []) (by simp) (by rw [List.append_nil];exact hy5.fam hX4)
    rw [List.append_nil,hy]at hbk
    have hok:=put_ok (room:=room) (f:=x.f) hh.o.ok
    rw [hres.o]at hok
    refine⟨ret_int (by rw [hres.o]),?_,FT⟩
    rw [hres.o]
    exact⟨hh.o.hp.fr FT (by simp;exact hh.o.hne),hbk,hok,fun g hg=>Nat.lt_of_lt_of_le (hh.o.hX g hg) FT.size,hh.o.hmb,hh.o.hne⟩
set_option maxRecDepth 100000 in
set_option maxHeartbeats 4000000 in
theorem drop_t (w:World) (p mb:Nat) (room:Int) (X:List Nat) (b:GBk) (s:ByteArray) (h:BookAt w p mb room X b):
  Calls Tryz.prog 36 #[.pointer (some ⟨p,0,none⟩),.string s] w (BkPost w p mb room X (dropM s b)):=by
 have hh:=zh h
 obtain⟨l,hl1,hl2,hl3⟩:=h.hb
 have e0:=h.hp.cell 0
 simp only [zG,zH]at e0
 have hpl:=h.hp.lt
 have hl2h:=zh hl2
 have hl3h:=zh hl3
 have hl1h:=zh hl1
 obtain⟨z,hze⟩:∃z,Hid ((aget s l).getD zeroFA=z):=⟨_,zh rfl⟩
 obtain⟨is,hise⟩:∃z,Hid ((aget s l).isSome=z):=⟨_,zh rfl⟩
 have hisb:=zh (show(aget s b).isSome=is by rw [←hl2,aget_fa,←hise.o];cases aget s l<;>rfl)
 have hlk:(Instr.lookup 75 (.map (some mb)) (.string s) true).run Tryz.prog w= .ok (.tuple #[z.val,.bool is]) w:=by
  have h:=hl1.run_lookup_ok kStr (z:=zeroFA.val) uMsf (fun w=>by kernel_rfl) s
  rw [h,←hze.o,←hise.o]
  cases aget s l<;>rfl
 clear h hl1 hl2 hl3
 go_enter Tryz.func36,Tryz.ntmps36
 go_upto_region 4 with(refine wpList_store_row rfl 39 _ _ rfl w.heap.size z.cells rfl rfl 39 _ (Blk.new _ _ _) (infoFamA z) (by rw [FA.size11];rfl) (FA.all1 z) ?_)
 refine wp_gen (fun W2=>Fr [] w W2) (((Fr.refl [] w).alloc _).setRow (.inr (Nat.le_refl _)) _) ?_
 rintro W2 F2
 clear e0 hlk hpl
 have hP2:=hh.o.hp.fr F2 (by simp)
 have hM2:=hl1h.o.fr F2 (by simp)
 have e0:=hP2.cell 0
 simp only [zG,zH]at e0
 have hpl:=hP2.lt
 have F2h:=zh F2
 clear F2 hP2
 cases is with
 |false=>
  have hres:=zh (show dropM s b=(b,7) by unfold dropM;rw [if_neg (by rw [hisb.o];decide)])
  clear hM2
  go_wp2_with fail
  go_ret
  exact⟨ret_int (by rw [hres.o]),by rw [hres.o];exact hh.o.fr0 F2h.o,F2h.o.nil⟩
 |true=>
  have hres:=zh (show dropM s b=(adel s b,0) by unfold dropM;rw [if_pos hisb.o])
  have hM2h:=zh hM2
  clear hM2
  go_upto_region 7 with(refine wpList_map_del hM2h.o kStr uMsf s rfl rfl rfl rfl ?_;intro w3 hm ht)
  have F3:Fr [mb] W2 w3:=ht.fr
  have hbk:=zh (bk_adel l hl2h.o hm (fun q hq=>(hl3h.o q hq).fr F2h.o.nil) F3 hh.o.hmb)
  have FT:=zh (F2h.o.nil.trans F3)
  clear hm ht F3 e0 hpl
  go_wp2_with fail
  go_ret
  refine⟨ret_int (by rw [hres.o]),?_,FT.o⟩
  rw [hres.o]
  exact⟨hh.o.hp.fr FT.o (by simp;exact hh.o.hne),hbk.o,adel_ok hh.o.ok,fun g hg=>Nat.lt_of_lt_of_le (hh.o.hX g hg) FT.o.size,hh.o.hmb,hh.o.hne⟩
end Go.Proofs.YtdeoinjjphdbmaaGreat
namespace Go.Proofs.YtdeoinjjphdbmaaGreat
open Go.RowKit Go.Sig
theorem wout_none {b:GBk}(hb:BkOk b) {s:ByteArray}(h:(aget s b).isSome=false):woutM s (famsM b)=famsM b:=by
 unfold woutM
 refine List.filter_eq_self.2 fun f hf=> ?_
 have h1:=(mem_famsM hb).1 hf
 simp only [Bool.not_eq_true',decide_eq_false_iff_not]
 rintro rfl
 rw [h1]at h
 cases h
theorem fams_drop {b:GBk}(hb:BkOk b) (s:ByteArray):famsM (dropM s b).1=woutM s (famsM b):=by
 unfold dropM
 split
 ·exact fams_del hb (adel_ok hb)
 ·rename_i h
  exact(wout_none hb (by simpa using h)).symm
theorem fams_put {room:Int}{f:GFam}{b:GBk}(hb:BkOk b) (h:(putM room f b)=(aset f.id f b,0)):famsM (aset f.id f b)=dWith f (famsM b):=by
 have h1:=put_ok (room:=room) (f:=f) hb
 rw [h]at h1
 exact fams_set hb rfl h1
theorem put_len {room:Int}{f:GFam}{b:GBk}:(putM room f b).1.length≤b.length+1:=by
 unfold putM
 split
 ·exact Nat.le_succ _
 ·split
  ·exact Nat.le_succ _
  ·show(aset f.id f b).length≤_
   rw [length_aset]
   split<;>omega
theorem fams_le {b:GBk}(hb:BkOk b) {l:List FA}(h:l.map (·.f)=famsM b):l.length=b.length:=by
 have h1:=congrArg List.length h
 rwa [List.length_map,famsM_length _ hb]at h1
theorem drop_len {s:ByteArray}{b:GBk}:(dropM s b).1.length≤b.length:=by
 unfold dropM
 split
 ·exact length_adel_le
 ·exact Nat.le_refl _
theorem blk_cell0 {w:World}{g:Nat}{t:TypeId}{x:FA}(h:Blk w g t x.cells):w.cell? ⟨g,0,none⟩=some (.string x.f.id):=(fam_cells h).1
theorem blk_range2 {w:World}{g:Nat}{t:TypeId}{a b:Value}(h:Blk w g t #[a,b]):w.rangeAt g 0 [a,b]:=range_cells h
set_option maxRecDepth 100000 in
set_option maxHeartbeats 8000000 in
theorem gputs_t (w:World) (n:Int) (A:Option Addr) (m k:Nat) (l:List CA) (x:FA) (id:ByteArray) (h:CmdsIn w A m l) (hx:FamIn w [] x) (hz:FamSz x):
  Calls Tryz.prog 10 #[.int .i64 n,.slice A m k,x.val,.string id] w fun e w'=>e= .returned (.bool true)∧Fr [] w w':=by
 have hh:=zh h
 have hxh:=zh hx
 have hzh:=zh hz
 clear h hx hz
 unfold FA.val
 go_enter Tryz.func10,Tryz.ntmps10
 go_upto_region 1 with(fail)
 refine wp_gen (fun W=>Blk W w.heap.size 39 x.cells∧Fr [] w W) ⟨Blk.new _ _ _,(Fr.refl _ _).alloc _⟩ ?_
 rintro W0 ⟨hB,f0⟩
 obtain⟨g6,HG6⟩:∃z,Hid (w.heap.size=z):=⟨_,zh rfl⟩
 rw [HG6.o]at hB⊢
 have hrun:=grun_t W0 n A m k l (hh.o.fr f0)
 have hg6:=zh hB.lt
 have hBh:=zh hB
 have F0h:=zh f0
 clear hB f0
 go_wp2_with fail
 refine Calls.mono (show Calls Tryz.prog 27 _ _ _ from hrun) ?_
 rintro e W1 ⟨p,mb,c',b,A',l',rfl,hB,hR,hb60,hmw,hpw,F1⟩
 clear hrun
 obtain⟨rm,hrm⟩:∃z,Hid (roomM n=z):=⟨_,zh rfl⟩
 rw [hrm.o]at hB⊢
 go_upto_region 2 with(refine wpList_store_row rfl 50 _ _ rfl W1.heap.size _ rfl rfl 50 _ (Blk.new _ _ _) infoRb (by rfl) (by kernel_rfl) ?_)
 refine wp_gen (fun V=>Blk V W1.heap.size 50 #[.slice A' l'.length c',.int .i64 rm]∧Fr [] W1 V) ⟨Blk.setRow (Blk.new _ _ _) _,((Fr.refl [] W1).alloc _).setRow (.inr (Nat.le_refl _)) _⟩ ?_
 rintro WB ⟨h8,F2⟩
 obtain⟨g8,HG8⟩:∃z,Hid (W1.heap.size=z):=⟨_,zh rfl⟩
 rw [HG8.o]at h8⊢
 have hmb1:mb<W1.heap.size:=hB.hb.lt
 have hmb0:w.heap.size≤mb:=by have:=F0h.o.size;omega
 have hp8:=zh (show p≠g8 by have:=hB.hp.lt;have:=HG8.o;omega)
 have hne:=zh (show g6≠mb∧g6≠g8∧g8≠mb∧w.heap.size≤g8 by have:=hg6.o;have:=HG8.o;have:=F1.size;have:=F0h.o.size;omega)
 have hY8:∀g∈ [mb,g8],g∈ [mb]∨W1.heap.size≤g:=fun g hg=>by
  simp only [List.mem_cons,List.not_mem_nil,or_false]at hg⊢
  rcases hg with rfl |rfl
  ·exact .inl rfl
  ·exact .inr (Nat.le_of_eq HG8.o)
 have hYw:∀g∈ [mb,g8],g∈([]:List Nat)∨w.heap.size≤g:=fun g hg=>by
  simp only [List.mem_cons,List.not_mem_nil,or_false]at hg
  have:=hne.o
  rcases hg with rfl |rfl<;>exact .inr (by omega)
 have hYlt:∀g∈ [mb,g8],g<WB.heap.size:=fun g hg=>by
  simp only [List.mem_cons,List.not_mem_nil,or_false]at hg
  have:=h8.lt
  have:=F2.size
  rcases hg with rfl |rfl<;>omega
 have hYh:=zh hYlt
 have FB:=zh (F0h.o.trans (F1.trans F2))
 have hBk:=zh (show BookAt WB p mb rm [mb,g8] b from hB.more (Y:= [g8]) F2 (fun g hg=>by simp at hg;rw [hg];exact⟨Nat.le_of_eq HG8.o,h8.lt⟩))
 have hL:=zh (hR.hL.to (Y:= [mb,g8]) F2.nil hY8)
 have hm:=zh hR.hb
 have ok:=zh hR.ok
 have hx0:=zh (hxh.o.to (Y:= [mb,g8]) FB.o hYw)
 have hB6:=zh (hBh.o.fr (F1.trans F2) (by simp))
 have hll:l'.length=b.length:=fams_le hR.ok hR.hb
 obtain⟨nn,hnn⟩:∃z,Hid (l'.length=z):=⟨_,zh rfl⟩
 rw [hnn.o]at h8 hll
 have hllh:=zh hll
 have hn60:=zh (show nn≤60 by omega)
 have h8h:=zh h8
 have hmw0:=zh (show w.heap.size≤mb from hmb0)
 have hkn:=known_t WB
 clear hB hR F1 F2 h8 hll hb60 hY8 hYw hYlt hmw hpw hmb1 hmb0
 go_wp2_with fail
 refine Calls.mono (show Calls Tryz.prog 17 _ _ _ from hkn) ?_
 rintro e V ⟨rfl,GV⟩
 have FV:=zh (FB.o.trans GV)
 have hBkV:=zh (hBk.o.fr0 GV)
 have hLV:=zh (hL.o.fr GV.nil)
 have hxV:=zh (hx0.o.fr GV.nil)
 have hB6V:=zh (hB6.o.fr GV (by simp))
 have h8V:=zh (h8h.o.fr GV (by simp))
 have hYV:=zh (show∀g∈ [mb,g8],g<V.heap.size from fun g hg=>Nat.lt_of_lt_of_le (hYh.o g hg) GV.size)
 obtain⟨y0,y1,y2,b3,y4,y5,y6,y7,b8,y9,b10,hbl⟩:=fam_cells hB6V.o
 clear y0 y1 y2 y4 y5 y6 y7 y9
 have hkn2:=known_t V
 clear hkn GV hBk hL hx0 hB6 h8h hYh
 by_cases k1:100<x.ts.length
 ·have d1:decide (100<(x.ts.length:Int))=true:=decide_eq_true (by omega)
  clear k1
  go_wp2_with fail
  refine Calls.mono (show Calls Tryz.prog 17 _ _ _ from hkn2) ?_
  rintro e V9 ⟨rfl,G9⟩
  have G9h:=zh (FV.o.trans G9)
  clear hkn2 G9
  go_wp2_with fail
  go_ret
  exact⟨rfl,G9h.o⟩
 have d1:decide (100<(x.ts.length:Int))=false:=decide_eq_false (by omega)
 by_cases k2:100<x.f.scope.length
 ·have d2:decide (100<(x.f.scope.length:Int))=true:=decide_eq_true (by omega)
  clear k1 k2
  go_wp2_with fail
  refine Calls.mono (show Calls Tryz.prog 17 _ _ _ from hkn2) ?_
  rintro e V9 ⟨rfl,G9⟩
  have G9h:=zh (FV.o.trans G9)
  clear hkn2 G9
  go_wp2_with fail
  go_ret
  exact⟨rfl,G9h.o⟩
 have d2:decide (100<(x.f.scope.length:Int))=false:=decide_eq_false (by omega)
 by_cases k3:100<x.f.leases.length
 ·have d3:decide (100<(x.f.leases.length:Int))=true:=decide_eq_true (by omega)
  clear k1 k2 k3
  go_wp2_with fail
  refine Calls.mono (show Calls Tryz.prog 17 _ _ _ from hkn2) ?_
  rintro e V9 ⟨rfl,G9⟩
  have G9h:=zh (FV.o.trans G9)
  clear hkn2 G9
  go_wp2_with fail
  go_ret
  exact⟨rfl,G9h.o⟩
 have d3:decide (100<(x.f.leases.length:Int))=false:=decide_eq_false (by omega)
 have hks:=zh (show x.f.scope.length≤100∧x.ts.length≤100 by omega)
 clear k1 k2 k3 hkn2
 go_upto_block 0 with(fail)
 obtain⟨tn,hm3⟩:∃z,Hid (x.ts.length=z):=⟨_,zh rfl⟩
 obtain⟨tA,htA⟩:∃z,Hid (x.tA=z):=⟨_,zh rfl⟩
 rw [hm3.o,htA.o]at b8
 have hm100:tn≤100:=by have:=hks.o.2;have:=hm3.o;omega
 go_cut [12]from 47 to 65 (fun s12 wx=>(∀t∈x.ts,t.tok.scope.length≤100)∧V=wx)
 case first=>
  go_wp2_with fail
  go_loopg [12] (tn+1) (fun gk s12 wr=>∃(i:Nat),s12= .int .i64 i∧i≤tn∧tn - i<gk∧(∀j (h:j<x.ts.length),j<i→x.ts[j].tok.scope.length≤100)∧V=wr)
  case atStart=>exact⟨0,rfl,by omega,by omega,fun j _ h=>absurd h (by omega),rfl⟩
  case round=>
   obtain⟨i,rfl,hi,hk,hall,rfl⟩:=hrel
   have hallh:=zh hall
   clear hall
   by_cases hlt:i<tn
   ·have hlt':(i:Int)<tn:=by omega
    have hlth:=zh hlt
    obtain⟨t,tb,tof,eA,hti,htr⟩:=TA.row hxV.o.toks.1 rfl (by rw [hm3.o];exact hlt)
    rw [htA.o]at eA
    subst eA
    have t1:=htr 1 (.slice t.A t.tok.scope.length t.c) rfl
    have htih:=zh hti
    clear hti htr
    by_cases kt:100<t.tok.scope.length
    ·have dt:decide (100<(t.tok.scope.length:Int))=true:=decide_eq_true (by omega)
     clear kt
     go_wp2_with fail
     go_ret
     exact⟨rfl,FV.o⟩
    ·have dt:decide (100<(t.tok.scope.length:Int))=false:=decide_eq_false (by omega)
     have hkt:=zh (show t.tok.scope.length≤100 by omega)
     clear kt
     go_wp2_with fail
     go_roundg (tn - i)
     case measure=>have:=hlth.o;omega
     case rel=>
      refine⟨i+1,by go_num,by have:=hlth.o;omega,by have:=hlth.o;omega,fun j h hj=> ?_,rfl⟩
      by_cases e:j=i
      ·subst e
       have h2:=htih.o
       rw [List.getElem?_eq_getElem h]at h2
       rw [Option.some.inj h2]
       exact hkt.o
      ·exact hallh.o j h (by omega)
   ·have hge:¬(i:Int)<tn:=by omega
    have hfin:=zh (show∀t∈x.ts,t.tok.scope.length≤100 from fun t ht=>by
     obtain⟨j,hj,rfl⟩:=List.mem_iff_getElem.1 ht
     exact hallh.o j hj (by have:=hm3.o;omega))
    clear hlt hk
    go_wp2_with fail
    go_meet
    case rel=>exact⟨hfin.o,rfl⟩
 case rest=>
  obtain⟨htk,rfl⟩:=hcut
  have htkh:=zh htk
  have i0:V.cell? ⟨g6,0,none⟩=some (.string x.f.id):=blk_cell0 hB6V.o
  have h8v:=h8V.o
  have hget:=rget_t V [] A' nn c' rm l' x.f.id (by have:=hLV.o.mono (Y:= []) (by simp);rwa [hnn.o]at this) (by have:=hn60.o;omega)
  rw [hm.o]at hget
  unfold GetPost at hget
  rw [dGet_fams ok.o]at hget
  obtain⟨is,his⟩:∃z,Hid ((aget x.f.id b).isSome=z):=⟨_,zh rfl⟩
  rw [his.o]at hget
  clear htk b3 b8 b10
  go_wp2_with (refine wpList_load_at rfl 50 _ rfl rfl h8v (sub_self _) uRb rfl infoRbL ?_;rw [Array.toArray_toList])
  refine Calls.mono (show Calls Tryz.prog 32 _ _ _ from hget) ?_
  rintro e V4 ⟨z,rfl,hz,hzin,G4⟩
  unfold FA.val
  clear hget hz hzin
  go_upto_region 10 with(refine wpList_store_row rfl 39 _ _ rfl V4.heap.size z.cells rfl rfl 39 _ (Blk.new _ _ _) (infoFamA z) (by rw [FA.size11];rfl) (FA.all1 z) ?_)
  refine wp_gen (fun W=>Fr [] V4 W) (((Fr.refl [] V4).alloc _).setRow (.inr (Nat.le_refl _)) _) ?_
  rintro V5 G5
  have F5:=zh (FV.o.trans (G4.trans G5))
  have F5V:=zh (G4.trans G5)
  have hput:=put_t V5 p mb rm [mb,g8] b x (hBkV.o.fr0 F5V.o) (hxh.o.fr F5.o) hzh.o
  have hB65:=hB6V.o.fr F5V.o (by simp)
  obtain⟨pb,hpb⟩:∃z,Hid (putM rm x.f b=z):=⟨_,zh rfl⟩
  rw [hpb.o]at hput
  clear G4 G5 i0 h8v
  go_wp2_with (refine wpList_load_at rfl 39 _ rfl rfl hB65 (sub_self _) uFam rfl (infoFamL _) ?_;rw [Array.toArray_toList])
  refine Calls.mono (show Calls Tryz.prog 34 _ _ _ from hput) ?_
  rintro e V6 ⟨rfl,hBk6,G6⟩
  have hBk6h:=zh hBk6
  have F6:Fr [] w V6:=F5.o.andThen G6 (fun g hg=> .inr (by simp at hg;have:=hmw0.o;omega))
  have F6h:=zh F6
  have hS6:∀g∈ [mb],g∈ [mb,g8]:=by simp
  have hL6:=zh ((hLV.o.fr F5V.o.nil).fr (G6.mono hS6))
  have hx6:=zh ((hxV.o.fr F5V.o.nil).fr (G6.mono hS6))
  have hB66:=zh (hB65.fr G6 (by simp;exact hne.o.1))
  have h86:=zh ((h8V.o.fr F5V.o (by simp)).fr G6 (by simp;exact hne.o.2.2.1))
  have hY6:=zh (show∀g∈ [mb,g8],g<V6.heap.size from fun g hg=>Nat.lt_of_lt_of_le (hYV.o g hg) (Nat.le_trans F5V.o.size G6.size))
  clear hput hBk6 F6 hS6 G6 hB65 hbl
  obtain⟨e15,he15⟩:∃z,Hid (pb.2=z):=⟨_,zh rfl⟩
  rw [he15.o]
  go_upto_block 2 with(fail)
  go_cut []from 76 to 99 (fun wx=>∃A2 c2 l2,BookAt wx p mb rm [mb,g8] pb.1∧Blk wx g8 50 #[.slice A2 (List.length l2) c2,.int .i64 rm]∧FamsIn wx [mb,g8] A2 (List.length l2) l2∧l2.map (·.f)=famsM pb.1∧Fr [] w wx∧V6.heap.size≤wx.heap.size)
  case first=>
   have hB6v:=hB66.o
   have hri:=rright_t V6 x (hx6.o.mono (Y:= []) (by simp)) hzh.o ⟨by have:=hks.o.1;omega,fun t ht=>by have:=htkh.o t ht;omega⟩
   obtain⟨rv,hrv⟩:∃z,Hid (rightM x.f=z):=⟨_,zh rfl⟩
   rw [hrv.o]at hri
   cases rv with
   |false=>
    have hp1:pb=(b,1):=by rw [←hpb.o];unfold putM;rw [if_pos hrv.o]
    subst hp1
    obtain rfl:=he15.o
    dsimp only
    go_wp2_with (refine wpList_load_at rfl 39 _ rfl rfl hB6v (sub_self _) uFam rfl (infoFamL _) ?_;rw [Array.toArray_toList])
    refine Calls.mono (show Calls Tryz.prog 25 _ _ _ from hri) ?_
    rintro e V7 ⟨rfl,G7⟩
    clear hri hB6v
    go_wp2_with fail
    go_meet
    exact⟨A',c',l',hBk6h.o.fr0 G7,by rw [hnn.o];exact h86.o.fr G7 (by simp),hL6.o.fr G7.nil,hm.o,F6h.o.trans G7,G7.size⟩
   |true=>
    go_wp2_with (refine wpList_load_at rfl 39 _ rfl rfl hB6v (sub_self _) uFam rfl (infoFamL _) ?_;rw [Array.toArray_toList])
    refine Calls.mono (show Calls Tryz.prog 25 _ _ _ from hri) ?_
    rintro e V7 ⟨rfl,G7⟩
    have h87:=h86.o.fr G7 (by simp)
    have hB67:=hB66.o.fr G7 (by simp)
    have c0:=h87.cell 0
    have c1:=h87.cell 1
    simp only [zG,zH,zI]at c0 c1
    have h87l:=h87.lt
    have G7h:=zh G7
    have h87h:=zh h87
    have hB67h:=zh hB67
    clear hri hB6v G7 h87 hB67
    by_cases hfull:is=false∧rm≤(nn:Int)
    ·have hp1:pb=(b,8):=by rw [←hpb.o];unfold putM;rw [if_neg (by rw [hrv.o];decide),if_pos (by rw [his.o,←hllh.o];exact hfull)]
     subst hp1
     obtain rfl:=he15.o
     obtain⟨rfl,hle⟩:=hfull
     have hd:decide (rm≤(nn:Int))=true:=decide_eq_true hle
     clear hle
     dsimp only
     go_wp2_with fail
     go_meet
     exact⟨A',c',l',hBk6h.o.fr0 G7h.o,by rw [hnn.o];exact h87h.o,hL6.o.fr G7h.o.nil,hm.o,F6h.o.trans G7h.o,G7h.o.size⟩
    ·have hpe:putM rm x.f b=(aset x.f.id x.f b,0):=by unfold putM;rw [if_neg (by rw [hrv.o];decide),if_neg (by rw [his.o,←hllh.o];exact hfull)]
     have hp1:pb=(aset x.f.id x.f b,0):=by rw [←hpb.o];exact hpe
     have hfm:=zh (fams_put ok.o hpe)
     have hdd:is=true∨(is=false∧decide (rm≤(nn:Int))=false):=by
      cases is with
      |true=>exact .inl rfl
      |false=>exact .inr ⟨rfl,decide_eq_false fun h=>hfull ⟨rfl,h⟩⟩
     have hxs:=fam_short (hx6.o.mono (Y:= []) (by simp)) (.inl (rightM_ok.1 hrv.o))
     have hwith:=rwith_t V7 [mb,g8] A' nn c' rm l' x (by have:=hL6.o.fr G7h.o.nil;rwa [hnn.o]at this) (hx6.o.fr G7h.o.nil) hxs (fun g hg=>Nat.lt_of_lt_of_le (hY6.o g hg) G7h.o.size) (by have:=hn60.o;omega)
     rw [hm.o,←hfm.o]at hwith
     have hwh:=zh hwith
     clear hwith hxs hpe hfull
     subst hp1
     obtain rfl:=he15.o
     dsimp only
     rcases hdd with rfl | ⟨rfl,hd⟩
     ·go_wp2_with (first
       | (refine wpList_load_at rfl 50 _ rfl rfl h87h.o (sub_self _) uRb rfl infoRbL ?_;rw [Array.toArray_toList])
       | (refine wpList_load_at rfl 39 _ rfl rfl hB67h.o (sub_self _) uFam rfl (infoFamL _) ?_;rw [Array.toArray_toList]))
      refine Calls.mono (show Calls Tryz.prog 35 _ _ _ from hwh.o) ?_
      rintro e V8 ⟨A2,c2,l2,rfl,hL2,hm2,G8⟩
      have h88:=h87h.o.fr G8 (by simp)
      go_wp2_with (refine wpList_store_row rfl 50 _ _ rfl g8 _ rfl rfl 50 _ h88 infoRb (by rfl) (by kernel_rfl) ?_)
      go_meet
      have FS:Fr [g8] V8 (V8.setRow g8 #[.slice A2 (List.length l2) c2,.int .i64 rm]):=(Fr.refl [g8] V8).setRow (.inl (by simp)) _
      have hS8:∀g∈ [g8],g∈ [mb,g8]:=by simp
      exact⟨A2,c2,l2,(hBk6h.o.fr0 (G7h.o.trans G8)).fr FS (fun g hg=> .inl (hS8 g hg)) (by simp;exact fun h=>hne.o.2.2.1 h.symm) (by simp;exact hp8.o),Blk.setRow h88 _,hL2.fr (FS.mono hS8),hm2,(F6h.o.trans (G7h.o.trans G8)).andThen FS (fun g hg=> .inr (by simp at hg;rw [hg];exact hne.o.2.2.2)),by have:=FS.size;have:=G8.size;have:=G7h.o.size;omega⟩
     ·go_wp2_with (first
       | (refine wpList_load_at rfl 50 _ rfl rfl h87h.o (sub_self _) uRb rfl infoRbL ?_;rw [Array.toArray_toList])
       | (refine wpList_load_at rfl 39 _ rfl rfl hB67h.o (sub_self _) uFam rfl (infoFamL _) ?_;rw [Array.toArray_toList]))
      refine Calls.mono (show Calls Tryz.prog 35 _ _ _ from hwh.o) ?_
      rintro e V8 ⟨A2,c2,l2,rfl,hL2,hm2,G8⟩
      have h88:=h87h.o.fr G8 (by simp)
      go_wp2_with (refine wpList_store_row rfl 50 _ _ rfl g8 _ rfl rfl 50 _ h88 infoRb (by rfl) (by kernel_rfl) ?_)
      go_meet
      have FS:Fr [g8] V8 (V8.setRow g8 #[.slice A2 (List.length l2) c2,.int .i64 rm]):=(Fr.refl [g8] V8).setRow (.inl (by simp)) _
      have hS8:∀g∈ [g8],g∈ [mb,g8]:=by simp
      exact⟨A2,c2,l2,(hBk6h.o.fr0 (G7h.o.trans G8)).fr FS (fun g hg=> .inl (hS8 g hg)) (by simp;exact fun h=>hne.o.2.2.1 h.symm) (by simp;exact hp8.o),Blk.setRow h88 _,hL2.fr (FS.mono hS8),hm2,(F6h.o.trans (G7h.o.trans G8)).andThen FS (fun g hg=> .inr (by simp at hg;rw [hg];exact hne.o.2.2.2)),by have:=FS.size;have:=G8.size;have:=G7h.o.size;omega⟩
  case rest=>
   obtain⟨A2,c2,l2,hB2,h82,hL2,hm2,F2,hsz2⟩:=hcut
   have okp:BkOk pb.1:=by rw [←hpb.o];exact put_ok ok.o
   have hl61:pb.1.length≤61:=by have:=put_len (room:=rm) (f:=x.f) (b:=b);rw [hpb.o]at this;have:=hllh.o;have:=hn60.o;omega
   obtain⟨b2,hb2⟩:∃z,Hid (pb.1=z):=⟨_,zh rfl⟩
   rw [hb2.o]at hB2 hm2 okp hl61
   have hlen2:=fams_le okp hm2
   obtain⟨n2,hn2⟩:∃z,Hid (List.length l2=z):=⟨_,zh rfl⟩
   rw [hn2.o]at h82 hL2 hlen2
   have hn2le:=zh (show n2≤61 by omega)
   have hb2le:=zh hl61
   have hB2h:=zh hB2
   have h82h:=zh h82
   have hL2h:=zh hL2
   have hm2h:=zh hm2
   have okh:=zh okp
   have F2h:=zh F2
   clear hB2 h82 hL2 hm2 okp hl61 hlen2 F2 hsz2
   have hSall:=zh (show∀v:World,Fr [] wc v→v.cell? ⟨g8,0,none⟩=some (.slice A2 n2 c2)from fun v hv=>(h82h.o.fr hv (by simp)).cell 0)
   go_upto_region 20 with(fail)
   have fy0:Fr [] wc (World.drew wc):=(Fr.refl [] wc).drew
   refine wp_region_z (fun w'=>w'.cell? ⟨g8,0,none⟩=some (.slice A2 n2 c2)) [] (by kernel_rfl) (hSall.o _ (Fr.refl _ _).drew) ?_
   intro hHeld
   refine wpZ_tk (i:=0) (v:= ?_) hHeld ?_ ?_
   rotate_left
   ·(intro w hSw;go_simp<;>with_reducible rfl)
   try simp only [zA,zC,Act.put,zD,zE,zF]
   refine wpZ_tk (i:=2) (v:= ?_) hHeld ?_ ?_
   rotate_left
   ·(intro w hSw;go_simp<;>with_reducible rfl)
   try simp only [zA,zB,zC,Act.put,zD,zE,zF]
   refine wpZ_tk (i:=3) (v:= ?_) hHeld ?_ ?_
   rotate_left
   ·(intro w hSw;go_simp<;>with_reducible rfl)
   try simp only [zA,zB,zC,Act.put,zD,zE,zF]
   refine wpZ_one (i:=1) (by kernel_rfl) rfl (fun K hK=> ?_)
   go_simp
   refine Calls.mono (show Calls Tryz.prog 19 _ _ _ from fams_t (World.drew wc) p mb rm [mb,g8] b2 (hB2h.o.fr0 fy0) (by have:=hb2le.o;omega)) ?_
   rintro e Y1 ⟨la,Aa,ca,rfl,ha1,ha2,G1⟩
   have fy1:=fy0.trans G1
   have hlan:la.length=n2:=by
    have h1:=fams_le okh.o ha1
    have h2:=fams_le okh.o hm2h.o
    have:=hn2.o
    omega
   have hla:=zh (show FamsIn Y1 [] Aa n2 la by have:=ha2.read (X:= []) okh.o ha1 (by simp);rwa [hlan]at this)
   have hlm:=zh (ha1.trans hm2h.o.symm)
   rw [hlan]
   clear ha1 ha2 hlan
   try dsimp only
   refine hK.out _ _ (hSall.o _ fy1) (fun hHeld=> ?_)
   clear hK K
   try simp only [zA,zB,zC,Act.put,zD,zE,zF]
   refine wpZ_one (i:=4) (by kernel_rfl) rfl (fun K hK=> ?_)
   go_simp
   refine Calls.mono (show Calls Tryz.prog 22 _ _ _ from rall_t Y1 Aa A2 n2 ca c2 la l2 hla.o ((hL2h.o.fr fy1.nil).mono (by simp)) hlm.o (by have:=hn2le.o;omega)) ?_
   rintro e Y2 ⟨rfl,G2⟩
   have fy2:=fy1.trans G2
   try dsimp only
   refine hK.out _ _ (hSall.o _ fy2) (fun hHeld=> ?_)
   clear hK K
   try simp only [zA,zB,zC,Act.put,zD,zE,zF]
   refine wpZ_tk (i:=5) (v:= ?_) hHeld ?_ ?_
   rotate_left
   ·(intro w hSw;go_simp<;>with_reducible rfl)
   try simp only [zA,zB,zC,Act.put,zD,zE,zF]
   refine wpZ_done (by kernel_rfl) ?_ _
   go_upto_region 22 with(fail)
   refine wp_gen (fun v=>Fr [] wc v) fy2 ?_
   clear hHeld
   rintro X2 FX
   have FXh:=zh FX
   have h8x:=h82h.o.fr FX (by simp)
   have hget:=rget_t X2 [] A2 n2 c2 rm l2 id ((hL2h.o.fr FX.nil).mono (by simp)) (by have:=hn2le.o;omega)
   rw [hm2h.o]at hget
   unfold GetPost at hget
   rw [dGet_fams okh.o]at hget
   obtain⟨is2,his2⟩:∃z,Hid ((aget id b2).isSome=z):=⟨_,zh rfl⟩
   rw [his2.o]at hget
   clear FX
   go_wp2_with (refine wpList_load_at rfl 50 _ rfl rfl h8x (sub_self _) uRb rfl infoRbL ?_;rw [Array.toArray_toList])
   refine Calls.mono (show Calls Tryz.prog 32 _ _ _ from hget) ?_
   rintro e X3 ⟨z2,rfl,hz2,hzin2,G3⟩
   have F3h:=zh (FXh.o.trans G3)
   have hdrop:=drop_t X3 p mb rm [mb,g8] b2 id (hB2h.o.fr0 F3h.o)
   clear hget h8x hz2 hzin2 G3
   unfold FA.val
   go_wp2_with fail
   refine Calls.mono (show Calls Tryz.prog 36 _ _ _ from hdrop) ?_
   rintro e X4 ⟨rfl,hBk4,G4⟩
   have F4:Fr [mb] wc X4:=F3h.o.nil.trans G4
   have FT4:=zh (show Fr [] w X4 from F2h.o.andThen F4 (fun g hg=> .inr (by simp at hg;have:=hmw0.o;omega)))
   have h84h:=zh (h82h.o.fr F4 (by simp;exact hne.o.2.2.1))
   have hL4h:=zh (hL2h.o.fr (F4.mono (by simp)))
   have hBk4h:=zh hBk4
   have hdok:=zh (drop_ok (s:=id) okh.o)
   have hdle:=zh (show(dropM id b2).1.length≤61 by have:=drop_len (s:=id) (b:=b2);have:=hb2le.o;omega)
   have hfd:=zh (fams_drop okh.o id)
   have hdv:(dropM id b2).2=if is2=true then 0 else 7:=by unfold dropM;rw [his2.o];cases is2<;>rfl
   rw [hdv]
   obtain⟨e7,he7⟩:∃z:Int,Hid ((if is2=true then 0 else 7)=z):=⟨_,zh rfl⟩
   rw [he7.o]
   clear hdrop hBk4 F4 G4 hdv
   have hSall4:=zh (show∀v:World,Fr [] X4 v→v.rangeAt g8 0 [.slice A2 n2 c2,.int .i64 rm]from fun v hv=>blk_range2 (h84h.o.fr hv (by simp)))
   go_upto_region 24 with(fail)
   go_cut [126]from 115 to 125 (fun s126 wx=>s126= .bool false∧X4=wx)
   case first=>
    cases is2 with
    |true=>
     obtain rfl:e7=0:=by rw [←he7.o];rfl
     go_wp2_with fail
     go_meet
     exact⟨rfl,rfl⟩
    |false=>
     obtain rfl:e7=7:=by rw [←he7.o];rfl
     go_wp2_with fail
     go_meet
     exact⟨rfl,rfl⟩
   case rest=>
    obtain⟨rfl,rfl⟩:=hcut
    clear d1 d2 d3 hm100
    go_upto_region 26 with(fail)
    have fy0:Fr [] X4 (World.drew X4):=(Fr.refl [] X4).drew
    refine wp_region_z (fun w'=>w'.rangeAt g8 0 [.slice A2 n2 c2,.int .i64 rm]) [] (by kernel_rfl) (hSall4.o _ (Fr.refl _ _).drew) ?_
    intro hHeld
    refine wpZ_tk (i:=0) (v:= ?_) hHeld ?_ ?_
    rotate_left
    ·(intro w hSw;go_simp<;>with_reducible rfl)
    try simp only [zA,zC,Act.put,zD,zE,zF]
    refine wpZ_take (i:=2) rfl (by kernel_rfl) (by kernel_rfl) (by kernel_rfl) (by kernel_rfl) (fun _ _ _ h=>h) (yieldsIf_load_mid (by kernel_rfl) 50 _ rfl g8 0 rfl ([.slice A2 n2 c2,.int .i64 rm]) _ (fun w h=>h) uRb rfl (by kernel_rfl)) hHeld ?_
    try simp only [zA,zB,zC,Act.put,zD,zE,zF]
    refine wpZ_tk (i:=3) (v:= ?_) hHeld ?_ ?_
    rotate_left
    ·(intro w hSw;go_simp<;>with_reducible rfl)
    try simp only [zA,zB,zC,Act.put,zD,zE,zF]
    refine wpZ_one (i:=1) (by kernel_rfl) rfl (fun K hK=> ?_)
    go_simp
    refine Calls.mono (show Calls Tryz.prog 19 _ _ _ from fams_t (World.drew X4) p mb rm [mb,g8] (dropM id b2).1 (hBk4h.o.fr0 fy0) (by have:=hdle.o;omega)) ?_
    rintro e Y1 ⟨la,Aa,ca,rfl,ha1,ha2,G1⟩
    have fy1:=fy0.trans G1
    have hla:=zh (ha2.read (X:= []) hdok.o ha1 (by simp))
    have hlm:=zh (ha1.trans hfd.o)
    obtain⟨na,hna⟩:∃z,Hid (la.length=z):=⟨_,zh rfl⟩
    have hnale:=zh (show na≤61 by have h1:=fams_le hdok.o ha1;have:=hdle.o;have:=hna.o;omega)
    rw [hna.o]at hla⊢
    clear ha1 ha2
    try dsimp only
    refine hK.out _ _ (hSall4.o _ fy1) (fun hHeld=> ?_)
    clear hK K
    try simp only [zA,zB,zC,Act.put,zD,zE,zF]
    refine wpZ_one (i:=4) (by kernel_rfl) rfl (fun K hK=> ?_)
    go_simp
    refine Calls.mono (show Calls Tryz.prog 21 _ _ _ from rwout_t Y1 [] A2 n2 c2 rm l2 id ((hL4h.o.fr fy1.nil).mono (by simp)) (by simp) (by have:=hn2le.o;omega)) ?_
    rintro e Y2 ⟨A3,c3,l3,rfl,hl3,hm3',G2⟩
    have fy2:=fy1.trans G2
    have hl3e:l3.length=na:=by
     have h1:=congrArg List.length hlm.o
     have h2:=congrArg List.length hm3'
     rw [hm2h.o]at h2
     rw [List.length_map]at h1 h2
     have:=hna.o
     omega
    rw [hl3e]at hl3⊢
    have hl3h:=zh hl3
    have hlm3:=zh (show la.map (·.f)=l3.map (·.f) by rw [hm3',hm2h.o];exact hlm.o)
    clear hl3 hm3' hl3e
    try dsimp only
    refine hK.out _ _ (hSall4.o _ fy2) (fun hHeld=> ?_)
    clear hK K
    try simp only [zA,zB,zC,Act.put,zD,zE,zF]
    refine wpZ_take (i:=5) (v:= .slice A3 na c3) rfl (by kernel_rfl) (by kernel_rfl) (by kernel_rfl) (by kernel_rfl) (fun _ _ _ h=>h) (Or.inl ⟨by rfl,fun w hSw=> ?_⟩) hHeld ?_
    ·have hfl:(Instr.field 50 (.agg #[.slice A3 na c3,.int .i64 rm]) 0).run Tryz.prog w= .ok (.slice A3 na c3) w:=by kernel_rfl
     clear hSw
     go_simp
    try simp only [zA,zB,zC,Act.put,zD,zE,zF]
    refine wpZ_one (i:=6) (by kernel_rfl) rfl (fun K hK=> ?_)
    go_simp
    refine Calls.mono (show Calls Tryz.prog 22 _ _ _ from rall_t Y2 Aa A3 na ca c3 la l3 (hla.o.fr G2.nil) hl3h.o hlm3.o (by have:=hnale.o;omega)) ?_
    rintro e Y3 ⟨rfl,G3⟩
    have fy3:=fy2.trans G3
    try dsimp only
    refine hK.out _ _ (hSall4.o _ fy3) (fun hHeld=> ?_)
    clear hK K
    try simp only [zA,zB,zC,Act.put,zD,zE,zF]
    refine wpZ_tk (i:=7) (v:= ?_) hHeld ?_ ?_
    rotate_left
    ·(intro w hSw;go_simp<;>with_reducible rfl)
    try simp only [zA,zB,zC,Act.put,zD,zE,zF]
    refine wpZ_done (by kernel_rfl) ?_ _
    clear hHeld
    go_wp2_with fail
    go_ret
    exact⟨rfl,FT4.o.trans fy3⟩
end Go.Proofs.YtdeoinjjphdbmaaGreat
