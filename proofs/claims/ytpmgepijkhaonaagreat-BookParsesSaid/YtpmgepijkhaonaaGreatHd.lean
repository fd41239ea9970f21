/- Walk: a code is redeemed. Conditions: each theorem's own. -/
import Derived.Test.YtpmgepijkhaonaaGreatHb
namespace Go.Proofs.YtpmgepijkhaonaaGreat
open Go.RowKit Go.Sig
set_option maxRecDepth 100000 in
set_option maxHeartbeats 4000000 in
theorem redeem_t {w0 w:World}{p mb:Nat}{room:Int}{X:List Nat}{b:GBk}{c:GCmd}{A:Option Addr}{n d:Nat}{x:FA}{is:Bool}(h:Br w0 w p mb room X b c A n d x is):
  Calls Tryz.prog 128 #[.pointer (some ⟨p,0,none⟩),.agg (cmdV c A n d),x.val,.bool is] w (AnsPost w0 mb X (redeemM c b)):=by
 have hh:=zh h;clear h;unfold cmdV FA.val FA.cells;have hzs:∃zs:Array Value,zs.size=8∧Hid (zs=(AA.mk (noA 0) none 0).cells):=⟨_,rfl,zh rfl⟩
 obtain⟨zs,hz,hzh⟩:=hzs;go_enter Tryz.func128,Tryz.ntmps128;go_upto_block 0 with(fail)
 refine wp_gen (fun W=>Blk W w.heap.size 70 (cmdV c A n d)∧Blk W (w.heap.size+1) 26 x.cells∧Blk W (w.heap.size+1+1) 67 zs∧Fr [] w W) ⟨((Blk.new _ _ _).alloc _).alloc _,(Blk.new' _ _ (by simp)).alloc _,by rw [hzh.o];exact Blk.new' _ _ (by simp),(((Fr.refl _ _).alloc _).alloc _).alloc _⟩ ?_;rintro W ⟨hC,hB,hR,fW⟩;obtain⟨gc,HGC⟩:∃z,Hid (w.heap.size=z):=⟨_,zh rfl⟩
 have hgw:w.heap.size≤gc:=by have:=HGC.o;omega
 rw [HGC.o]at hC hB hR⊢;obtain⟨gf,HGF⟩:∃z,Hid (gc+1=z):=⟨_,zh rfl⟩
 rw [HGF.o]at hB hR⊢;obtain⟨gr,HGR⟩:∃z,Hid (gf+1=z):=⟨_,zh rfl⟩
 rw [HGR.o]at hR⊢;have hfr:gf≠gr:=by have:=HGF.o;have:=HGR.o;omega
 have hcr:gc≠gr:=by have:=HGF.o;have:=HGR.o;omega
 have hcf:gc≠gf:=by have:=HGF.o;omega
 have hgf:w.heap.size≤gf:=by have:=HGF.o;omega
 have hgr:w.heap.size≤gr:=by have:=HGF.o;have:=HGR.o;omega
 have hYw:∀g∈ [gc,gf,gr],w.heap.size≤g:=fun g hg=>by simp only [List.mem_cons,List.not_mem_nil,or_false]at hg;omega
 obtain⟨hFO,hbY,hxY,hW,hP,F0⟩:=br_pre hh.o fW [gc,gf,gr] hYw;have hmw:mb<w0.heap.size:=hh.o.hb.lt;have hw0w:w0.heap.size≤w.heap.size:=hh.o.F0.size;have hgr0:w0.heap.size≤gr:=by omega
 have hCh:=zh hC;have hBh:=zh hB;have hRh:=zh hR;have hFOh:=zh hFO;have hbYh:=zh hbY;have hxYh:=zh hxY;have hWh:=zh hW;have hPh:=zh hP;have F0h:=zh F0;have fWh:=zh fW;have hrl:=hR.lt;have hYwh:=zh hYw;clear hC hR hFO hbY hxY hW hP F0 fW hYw;have hrl0:=hRh.o.lt;clear hB hrl;have hget:=zh hh.o.get;obtain⟨rv,hrv⟩:∃z,Hid (x.f.revoked=z):=⟨_,zh rfl⟩
 cases is with
 |false=>
  have hres:=zh (show redeemM c b=(b,noA 3) by unfold redeemM;rw [hget.o];rfl);have hno:=no_t W 3;go_wp2_with fail
  refine hno.mono ?_;rintro e N2 ⟨rfl,FN⟩;have F2h:=zh ((Fr.refl [] W).trans FN);have hRN:=hRh.o.fr FN (by simp);have hrlN:=hRN.lt;clear hno FN;unfold AA.val AA.cells noA;go_wp2_with (refine wpList_store_row rfl 67 _ _ rfl gr _ rfl rfl 67 zs hRN infoAns (by rw [hz];rfl) (by kernel_rfl) ?_)
  refine bodyPost_ret (results_cell_row rfl _ _ gr 67 _ (0,0) _ rfl (Blk.setRow hRN _) uAns rfl infoAns) rfl ?_;exact ans_no (a:=noA 3) (hbYh.o.fr F2h.o (by simp) (by simp)) (F0h.o.trans F2h.o).nil ((Fr.refl [gr] N2).setRow (.inl (by simp)) _) (fun g hg=>by simp at hg;rw [hg];exact⟨by simp,hgr0⟩) hmw rfl hres.o
 |true=>
  have hg:=zh (show aget c.family b=some x.f by rw [hget.o,if_pos rfl]);obtain⟨c0,c1,c2,c3,c4,c5,c6,c7,c8,c9,c10,hfl⟩:=fam_cells hBh.o;obtain⟨d0,d1,d2,d3,d4,d5,d6,d7,d8,d9,d10,d11,d12,hcl⟩:=cmdV_cells hCh.o;rw [hrv.o]at c9;cases rv with
  |true=>
   have hres:=zh (show redeemM c b=(b,noA 3) by unfold redeemM;rw [hg.o];simp only;rw [if_pos (.inl hrv.o)]);have hno:=no_t W 3;go_wp2_with fail
   refine hno.mono ?_;rintro e N2 ⟨rfl,FN⟩;have F2h:=zh ((Fr.refl [] W).trans FN);have hRN:=hRh.o.fr FN (by simp);have hrlN:=hRN.lt;clear hno FN;unfold AA.val AA.cells noA;go_wp2_with (refine wpList_store_row rfl 67 _ _ rfl gr _ rfl rfl 67 zs hRN infoAns (by rw [hz];rfl) (by kernel_rfl) ?_)
   refine bodyPost_ret (results_cell_row rfl _ _ gr 67 _ (0,0) _ rfl (Blk.setRow hRN _) uAns rfl infoAns) rfl ?_;exact ans_no (a:=noA 3) (hbYh.o.fr F2h.o (by simp) (by simp)) (F0h.o.trans F2h.o).nil ((Fr.refl [gr] N2).setRow (.inl (by simp)) _) (fun g hg=>by simp at hg;rw [hg];exact⟨by simp,hgr0⟩) hmw rfl hres.o
  |false=>
   by_cases hcl1:x.f.client=c.client
   ·have hcb:(x.f.client.toList==c.client.toList)=true:=by rw [toList_beq];simp [hcl1]
    have hcle:=zh hcl1;clear hcl1;by_cases h0:x.f.code=0
    ·have hb0:(x.f.code==0)=true:=by rw [beq_iff_eq];exact h0
     have hres:=zh (show redeemM c b=(b,noA 3) by unfold redeemM;rw [hg.o];simp only;rw [if_pos (.inr (.inr h0))]);clear h0;have hno:=no_t W 3;go_wp2_with fail
     refine hno.mono ?_;rintro e N2 ⟨rfl,FN⟩;have F2h:=zh ((Fr.refl [] W).trans FN);have hRN:=hRh.o.fr FN (by simp);have hrlN:=hRN.lt;clear hno FN;unfold AA.val AA.cells noA;go_wp2_with (refine wpList_store_row rfl 67 _ _ rfl gr _ rfl rfl 67 zs hRN infoAns (by rw [hz];rfl) (by kernel_rfl) ?_)
     refine bodyPost_ret (results_cell_row rfl _ _ gr 67 _ (0,0) _ rfl (Blk.setRow hRN _) uAns rfl infoAns) rfl ?_;exact ans_no (a:=noA 3) (hbYh.o.fr F2h.o (by simp) (by simp)) (F0h.o.trans F2h.o).nil ((Fr.refl [gr] N2).setRow (.inl (by simp)) _) (fun g hg=>by simp at hg;rw [hg];exact⟨by simp,hgr0⟩) hmw rfl hres.o
    ·have hb0:(x.f.code==0)=false:=by rw [beq_eq_false_iff_ne];exact h0
     have hc0:=zh h0;clear h0;by_cases h2:x.f.code=2
     ·have hb2:(x.f.code==2)=true:=by rw [beq_iff_eq];exact h2
      have hres:=zh (show redeemM c b=(fallM x.f b,noA 3) by unfold redeemM;rw [hg.o];simp only;rw [if_neg (show¬(x.f.revoked=true∨x.f.client≠c.client∨x.f.code=0) by rw [hrv.o,hcle.o];simp [hc0.o]),if_pos h2]);clear h2;have hfall:=fall_t W p mb room (X++ [gc,gf,gr]) b hPh.o hbYh.o x hxYh.o (List.mem_append.2 (.inl hh.o.hmb));have hBf:=hBh.o;go_wp2_with (refine wpList_load_at rfl 26 _ rfl rfl hBf (sub_self _) uFam rfl (infoFamL _) ?_;rw [Array.toArray_toList])
      refine hfall.mono ?_;rintro e W6 ⟨rfl,hb6,F6⟩;have hR6:=zh (hRh.o.fr F6 (by simp;omega));have hb6h:=zh hb6;have FT6:=zh (F0h.o.nil.trans F6);clear hb6 F6 hfall hBf;have hno:=no_t W6 3;go_wp2_with fail
      refine hno.mono ?_;rintro e N2 ⟨rfl,FN⟩;have F2h:=zh ((Fr.refl [] W6).trans FN);have hRN:=hR6.o.fr FN (by simp);have hrlN:=hRN.lt;clear hno FN;unfold AA.val AA.cells noA;go_wp2_with (refine wpList_store_row rfl 67 _ _ rfl gr _ rfl rfl 67 zs hRN infoAns (by rw [hz];rfl) (by kernel_rfl) ?_)
      refine bodyPost_ret (results_cell_row rfl _ _ gr 67 _ (0,0) _ rfl (Blk.setRow hRN _) uAns rfl infoAns) rfl ?_;exact ans_no (a:=noA 3) (hb6h.o.fr F2h.o (by simp) (by simp)) (FT6.o.trans F2h.o.nil) ((Fr.refl [gr] N2).setRow (.inl (by simp)) _) (fun g hg=>by simp at hg;rw [hg];exact⟨by simp,hgr0⟩) hmw rfl hres.o
     ·have hb2:(x.f.code==2)=false:=by rw [beq_eq_false_iff_ne];exact h2
      have hc2:=zh h2;clear h2;by_cases hr:x.f.redirect=c.redirect
      ·have hrb:(x.f.redirect.toList==c.redirect.toList)=true:=by rw [toList_beq];simp [hr]
       have hre:=zh hr;clear hr;by_cases hch:x.f.challenge.size=0
       ·have hcb2:x.f.challenge.toList.isEmpty=true:=by rw [str_empty];simp [hch]
        have hche:=zh hch;clear hch;by_cases hve:c.verifier.size=0
        ·have hvb:c.verifier.toList.isEmpty=true:=by rw [str_empty];simp [hve]
         have hvee:=zh hve;clear hve;have FVh:=zh (show Fr [] W W from Fr.refl [] W);have hres1:=zh (show redeemM c b=(aset x.f.id (issueM {x.f with code:=2} x.f.scope c.refresh).1 b,(issueM {x.f with code:=2} x.f.scope c.refresh).2) by
          unfold redeemM;rw [hg.o];simp only;rw [if_neg (show¬(x.f.revoked=true∨x.f.client≠c.client∨x.f.code=0) by rw [hrv.o,hcle.o];simp [hc0.o]),if_neg (show¬(x.f.code=2)from hc2.o),if_neg (by simp [hre.o,hche.o,hvee.o])])
         have hBV:=hBh.o.fr FVh.o (by simp);have e7:=hBV.cell 7;have z7:=hBV.frozen 7;unfold FA.cells at e7;simp only [zG,zH,zI]at e7;have hfl:=hBV.lt;go_upto_region 2 with(fail)
         have hB7:=hBV.set 7 (.int .i64 2);have F7:Fr [gf] W (W.setCell ⟨gf,7,none⟩ (.int .i64 2)):=(Fr.refl [gf] W).setCell (p:=⟨gf,7,none⟩) (.inl (by simp)) _;have hB7':Blk (W.setCell ⟨gf,7,none⟩ (.int .i64 2)) gf 26 (FA.mk {x.f with code:=2} x.sA x.sc x.tA x.tc x.ts x.lA x.lc).cells:=hB7;have hw7:FamW (W.setCell ⟨gf,7,none⟩ (.int .i64 2)) w0.heap.size (FA.mk {x.f with code:=2} x.sA x.sc x.tA x.tc x.ts x.lA x.lc):=by have h:=(hWh.o.fr0 FVh.o).frO F7 (hFOh.o.mono (by simp));exact⟨h.ts,h.scope,h.toks,h.leases,h.each,h.fs,h.ft,h.fl,h.fe,h.ts_,h.tl,h.te,h.ls,h.le⟩
         have F07:=(F0h.o.trans FVh.o).andThen F7 (fun g hg=> .inr (by have:=hh.o.F0.size;simp at hg;omega));have Fw7:=(fWh.o.trans FVh.o).andThen F7 (fun g hg=> .inr (by simp at hg;omega));refine wp_gen (fun V7=>Blk V7 gf 26 (FA.mk {x.f with code:=2} x.sA x.sc x.tA x.tc x.ts x.lA x.lc).cells∧FamW V7 w0.heap.size (FA.mk {x.f with code:=2} x.sA x.sc x.tA x.tc x.ts x.lA x.lc)∧Fr [] w0 V7∧Fr [] w V7∧Blk V7 p 183 #[.map (some mb),.int .i64 room]∧Blk V7 gr 67 zs∧Blk V7 gc 70 (cmdV c A n d))
          ⟨hB7',hw7,F07,Fw7,(hPh.o.fr FVh.o (by simp)).fr F7 (by have:=hh.o.hp.lt;have:=hh.o.F0.size;simp;omega),(hRh.o.fr FVh.o (by simp)).fr F7 (by simp;omega),(hCh.o.fr FVh.o (by simp)).fr F7 (by simp;exact hcf)⟩ ?_
         clear hB7 F7 hB7' hw7 F07 Fw7 e7 z7 hfl hBV;rintro V7 ⟨hB7,hw7,F07,Fw7,hP7,hR7,hC7⟩;obtain⟨c0,c1,c2,c3,c4,c5,c6,c7,c8,c9,c10,hfl⟩:=fam_cells hB7;obtain⟨d0,d1,d2,d3,d4,d5,d6,d7,d8,d9,d10,d11,d12,hcl⟩:=cmdV_cells hC7;have hw7h:=zh hw7;have F07h:=zh F07;have Fw7h:=zh Fw7;have hP7h:=zh hP7;have hR7h:=zh hR7;have hV7w0:w0.heap.size≤V7.heap.size:=F07.size;have hV7w:w.heap.size≤V7.heap.size:=Fw7.size;have hY0:∀g∈ [gc,gf,gr],g<V7.heap.size:=fun g hg=>by have h1:=hC7.lt;have h2:=hB7.lt;have h3:=hR7.lt;simp only [List.mem_cons,List.not_mem_nil,or_false]at hg;omega
         have hFO7:FOff (FA.mk {x.f with code:=2} x.sA x.sc x.tA x.tc x.ts x.lA x.lc) [gc,gf,gr]:=⟨hFOh.o.s,hFOh.o.t,hFOh.o.l,hFOh.o.e⟩
         have hl8:=hh.o.len8;have hscl:x.f.scope.length≤1000:=by have:=hh.o.famOk.1.set;unfold setM at this;simp only [Bool.and_eq_true,decide_eq_true_eq]at this;omega
         have hiss:=issue_t V7 gf w0.heap.size (FA.mk {x.f with code:=2} x.sA x.sc x.tA x.tc x.ts x.lA x.lc) x.sA x.sc x.f.scope c.refresh [gc,gf,gr] hB7 hw7 hV7w0 hFO7 (by simp) hY0 hw7.scope.rd (fun h0 ad e hm=>by
          rcases List.mem_cons.1 hm with hm |hm
          ·exact hFOh.o.s ad e (by simp [hm])
          ·obtain⟨ad2,e2,h2⟩:=rowOf_mem.1 hm;exact hw7.ts_ ad2 ad e2 e h2) hscl (by show x.ts.length≤1000;omega) hscl
         clear hFO7 hY0 hB7 hw7 F07 Fw7 hP7 hR7 hC7 c0 c1 c2 c4 c5 c6 c7 c8 c9 c10 d0 d1 d2 d3 d4 d5 d6 d7 d8 d9 d10 d12;dsimp only at c3;go_wp2_with fail
         refine hiss.mono ?_;rintro e V8 ⟨y,x8,rfl,hy,hAns8,hx8,hw8,hB8,F8,hY8⟩;have hgyr:∀g∈rowOf y.slice,V7.heap.size≤g:=fun g hg=>by obtain⟨ad,e,rfl⟩:=rowOf_mem.1 hg;exact hAns8.2 ad e
         have hgyrh:=zh hgyr;have hS8:∀g,g∈gf::rowOf (.slice x.tA x.ts.length x.tc)→w0.heap.size≤g∧g≠gc∧g≠gr:=fun g hg=>by
          have hw0w:=hh.o.F0.size;rcases List.mem_cons.1 hg with hg |hg
          ·exact⟨by omega,by omega,by omega⟩
          ·obtain⟨ad,e,h⟩:=rowOf_mem.1 hg;refine⟨by rw [←h];exact hWh.o.ft ad e,fun h2=>hFOh.o.t ad e (by simp [h,h2]),fun h2=>hFOh.o.t ad e (by simp [h,h2])⟩
         have hS8w:∀g,g∈gf::rowOf (.slice x.tA x.ts.length x.tc)→g≠p∧g≠mb:=fun g hg=>by have h1:=(hS8 g hg).1;have h2:=hh.o.hp.lt;have h3:=hh.o.hX mb hh.o.hmb;omega
         have hR8:=hR7h.o.fr F8 (fun h=>(hS8 _ h).2.2 rfl);have hP8:=hP7h.o.fr F8 (fun h=>(hS8w _ h).1 rfl);have F08:=F07h.o.andThen F8 (fun g hg=> .inr (hS8 g hg).1);have hx8h:=zh hx8;have hyh:=zh hy;have hw8h:=zh hw8;have hB8h:=zh hB8;have hY8h:=zh hY8;have hAns8h:=zh hAns8;have hR8h:=zh hR8;have hP8h:=zh hP8;have F08h:=zh F08;have hV78:V7.heap.size≤V8.heap.size:=F8.size;clear hiss F8 hgyr hR8 hP8 F08 hx8 hy hw8 hB8 hY8 hAns8 hS8 hS8w c3 d11 hcl hfl;unfold AA.val;go_upto_region 3 with(refine wpList_store_row rfl 67 _ _ rfl V8.heap.size _ rfl rfl 67 _ (Blk.new _ _ _) (infoAnsY y) (by rw [AA.size8];rfl) (AA.one y) ?_)
         refine wp_gen (fun V9=>Blk V9 V8.heap.size 67 y.cells∧Fr [] V8 V9) ⟨Blk.setRow (Blk.new _ _ _) _,((Fr.refl [] V8).alloc _).setRow (.inr (Nat.le_refl _)) _⟩ ?_;rintro V9 ⟨hG9,F9⟩;obtain⟨ga,HGA⟩:∃z,Hid (V8.heap.size=z):=⟨_,zh rfl⟩
         rw [HGA.o]at hG9⊢;have hrV8:=hR8h.o.lt;have hga:w.heap.size≤ga:=by have:=HGA.o;omega
         have hgar:ga≠gr:=by have:=HGA.o;omega
         have hGh:=zh hG9;have hBxh:=zh (hB8h.o.fr F9 (by simp));have hRVh:=zh (hR8h.o.fr F9 (by simp));have hPVh:=zh (hP8h.o.fr F9 (by simp));have F0Vh:=zh (F08h.o.trans F9);have hw9:=hw8h.o.fr0 F9;have hid8:x8.f.id=x.f.id:=by rw [hx8h.o];unfold issueM;split<;>rfl
         have hres:=zh (show redeemM c b=(aset x8.f.id x8.f b,y.a) by rw [hres1.o,hid8,hx8h.o,hyh.o]);obtain⟨Y1,hY1e⟩:∃Y1:List Nat,Hid (Y1= [gc,gf,gr]++rowOf y.slice):=⟨_,zh rfl⟩
         have hY1:=zh (show∀g∈Y1,w0.heap.size≤g from fun g hg=>by
          rw [hY1e.o]at hg;rcases List.mem_append.1 hg with hg |hg
          ·simp only [List.mem_cons,List.not_mem_nil,or_false]at hg;omega
          ·have:=hgyrh.o g hg;omega)
         have hFamh:=zh (show FamIn V9 (X++Y1) x8 from by
          rw [hY1e.o];exact hw9.famO ((foff_from hw9 hh.o.hX).app hY8h.o))
         have hAnsh:=zh (show AnsIn V9 w0.heap.size y from ans_fr ⟨hAns8h.o.1,hAns8h.o.2.mono hV7w0⟩ F9 (by simp));have hyY:=zh (show∀g∈rowOf y.slice,g∈Y1 from fun g hg=>by rw [hY1e.o];exact List.mem_append.2 (.inr hg));have hgrY:=zh (show gr∈Y1 by rw [hY1e.o];simp);have hgrV7:gr<V7.heap.size:=hR7h.o.lt;have hyg:=zh (show∀g∈rowOf y.slice,g≠gr from fun g hg e=>by
          have:=hgyrh.o g hg;omega)
         clear F9 hG9 hw9 hrV8 hid8;go_upto_region 3 with(fail)
         obtain⟨l,hl1,hl2,hl3⟩:=hh.o.hb;have hl3h:=zh hl3;have hl2h:=zh hl2;clear hl3 hl2;refine wp_tail_gen 7 (fun w1=>Blk w1 gf 26 (x8).cells∧Blk w1 p 183 #[.map (some mb),.int .i64 room]∧IsMap w1 mb Value.string FA.val l∧Fr [] V9 w1) ⟨hBxh.o.drew,hPVh.o.drew,hl1.fr (F0Vh.o.drew) (by simp),(Fr.refl [] V9).drew⟩ (by kernel_rfl) (by kernel_rfl) ?_;clear hl1;rintro w1 ⟨h1,h2,h3,f1⟩;have hcc:=fam_cells h1;obtain⟨q0,q1,q2,q3,q4,q5,q6,q7,q8,q9,q10,hgl⟩:=hcc;have e0:=h2.cell 0;simp only [zG,zH]at e0;have hp1:=h2.lt;simp only [List.take_succ_cons,List.take_zero,List.drop_succ_cons,List.drop_zero];repeat still_step
         refine wpStill_nil ?_;refine wpList_map_set h3 kStr uMsf (x8.f).id (x8) rfl rfl rfl rfl rfl ?_;intro w2 hm ht;have F2:Fr [mb] w1 w2:=ht.fr;have hmX:mb∈X++Y1:=List.mem_append.2 (.inl hh.o.hmb);have hfam2:=(hFamh.o.fr f1.nil).fr (F2.mono (S':=X++Y1) (fun g hg=>by simp at hg;rw [hg];exact hmX));have hbk:=zh (bk_aset l hl2h.o hm hl3h.o (F0Vh.o.trans f1) F2 hh.o.hmb hY1.o hfam2);have hR2:=(hRVh.o.fr f1 (by simp)).fr F2 (by simp;omega);have hG2:=(hGh.o.fr f1 (by simp)).fr F2 (by simp;omega);have FT:=zh ((F0Vh.o.nil.trans f1.nil).trans F2);have hAns2:=zh (ans_fr hAnsh.o (f1.nil.trans F2) (fun g hg=>by
          obtain⟨ad,e,h⟩:=rowOf_mem.1 hg;have h1:=hAnsh.o.2 ad e;have h2:=hh.o.hX mb hh.o.hmb;simp;omega))
         have hrl2:=hR2.lt;have hgl2:=hG2.lt;obtain⟨a0,a1,a2,a3,a4,a5,a6,a7,hfz⟩:=AA.blk hG2;clear h1 h2 h3 hm ht q0 q1 q2 q3 q4 q5 q6 q7 q8 q9 q10 hgl e0 hp1 hfam2 hfz hmX;go_wp2_with (refine wpList_store_row rfl 67 _ _ rfl gr _ rfl rfl 67 zs hR2 infoAns (by rw [hz];rfl) (by kernel_rfl) ?_)
         refine bodyPost_ret (results_cell_row rfl _ _ gr 67 _ (0,0) _ rfl (Blk.setRow hR2 _) uAns rfl infoAns) rfl ?_;exact ans_yes (Y:=Y1) hbk.o FT.o ((Fr.refl [gr] w2).setRow (.inl (by simp)) _) (fun g hg=>by simp at hg;rw [hg];exact⟨hgrY.o,hgr0⟩) hmw (y) hAns2.o hyY.o (fun g hg=>by have:=hyg.o g hg;simp;omega) hres.o
        ·have hvb:c.verifier.toList.isEmpty=false:=by rw [str_empty];simp [hve]
         have hres:=zh (show redeemM c b=(b,noA 3) by unfold redeemM;rw [hg.o];simp only;rw [if_neg (show¬(x.f.revoked=true∨x.f.client≠c.client∨x.f.code=0) by rw [hrv.o,hcle.o];simp [hc0.o]),if_neg (show¬(x.f.code=2)from hc2.o),if_pos (.inr (.inl ⟨hche.o,hve⟩))]);clear hve;have hno:=no_t W 3;go_wp2_with fail
         refine hno.mono ?_;rintro e N2 ⟨rfl,FN⟩;have F2h:=zh ((Fr.refl [] W).trans FN);have hRN:=hRh.o.fr FN (by simp);have hrlN:=hRN.lt;clear hno FN;unfold AA.val AA.cells noA;go_wp2_with (refine wpList_store_row rfl 67 _ _ rfl gr _ rfl rfl 67 zs hRN infoAns (by rw [hz];rfl) (by kernel_rfl) ?_)
         refine bodyPost_ret (results_cell_row rfl _ _ gr 67 _ (0,0) _ rfl (Blk.setRow hRN _) uAns rfl infoAns) rfl ?_;exact ans_no (a:=noA 3) (hbYh.o.fr F2h.o (by simp) (by simp)) (F0h.o.trans F2h.o).nil ((Fr.refl [gr] N2).setRow (.inl (by simp)) _) (fun g hg=>by simp at hg;rw [hg];exact⟨by simp,hgr0⟩) hmw rfl hres.o
       ·have hcb2:x.f.challenge.toList.isEmpty=false:=by rw [str_empty];simp [hch]
        have hche:=zh hch;clear hch;have hsz1:x.f.challenge.size≤1000000:=by have:=textsM_mem hh.o.famOk.1.texts (s:=x.f.challenge) (by simp);omega
        have hsz2:c.verifier.size≤1000000:=by have:=textsM_mem hh.o.may.texts (s:=c.verifier) (by simp);omega
        have hpk:=pcheck_t W x.f.challenge x.f.method c.verifier hsz1 hsz2;obtain⟨pk,hpkv⟩:∃z,Hid (pkCheck x.f.challenge x.f.method c.verifier=z):=⟨_,zh rfl⟩
        rw [hpkv.o]at hpk;clear hsz1 hsz2;cases pk with
        |true=>
         go_wp2_with fail
         refine hpk.mono ?_;rintro e W2 ⟨rfl,F2⟩;have F2h:=zh F2;have hrl2:=(hRh.o.fr F2 (by simp)).lt;clear hpk F2 c0 c1 c2 c3 c4 c5 c6 c7 c8 c9 c10 hfl d0 d1 d2 d3 d4 d5 d6 d7 d8 d9 d10 d11 d12 hcl;obtain⟨c0,c1,c2,c3,c4,c5,c6,c7,c8,c9,c10,hfl⟩:=fam_cells (hBh.o.fr F2h.o (by simp));obtain⟨d0,d1,d2,d3,d4,d5,d6,d7,d8,d9,d10,d11,d12,hcl⟩:=cmdV_cells (hCh.o.fr F2h.o (by simp));have FVh:=zh (show Fr [] W W2 from F2h.o);have hres1:=zh (show redeemM c b=(aset x.f.id (issueM {x.f with code:=2} x.f.scope c.refresh).1 b,(issueM {x.f with code:=2} x.f.scope c.refresh).2) by
          unfold redeemM;rw [hg.o];simp only;rw [if_neg (show¬(x.f.revoked=true∨x.f.client≠c.client∨x.f.code=0) by rw [hrv.o,hcle.o];simp [hc0.o]),if_neg (show¬(x.f.code=2)from hc2.o),if_neg (by simp [hre.o,hche.o,hpkv.o])])
         have hBV:=hBh.o.fr FVh.o (by simp);have e7:=hBV.cell 7;have z7:=hBV.frozen 7;unfold FA.cells at e7;simp only [zG,zH,zI]at e7;have hfl:=hBV.lt;go_upto_region 2 with(fail)
         have hB7:=hBV.set 7 (.int .i64 2);have F7:Fr [gf] W2 (W2.setCell ⟨gf,7,none⟩ (.int .i64 2)):=(Fr.refl [gf] W2).setCell (p:=⟨gf,7,none⟩) (.inl (by simp)) _;have hB7':Blk (W2.setCell ⟨gf,7,none⟩ (.int .i64 2)) gf 26 (FA.mk {x.f with code:=2} x.sA x.sc x.tA x.tc x.ts x.lA x.lc).cells:=hB7;have hw7:FamW (W2.setCell ⟨gf,7,none⟩ (.int .i64 2)) w0.heap.size (FA.mk {x.f with code:=2} x.sA x.sc x.tA x.tc x.ts x.lA x.lc):=by have h:=(hWh.o.fr0 FVh.o).frO F7 (hFOh.o.mono (by simp));exact⟨h.ts,h.scope,h.toks,h.leases,h.each,h.fs,h.ft,h.fl,h.fe,h.ts_,h.tl,h.te,h.ls,h.le⟩
         have F07:=(F0h.o.trans FVh.o).andThen F7 (fun g hg=> .inr (by have:=hh.o.F0.size;simp at hg;omega));have Fw7:=(fWh.o.trans FVh.o).andThen F7 (fun g hg=> .inr (by simp at hg;omega));refine wp_gen (fun V7=>Blk V7 gf 26 (FA.mk {x.f with code:=2} x.sA x.sc x.tA x.tc x.ts x.lA x.lc).cells∧FamW V7 w0.heap.size (FA.mk {x.f with code:=2} x.sA x.sc x.tA x.tc x.ts x.lA x.lc)∧Fr [] w0 V7∧Fr [] w V7∧Blk V7 p 183 #[.map (some mb),.int .i64 room]∧Blk V7 gr 67 zs∧Blk V7 gc 70 (cmdV c A n d))
          ⟨hB7',hw7,F07,Fw7,(hPh.o.fr FVh.o (by simp)).fr F7 (by have:=hh.o.hp.lt;have:=hh.o.F0.size;simp;omega),(hRh.o.fr FVh.o (by simp)).fr F7 (by simp;omega),(hCh.o.fr FVh.o (by simp)).fr F7 (by simp;exact hcf)⟩ ?_
         clear hB7 F7 hB7' hw7 F07 Fw7 e7 z7 hfl hBV;rintro V7 ⟨hB7,hw7,F07,Fw7,hP7,hR7,hC7⟩;obtain⟨c0,c1,c2,c3,c4,c5,c6,c7,c8,c9,c10,hfl⟩:=fam_cells hB7;obtain⟨d0,d1,d2,d3,d4,d5,d6,d7,d8,d9,d10,d11,d12,hcl⟩:=cmdV_cells hC7;have hw7h:=zh hw7;have F07h:=zh F07;have Fw7h:=zh Fw7;have hP7h:=zh hP7;have hR7h:=zh hR7;have hV7w0:w0.heap.size≤V7.heap.size:=F07.size;have hV7w:w.heap.size≤V7.heap.size:=Fw7.size;have hY0:∀g∈ [gc,gf,gr],g<V7.heap.size:=fun g hg=>by have h1:=hC7.lt;have h2:=hB7.lt;have h3:=hR7.lt;simp only [List.mem_cons,List.not_mem_nil,or_false]at hg;omega
         have hFO7:FOff (FA.mk {x.f with code:=2} x.sA x.sc x.tA x.tc x.ts x.lA x.lc) [gc,gf,gr]:=⟨hFOh.o.s,hFOh.o.t,hFOh.o.l,hFOh.o.e⟩
         have hl8:=hh.o.len8;have hscl:x.f.scope.length≤1000:=by have:=hh.o.famOk.1.set;unfold setM at this;simp only [Bool.and_eq_true,decide_eq_true_eq]at this;omega
         have hiss:=issue_t V7 gf w0.heap.size (FA.mk {x.f with code:=2} x.sA x.sc x.tA x.tc x.ts x.lA x.lc) x.sA x.sc x.f.scope c.refresh [gc,gf,gr] hB7 hw7 hV7w0 hFO7 (by simp) hY0 hw7.scope.rd (fun h0 ad e hm=>by
          rcases List.mem_cons.1 hm with hm |hm
          ·exact hFOh.o.s ad e (by simp [hm])
          ·obtain⟨ad2,e2,h2⟩:=rowOf_mem.1 hm;exact hw7.ts_ ad2 ad e2 e h2) hscl (by show x.ts.length≤1000;omega) hscl
         clear hFO7 hY0 hB7 hw7 F07 Fw7 hP7 hR7 hC7 c0 c1 c2 c4 c5 c6 c7 c8 c9 c10 d0 d1 d2 d3 d4 d5 d6 d7 d8 d9 d10 d12;dsimp only at c3;go_wp2_with fail
         refine hiss.mono ?_;rintro e V8 ⟨y,x8,rfl,hy,hAns8,hx8,hw8,hB8,F8,hY8⟩;have hgyr:∀g∈rowOf y.slice,V7.heap.size≤g:=fun g hg=>by obtain⟨ad,e,rfl⟩:=rowOf_mem.1 hg;exact hAns8.2 ad e
         have hgyrh:=zh hgyr;have hS8:∀g,g∈gf::rowOf (.slice x.tA x.ts.length x.tc)→w0.heap.size≤g∧g≠gc∧g≠gr:=fun g hg=>by
          have hw0w:=hh.o.F0.size;rcases List.mem_cons.1 hg with hg |hg
          ·exact⟨by omega,by omega,by omega⟩
          ·obtain⟨ad,e,h⟩:=rowOf_mem.1 hg;refine⟨by rw [←h];exact hWh.o.ft ad e,fun h2=>hFOh.o.t ad e (by simp [h,h2]),fun h2=>hFOh.o.t ad e (by simp [h,h2])⟩
         have hS8w:∀g,g∈gf::rowOf (.slice x.tA x.ts.length x.tc)→g≠p∧g≠mb:=fun g hg=>by have h1:=(hS8 g hg).1;have h2:=hh.o.hp.lt;have h3:=hh.o.hX mb hh.o.hmb;omega
         have hR8:=hR7h.o.fr F8 (fun h=>(hS8 _ h).2.2 rfl);have hP8:=hP7h.o.fr F8 (fun h=>(hS8w _ h).1 rfl);have F08:=F07h.o.andThen F8 (fun g hg=> .inr (hS8 g hg).1);have hx8h:=zh hx8;have hyh:=zh hy;have hw8h:=zh hw8;have hB8h:=zh hB8;have hY8h:=zh hY8;have hAns8h:=zh hAns8;have hR8h:=zh hR8;have hP8h:=zh hP8;have F08h:=zh F08;have hV78:V7.heap.size≤V8.heap.size:=F8.size;clear hiss F8 hgyr hR8 hP8 F08 hx8 hy hw8 hB8 hY8 hAns8 hS8 hS8w c3 d11 hcl hfl;unfold AA.val;go_upto_region 3 with(refine wpList_store_row rfl 67 _ _ rfl V8.heap.size _ rfl rfl 67 _ (Blk.new _ _ _) (infoAnsY y) (by rw [AA.size8];rfl) (AA.one y) ?_)
         refine wp_gen (fun V9=>Blk V9 V8.heap.size 67 y.cells∧Fr [] V8 V9) ⟨Blk.setRow (Blk.new _ _ _) _,((Fr.refl [] V8).alloc _).setRow (.inr (Nat.le_refl _)) _⟩ ?_;rintro V9 ⟨hG9,F9⟩;obtain⟨ga,HGA⟩:∃z,Hid (V8.heap.size=z):=⟨_,zh rfl⟩
         rw [HGA.o]at hG9⊢;have hrV8:=hR8h.o.lt;have hga:w.heap.size≤ga:=by have:=HGA.o;omega
         have hgar:ga≠gr:=by have:=HGA.o;omega
         have hGh:=zh hG9;have hBxh:=zh (hB8h.o.fr F9 (by simp));have hRVh:=zh (hR8h.o.fr F9 (by simp));have hPVh:=zh (hP8h.o.fr F9 (by simp));have F0Vh:=zh (F08h.o.trans F9);have hw9:=hw8h.o.fr0 F9;have hid8:x8.f.id=x.f.id:=by rw [hx8h.o];unfold issueM;split<;>rfl
         have hres:=zh (show redeemM c b=(aset x8.f.id x8.f b,y.a) by rw [hres1.o,hid8,hx8h.o,hyh.o]);obtain⟨Y1,hY1e⟩:∃Y1:List Nat,Hid (Y1= [gc,gf,gr]++rowOf y.slice):=⟨_,zh rfl⟩
         have hY1:=zh (show∀g∈Y1,w0.heap.size≤g from fun g hg=>by
          rw [hY1e.o]at hg;rcases List.mem_append.1 hg with hg |hg
          ·simp only [List.mem_cons,List.not_mem_nil,or_false]at hg;omega
          ·have:=hgyrh.o g hg;omega)
         have hFamh:=zh (show FamIn V9 (X++Y1) x8 from by
          rw [hY1e.o];exact hw9.famO ((foff_from hw9 hh.o.hX).app hY8h.o))
         have hAnsh:=zh (show AnsIn V9 w0.heap.size y from ans_fr ⟨hAns8h.o.1,hAns8h.o.2.mono hV7w0⟩ F9 (by simp));have hyY:=zh (show∀g∈rowOf y.slice,g∈Y1 from fun g hg=>by rw [hY1e.o];exact List.mem_append.2 (.inr hg));have hgrY:=zh (show gr∈Y1 by rw [hY1e.o];simp);have hgrV7:gr<V7.heap.size:=hR7h.o.lt;have hyg:=zh (show∀g∈rowOf y.slice,g≠gr from fun g hg e=>by
          have:=hgyrh.o g hg;omega)
         clear F9 hG9 hw9 hrV8 hid8;go_upto_region 3 with(fail)
         obtain⟨l,hl1,hl2,hl3⟩:=hh.o.hb;have hl3h:=zh hl3;have hl2h:=zh hl2;clear hl3 hl2;refine wp_tail_gen 7 (fun w1=>Blk w1 gf 26 (x8).cells∧Blk w1 p 183 #[.map (some mb),.int .i64 room]∧IsMap w1 mb Value.string FA.val l∧Fr [] V9 w1) ⟨hBxh.o.drew,hPVh.o.drew,hl1.fr (F0Vh.o.drew) (by simp),(Fr.refl [] V9).drew⟩ (by kernel_rfl) (by kernel_rfl) ?_;clear hl1;rintro w1 ⟨h1,h2,h3,f1⟩;have hcc:=fam_cells h1;obtain⟨q0,q1,q2,q3,q4,q5,q6,q7,q8,q9,q10,hgl⟩:=hcc;have e0:=h2.cell 0;simp only [zG,zH]at e0;have hp1:=h2.lt;simp only [List.take_succ_cons,List.take_zero,List.drop_succ_cons,List.drop_zero];repeat still_step
         refine wpStill_nil ?_;refine wpList_map_set h3 kStr uMsf (x8.f).id (x8) rfl rfl rfl rfl rfl ?_;intro w2 hm ht;have F2:Fr [mb] w1 w2:=ht.fr;have hmX:mb∈X++Y1:=List.mem_append.2 (.inl hh.o.hmb);have hfam2:=(hFamh.o.fr f1.nil).fr (F2.mono (S':=X++Y1) (fun g hg=>by simp at hg;rw [hg];exact hmX));have hbk:=zh (bk_aset l hl2h.o hm hl3h.o (F0Vh.o.trans f1) F2 hh.o.hmb hY1.o hfam2);have hR2:=(hRVh.o.fr f1 (by simp)).fr F2 (by simp;omega);have hG2:=(hGh.o.fr f1 (by simp)).fr F2 (by simp;omega);have FT:=zh ((F0Vh.o.nil.trans f1.nil).trans F2);have hAns2:=zh (ans_fr hAnsh.o (f1.nil.trans F2) (fun g hg=>by
          obtain⟨ad,e,h⟩:=rowOf_mem.1 hg;have h1:=hAnsh.o.2 ad e;have h2:=hh.o.hX mb hh.o.hmb;simp;omega))
         have hrl2:=hR2.lt;have hgl2:=hG2.lt;obtain⟨a0,a1,a2,a3,a4,a5,a6,a7,hfz⟩:=AA.blk hG2;clear h1 h2 h3 hm ht q0 q1 q2 q3 q4 q5 q6 q7 q8 q9 q10 hgl e0 hp1 hfam2 hfz hmX;go_wp2_with (refine wpList_store_row rfl 67 _ _ rfl gr _ rfl rfl 67 zs hR2 infoAns (by rw [hz];rfl) (by kernel_rfl) ?_)
         refine bodyPost_ret (results_cell_row rfl _ _ gr 67 _ (0,0) _ rfl (Blk.setRow hR2 _) uAns rfl infoAns) rfl ?_;exact ans_yes (Y:=Y1) hbk.o FT.o ((Fr.refl [gr] w2).setRow (.inl (by simp)) _) (fun g hg=>by simp at hg;rw [hg];exact⟨hgrY.o,hgr0⟩) hmw (y) hAns2.o hyY.o (fun g hg=>by have:=hyg.o g hg;simp;omega) hres.o
        |false=>
         have hres:=zh (show redeemM c b=(b,noA 3) by unfold redeemM;rw [hg.o];simp only;rw [if_neg (show¬(x.f.revoked=true∨x.f.client≠c.client∨x.f.code=0) by rw [hrv.o,hcle.o];simp [hc0.o]),if_neg (show¬(x.f.code=2)from hc2.o),if_pos (.inr (.inr ⟨hche.o,hpkv.o⟩))]);go_wp2_with fail
         refine hpk.mono ?_;rintro e W2 ⟨rfl,F2⟩;have F2k:=zh F2;have hRk:=zh (hRh.o.fr F2 (by simp));clear hpk F2;have hno:=no_t W2 3;go_wp2_with fail
         refine hno.mono ?_;rintro e N2 ⟨rfl,FN⟩;have F2h:=zh (F2k.o.trans FN);have hRN:=hRk.o.fr FN (by simp);have hrlN:=hRN.lt;clear hno FN;unfold AA.val AA.cells noA;go_wp2_with (refine wpList_store_row rfl 67 _ _ rfl gr _ rfl rfl 67 zs hRN infoAns (by rw [hz];rfl) (by kernel_rfl) ?_)
         refine bodyPost_ret (results_cell_row rfl _ _ gr 67 _ (0,0) _ rfl (Blk.setRow hRN _) uAns rfl infoAns) rfl ?_;exact ans_no (a:=noA 3) (hbYh.o.fr F2h.o (by simp) (by simp)) (F0h.o.trans F2h.o).nil ((Fr.refl [gr] N2).setRow (.inl (by simp)) _) (fun g hg=>by simp at hg;rw [hg];exact⟨by simp,hgr0⟩) hmw rfl hres.o
      ·have hrb:(x.f.redirect.toList==c.redirect.toList)=false:=by rw [toList_beq];simp [hr]
       have hres:=zh (show redeemM c b=(b,noA 3) by unfold redeemM;rw [hg.o];simp only;rw [if_neg (show¬(x.f.revoked=true∨x.f.client≠c.client∨x.f.code=0) by rw [hrv.o,hcle.o];simp [hc0.o]),if_neg (show¬(x.f.code=2)from hc2.o),if_pos (.inl hr)]);clear hr;have hno:=no_t W 3;go_wp2_with fail
       refine hno.mono ?_;rintro e N2 ⟨rfl,FN⟩;have F2h:=zh ((Fr.refl [] W).trans FN);have hRN:=hRh.o.fr FN (by simp);have hrlN:=hRN.lt;clear hno FN;unfold AA.val AA.cells noA;go_wp2_with (refine wpList_store_row rfl 67 _ _ rfl gr _ rfl rfl 67 zs hRN infoAns (by rw [hz];rfl) (by kernel_rfl) ?_)
       refine bodyPost_ret (results_cell_row rfl _ _ gr 67 _ (0,0) _ rfl (Blk.setRow hRN _) uAns rfl infoAns) rfl ?_;exact ans_no (a:=noA 3) (hbYh.o.fr F2h.o (by simp) (by simp)) (F0h.o.trans F2h.o).nil ((Fr.refl [gr] N2).setRow (.inl (by simp)) _) (fun g hg=>by simp at hg;rw [hg];exact⟨by simp,hgr0⟩) hmw rfl hres.o
   ·have hcb:(x.f.client.toList==c.client.toList)=false:=by rw [toList_beq];simp [hcl1]
    have hres:=zh (show redeemM c b=(b,noA 3) by unfold redeemM;rw [hg.o];simp only;rw [if_pos (.inr (.inl hcl1))]);clear hcl1;have hno:=no_t W 3;go_wp2_with fail
    refine hno.mono ?_;rintro e N2 ⟨rfl,FN⟩;have F2h:=zh ((Fr.refl [] W).trans FN);have hRN:=hRh.o.fr FN (by simp);have hrlN:=hRN.lt;clear hno FN;unfold AA.val AA.cells noA;go_wp2_with (refine wpList_store_row rfl 67 _ _ rfl gr _ rfl rfl 67 zs hRN infoAns (by rw [hz];rfl) (by kernel_rfl) ?_)
    refine bodyPost_ret (results_cell_row rfl _ _ gr 67 _ (0,0) _ rfl (Blk.setRow hRN _) uAns rfl infoAns) rfl ?_;exact ans_no (a:=noA 3) (hbYh.o.fr F2h.o (by simp) (by simp)) (F0h.o.trans F2h.o).nil ((Fr.refl [gr] N2).setRow (.inl (by simp)) _) (fun g hg=>by simp at hg;rw [hg];exact⟨by simp,hgr0⟩) hmw rfl hres.o
end Go.Proofs.YtpmgepijkhaonaaGreat
