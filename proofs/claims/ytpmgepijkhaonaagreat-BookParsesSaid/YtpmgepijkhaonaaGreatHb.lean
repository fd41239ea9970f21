/- Walk: a token is revoked. Conditions: each theorem's own. -/
import Derived.Test.YtpmgepijkhaonaaGreatHa
namespace Go.Proofs.YtpmgepijkhaonaaGreat
open Go.RowKit Go.Sig
theorem Br.len8 {w0 w:World}{p mb:Nat}{room:Int}{X:List Nat}{b:GBk}{c:GCmd}{A:Option Addr}{n d:Nat}{x:FA}{is:Bool}(h:Br w0 w p mb room X b c A n d x is):x.ts.length≤8:=by
 rw [h.fam.len];cases is with
 |true=>exact h.famOk.1.tokens
 |false=>rw [h.zero rfl];decide
set_option maxRecDepth 100000 in
set_option maxHeartbeats 4000000 in
theorem revoke_t {w0 w:World}{p mb:Nat}{room:Int}{X:List Nat}{b:GBk}{c:GCmd}{A:Option Addr}{n d:Nat}{x:FA}{is:Bool}(h:Br w0 w p mb room X b c A n d x is):
  Calls Tryz.prog 130 #[.pointer (some ⟨p,0,none⟩),.agg (cmdV c A n d),x.val,.bool is] w (AnsPost w0 mb X (revokeM c b)):=by
 have hh:=zh h;clear h;unfold cmdV FA.val FA.cells;have hzs:∃zs:Array Value,zs.size=8∧Hid (zs=(AA.mk (noA 0) none 0).cells):=⟨_,rfl,zh rfl⟩
 obtain⟨zs,hz,hzh⟩:=hzs;go_enter Tryz.func130,Tryz.ntmps130;go_upto_region 1 with(fail)
 refine wp_gen (fun W=>Blk W w.heap.size 70 (cmdV c A n d)∧Blk W (w.heap.size+1) 26 x.cells∧Blk W (w.heap.size+1+1) 67 zs∧Fr [] w W) ⟨((Blk.new _ _ _).alloc _).alloc _,(Blk.new' _ _ (by simp)).alloc _,by rw [hzh.o];exact Blk.new' _ _ (by simp),(((Fr.refl _ _).alloc _).alloc _).alloc _⟩ ?_;rintro W ⟨hC,hB,hR,fW⟩;obtain⟨gc,HGC⟩:∃z,Hid (w.heap.size=z):=⟨_,zh rfl⟩
 have hgw:w.heap.size≤gc:=by have:=HGC.o;omega
 rw [HGC.o]at hC hB hR⊢;obtain⟨gf,HGF⟩:∃z,Hid (gc+1=z):=⟨_,zh rfl⟩
 rw [HGF.o]at hB hR⊢;obtain⟨gr,HGR⟩:∃z,Hid (gf+1=z):=⟨_,zh rfl⟩
 rw [HGR.o]at hR⊢;have hfr:gf≠gr:=by have:=HGF.o;have:=HGR.o;omega
 have hcr:gc≠gr:=by have:=HGF.o;have:=HGR.o;omega
 have hcf:gc≠gf:=by have:=HGF.o;omega
 have hgf:w.heap.size≤gf:=by have:=HGF.o;omega
 have hgr:w.heap.size≤gr:=by have:=HGF.o;have:=HGR.o;omega
 have hYw:∀g∈ [gc,gf,gr],w.heap.size≤g:=fun g hg=>by simp only [List.mem_cons,List.not_mem_nil,or_false]at hg;omega
 obtain⟨hFO,hbY,hxY,hW,hP,F0⟩:=br_pre hh.o fW [gc,gf,gr] hYw;have hmw:mb<w0.heap.size:=hh.o.hb.lt;have hw0w:w0.heap.size≤w.heap.size:=hh.o.F0.size;have hgr0:w0.heap.size≤gr:=by omega
 have hCh:=zh hC;have hBh:=zh hB;have hRh:=zh hR;have hFOh:=zh hFO;have hbYh:=zh hbY;have hxYh:=zh hxY;have hWh:=zh hW;have hPh:=zh hP;have F0h:=zh F0;have fWh:=zh fW;have hrl:=hR.lt;have hYwh:=zh hYw;clear hC hR hFO hbY hxY hW hP F0 fW hYw;obtain⟨c0,c1,c2,c3,c4,c5,c6,c7,c8,c9,c10,hfl⟩:=fam_cells hB;obtain⟨d0,d1,d2,d3,d4,d5,d6,d7,d8,d9,d10,d11,d12,hcl⟩:=cmdV_cells hCh.o;clear c0 c2 c3 c4 c5 c6 c8 c10 d0 d1 d5 d6 d7 d8 d9 d10 d11 d12;have hget:=zh hh.o.get;cases is with
 |false=>
  have hres:=zh (show revokeM c b=(b,noA 0) by unfold revokeM;rw [hget.o];rfl);go_wp2_with (refine wpList_store_row rfl 67 _ _ rfl gr _ rfl rfl 67 zs hRh.o infoAns (by rw [hz];rfl) (by kernel_rfl) ?_)
  refine bodyPost_ret (results_cell_row rfl _ _ gr 67 _ (0,0) _ rfl (Blk.setRow hRh.o _) uAns rfl infoAns) rfl ?_;exact ans_no (a:=noA 0) hbYh.o F0h.o.nil ((Fr.refl [gr] W).setRow (.inl (by simp)) _) (fun g hg=>by simp at hg;rw [hg];exact⟨by simp,hgr0⟩) hmw rfl hres.o
 |true=>
  have hg:=zh (show aget c.family b=some x.f by rw [hget.o,if_pos rfl]);by_cases hcl1:x.f.client=c.client
  ·have hcb:(x.f.client.toList==c.client.toList)=true:=by rw [toList_beq];simp [hcl1]
   have hcle:=zh hcl1;have htok:=token_t W x c.token c.serial (hxYh.o.mono (by simp)) (by have:=hh.o.len8;omega);clear hcl1 c7 c9;go_wp2_with (refine wpList_load_at rfl 26 _ rfl rfl hB (sub_self _) uFam rfl (infoFamL _) ?_;rw [Array.toArray_toList])
   refine htok.mono ?_;rintro e V2 ⟨FV,hcase⟩;have FVh:=zh FV;clear htok hcb c1 d2 d3 hcl hB hrl FV hfl;rcases hcase with⟨ht,rfl⟩ | ⟨t,ht,_,rfl⟩
   ·have hth:=zh ht;clear ht;unfold zeroIss;go_upto_region 4 with(refine wpList_store_row rfl 29 _ _ rfl V2.heap.size _ rfl rfl 29 _ (Blk.new _ _ _) infoIss (by kernel_rfl) (by kernel_rfl) ?_)
    refine wp_gen (fun W2=>Fr [] W W2) (FVh.o.trans (((Fr.refl [] V2).alloc _).setRow (.inr (Nat.le_refl _)) _)) ?_;rintro W2 F2;have F2h:=zh F2;have hB2h:=zh (hBh.o.fr F2 (by simp));have hR2h:=zh (hRh.o.fr F2 (by simp));have hC2h:=zh (hCh.o.fr F2 (by simp));obtain⟨c0,c1,c2,c3,c4,c5,c6,c7,c8,c9,c10,hfl⟩:=fam_cells hB2h.o;obtain⟨d0,d1,d2,d3,d4,d5,d6,d7,d8,d9,d10,d11,d12,hcl⟩:=cmdV_cells hC2h.o;have hrl2:=hR2h.o.lt;have z9:=hB2h.o.frozen 9;clear F2 c0 c1 c2 c3 c4 c5 c6 c8 c10 d0 d1 d4 d5 d6 d7 d8 d9 d10 d11 d12;by_cases h1:c.token=1
    ·have hb1:(c.token==1)=true:=by rw [beq_iff_eq];exact h1
     by_cases h2:c.serial=0
     ·have hb2:(c.serial==0)=true:=by rw [beq_iff_eq];exact h2
      by_cases h3:x.f.code=0
      ·have hb3:(x.f.code !=0)=false:=by rw [bne_eq_false_iff_eq];exact h3
       have hres:=zh (show revokeM c b=(b,⟨0,0,0,[],nilB,nilB,false,x.f.revoked⟩) by
        unfold revokeM;rw [hg.o];simp only;rw [if_neg (show¬(x.f.client≠c.client)from fun h=>h hcle.o),hth.o,if_neg (by simp [h3])])
       clear h1 h2 h3;go_wp2_with (refine wpList_store_row rfl 67 _ _ rfl gr _ rfl rfl 67 zs hR2h.o infoAns (by rw [hz];rfl) (by kernel_rfl) ?_)
       refine bodyPost_ret (results_cell_row rfl _ _ gr 67 _ (0,0) _ rfl (Blk.setRow hR2h.o _) uAns rfl infoAns) rfl ?_;exact ans_no (a:=⟨0,0,0,[],nilB,nilB,false,x.f.revoked⟩) (hbYh.o.fr F2h.o (by simp) (by simp)) (F0h.o.trans F2h.o).nil ((Fr.refl [gr] W2).setRow (.inl (by simp)) _) (fun g hg=>by simp at hg;rw [hg];exact⟨by simp,hgr0⟩) hmw rfl hres.o
      ·have hb3:(x.f.code !=0)=true:=by rw [bne_iff_ne];exact h3
       have hres:=zh (show revokeM c b=(fallM x.f b,⟨0,0,0,[],nilB,nilB,false,true⟩) by
        unfold revokeM;rw [hg.o];simp only;rw [if_neg (show¬(x.f.client≠c.client)from fun h=>h hcle.o),if_pos (.inr ⟨h1,h2,h3⟩)])
       clear h1 h2 h3;go_upto_region 6 with(fail)
       have hB5:=hB2h.o.set 9 (.bool true);have F5:Fr [gf] W2 (W2.setCell ⟨gf,9,none⟩ (.bool true)):=(Fr.refl [gf] W2).setCell (p:=⟨gf,9,none⟩) (.inl (by simp)) _;have hB5':Blk (W2.setCell ⟨gf,9,none⟩ (.bool true)) gf 26 (FA.mk {x.f with revoked:=true} x.sA x.sc x.tA x.tc x.ts x.lA x.lc).cells:=hB5;have hx5:FamIn (W2.setCell ⟨gf,9,none⟩ (.bool true)) (X++ [gc,gf,gr]) (FA.mk {x.f with revoked:=true} x.sA x.sc x.tA x.tc x.ts x.lA x.lc):=by have h:=(hxYh.o.fr F2h.o.nil).fr (F5.mono (S':=X++ [gc,gf,gr]) (by simp));exact⟨h.ts,h.scope,h.toks,h.leases,h.each⟩
       have hb5:=(hbYh.o.fr F2h.o (by simp) (by simp)).fr F5 (fun g hg=> .inl (by simp at hg;simp [hg])) (by simp;omega);have hP5:=(hPh.o.fr F2h.o (by simp)).fr F5 (by have:=hh.o.hp.lt;have:=hh.o.F0.size;simp;omega);have hR5:=(hRh.o.fr F2h.o (by simp)).fr F5 (by simp;omega);have FT5:=(F0h.o.trans F2h.o).andThen F5 (fun g hg=> .inr (by simp at hg;omega));refine wp_gen (fun W5=>Blk W5 gf 26 (FA.mk {x.f with revoked:=true} x.sA x.sc x.tA x.tc x.ts x.lA x.lc).cells∧FamIn W5 (X++ [gc,gf,gr]) (FA.mk {x.f with revoked:=true} x.sA x.sc x.tA x.tc x.ts x.lA x.lc)∧BkIn W5 mb (X++ [gc,gf,gr]) b∧Blk W5 p 183 #[.map (some mb),.int .i64 room]∧Blk W5 gr 67 zs∧Fr [] w0 W5) ⟨hB5',hx5,hb5,hP5,hR5,FT5⟩ ?_;clear hB5 F5 hB5' hx5 hb5 hP5 hR5 FT5 c9 z9 hfl;rintro W5 ⟨hB5,hx5,hb5,hP5,hR5,FT5⟩;have hfall:=fall_t W5 p mb room (X++ [gc,gf,gr]) b hP5 hb5 _ hx5 (List.mem_append.2 (.inl hh.o.hmb));have hB5h:=zh hB5;have hR5h:=zh hR5;have FT5h:=zh FT5;clear hx5 hb5 hP5 hR5 FT5;go_wp2_with (refine wpList_load_at rfl 26 _ rfl rfl hB5 (sub_self _) uFam rfl (infoFamL _) ?_;rw [Array.toArray_toList])
       refine hfall.mono ?_;rintro e W6 ⟨rfl,hb6,F6⟩;have hB6:=hB5h.o.fr F6 (by simp;omega);have c9:=hB6.cell 9;have hfl:=hB6.lt;unfold FA.cells at c9;simp only [zG,zH,zI]at c9;have hR6:=hR5h.o.fr F6 (by simp;omega);have hrl6:=hR6.lt;have hb6h:=zh hb6;have FT6:=zh (FT5h.o.nil.trans F6);clear hb6 F6 hB6 hB5 hfall;go_wp2_with (refine wpList_store_row rfl 67 _ _ rfl gr _ rfl rfl 67 zs hR6 infoAns (by rw [hz];rfl) (by kernel_rfl) ?_)
       refine bodyPost_ret (results_cell_row rfl _ _ gr 67 _ (0,0) _ rfl (Blk.setRow hR6 _) uAns rfl infoAns) rfl ?_;exact ans_no (a:=⟨0,0,0,[],nilB,nilB,false,true⟩) hb6h.o FT6.o ((Fr.refl [gr] W6).setRow (.inl (by simp)) _) (fun g hg=>by simp at hg;rw [hg];exact⟨by simp,hgr0⟩) hmw rfl hres.o
     ·have hb2:(c.serial==0)=false:=by rw [beq_eq_false_iff_ne];exact h2
      have hres:=zh (show revokeM c b=(b,⟨0,0,0,[],nilB,nilB,false,x.f.revoked⟩) by
       unfold revokeM;rw [hg.o];simp only;rw [if_neg (show¬(x.f.client≠c.client)from fun h=>h hcle.o),hth.o,if_neg (by simp [h2])])
      clear h1 h2;go_wp2_with (refine wpList_store_row rfl 67 _ _ rfl gr _ rfl rfl 67 zs hR2h.o infoAns (by rw [hz];rfl) (by kernel_rfl) ?_)
      refine bodyPost_ret (results_cell_row rfl _ _ gr 67 _ (0,0) _ rfl (Blk.setRow hR2h.o _) uAns rfl infoAns) rfl ?_;exact ans_no (a:=⟨0,0,0,[],nilB,nilB,false,x.f.revoked⟩) (hbYh.o.fr F2h.o (by simp) (by simp)) (F0h.o.trans F2h.o).nil ((Fr.refl [gr] W2).setRow (.inl (by simp)) _) (fun g hg=>by simp at hg;rw [hg];exact⟨by simp,hgr0⟩) hmw rfl hres.o
    ·have hb1:(c.token==1)=false:=by rw [beq_eq_false_iff_ne];exact h1
     have hres:=zh (show revokeM c b=(b,⟨0,0,0,[],nilB,nilB,false,x.f.revoked⟩) by
      unfold revokeM;rw [hg.o];simp only;rw [if_neg (show¬(x.f.client≠c.client)from fun h=>h hcle.o),hth.o,if_neg (by simp [h1])])
     clear h1;go_wp2_with (refine wpList_store_row rfl 67 _ _ rfl gr _ rfl rfl 67 zs hR2h.o infoAns (by rw [hz];rfl) (by kernel_rfl) ?_)
     refine bodyPost_ret (results_cell_row rfl _ _ gr 67 _ (0,0) _ rfl (Blk.setRow hR2h.o _) uAns rfl infoAns) rfl ?_;exact ans_no (a:=⟨0,0,0,[],nilB,nilB,false,x.f.revoked⟩) (hbYh.o.fr F2h.o (by simp) (by simp)) (F0h.o.trans F2h.o).nil ((Fr.refl [gr] W2).setRow (.inl (by simp)) _) (fun g hg=>by simp at hg;rw [hg];exact⟨by simp,hgr0⟩) hmw rfl hres.o
   ·have hres:=zh (show revokeM c b=(fallM x.f b,⟨0,0,0,[],nilB,nilB,false,true⟩) by
     unfold revokeM;rw [hg.o];simp only;rw [if_neg (show¬(x.f.client≠c.client)from fun h=>h hcle.o),ht,if_pos (.inl rfl)])
    clear ht;unfold TA.val;go_upto_region 4 with(refine wpList_store_row rfl 29 _ _ rfl V2.heap.size _ rfl rfl 29 _ (Blk.new _ _ _) infoIss (by kernel_rfl) (by kernel_rfl) ?_)
    refine wp_gen (fun W2=>Fr [] W W2) (FVh.o.trans (((Fr.refl [] V2).alloc _).setRow (.inr (Nat.le_refl _)) _)) ?_;rintro W2 F2;have F2h:=zh F2;have hB2h:=zh (hBh.o.fr F2 (by simp));have hR2h:=zh (hRh.o.fr F2 (by simp));have hC2h:=zh (hCh.o.fr F2 (by simp));obtain⟨c0,c1,c2,c3,c4,c5,c6,c7,c8,c9,c10,hfl⟩:=fam_cells hB2h.o;obtain⟨d0,d1,d2,d3,d4,d5,d6,d7,d8,d9,d10,d11,d12,hcl⟩:=cmdV_cells hC2h.o;have hrl2:=hR2h.o.lt;have z9:=hB2h.o.frozen 9;clear F2 c0 c1 c2 c3 c4 c5 c6 c8 c10 d0 d1 d4 d5 d6 d7 d8 d9 d10 d11 d12;go_upto_region 6 with(fail)
    have hB5:=hB2h.o.set 9 (.bool true);have F5:Fr [gf] W2 (W2.setCell ⟨gf,9,none⟩ (.bool true)):=(Fr.refl [gf] W2).setCell (p:=⟨gf,9,none⟩) (.inl (by simp)) _;have hB5':Blk (W2.setCell ⟨gf,9,none⟩ (.bool true)) gf 26 (FA.mk {x.f with revoked:=true} x.sA x.sc x.tA x.tc x.ts x.lA x.lc).cells:=hB5;have hx5:FamIn (W2.setCell ⟨gf,9,none⟩ (.bool true)) (X++ [gc,gf,gr]) (FA.mk {x.f with revoked:=true} x.sA x.sc x.tA x.tc x.ts x.lA x.lc):=by have h:=(hxYh.o.fr F2h.o.nil).fr (F5.mono (S':=X++ [gc,gf,gr]) (by simp));exact⟨h.ts,h.scope,h.toks,h.leases,h.each⟩
    have hb5:=(hbYh.o.fr F2h.o (by simp) (by simp)).fr F5 (fun g hg=> .inl (by simp at hg;simp [hg])) (by simp;omega);have hP5:=(hPh.o.fr F2h.o (by simp)).fr F5 (by have:=hh.o.hp.lt;have:=hh.o.F0.size;simp;omega);have hR5:=(hRh.o.fr F2h.o (by simp)).fr F5 (by simp;omega);have FT5:=(F0h.o.trans F2h.o).andThen F5 (fun g hg=> .inr (by simp at hg;omega));refine wp_gen (fun W5=>Blk W5 gf 26 (FA.mk {x.f with revoked:=true} x.sA x.sc x.tA x.tc x.ts x.lA x.lc).cells∧FamIn W5 (X++ [gc,gf,gr]) (FA.mk {x.f with revoked:=true} x.sA x.sc x.tA x.tc x.ts x.lA x.lc)∧BkIn W5 mb (X++ [gc,gf,gr]) b∧Blk W5 p 183 #[.map (some mb),.int .i64 room]∧Blk W5 gr 67 zs∧Fr [] w0 W5) ⟨hB5',hx5,hb5,hP5,hR5,FT5⟩ ?_;clear hB5 F5 hB5' hx5 hb5 hP5 hR5 FT5 c9 z9 hfl;rintro W5 ⟨hB5,hx5,hb5,hP5,hR5,FT5⟩;have hfall:=fall_t W5 p mb room (X++ [gc,gf,gr]) b hP5 hb5 _ hx5 (List.mem_append.2 (.inl hh.o.hmb));have hB5h:=zh hB5;have hR5h:=zh hR5;have FT5h:=zh FT5;clear hx5 hb5 hP5 hR5 FT5;go_wp2_with (refine wpList_load_at rfl 26 _ rfl rfl hB5 (sub_self _) uFam rfl (infoFamL _) ?_;rw [Array.toArray_toList])
    refine hfall.mono ?_;rintro e W6 ⟨rfl,hb6,F6⟩;have hB6:=hB5h.o.fr F6 (by simp;omega);have c9:=hB6.cell 9;have hfl:=hB6.lt;unfold FA.cells at c9;simp only [zG,zH,zI]at c9;have hR6:=hR5h.o.fr F6 (by simp;omega);have hrl6:=hR6.lt;have hb6h:=zh hb6;have FT6:=zh (FT5h.o.nil.trans F6);clear hb6 F6 hB6 hB5 hfall;go_wp2_with (refine wpList_store_row rfl 67 _ _ rfl gr _ rfl rfl 67 zs hR6 infoAns (by rw [hz];rfl) (by kernel_rfl) ?_)
    refine bodyPost_ret (results_cell_row rfl _ _ gr 67 _ (0,0) _ rfl (Blk.setRow hR6 _) uAns rfl infoAns) rfl ?_;exact ans_no (a:=⟨0,0,0,[],nilB,nilB,false,true⟩) hb6h.o FT6.o ((Fr.refl [gr] W6).setRow (.inl (by simp)) _) (fun g hg=>by simp at hg;rw [hg];exact⟨by simp,hgr0⟩) hmw rfl hres.o
  ·have hcb:(x.f.client.toList==c.client.toList)=false:=by rw [toList_beq];simp [hcl1]
   have hres:=zh (show revokeM c b=(b,noA 0) by unfold revokeM;rw [hg.o];simp only;rw [if_pos hcl1]);clear hcl1;go_wp2_with (refine wpList_store_row rfl 67 _ _ rfl gr _ rfl rfl 67 zs hRh.o infoAns (by rw [hz];rfl) (by kernel_rfl) ?_)
   refine bodyPost_ret (results_cell_row rfl _ _ gr 67 _ (0,0) _ rfl (Blk.setRow hRh.o _) uAns rfl infoAns) rfl ?_;exact ans_no (a:=noA 0) hbYh.o F0h.o.nil ((Fr.refl [gr] W).setRow (.inl (by simp)) _) (fun g hg=>by simp at hg;rw [hg];exact⟨by simp,hgr0⟩) hmw rfl hres.o
end Go.Proofs.YtpmgepijkhaonaaGreat
