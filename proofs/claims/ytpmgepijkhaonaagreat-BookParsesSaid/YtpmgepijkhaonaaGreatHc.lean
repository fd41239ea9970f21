/- Walk: a family comes. Conditions: each theorem's own. -/
import Derived.Test.YtpmgepijkhaonaaGreatHa
namespace Go.Proofs.YtpmgepijkhaonaaGreat
open Go.RowKit Go.Sig
def newF (c:GCmd) (code:Int):GFam:=⟨c.family,c.client,c.user,c.scope,c.redirect,c.challenge,c.method,code,[],false,[]⟩
theorem new_w {w:World}{B:Nat}{c:GCmd}{code:Int}{A1:Option Addr}{c1:Nat}(h:Own w 9 1 (.slice A1 c.scope.length c1) c.scope.length (strCells c.scope)) (hA:From B A1):FamW w B (FA.mk (newF c code) A1 c1 none 0 [] none 0):=
 ⟨rfl,h,Own.nil _ _ _,Own.nil _ _ _,fun t ht=>by(cases ht),hA,fun ad e=>by(cases e),fun ad e=>by(cases e),fun t ht=>by(cases ht),fun x y e=>by(cases e),fun x y e=>by(cases e),fun t ht=>by(cases ht),fun x y e=>by(cases e),fun t ht=>by(cases ht)⟩
set_option maxRecDepth 100000 in
set_option maxHeartbeats 4000000 in
theorem begin_t {w0 w:World}{p mb:Nat}{room:Int}{X:List Nat}{b:GBk}{c:GCmd}{A:Option Addr}{n d:Nat}{x:FA}{is:Bool}(h:Br w0 w p mb room X b c A n d x is) (hk:c.kind=1∨c.kind=4):
  Calls Tryz.prog 127 #[.pointer (some ⟨p,0,none⟩),.agg (cmdV c A n d),x.val,.bool is] w (AnsPost w0 mb X (beginM room c b)):=by
 have hh:=zh h;clear h;unfold cmdV FA.val FA.cells;have hzs:∃zs:Array Value,zs.size=8∧Hid (zs=(AA.mk (noA 0) none 0).cells):=⟨_,rfl,zh rfl⟩
 obtain⟨zs,hz,hzh⟩:=hzs;go_enter Tryz.func127,Tryz.ntmps127;go_upto_region 1 with(fail)
 refine wp_gen (fun W=>Blk W w.heap.size 70 (cmdV c A n d)∧Blk W (w.heap.size+1) 26 x.cells∧Blk W (w.heap.size+1+1) 67 zs∧Fr [] w W) ⟨((Blk.new _ _ _).alloc _).alloc _,(Blk.new' _ _ (by simp)).alloc _,by rw [hzh.o];exact Blk.new' _ _ (by simp),(((Fr.refl _ _).alloc _).alloc _).alloc _⟩ ?_;rintro W ⟨hC,hB,hR,fW⟩;obtain⟨gc,HGC⟩:∃z,Hid (w.heap.size=z):=⟨_,zh rfl⟩
 have hgw:w.heap.size≤gc:=by have:=HGC.o;omega
 rw [HGC.o]at hC hB hR⊢;obtain⟨gf,HGF⟩:∃z,Hid (gc+1=z):=⟨_,zh rfl⟩
 rw [HGF.o]at hB hR⊢;obtain⟨gr,HGR⟩:∃z,Hid (gf+1=z):=⟨_,zh rfl⟩
 rw [HGR.o]at hR⊢;have hfr:gf≠gr:=by have:=HGF.o;have:=HGR.o;omega
 have hcr:gc≠gr:=by have:=HGF.o;have:=HGR.o;omega
 have hcf:gc≠gf:=by have:=HGF.o;omega
 have hgf:w.heap.size≤gf:=by have:=HGF.o;omega
 have hgr:w.heap.size≤gr:=by have:=HGF.o;have:=HGR.o;omega
 have hYw:∀g∈ [gc,gf,gr],w.heap.size≤g:=fun g hg=>by simp only [List.mem_cons,List.not_mem_nil,or_false]at hg;omega
 obtain⟨hFO,hbY,hxY,hW,hP,F0⟩:=br_pre hh.o fW [gc,gf,gr] hYw;have hmw:mb<w0.heap.size:=hh.o.hb.lt;have hw0w:w0.heap.size≤w.heap.size:=hh.o.F0.size;have hgr0:w0.heap.size≤gr:=by omega
 have hCh:=zh hC;have hBh:=zh hB;have hRh:=zh hR;have hFOh:=zh hFO;have hbYh:=zh hbY;have hxYh:=zh hxY;have hWh:=zh hW;have hPh:=zh hP;have F0h:=zh F0;have fWh:=zh fW;have hrl:=hR.lt;have hYwh:=zh hYw;clear hC hR hFO hbY hxY hW hP F0 fW hYw;have hkh:=zh hk;clear hk hB;have hget:=zh hh.o.get;cases is with
 |true=>
  have hres:=zh (show beginM room c b=(b,noA 1) by unfold beginM;rw [hget.o,if_pos rfl];rfl);have hno:=no_t W 1;go_wp2_with fail
  refine hno.mono ?_;rintro e W2 ⟨rfl,F2⟩;have F2h:=zh F2;have hR2:=hRh.o.fr F2 (by simp);have hrl2:=hR2.lt;clear hno F2 hrl;unfold AA.val AA.cells noA;go_wp2_with (refine wpList_store_row rfl 67 _ _ rfl gr _ rfl rfl 67 zs hR2 infoAns (by rw [hz];rfl) (by kernel_rfl) ?_)
  refine bodyPost_ret (results_cell_row rfl _ _ gr 67 _ (0,0) _ rfl (Blk.setRow hR2 _) uAns rfl infoAns) rfl ?_;exact ans_no (a:=noA 1) (hbYh.o.fr F2h.o (by simp) (by simp)) (F0h.o.trans F2h.o).nil ((Fr.refl [gr] W2).setRow (.inl (by simp)) _) (fun g hg=>by simp at hg;rw [hg];exact⟨by simp,hgr0⟩) hmw rfl hres.o
 |false=>
  have hgn:=zh (show(aget c.family b).isSome=false by rw [hget.o];rfl);obtain⟨l,hl1,hl2,hl3⟩:=hbYh.o;have hll:(l.length:Int)=(b.length:Int):=by rw [←hl2,List.length_map]
  have hllh:=zh hll;clear hll hl2 hl3;go_upto_region 3 with(fail)
  refine wp_still_gen (fun w1=>Blk w1 p 183 #[.map (some mb),.int .i64 room]∧IsMap w1 mb Value.string FA.val l∧Fr [] W w1) ⟨hPh.o.drew,hl1.fr ((Fr.refl [] W).drew) (by simp),(Fr.refl [] W).drew⟩ (by kernel_rfl) (by kernel_rfl) ?_;clear hl1;rintro w1 ⟨h2,h3,f1⟩;have e0:=h2.cell 0;have e1:=h2.cell 1;simp only [zG,zH,zI]at e0 e1;have hp1:=h2.lt;have hln:=fun ty=>h3.run_len (ty:=ty) uMsf;rw [hllh.o]at hln;obtain⟨bn,hbn⟩:∃z,Hid ((b.length:Int)=z):=⟨_,zh rfl⟩
  rw [hbn.o]at hln;repeat still_step
  refine wpStill_nil ?_;have f1h:=zh f1;clear e0 e1 hp1 hln h2 h3 f1;have hR1:=zh (hRh.o.fr f1h.o (by simp));have hrl1:=hR1.o.lt;clear hrl;by_cases hfull:room≤bn
  ·have hres:=zh (show beginM room c b=(b,noA 7) by unfold beginM;rw [if_neg (by rw [hgn.o];decide),if_pos (by rw [hbn.o];exact hfull)]);have hd:decide (room≤bn)=true:=decide_eq_true hfull;have hno:=no_t w1 7;go_wp2_with fail
   refine hno.mono ?_;rintro e W2 ⟨rfl,F2⟩;have F2h:=zh (f1h.o.trans F2);have hR2:=hRh.o.fr F2h.o (by simp);have hrl2:=hR2.lt;clear hno F2 hrl1;unfold AA.val AA.cells noA;go_wp2_with (refine wpList_store_row rfl 67 _ _ rfl gr _ rfl rfl 67 zs hR2 infoAns (by rw [hz];rfl) (by kernel_rfl) ?_)
   refine bodyPost_ret (results_cell_row rfl _ _ gr 67 _ (0,0) _ rfl (Blk.setRow hR2 _) uAns rfl infoAns) rfl ?_;exact ans_no (a:=noA 7) (hbYh.o.fr F2h.o (by simp) (by simp)) (F0h.o.trans F2h.o).nil ((Fr.refl [gr] W2).setRow (.inl (by simp)) _) (fun g hg=>by simp at hg;rw [hg];exact⟨by simp,hgr0⟩) hmw rfl hres.o
  ·have hd:decide (room≤bn)=false:=decide_eq_false hfull;have hfullh:=zh hfull;have hfull2:bn<room:=by omega
   obtain⟨d0,d1,d2,d3,d4,d5,d6,d7,d8,d9,d10,d11,d12,hcl⟩:=cmdV_cells (hCh.o.fr f1h.o (by simp));have hB1:=hBh.o.fr f1h.o (by simp);have hS1:Rd w1 1 A n (strCells c.scope):=hh.o.hS.fr (F0h.o.trans f1h.o) (by simp [Off]);have hS1h:=zh hS1;have hnl:=zh hh.o.hn;have hn32:=hh.o.hn32;clear hS1 d0 d2 d3 d10 d11 d12;go_upto_region 5 with(fail)
   refine wp_region_z (fun w'=>w'.cell? ⟨gc,1,none⟩=some (.string c.family)∧w'.cell? ⟨gc,4,none⟩=some (.string c.client)∧w'.cell? ⟨gc,5,none⟩=some (.string c.user)∧w'.cell? ⟨gc,6,none⟩=some (.slice A n d)∧w'.cell? ⟨gc,7,none⟩=some (.string c.redirect)∧w'.cell? ⟨gc,8,none⟩=some (.string c.challenge)∧w'.cell? ⟨gc,9,none⟩=some (.string c.method)) [16] (by kernel_rfl) ⟨d1,d4,d5,d6,d7,d8,d9⟩ ?_;intro hHeld;refine wpZ_tk (i:=0) (v:= ?_) hHeld ?_ ?_;rotate_left
   ·(intro w hSw;go_simp<;>with_reducible rfl)
   try simp only [zA,zC,Act.put,zD,zE,zF]
   refine wpZ_tk (i:=1) (v:= ?_) hHeld ?_ ?_;rotate_left
   ·(intro w hSw;go_simp<;>with_reducible rfl)
   try simp only [zA,zB,zC,Act.put,zD,zE,zF]
   refine wpZ_tk (i:=2) (v:= ?_) hHeld ?_ ?_;rotate_left
   ·(intro w hSw;go_simp<;>with_reducible rfl)
   try simp only [zA,zB,zC,Act.put,zD,zE,zF]
   refine wpZ_tk (i:=3) (v:= ?_) hHeld ?_ ?_;rotate_left
   ·(intro w hSw;go_simp<;>with_reducible rfl)
   try simp only [zA,zB,zC,Act.put,zD,zE,zF]
   refine wpZ_tk (i:=4) (v:= ?_) hHeld ?_ ?_;rotate_left
   ·(intro w hSw;go_simp<;>with_reducible rfl)
   try simp only [zA,zB,zC,Act.put,zD,zE,zF]
   refine wpZ_tk (i:=5) (v:= ?_) hHeld ?_ ?_;rotate_left
   ·(intro w hSw;go_simp<;>with_reducible rfl)
   try simp only [zA,zB,zC,Act.put,zD,zE,zF]
   refine wpZ_tk (i:=6) (v:= ?_) hHeld ?_ ?_;rotate_left
   ·(intro w hSw;go_simp<;>with_reducible rfl)
   try simp only [zA,zB,zC,Act.put,zD,zE,zF]
   refine wpZ_tk (i:=7) (v:= ?_) hHeld ?_ ?_;rotate_left
   ·(intro w hSw;go_simp<;>with_reducible rfl)
   try simp only [zA,zB,zC,Act.put,zD,zE,zF]
   refine wpZ_tk (i:=9) (v:= ?_) hHeld ?_ ?_;rotate_left
   ·(intro w hSw;go_simp<;>with_reducible rfl)
   try simp only [zA,zB,zC,Act.put,zD,zE,zF]
   refine wpZ_tk (i:=10) (v:= ?_) hHeld ?_ ?_;rotate_left
   ·(intro w hSw;go_simp<;>with_reducible rfl)
   try simp only [zA,zB,zC,Act.put,zD,zE,zF]
   refine wpZ_tk (i:=11) (v:= ?_) hHeld ?_ ?_;rotate_left
   ·(intro w hSw;go_simp<;>with_reducible rfl)
   try simp only [zA,zB,zC,Act.put,zD,zE,zF]
   refine wpZ_tk (i:=12) (v:= ?_) hHeld ?_ ?_;rotate_left
   ·(intro w hSw;go_simp<;>with_reducible rfl)
   try simp only [zA,zB,zC,Act.put,zD,zE,zF]
   refine wpZ_tk (i:=13) (v:= ?_) hHeld ?_ ?_;rotate_left
   ·(intro w hSw;go_simp<;>with_reducible rfl)
   try simp only [zA,zB,zC,Act.put,zD,zE,zF]
   refine wpZ_tk (i:=14) (v:= ?_) hHeld ?_ ?_;rotate_left
   ·(intro w hSw;go_simp<;>with_reducible rfl)
   try simp only [zA,zB,zC,Act.put,zD,zE,zF]
   refine wpZ_one (i:=8) (by kernel_rfl) rfl (fun K hK=> ?_);go_simp;refine(cloneS_t w1.drew A n d c.scope hS1h.o hnl.o (by omega)).mono ?_;rintro e W2 ⟨A1,c1,rfl,hO1,hA1,f2⟩;have f2:Fr [] w1 W2:=f2.of_drew;have hB2:=hB1.fr f2 (by simp);try dsimp only
   refine hK.out _ _ ⟨cell_fr f2 d1,cell_fr f2 d4,cell_fr f2 d5,cell_fr f2 d6,cell_fr f2 d7,cell_fr f2 d8,cell_fr f2 d9⟩ (fun hHeld=> ?_);clear hK K;try simp only [zA,zB,zC,Act.put,zD,zE,zF]
   refine wpZ_tk (i:=15) (v:= ?_) hHeld ?_ ?_;rotate_left
   ·(intro w hSw;go_simp<;>with_reducible rfl)
   try simp only [zA,zB,zC,Act.put,zD,zE,zF]
   refine wpZ_end (i:=16) (by kernel_rfl) rfl rfl (fun K hK=> ?_);rw [if_pos (wanted_none rfl)];refine wp_store_row 26 _ _ rfl gf _ rfl rfl 26 _ hB2 infoFam (by kernel_rfl) (by kernel_rfl) ?_;show K (Act.put _ none undef) _;refine hK.out _ _ ?_;clear hK K;try simp only [Act.put]
   refine wpZ_done (by kernel_rfl) ?_ _;go_upto_region 6 with(fail)
   have hB3:Blk (W2.setRow gf #[.string c.family,.string c.client,.string c.user,.slice A1 n c1,.string c.redirect,.string c.challenge,.string c.method,.int .i64 1,.slice none 0 0,.bool false,.slice none 0 0]) gf 26 (FA.mk (newF c 1) A1 c1 none 0 [] none 0).cells:=by have:=Blk.setRow hB2 (FA.mk (newF c 1) A1 c1 none 0 [] none 0).cells;unfold FA.cells newF at this⊢;rw [hnl.o]at this⊢;exact this
   have F3:Fr [gf] W2 (W2.setRow gf #[.string c.family,.string c.client,.string c.user,.slice A1 n c1,.string c.redirect,.string c.challenge,.string c.method,.int .i64 1,.slice none 0 0,.bool false,.slice none 0 0]):=(Fr.refl [gf] W2).setRow (.inl (by simp)) _;have hA1w:From w1.heap.size A1:=hA1;have hO3:=hO1.fr F3 (rowOf_off (fun ad e=>by have:=hA1w ad e;have:=hB1.lt;simp;omega));have FW3:=(f1h.o.trans f2).nil.trans F3;refine wp_gen (fun W3=>Blk W3 gf 26 (FA.mk (newF c 1) A1 c1 none 0 [] none 0).cells∧Own W3 9 1 (.slice A1 n c1) n (strCells c.scope)∧Fr [gf] W W3) ⟨hB3,hO3,FW3⟩ ?_;clear hB3 hO3 FW3 F3 hB2 hO1 hHeld d1 d4 d5 d6 d7 d8 d9 hcl hA1;rintro W3 ⟨hB3,hO3,F3⟩;have fW3:=fWh.o.andThen F3 (fun g hg=> .inr (by simp at hg;omega));have F03:=F0h.o.andThen F3 (fun g hg=> .inr (by have:=hh.o.F0.size;simp at hg;omega));have hC3:=hCh.o.fr F3 (by simp;exact hcf);obtain⟨d0,d1,d2,d3,d4,d5,d6,d7,d8,d9,d10,d11,d12,hcl⟩:=cmdV_cells hC3;have hB3h:=zh hB3;have hO3h:=zh hO3;have fW3h:=zh fW3;have F03h:=zh F03;have hC3h:=zh hC3;have hR3h:=zh (hRh.o.fr F3 (by simp;omega));have hS3:Rd W3 1 A n (strCells c.scope):=hh.o.hS.fr F03 (by simp [Off]);have hA1w0:=zh (hA1w.mono (show w0.heap.size≤w1.heap.size by have:=hh.o.F0.size;have:=fWh.o.size;have:=f1h.o.size;omega));have hclone:=cloneS_t W3 A n d c.scope hS3 hnl.o (by omega);have hF3s:=zh F3.size;have hA1W:=zh (hA1w.mono (show W.heap.size≤w1.heap.size from f1h.o.size));clear hB3 hO3 fW3 F03 hC3 hS3 hB1 f2 F3 d1 d2 d3 d4 d5 d7 d8 d9 d10 d11 d12 hrl1 hA1w;go_wp2_with fail
   refine hclone.mono ?_;rintro e W4 ⟨A2,c2,rfl,hO4,hA2,F4⟩;have hO4h:=zh hO4;have hA2h:=zh hA2;have F4h:=zh F4;clear hO4 hA2 F4 hclone d0 d6 hcl;go_upto_region 7 with(refine wpList_store_row rfl 67 _ _ rfl W4.heap.size _ rfl rfl 67 _ (Blk.new _ _ _) infoAns (by kernel_rfl) (by kernel_rfl) ?_)
   have hwW:w.heap.size≤W.heap.size:=fWh.o.size;have hWw1:W.heap.size≤w1.heap.size:=f1h.o.size;have hgrW:gr<W.heap.size:=hRh.o.lt;have hgcf:gc<gf∧gf<gr:=by have:=HGF.o;have:=HGR.o;omega
   refine wp_gen (fun V=>Blk V W4.heap.size 67 (AA.mk ⟨0,0,0,c.scope,nilB,nilB,false,false⟩ A2 c2).cells∧Fr [] W4 V) ⟨by unfold AA.cells;rw [hnl.o];exact Blk.setRow (Blk.new _ _ _) _,((Fr.refl [] W4).alloc _).setRow (.inr (Nat.le_refl _)) _⟩ ?_;rintro V ⟨hG,FV⟩;obtain⟨ga,HGA⟩:∃z,Hid (W4.heap.size=z):=⟨_,zh rfl⟩
   rw [HGA.o]at hG⊢;have hga0:ga=W4.heap.size:=HGA.o.symm;have hga0h:=zh hga0;have hWW3:W.heap.size≤W3.heap.size:=hF3s.o;have hW34:W3.heap.size≤W4.heap.size:=F4h.o.size;have hW4V:W4.heap.size≤V.heap.size:=FV.size;have hga:w.heap.size≤ga:=by omega
   have hgar:ga≠gr:=by omega
   have hgaf:ga≠gf:=by omega
   clear hga0;have F3V:=F4h.o.trans FV;have hfam0:=new_w (code:=1) (own_cast hO3h.o hnl.o) hA1w0.o;have hFOy:=zh (foff_new (n:=c.scope.length) (c:=c2) hfam0 hA2h.o);have hfamV:=zh (hfam0.fr0 F3V);have hO4V:=zh (own_cast (hO4h.o.fr FV (by simp)) hnl.o);have hA2w0:=zh (hA2h.o.mono (show w0.heap.size≤W3.heap.size by omega));have F0V:=F03h.o.trans F3V;have FwV:=fW3h.o.trans F3V;have F0Vh:=zh F0V;have FwVh:=zh FwV;have hPVh:=zh (hh.o.hp.fr F0V (by simp));have hRVh:=zh (hR3h.o.fr F3V (by simp));have hBVh:=zh (hB3h.o.fr F3V (by simp));have hCVh:=zh (hC3h.o.fr F3V (by simp));have hGh:=zh hG;have hFO3:∀(code:Int),FOff (FA.mk (newF c code) A1 c1 none 0 [] none 0) [gc,gf,gr]:=fun code=>⟨fun ad e hm=>by
    have h1:=hA1W.o ad e;simp only [List.mem_cons,List.not_mem_nil,or_false]at hm;omega,fun ad e=>by(cases e),fun ad e=>by(cases e),fun t ht=>by(cases ht)⟩
   have hFO3h:=zh hFO3;have hfcl:=hBVh.o.lt;obtain⟨d0,d1,d2,d3,d4,d5,d6,d7,d8,d9,d10,d11,d12,hcl⟩:=cmdV_cells hCVh.o;clear hG FV F3V hfam0 F0V FwV hFO3 d1 d2 d3 d4 d5 d7 d8 d9 d10 d11 d12;by_cases hk1:c.kind=4
   ·have hk4:(c.kind==4)=true:=by rw [beq_iff_eq];exact hk1
    have hk1h:=zh hk1;clear hk1;have e7:=hBVh.o.cell 7;have z7:=hBVh.o.frozen 7;unfold FA.cells at e7;simp only [zG,zH,zI]at e7;go_upto_region 9 with(fail)
    have hB7:=hBVh.o.set 7 (.int .i64 0);have F7:Fr [gf] V (V.setCell ⟨gf,7,none⟩ (.int .i64 0)):=(Fr.refl [gf] V).setCell (p:=⟨gf,7,none⟩) (.inl (by simp)) _;have hB7':Blk (V.setCell ⟨gf,7,none⟩ (.int .i64 0)) gf 26 (FA.mk (newF c 0) A1 c1 none 0 [] none 0).cells:=hB7;have hw7:FamW (V.setCell ⟨gf,7,none⟩ (.int .i64 0)) w0.heap.size (FA.mk (newF c 0) A1 c1 none 0 [] none 0):=by have h:=hfamV.o.frO F7 ((hFO3h.o 1).mono (by simp));exact⟨h.ts,h.scope,h.toks,h.leases,h.each,h.fs,h.ft,h.fl,h.fe,h.ts_,h.tl,h.te,h.ls,h.le⟩
    have F07:=F0Vh.o.andThen F7 (fun g hg=> .inr (by simp at hg;omega));have Fw7:=FwVh.o.andThen F7 (fun g hg=> .inr (by simp at hg;omega));refine wp_gen (fun V7=>Blk V7 gf 26 (FA.mk (newF c 0) A1 c1 none 0 [] none 0).cells∧FamW V7 w0.heap.size (FA.mk (newF c 0) A1 c1 none 0 [] none 0)∧Fr [] w0 V7∧Fr [] w V7∧Blk V7 p 183 #[.map (some mb),.int .i64 room]∧Blk V7 gr 67 zs∧Blk V7 gc 70 (cmdV c A n d)∧
     Blk V7 ga 67 (AA.mk ⟨0,0,0,c.scope,nilB,nilB,false,false⟩ A2 c2).cells∧V.heap.size≤V7.heap.size)
     ⟨hB7',hw7,F07,Fw7,hPVh.o.fr F7 (by have:=hh.o.hp.lt;simp;omega),hRVh.o.fr F7 (by simp;omega),hCVh.o.fr F7 (by simp;exact hcf),hGh.o.fr F7 (by simp;exact hgaf),F7.size⟩ ?_
    clear hB7 F7 hB7' hw7 F07 Fw7 e7 z7 hfcl d0 d6 hcl;rintro V7 ⟨hB7,hw7,F07,Fw7,hP7,hR7,hC7,hG7,hs7⟩;obtain⟨d0,d1,d2,d3,d4,d5,d6,d7,d8,d9,d10,d11,d12,hcl⟩:=cmdV_cells hC7;have hB7h:=zh hB7;have hw7h:=zh hw7;have F07h:=zh F07;have Fw7h:=zh Fw7;have hP7h:=zh hP7;have hR7h:=zh hR7;have hG7h:=zh hG7;have hgaV:ga<V7.heap.size:=hG7.lt;have hY0:∀g∈ [gc,gf,gr,ga],g<V7.heap.size:=fun g hg=>by have h1:=hC7.lt;have h2:=hB7.lt;have h3:=hR7.lt;simp only [List.mem_cons,List.not_mem_nil,or_false]at hg;omega
    have hFO4:FOff (FA.mk (newF c 0) A1 c1 none 0 [] none 0) [gc,gf,gr,ga]:=((hFO3h.o 0).app (Y:= [ga]) ⟨fun ad e hm=>by
     have h1:=hO3h.o.lt ad.block (rowOf_mem.2 ⟨ad,e,rfl⟩);have h2:=hga0h.o;simp at hm;omega,fun ad e=>by(cases e),fun ad e=>by(cases e),fun t ht=>by(cases ht)⟩).mono (fun g hg=>by simp at hg⊢;exact hg)
    have hAlt:0<c.scope.length→∀ad,A=some ad→ad.block<w0.heap.size:=fun h0 ad e=>hh.o.hS.lt (by omega) (by have:=hh.o.hn;omega) ad e;have hscn:c.scope.length≤1000:=by rw [hnl.o];exact hh.o.hn32
    have hrd7:Rd V7 1 A c.scope.length (strCells c.scope):=by rw [hnl.o];exact hh.o.hS.fr F07 (by simp [Off])
    have hiss:=issue_t V7 gf w0.heap.size (FA.mk (newF c 0) A1 c1 none 0 [] none 0) A d c.scope false [gc,gf,gr,ga] hB7 hw7 (by omega) hFO4 (by simp) hY0 hrd7 (fun h0 ad e hm=>by
     have h1:=hAlt h0 ad e;rcases List.mem_cons.1 hm with hm |hm
     ·omega
     ·simp [rowOf,Value.ownBlock]at hm) hscn (by simp) hscn
    rw [hnl.o]at hiss;clear hrd7 hAlt hFO4 hY0 hB7 hw7 F07 Fw7 hP7 hR7 hC7 hG7 d0 d1 d2 d3 d4 d5 d7 d8 d9 d10 d11 d12;go_wp2_with fail
    refine hiss.mono ?_;rintro e V8 ⟨y,x8,rfl,hy,hAns8,hx8,hw8,hB8,F8,hY8⟩;have F8':Fr [gf] V7 V8:=F8.mono (fun g hg=>by
     rcases List.mem_cons.1 hg with hg |hg
     ·simp [hg]
     ·simp [rowOf,Value.ownBlock]at hg)
    have hG8:=hG7h.o.fr F8' (by simp;exact hgaf);have hgyr:∀g∈rowOf y.slice,V7.heap.size≤g:=fun g hg=>by obtain⟨ad,e,rfl⟩:=rowOf_mem.1 hg;exact hAns8.2 ad e
    have hgyrh:=zh hgyr;have hR8:=hR7h.o.fr F8' (by simp;omega);have hP8:=hP7h.o.fr F8' (by have:=hh.o.hp.lt;simp;omega);have F08:=F07h.o.andThen F8' (fun g hg=> .inr (by simp at hg;omega));have Fw8:=Fw7h.o.andThen F8' (fun g hg=> .inr (by simp at hg;omega));have hx8h:=zh hx8;have hyh:=zh hy;have hw8h:=zh hw8;have hB8h:=zh hB8;have hY8h:=zh hY8;have hAns8h:=zh hAns8;have hR8h:=zh hR8;have hP8h:=zh hP8;have F08h:=zh F08;have Fw8h:=zh Fw8;have hgal8:=hG8.lt;clear hiss F8 F8' hgyr hR8 hP8 F08 Fw8 hx8 hy hw8 hB8 hY8 hAns8 d6 hcl;unfold AA.val;have hzg:∃zg:Array Value,zg.size=8∧Hid ((AA.mk ⟨0,0,0,c.scope,nilB,nilB,false,false⟩ A2 c2).cells=zg):=⟨_,rfl,zh rfl⟩
    obtain⟨zg,hz2,hzgh⟩:=hzg;rw [hzgh.o]at hG8;go_upto_region 10 with(refine wpList_store_row rfl 67 _ _ rfl ga _ rfl rfl 67 zg hG8 (infoAnsY y) (hz2.trans (AA.size8 y).symm) (AA.one y) ?_)
    have F9:Fr [ga] V8 (V8.setRow ga y.cells):=(Fr.refl [ga] V8).setRow (.inl (by simp)) _;refine wp_gen (fun V9=>Fr [ga] V8 V9∧Blk V9 ga 67 y.cells) ⟨F9,Blk.setRow hG8 _⟩ ?_;clear F9 hG8 hgal8;rintro V9 ⟨F9,hG9⟩;have hGh:=zh hG9;have hBxh:=zh (hB8h.o.fr F9 (by simp;exact fun e=>hgaf e.symm));have hRVh:=zh (hR8h.o.fr F9 (by simp;exact fun e=>hgar e.symm));have hPVh:=zh (hP8h.o.fr F9 (by have:=hh.o.hp.lt;simp;omega));have F0Vh:=zh (F08h.o.andThen F9 (fun g hg=> .inr (by simp at hg;omega)));have FwVh:=zh (Fw8h.o.andThen F9 (fun g hg=> .inr (by simp at hg;omega)));have hw9:=hw8h.o.frO F9 (hY8h.o.mono (fun g hg=>List.mem_append.2 (.inl (by simp at hg;simp [hg]))));have hres:=zh (show beginM room c b=(aset x8.f.id x8.f b,y.a) by
     unfold beginM;rw [if_neg (by rw [hgn.o];decide),if_neg (by rw [hbn.o];have:=hfullh.o;omega),if_pos hk1h.o,hx8h.o,hyh.o];rfl)
    obtain⟨Y1,hY1e⟩:∃Y1:List Nat,Hid (Y1= [gc,gf,gr,ga]++rowOf y.slice):=⟨_,zh rfl⟩
    have hV7w0:w0.heap.size≤V7.heap.size:=F07h.o.size;have hY1:=zh (show∀g∈Y1,w0.heap.size≤g from fun g hg=>by
     rw [hY1e.o]at hg;rcases List.mem_append.1 hg with hg |hg
     ·simp only [List.mem_cons,List.not_mem_nil,or_false]at hg;omega
     ·have:=hgyrh.o g hg;omega)
    have hFamh:=zh (show FamIn V9 (X++Y1) x8 from by
     rw [hY1e.o];exact hw9.famO ((foff_from hw9 hh.o.hX).app hY8h.o))
    have hAnsh:=zh (show AnsIn V9 w0.heap.size y from ans_fr ⟨hAns8h.o.1,hAns8h.o.2.mono hV7w0⟩ F9 (fun g hg=>by have:=hgyrh.o g hg;simp;omega));have hyY:=zh (show∀g∈rowOf y.slice,g∈Y1 from fun g hg=>by rw [hY1e.o];exact List.mem_append.2 (.inr hg));have hgrY:=zh (show gr∈Y1 by rw [hY1e.o];simp);have hgrV7:gr<V7.heap.size:=hR7h.o.lt;have hyg:=zh (show∀g∈rowOf y.slice,g≠gr from fun g hg e=>by
     have:=hgyrh.o g hg;omega)
    clear F9 hG9 hw9;go_upto_region 10 with(fail)
    obtain⟨l,hl1,hl2,hl3⟩:=hh.o.hb;have hl3h:=zh hl3;have hl2h:=zh hl2;clear hl3 hl2;refine wp_tail_gen 7 (fun w1=>Blk w1 gf 26 (x8).cells∧Blk w1 p 183 #[.map (some mb),.int .i64 room]∧IsMap w1 mb Value.string FA.val l∧Fr [] V9 w1) ⟨hBxh.o.drew,hPVh.o.drew,hl1.fr (F0Vh.o.drew) (by simp),(Fr.refl [] V9).drew⟩ (by kernel_rfl) (by kernel_rfl) ?_;clear hl1;rintro w1 ⟨h1,h2,h3,f1⟩;have hcc:=fam_cells h1;obtain⟨q0,q1,q2,q3,q4,q5,q6,q7,q8,q9,q10,hgl⟩:=hcc;have e0:=h2.cell 0;simp only [zG,zH]at e0;have hp1:=h2.lt;simp only [List.take_succ_cons,List.take_zero,List.drop_succ_cons,List.drop_zero];repeat still_step
    refine wpStill_nil ?_;refine wpList_map_set h3 kStr uMsf (x8.f).id (x8) rfl rfl rfl rfl rfl ?_;intro w2 hm ht;have F2:Fr [mb] w1 w2:=ht.fr;have hmX:mb∈X++Y1:=List.mem_append.2 (.inl hh.o.hmb);have hfam2:=(hFamh.o.fr f1.nil).fr (F2.mono (S':=X++Y1) (fun g hg=>by simp at hg;rw [hg];exact hmX));have hbk:=zh (bk_aset l hl2h.o hm hl3h.o (F0Vh.o.trans f1) F2 hh.o.hmb hY1.o hfam2);have hR2:=(hRVh.o.fr f1 (by simp)).fr F2 (by simp;omega);have hG2:=(hGh.o.fr f1 (by simp)).fr F2 (by simp;omega);have FT:=zh ((F0Vh.o.nil.trans f1.nil).trans F2);have hAns2:=zh (ans_fr hAnsh.o (f1.nil.trans F2) (fun g hg=>by
     obtain⟨ad,e,h⟩:=rowOf_mem.1 hg;have h1:=hAnsh.o.2 ad e;have h2:=hh.o.hX mb hh.o.hmb;simp;omega))
    have hrl2:=hR2.lt;have hgl2:=hG2.lt;obtain⟨a0,a1,a2,a3,a4,a5,a6,a7,hfz⟩:=AA.blk hG2;clear h1 h2 h3 hm ht q0 q1 q2 q3 q4 q5 q6 q7 q8 q9 q10 hgl e0 hp1 hfam2 hfz hmX;go_wp2_with (refine wpList_store_row rfl 67 _ _ rfl gr _ rfl rfl 67 zs hR2 infoAns (by rw [hz];rfl) (by kernel_rfl) ?_)
    refine bodyPost_ret (results_cell_row rfl _ _ gr 67 _ (0,0) _ rfl (Blk.setRow hR2 _) uAns rfl infoAns) rfl ?_;exact ans_yes (Y:=Y1) hbk.o FT.o ((Fr.refl [gr] w2).setRow (.inl (by simp)) _) (fun g hg=>by simp at hg;rw [hg];exact⟨hgrY.o,hgr0⟩) hmw (y) hAns2.o hyY.o (fun g hg=>by have:=hyg.o g hg;simp;omega) hres.o
   ·have hk4:(c.kind==4)=false:=by rw [beq_eq_false_iff_ne];exact hk1
    have hres:=zh (show beginM room c b=(aset (newF c 1).id (newF c 1) b,⟨0,0,0,c.scope,nilB,nilB,false,false⟩) by
     unfold beginM;rw [if_neg (by rw [hgn.o];decide),if_neg (by rw [hbn.o];have:=hfullh.o;omega),if_neg hk1];rfl)
    clear hk1;obtain⟨Y1,hY1e⟩:∃Y1:List Nat,Hid (Y1= [gc,gf,gr]++rowOf (.slice A2 c.scope.length c2)):=⟨_,zh rfl⟩
    have hBxh:=hBVh;have hY1:=zh (show∀g∈Y1,w0.heap.size≤g from fun g hg=>by
     rw [hY1e.o]at hg;rcases List.mem_append.1 hg with hg |hg
     ·simp only [List.mem_cons,List.not_mem_nil,or_false]at hg;omega
     ·obtain⟨ad,e,rfl⟩:=rowOf_mem.1 hg;exact hA2w0.o ad e)
    have hFamh:=zh (show FamIn V (X++Y1) (FA.mk (newF c 1) A1 c1 none 0 [] none 0)from by
     rw [hY1e.o];exact hfamV.o.famO ((foff_from hfamV.o hh.o.hX).app ((hFO3h.o 1).app hFOy.o)))
    have hAnsh:=zh (show AnsIn V w0.heap.size (AA.mk ⟨0,0,0,c.scope,nilB,nilB,false,false⟩ A2 c2)from⟨hO4V.o,hA2w0.o⟩);have hyY:=zh (show∀g∈rowOf (AA.mk ⟨0,0,0,c.scope,nilB,nilB,false,false⟩ A2 c2).slice,g∈Y1 from fun g hg=>by rw [hY1e.o];exact List.mem_append.2 (.inr hg));have hgrY:=zh (show gr∈Y1 by rw [hY1e.o];simp);have hyg:=zh (show∀g∈rowOf (AA.mk ⟨0,0,0,c.scope,nilB,nilB,false,false⟩ A2 c2).slice,g≠gr from fun g hg e=>by
     obtain⟨ad,e2,h2⟩:=rowOf_mem.1 hg;have:=hA2h.o ad e2;omega)
    go_upto_region 10 with(fail)
    obtain⟨l,hl1,hl2,hl3⟩:=hh.o.hb;have hl3h:=zh hl3;have hl2h:=zh hl2;clear hl3 hl2;refine wp_tail_gen 7 (fun w1=>Blk w1 gf 26 (FA.mk (newF c 1) A1 c1 none 0 [] none 0).cells∧Blk w1 p 183 #[.map (some mb),.int .i64 room]∧IsMap w1 mb Value.string FA.val l∧Fr [] V w1) ⟨hBxh.o.drew,hPVh.o.drew,hl1.fr (F0Vh.o.drew) (by simp),(Fr.refl [] V).drew⟩ (by kernel_rfl) (by kernel_rfl) ?_;clear hl1;rintro w1 ⟨h1,h2,h3,f1⟩;have hcc:=fam_cells h1;obtain⟨q0,q1,q2,q3,q4,q5,q6,q7,q8,q9,q10,hgl⟩:=hcc;have e0:=h2.cell 0;simp only [zG,zH]at e0;have hp1:=h2.lt;simp only [List.take_succ_cons,List.take_zero,List.drop_succ_cons,List.drop_zero];repeat still_step
    refine wpStill_nil ?_;refine wpList_map_set h3 kStr uMsf (newF c 1).id (FA.mk (newF c 1) A1 c1 none 0 [] none 0) rfl rfl rfl rfl rfl ?_;intro w2 hm ht;have F2:Fr [mb] w1 w2:=ht.fr;have hmX:mb∈X++Y1:=List.mem_append.2 (.inl hh.o.hmb);have hfam2:=(hFamh.o.fr f1.nil).fr (F2.mono (S':=X++Y1) (fun g hg=>by simp at hg;rw [hg];exact hmX));have hbk:=zh (bk_aset l hl2h.o hm hl3h.o (F0Vh.o.trans f1) F2 hh.o.hmb hY1.o hfam2);have hR2:=(hRVh.o.fr f1 (by simp)).fr F2 (by simp;omega);have hG2:=(hGh.o.fr f1 (by simp)).fr F2 (by simp;omega);have FT:=zh ((F0Vh.o.nil.trans f1.nil).trans F2);have hAns2:=zh (ans_fr hAnsh.o (f1.nil.trans F2) (fun g hg=>by
     obtain⟨ad,e,h⟩:=rowOf_mem.1 hg;have h1:=hAnsh.o.2 ad e;have h2:=hh.o.hX mb hh.o.hmb;simp;omega))
    have hrl2:=hR2.lt;have hgl2:=hG2.lt;obtain⟨a0,a1,a2,a3,a4,a5,a6,a7,hfz⟩:=AA.blk hG2;clear h1 h2 h3 hm ht q0 q1 q2 q3 q4 q5 q6 q7 q8 q9 q10 hgl e0 hp1 hfam2 hfz hmX;go_wp2_with (refine wpList_store_row rfl 67 _ _ rfl gr _ rfl rfl 67 zs hR2 infoAns (by rw [hz];rfl) (by kernel_rfl) ?_)
    refine bodyPost_ret (results_cell_row rfl _ _ gr 67 _ (0,0) _ rfl (Blk.setRow hR2 _) uAns rfl infoAns) rfl ?_;exact ans_yes (Y:=Y1) hbk.o FT.o ((Fr.refl [gr] w2).setRow (.inl (by simp)) _) (fun g hg=>by simp at hg;rw [hg];exact⟨hgrY.o,hgr0⟩) hmw (AA.mk ⟨0,0,0,c.scope,nilB,nilB,false,false⟩ A2 c2) hAns2.o hyY.o (fun g hg=>by have:=hyg.o g hg;simp;omega) hres.o
end Go.Proofs.YtpmgepijkhaonaaGreat
