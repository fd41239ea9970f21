/- Walk: a token is used. Conditions: each theorem's own. -/
import Derived.Test.YtpmgepijkhaonaaGreatHb
namespace Go.Proofs.YtpmgepijkhaonaaGreat
open Go.RowKit Go.Sig
theorem setM_sizes {l:List ByteArray}(h:setM l=true):l.length≤32∧∀s∈l,s.size≤64:=by
 unfold setM at h;simp only [Bool.and_eq_true,decide_eq_true_eq]at h;refine⟨h.1.1,fun s hs=> ?_⟩;rw [←h.1.2]at hs;exact(isWord_size (mem_setOf.1 hs).2).2
def useT (ts:List TA) (k:Nat):List TA:=ts.modify k fun t=>{t with tok:={t.tok with used:=true}}
theorem useT_length (ts:List TA) (k:Nat):(useT ts k).length=ts.length:=List.length_modify _ _ _
theorem useT_tok (ts:List TA) (k:Nat):(useT ts k).map (·.tok)=useM (ts.map (·.tok)) k:=by
 unfold useT useM;apply List.ext_getElem?;intro j;simp only [List.getElem?_map,List.getElem?_modify];cases ts[j]? with
 |none=>split<;>rfl
 |some t=>split<;>rfl
theorem tokCells_use:∀(l:List TA) (i:Nat),tokCells (useT l i)=if i<l.length then(tokCells l).set (i*3+2) (.bool true)else tokCells l
 | [],i=>by simp [useT,tokCells]
 |t::l,0=>by simp [useT,tokCells,TA.cells]
 |t::l,i+1=>by
  have e:∀(t:TA) l,tokCells (t::l)= .int .i64 t.tok.kind:: .slice t.A t.tok.scope.length t.c:: .bool t.tok.used::tokCells l:=fun _ _=>rfl;have h:=tokCells_use l i;have h2:useT (t::l) (i+1)=t::useT l i:=by simp [useT]
  rw [h2,e,e,h,show(i+1)*3+2=i*3+2+1+1+1 by omega];by_cases hi:i<l.length
  ·rw [if_pos hi,if_pos (by simpa using hi)];simp
  ·rw [if_neg hi,if_neg (by simpa using hi)]
theorem useT_mem {ts:List TA}{k:Nat}{t:TA}(h:t∈useT ts k):∃t'∈ts,t.A=t'.A∧t.c=t'.c∧t.tok.scope=t'.tok.scope:=by
 obtain⟨j,hj,rfl⟩:=List.mem_iff_getElem.1 h;have hj2:j<ts.length:=by rw [←useT_length ts k];exact hj
 unfold useT at hj⊢;rw [List.getElem_modify];split
 ·exact⟨ts[j],List.getElem_mem hj2,rfl,rfl,rfl⟩
 ·exact⟨ts[j],List.getElem_mem hj2,rfl,rfl,rfl⟩
theorem fam_use {w:World}{B gt k:Nat}{x:FA}(h:FamW w B x) (ht:x.tA=some ⟨gt,0,none⟩) (hk:k<x.ts.length):
  FamW (w.setCell ⟨gt,k*3+2,none⟩ (.bool true)) B {x with f:={x.f with tokens:=useM x.f.tokens k},ts:=useT x.ts k}:=by
 have hF:Fr [gt] w (w.setCell ⟨gt,k*3+2,none⟩ (.bool true)):=(Fr.refl [gt] w).setCell (p:=⟨gt,k*3+2,none⟩) (.inl (by simp)) _;have off:∀{A:Option Addr}{n c:Nat},Apart x.tA A→∀g,g∈rowOf (.slice A n c)→g∉ [gt]:=fun hA=>rowOf_off (fun ad e hm=>by
  rw [List.mem_singleton]at hm;exact hA _ ad ht e hm.symm)
 have hT:=h.toks;rw [ht]at hT;have hT2:=own_set (v:= .bool true) (j:=k*3+2) hT (by omega);have hcells:tokCells (useT x.ts k)=(tokCells x.ts).set (k*3+2) (.bool true):=by rw [tokCells_use,if_pos hk]
 refine⟨by rw [useT_tok,h.ts],h.scope.fr hF (off h.ts_),?_,h.leases.fr hF (off h.tl),fun t ht=> ?_,h.fs,h.ft,h.fl,fun t ht=> ?_,h.ts_,h.tl,fun t ht=> ?_,h.ls,fun t ht=> ?_⟩
 ·simp only [useT_length,hcells,ht];exact hT2
 ·obtain⟨t',h1,h2,h3,h4⟩:=useT_mem ht;rw [h2,h3,h4];exact(h.each t' h1).fr hF (off (h.te t' h1))
 ·obtain⟨t',h1,h2,_,_⟩:=useT_mem ht;rw [h2];exact h.fe t' h1
 ·obtain⟨t',h1,h2,_,_⟩:=useT_mem ht;rw [h2];exact h.te t' h1
 ·obtain⟨t',h1,h2,_,_⟩:=useT_mem ht;rw [h2];exact h.le t' h1
set_option maxRecDepth 100000 in
set_option maxHeartbeats 4000000 in
theorem refresh_t {w0 w:World}{p mb:Nat}{room:Int}{X:List Nat}{b:GBk}{c:GCmd}{A:Option Addr}{n d:Nat}{x:FA}{is:Bool}(h:Br w0 w p mb room X b c A n d x is):
  Calls Tryz.prog 129 #[.pointer (some ⟨p,0,none⟩),.agg (cmdV c A n d),x.val,.bool is] w (AnsPost w0 mb X (refreshM c b)):=by
 have hh:=zh h;clear h;unfold cmdV FA.val FA.cells;have hzs:∃zs:Array Value,zs.size=8∧Hid (zs=(AA.mk (noA 0) none 0).cells):=⟨_,rfl,zh rfl⟩
 obtain⟨zs,hz,hzh⟩:=hzs;go_enter Tryz.func129,Tryz.ntmps129;go_upto_region 1 with(fail)
 refine wp_gen (fun W=>Blk W w.heap.size 70 (cmdV c A n d)∧Blk W (w.heap.size+1) 26 x.cells∧Blk W (w.heap.size+1+1) 67 zs∧Fr [] w W) ⟨((Blk.new _ _ _).alloc _).alloc _,(Blk.new' _ _ (by simp)).alloc _,by rw [hzh.o];exact Blk.new' _ _ (by simp),(((Fr.refl _ _).alloc _).alloc _).alloc _⟩ ?_;rintro W ⟨hC,hB,hR,fW⟩;obtain⟨gc,HGC⟩:∃z,Hid (w.heap.size=z):=⟨_,zh rfl⟩
 have hgw:w.heap.size≤gc:=by have:=HGC.o;omega
 rw [HGC.o]at hC hB hR⊢;obtain⟨gf,HGF⟩:∃z,Hid (gc+1=z):=⟨_,zh rfl⟩
 rw [HGF.o]at hB hR⊢;obtain⟨gr,HGR⟩:∃z,Hid (gf+1=z):=⟨_,zh rfl⟩
 rw [HGR.o]at hR⊢;have hfr:gf≠gr:=by have:=HGF.o;have:=HGR.o;omega
 have hcr:gc≠gr:=by have:=HGF.o;have:=HGR.o;omega
 have hcf:gc≠gf:=by have:=HGF.o;omega
 have hgf:w.heap.size≤gf:=by have:=HGF.o;omega
 have hgr:w.heap.size≤gr:=by have:=HGF.o;have:=HGR.o;omega
 have hYw:∀g∈ [gc,gf,gr],w.heap.size≤g:=fun g hg=>by simp only [List.mem_cons,List.not_mem_nil,or_false]at hg;omega
 obtain⟨hFO,hbY,hxY,hW,hP,F0⟩:=br_pre hh.o fW [gc,gf,gr] hYw;have hmw:mb<w0.heap.size:=hh.o.hb.lt;have hw0w:w0.heap.size≤w.heap.size:=hh.o.F0.size;have hgr0:w0.heap.size≤gr:=by omega
 have hCh:=zh hC;have hBh:=zh hB;have hRh:=zh hR;have hFOh:=zh hFO;have hbYh:=zh hbY;have hxYh:=zh hxY;have hWh:=zh hW;have hPh:=zh hP;have F0h:=zh F0;have fWh:=zh fW;have hrl:=hR.lt;have hYwh:=zh hYw;clear hC hR hFO hbY hxY hW hP F0 fW hYw;have hrl0:=hRh.o.lt;clear hrl;have hget:=zh hh.o.get;obtain⟨rv,hrv⟩:∃z,Hid (x.f.revoked=z):=⟨_,zh rfl⟩
 obtain⟨d0,d1,d2,d3,d4,d5,d6,d7,d8,d9,d10,d11,d12,hcl⟩:=cmdV_cells hCh.o;have htok:=token_t W x 3 c.serial (hxYh.o.mono (by simp)) (by have:=hh.o.len8;omega);clear d0 d1 d3 d4 d5 d6 d7 d8 d9 d10 d11 d12;go_wp2_with (refine wpList_load_at rfl 26 _ rfl rfl hB (sub_self _) uFam rfl (infoFamL _) ?_;rw [Array.toArray_toList])
 refine htok.mono ?_;rintro e V2 ⟨FV,hcase⟩;have FVh:=zh FV;clear htok d2 hcl hB FV;rcases hcase with⟨ht,rfl⟩ | ⟨t,ht,hgk,rfl⟩
 ·have hth:=zh ht;clear ht;unfold zeroIss;go_upto_block 0 with(refine wpList_store_row rfl 29 _ _ rfl V2.heap.size _ rfl rfl 29 _ (Blk.new _ _ _) infoIss (by kernel_rfl) (by kernel_rfl) ?_)
  refine wp_gen (fun W2=>Fr [] W W2∧Blk W2 V2.heap.size 29 #[.int .i64 0,.slice none 0 0,.bool false]) ⟨FVh.o.trans (((Fr.refl [] V2).alloc _).setRow (.inr (Nat.le_refl _)) _),Blk.setRow (Blk.new _ _ _) _⟩ ?_;rintro W2 ⟨F2,hT2⟩;obtain⟨g9,HG9⟩:∃z,Hid (V2.heap.size=z):=⟨_,zh rfl⟩
  rw [HG9.o]at hT2⊢;obtain⟨t0,t1,t2⟩:=hT2.c3;have htl:=hT2.lt;have F2h:=zh F2;have hB2h:=zh (hBh.o.fr F2 (by simp));have hR2h:=zh (hRh.o.fr F2 (by simp));have hC2h:=zh (hCh.o.fr F2 (by simp));clear F2 hT2;cases is with
  |false=>
   have hres:=zh (show refreshM c b=(b,noA 3) by unfold refreshM;rw [hget.o];rfl);have hno:=no_t W2 3;go_wp2_with fail
   refine hno.mono ?_;rintro e N2 ⟨rfl,FN⟩;have FNh:=zh (F2h.o.trans FN);have hRN:=hR2h.o.fr FN (by simp);have hrlN:=hRN.lt;clear hno FN;unfold AA.val AA.cells noA;go_wp2_with (refine wpList_store_row rfl 67 _ _ rfl gr _ rfl rfl 67 zs hRN infoAns (by rw [hz];rfl) (by kernel_rfl) ?_)
   refine bodyPost_ret (results_cell_row rfl _ _ gr 67 _ (0,0) _ rfl (Blk.setRow hRN _) uAns rfl infoAns) rfl ?_;exact ans_no (a:=noA 3) (hbYh.o.fr FNh.o (by simp) (by simp)) (F0h.o.trans FNh.o).nil ((Fr.refl [gr] N2).setRow (.inl (by simp)) _) (fun g hg=>by simp at hg;rw [hg];exact⟨by simp,hgr0⟩) hmw rfl hres.o
  |true=>
   have hg:=zh (show aget c.family b=some x.f by rw [hget.o,if_pos rfl]);have hres:=zh (show refreshM c b=(b,noA 3) by unfold refreshM;rw [hg.o];simp only;rw [hth.o]);obtain⟨c0,c1,c2,c3,c4,c5,c6,c7,c8,c9,c10,hfl⟩:=fam_cells hB2h.o;obtain⟨d0,d1,d2,d3,d4,d5,d6,d7,d8,d9,d10,d11,d12,hcl⟩:=cmdV_cells hC2h.o;rw [hrv.o]at c9;cases rv with
   |true=>
    have hno:=no_t W2 3;go_wp2_with fail
    refine hno.mono ?_;rintro e N2 ⟨rfl,FN⟩;have FNh:=zh (F2h.o.trans FN);have hRN:=hR2h.o.fr FN (by simp);have hrlN:=hRN.lt;clear hno FN;unfold AA.val AA.cells noA;go_wp2_with (refine wpList_store_row rfl 67 _ _ rfl gr _ rfl rfl 67 zs hRN infoAns (by rw [hz];rfl) (by kernel_rfl) ?_)
    refine bodyPost_ret (results_cell_row rfl _ _ gr 67 _ (0,0) _ rfl (Blk.setRow hRN _) uAns rfl infoAns) rfl ?_;exact ans_no (a:=noA 3) (hbYh.o.fr FNh.o (by simp) (by simp)) (F0h.o.trans FNh.o).nil ((Fr.refl [gr] N2).setRow (.inl (by simp)) _) (fun g hg=>by simp at hg;rw [hg];exact⟨by simp,hgr0⟩) hmw rfl hres.o
   |false=>
    by_cases hcl1:x.f.client=c.client
    ·have hcb:(x.f.client.toList==c.client.toList)=true:=by rw [toList_beq];simp [hcl1]
     clear hcl1;have hno:=no_t W2 3;go_wp2_with fail
     refine hno.mono ?_;rintro e N2 ⟨rfl,FN⟩;have FNh:=zh (F2h.o.trans FN);have hRN:=hR2h.o.fr FN (by simp);have hrlN:=hRN.lt;clear hno FN;unfold AA.val AA.cells noA;go_wp2_with (refine wpList_store_row rfl 67 _ _ rfl gr _ rfl rfl 67 zs hRN infoAns (by rw [hz];rfl) (by kernel_rfl) ?_)
     refine bodyPost_ret (results_cell_row rfl _ _ gr 67 _ (0,0) _ rfl (Blk.setRow hRN _) uAns rfl infoAns) rfl ?_;exact ans_no (a:=noA 3) (hbYh.o.fr FNh.o (by simp) (by simp)) (F0h.o.trans FNh.o).nil ((Fr.refl [gr] N2).setRow (.inl (by simp)) _) (fun g hg=>by simp at hg;rw [hg];exact⟨by simp,hgr0⟩) hmw rfl hres.o
    ·have hcb:(x.f.client.toList==c.client.toList)=false:=by rw [toList_beq];simp [hcl1]
     clear hcl1;have hno:=no_t W2 3;go_wp2_with fail
     refine hno.mono ?_;rintro e N2 ⟨rfl,FN⟩;have FNh:=zh (F2h.o.trans FN);have hRN:=hR2h.o.fr FN (by simp);have hrlN:=hRN.lt;clear hno FN;unfold AA.val AA.cells noA;go_wp2_with (refine wpList_store_row rfl 67 _ _ rfl gr _ rfl rfl 67 zs hRN infoAns (by rw [hz];rfl) (by kernel_rfl) ?_)
     refine bodyPost_ret (results_cell_row rfl _ _ gr 67 _ (0,0) _ rfl (Blk.setRow hRN _) uAns rfl infoAns) rfl ?_;exact ans_no (a:=noA 3) (hbYh.o.fr FNh.o (by simp) (by simp)) (F0h.o.trans FNh.o).nil ((Fr.refl [gr] N2).setRow (.inl (by simp)) _) (fun g hg=>by simp at hg;rw [hg];exact⟨by simp,hgr0⟩) hmw rfl hres.o
 ·have hth:=zh ht;have hgkh:=zh hgk;clear ht hgk;unfold TA.val;go_upto_block 0 with(refine wpList_store_row rfl 29 _ _ rfl V2.heap.size _ rfl rfl 29 _ (Blk.new _ _ _) infoIss (by kernel_rfl) (by kernel_rfl) ?_)
  refine wp_gen (fun W2=>Fr [] W W2∧Blk W2 V2.heap.size 29 #[.int .i64 t.tok.kind,.slice t.A t.tok.scope.length t.c,.bool t.tok.used]) ⟨FVh.o.trans (((Fr.refl [] V2).alloc _).setRow (.inr (Nat.le_refl _)) _),Blk.setRow (Blk.new _ _ _) _⟩ ?_;rintro W2 ⟨F2,hT2⟩;obtain⟨g9,HG9⟩:∃z,Hid (V2.heap.size=z):=⟨_,zh rfl⟩
  rw [HG9.o]at hT2⊢;obtain⟨t0,t1,t2⟩:=hT2.c3;have htl:=hT2.lt;have F2h:=zh F2;have hB2h:=zh (hBh.o.fr F2 (by simp));have hR2h:=zh (hRh.o.fr F2 (by simp));have hC2h:=zh (hCh.o.fr F2 (by simp));clear F2 hT2;cases is with
  |false=>
   have hres:=zh (show refreshM c b=(b,noA 3) by unfold refreshM;rw [hget.o];rfl);have hno:=no_t W2 3;go_wp2_with fail
   refine hno.mono ?_;rintro e N2 ⟨rfl,FN⟩;have FNh:=zh (F2h.o.trans FN);have hRN:=hR2h.o.fr FN (by simp);have hrlN:=hRN.lt;clear hno FN;unfold AA.val AA.cells noA;go_wp2_with (refine wpList_store_row rfl 67 _ _ rfl gr _ rfl rfl 67 zs hRN infoAns (by rw [hz];rfl) (by kernel_rfl) ?_)
   refine bodyPost_ret (results_cell_row rfl _ _ gr 67 _ (0,0) _ rfl (Blk.setRow hRN _) uAns rfl infoAns) rfl ?_;exact ans_no (a:=noA 3) (hbYh.o.fr FNh.o (by simp) (by simp)) (F0h.o.trans FNh.o).nil ((Fr.refl [gr] N2).setRow (.inl (by simp)) _) (fun g hg=>by simp at hg;rw [hg];exact⟨by simp,hgr0⟩) hmw rfl hres.o
  |true=>
   have hg:=zh (show aget c.family b=some x.f by rw [hget.o,if_pos rfl]);obtain⟨c0,c1,c2,c3,c4,c5,c6,c7,c8,c9,c10,hfl⟩:=fam_cells hB2h.o;obtain⟨d0,d1,d2,d3,d4,d5,d6,d7,d8,d9,d10,d11,d12,hcl⟩:=cmdV_cells hC2h.o;rw [hrv.o]at c9;cases rv with
   |true=>
    have hres:=zh (show refreshM c b=(b,noA 3) by unfold refreshM;rw [hg.o];simp only;rw [hth.o];simp only;rw [if_pos (.inl hrv.o)]);have hno:=no_t W2 3;go_wp2_with fail
    refine hno.mono ?_;rintro e N2 ⟨rfl,FN⟩;have FNh:=zh (F2h.o.trans FN);have hRN:=hR2h.o.fr FN (by simp);have hrlN:=hRN.lt;clear hno FN;unfold AA.val AA.cells noA;go_wp2_with (refine wpList_store_row rfl 67 _ _ rfl gr _ rfl rfl 67 zs hRN infoAns (by rw [hz];rfl) (by kernel_rfl) ?_)
    refine bodyPost_ret (results_cell_row rfl _ _ gr 67 _ (0,0) _ rfl (Blk.setRow hRN _) uAns rfl infoAns) rfl ?_;exact ans_no (a:=noA 3) (hbYh.o.fr FNh.o (by simp) (by simp)) (F0h.o.trans FNh.o).nil ((Fr.refl [gr] N2).setRow (.inl (by simp)) _) (fun g hg=>by simp at hg;rw [hg];exact⟨by simp,hgr0⟩) hmw rfl hres.o
   |false=>
    by_cases hcl1:x.f.client=c.client
    ·have hcb:(x.f.client.toList==c.client.toList)=true:=by rw [toList_beq];simp [hcl1]
     have hN1:=zh (show¬(x.f.revoked=true∨x.f.client≠c.client) by rw [hrv.o,hcl1];simp);clear hcl1;obtain⟨us,hus⟩:∃z,Hid (t.tok.used=z):=⟨_,zh rfl⟩
     rw [hus.o]at t2;cases us with
     |true=>
      have hres:=zh (show refreshM c b=(fallM x.f b,noA 3) by unfold refreshM;rw [hg.o];simp only;rw [hth.o];simp only;rw [if_neg hN1.o,if_pos hus.o]);have hfall:=fall_t W2 p mb room (X++ [gc,gf,gr]) b (hPh.o.fr F2h.o (by simp)) (hbYh.o.fr F2h.o (by simp) (by simp)) x (hxYh.o.fr F2h.o.nil) (List.mem_append.2 (.inl hh.o.hmb));have hBf:=hB2h.o;go_wp2_with (refine wpList_load_at rfl 26 _ rfl rfl hBf (sub_self _) uFam rfl (infoFamL _) ?_;rw [Array.toArray_toList])
      refine hfall.mono ?_;rintro e W6 ⟨rfl,hb6,F6⟩;have hR6h:=zh (hR2h.o.fr F6 (by simp;omega));have hb6h:=zh hb6;have FT6h:=zh ((F0h.o.trans F2h.o).nil.trans F6);clear hb6 F6 hfall hBf;have hno:=no_t W6 3;go_wp2_with fail
      refine hno.mono ?_;rintro e N2 ⟨rfl,FN⟩;have FNh:=zh FN;have hRN:=hR6h.o.fr FN (by simp);have hrlN:=hRN.lt;clear hno FN;unfold AA.val AA.cells noA;go_wp2_with (refine wpList_store_row rfl 67 _ _ rfl gr _ rfl rfl 67 zs hRN infoAns (by rw [hz];rfl) (by kernel_rfl) ?_)
      refine bodyPost_ret (results_cell_row rfl _ _ gr 67 _ (0,0) _ rfl (Blk.setRow hRN _) uAns rfl infoAns) rfl ?_;exact ans_no (a:=noA 3) (hb6h.o.fr FNh.o (by simp) (by simp)) (FT6h.o.trans FNh.o.nil) ((Fr.refl [gr] N2).setRow (.inl (by simp)) _) (fun g hg=>by simp at hg;rw [hg];exact⟨by simp,hgr0⟩) hmw rfl hres.o
     |false=>
      have hsz1:=setM_sizes hh.o.may.set;have hsz2:=setM_sizes hh.o.famOk.1.set;have hrdS:Rd W2 1 A n (strCells c.scope):=hh.o.hS.fr (F0h.o.trans F2h.o) (by simp [Off]);have hwi:=swithin_t W2 A x.sA n x.f.scope.length d x.sc c.scope x.f.scope hrdS hh.o.hn (hWh.o.fr0 F2h.o).scope.rd rfl (by have:=hh.o.hn;omega) (by omega) (fun s hs=>by have:=hsz1.2 s hs;omega) (fun s hs=>by have:=hsz2.2 s hs;omega);obtain⟨wi,hwiv⟩:∃z,Hid (within c.scope x.f.scope=z):=⟨_,zh rfl⟩
      rw [hwiv.o]at hwi;clear hsz1 hsz2 hrdS;cases wi with
      |false=>
       have hres:=zh (show refreshM c b=(b,noA 6) by unfold refreshM;rw [hg.o];simp only;rw [hth.o];simp only;rw [if_neg hN1.o,if_neg (by rw [hus.o];decide),if_pos hwiv.o]);go_wp2_with fail
       refine hwi.mono ?_;rintro e W3 ⟨rfl,F3⟩;have F3h:=zh (F2h.o.trans F3);have hR3h:=zh (hR2h.o.fr F3 (by simp));clear hwi F3;have hno:=no_t W3 6;go_wp2_with fail
       refine hno.mono ?_;rintro e N2 ⟨rfl,FN⟩;have FNh:=zh (F3h.o.trans FN);have hRN:=hR3h.o.fr FN (by simp);have hrlN:=hRN.lt;clear hno FN;unfold AA.val AA.cells noA;go_wp2_with (refine wpList_store_row rfl 67 _ _ rfl gr _ rfl rfl 67 zs hRN infoAns (by rw [hz];rfl) (by kernel_rfl) ?_)
       refine bodyPost_ret (results_cell_row rfl _ _ gr 67 _ (0,0) _ rfl (Blk.setRow hRN _) uAns rfl infoAns) rfl ?_;exact ans_no (a:=noA 6) (hbYh.o.fr FNh.o (by simp) (by simp)) (F0h.o.trans FNh.o).nil ((Fr.refl [gr] N2).setRow (.inl (by simp)) _) (fun g hg=>by simp at hg;rw [hg];exact⟨by simp,hgr0⟩) hmw rfl hres.o
      |true=>
       go_wp2_with fail
       refine hwi.mono ?_;rintro e W3 ⟨rfl,F3⟩;have F3h:=zh (F2h.o.trans F3);have hR3h:=zh (hR2h.o.fr F3 (by simp));have hB3h:=zh (hB2h.o.fr F3 (by simp));have hC3h:=zh (hC2h.o.fr F3 (by simp));clear hwi F3 c0 c1 c2 c3 c4 c5 c6 c7 c8 c9 c10 hfl d0 d1 d2 d3 d4 d5 d6 d7 d8 d9 d10 d11 d12 hcl t0 t1 t2 htl;obtain⟨c0,c1,c2,c3,c4,c5,c6,c7,c8,c9,c10,hfl⟩:=fam_cells hB3h.o;obtain⟨d0,d1,d2,d3,d4,d5,d6,d7,d8,d9,d10,d11,d12,hcl⟩:=cmdV_cells hC3h.o;have hl8:=hh.o.len8;have hlen:=zh (hh.o.fam.len);by_cases h6:6<x.ts.length
       ·have h6d:(6:Int)<(x.ts.length:Int):=by omega
        have hres:=zh (show refreshM c b=(b,noA 7) by unfold refreshM;rw [hg.o];simp only;rw [hth.o];simp only;rw [if_neg hN1.o,if_neg (by rw [hus.o];decide),if_neg (by rw [hwiv.o];decide),if_pos (by rw [←hlen.o];exact h6)]);have hno:=no_t W3 7;go_wp2_with fail
        refine hno.mono ?_;rintro e N2 ⟨rfl,FN⟩;have FNh:=zh (F3h.o.trans FN);have hRN:=hR3h.o.fr FN (by simp);have hrlN:=hRN.lt;clear hno FN;unfold AA.val AA.cells noA;go_wp2_with (refine wpList_store_row rfl 67 _ _ rfl gr _ rfl rfl 67 zs hRN infoAns (by rw [hz];rfl) (by kernel_rfl) ?_)
        refine bodyPost_ret (results_cell_row rfl _ _ gr 67 _ (0,0) _ rfl (Blk.setRow hRN _) uAns rfl infoAns) rfl ?_;exact ans_no (a:=noA 7) (hbYh.o.fr FNh.o (by simp) (by simp)) (F0h.o.trans FNh.o).nil ((Fr.refl [gr] N2).setRow (.inl (by simp)) _) (fun g hg=>by simp at hg;rw [hg];exact⟨by simp,hgr0⟩) hmw rfl hres.o
       ·have h6d:¬(6:Int)<(x.ts.length:Int):=by omega
        obtain⟨k,hser⟩:∃k:Nat,c.serial=(k:Int)+1:=⟨(c.serial - 1).toNat,by have:=(tokM_some hth.o).1;omega⟩
        have hk1:(c.serial - 1).toNat=k:=by omega
        have hkl:k<x.ts.length:=by have:=(tokM_some hth.o).2.1;have:=hlen.o;omega
        have hkl2:(k:Int)<(x.ts.length:Int):=by omega
        have hk0:(0:Int)≤(k:Int):=by omega
        have h6h:=zh h6;rw [hser]at d2;have hW3:=hWh.o.fr0 F3h.o;obtain⟨gt,o,hAA,hcell⟩:=hW3.toks.rd.at (by omega);have hform:∃g,x.tA=some ⟨g,0,none⟩:=by
         obtain⟨A',c',e1,e2⟩:=hW3.toks.form;injection e1 with e1 _ _
         rcases e2 with e2 | ⟨g,e2,_⟩
         ·rw [e1,e2]at hAA;cases hAA
         ·exact⟨g,e1.trans e2⟩
        obtain⟨g0,hg0⟩:=hform;rw [hg0]at hAA;cases hAA
        have hq2:=hcell _ _ (tokCells_at hkl).2.2;rw [Nat.zero_add]at hq2;have hqz:W3.frozen? ⟨gt,k*3+2,none⟩=false:=by
         rcases hW3.toks.2 with⟨hv,_⟩ | ⟨g',cap,cur,hv,_,hh2,_⟩
         ·rw [hg0]at hv;cases hv
         ·rw [hg0]at hv;injection hv with hv1 _ _
          injection hv1 with hv1
          injection hv1 with hv1 _ _
          subst hv1;exact(show Blk W3 gt 29 cur from hh2).frozen _
        have hgtl:gt<W3.heap.size:=hW3.toks.lt gt (rowOf_mem.2 ⟨_,hg0,rfl⟩);have hgt0:w0.heap.size≤gt:=hWh.o.ft _ hg0;have hgtY:gt≠gc∧gt≠gf∧gt≠gr:=⟨fun h=>hFOh.o.t _ hg0 (by simp [h]),fun h=>hFOh.o.t _ hg0 (by simp [h]),fun h=>hFOh.o.t _ hg0 (by simp [h])⟩
        have hw7:=fam_use hW3 hg0 hkl;have hserh:=zh hser;have hk1h:=zh hk1;have hg0h:=zh hg0;rw [hg0]at c8;have F37:Fr [gt] W3 (W3.setCell ⟨gt,k*3+2,none⟩ (.bool true)):=(Fr.refl [gt] W3).setCell (p:=⟨gt,k*3+2,none⟩) (.inl (by simp)) _;have hB7:=hB3h.o.fr F37 (by simp;exact fun h=>hgtY.2.1 h.symm);have hx1c:(FA.mk {x.f with tokens:=useM x.f.tokens k} x.sA x.sc x.tA x.tc (useT x.ts k) x.lA x.lc).cells=x.cells:=by unfold FA.cells;simp only [useT_length]
        rw [←hx1c]at hB7;have hFO7:FOff (FA.mk {x.f with tokens:=useM x.f.tokens k} x.sA x.sc x.tA x.tc (useT x.ts k) x.lA x.lc) [gc,gf,gr]:=⟨hFOh.o.s,hFOh.o.t,hFOh.o.l,fun t ht=>by
         obtain⟨t',h1,h2,_,_⟩:=useT_mem ht;rw [h2];exact hFOh.o.e t' h1⟩
        have F07:=(F0h.o.trans F3h.o).andThen F37 (fun g hg=> .inr (by simp at hg;omega));have hP7:=(hPh.o.fr F3h.o (by simp)).fr F37 (by have:=hh.o.hp.lt;simp;omega);have hR7:=hR3h.o.fr F37 (by simp;exact fun h=>hgtY.2.2 h.symm);have hC7:=hC3h.o.fr F37 (by simp;exact fun h=>hgtY.1 h.symm);have hsc1:=hh.o.famOk.1.set;have hP7h0:=zh hP7;have hR7h0:=zh hR7;have hC7h0:=zh hC7;have F07h0:=zh F07;have hFO7h0:=zh hFO7;have hB7h0:=zh hB7;have hw7h0:=zh hw7;clear hser hk1 hW3 hcell hg0 hw7 hFO7 F07 hP7 hR7 hC7 hB7 hx1c F37;go_upto_region 12 with(fail)
        refine wp_gen (fun V7=>∃x1:FA,x1.f={x.f with tokens:=useM x.f.tokens k}∧x1.ts.length=x.ts.length∧Blk V7 gf 26 x1.cells∧FamW V7 w0.heap.size x1∧FOff x1 [gc,gf,gr]∧Fr [] w0 V7∧Blk V7 p 183 #[.map (some mb),.int .i64 room]∧Blk V7 gr 67 zs∧Blk V7 gc 70 (cmdV c A n d))
         ⟨FA.mk {x.f with tokens:=useM x.f.tokens k} x.sA x.sc x.tA x.tc (useT x.ts k) x.lA x.lc,rfl,useT_length _ _,hB7h0.o,hw7h0.o,hFO7h0.o,F07h0.o,hP7h0.o,hR7h0.o,hC7h0.o⟩ ?_
        clear hP7h0 hR7h0 hC7h0 F07h0 hFO7h0 hB7h0 hw7h0 c0 c1 c2 c3 c4 c5 c6 c7 c8 c9 c10 hfl d0 d1 d2 d3 d4 d5 d6 d7 d8 d9 d10 d11 d12 hcl hq2 hqz hgtl hgt0 hgtY h6 h6d;rintro V7 ⟨x1,hx1,hl1,hB7,hw7,hFO7,F07,hP7,hR7,hC7⟩;have hx1h:=zh hx1;have hl8:x1.ts.length≤8:=by rw [hl1];exact hh.o.len8
        have hscl:x1.f.scope.length≤1000:=by have:=(setM_sizes hsc1).1;rw [hx1];show x.f.scope.length≤1000;omega
        have hV7w:w.heap.size≤V7.heap.size:=by have:=hC7.lt;omega
        obtain⟨c0,c1,c2,c3,c4,c5,c6,c7,c8,c9,c10,hfl⟩:=fam_cells hB7;obtain⟨d0,d1,d2,d3,d4,d5,d6,d7,d8,d9,d10,d11,d12,hcl⟩:=cmdV_cells hC7;clear hx1 hl1 hsc1 c0 c1 c2 c4 c5 c6 c7 c8 c9 c10 d0 d1 d2 d3 d4 d5 d7 d8 d9 d10 d11 d12 hkl hkl2 hk0;have hnn:=hh.o.hn;by_cases hn0:n=0
        ·have hn0d:((n:Int)==0)=true:=by rw [beq_iff_eq];omega
         have hc0h:=zh (show c.scope.length=0 by omega);clear hnn hn0;have hw7h:=zh hw7;have F07h:=zh F07;have hP7h:=zh hP7;have hR7h:=zh hR7;have hFO7h:=zh hFO7;have hV7w0:w0.heap.size≤V7.heap.size:=F07.size;have hY0:∀g∈ [gc,gf,gr],g<V7.heap.size:=fun g hg=>by have h1:=hC7.lt;have h2:=hB7.lt;have h3:=hR7.lt;simp only [List.mem_cons,List.not_mem_nil,or_false]at hg;omega
         have hiss:=issue_t V7 gf w0.heap.size x1 x1.sA x1.sc (x1.f.scope) true [gc,gf,gr] hB7 hw7 hV7w0 hFO7 (by simp) hY0 hw7.scope.rd (fun h0 ad e hm=>by
          rcases List.mem_cons.1 hm with hm |hm
          ·exact hFO7h.o.s ad e (by simp [hm])
          ·obtain⟨ad2,e2,h2⟩:=rowOf_mem.1 hm;exact hw7h.o.ts_ ad2 ad e2 e h2) hscl (by omega) hscl
         skip
         clear hY0 hB7 hw7 F07 hP7 hR7 hC7 hFO7;go_wp2_with fail
         refine hiss.mono ?_;rintro e V8 ⟨y,x8,rfl,hy,hAns8,hx8,hw8,hB8,F8,hY8⟩;have hgyr:∀g∈rowOf y.slice,V7.heap.size≤g:=fun g hg=>by obtain⟨ad,e,rfl⟩:=rowOf_mem.1 hg;exact hAns8.2 ad e
         have hgyrh:=zh hgyr;have hS8:∀g,g∈gf::rowOf (.slice x1.tA x1.ts.length x1.tc)→w0.heap.size≤g∧g≠gc∧g≠gr:=fun g hg=>by
          rcases List.mem_cons.1 hg with hg |hg
          ·exact⟨by omega,by omega,by omega⟩
          ·obtain⟨ad,e,h⟩:=rowOf_mem.1 hg;refine⟨by rw [←h];exact hw7h.o.ft ad e,fun h2=>hFO7h.o.t ad e (by simp [h,h2]),fun h2=>hFO7h.o.t ad e (by simp [h,h2])⟩
         have hS8w:∀g,g∈gf::rowOf (.slice x1.tA x1.ts.length x1.tc)→g≠p∧g≠mb:=fun g hg=>by have h1:=(hS8 g hg).1;have h2:=hh.o.hp.lt;have h3:=hh.o.hX mb hh.o.hmb;omega
         have hR8:=hR7h.o.fr F8 (fun h=>(hS8 _ h).2.2 rfl);have hP8:=hP7h.o.fr F8 (fun h=>(hS8w _ h).1 rfl);have F08:=F07h.o.andThen F8 (fun g hg=> .inr (hS8 g hg).1);have hx8h:=zh hx8;have hyh:=zh hy;have hw8h:=zh hw8;have hB8h:=zh hB8;have hY8h:=zh hY8;have hAns8h:=zh hAns8;have hR8h:=zh hR8;have hP8h:=zh hP8;have F08h:=zh F08;have hV78:V7.heap.size≤V8.heap.size:=F8.size;clear hiss F8 hgyr hR8 hP8 F08 hx8 hy hw8 hB8 hY8 hAns8 hS8 hS8w c3 d6 hcl hfl;unfold AA.val;go_upto_region 16 with(refine wpList_store_row rfl 67 _ _ rfl V8.heap.size _ rfl rfl 67 _ (Blk.new _ _ _) (infoAnsY y) (by rw [AA.size8];rfl) (AA.one y) ?_)
         refine wp_gen (fun V9=>Blk V9 V8.heap.size 67 y.cells∧Fr [] V8 V9) ⟨Blk.setRow (Blk.new _ _ _) _,((Fr.refl [] V8).alloc _).setRow (.inr (Nat.le_refl _)) _⟩ ?_;rintro V9 ⟨hG9,F9⟩;obtain⟨ga,HGA⟩:∃z,Hid (V8.heap.size=z):=⟨_,zh rfl⟩
         rw [HGA.o]at hG9⊢;have hrV8:=hR8h.o.lt;have hga:w.heap.size≤ga:=by have:=HGA.o;omega
         have hgar:ga≠gr:=by have:=HGA.o;omega
         have hGh:=zh hG9;have hBxh:=zh (hB8h.o.fr F9 (by simp));have hRVh:=zh (hR8h.o.fr F9 (by simp));have hPVh:=zh (hP8h.o.fr F9 (by simp));have F0Vh:=zh (F08h.o.trans F9);have hw9:=hw8h.o.fr0 F9;have hid8:x8.f.id=x1.f.id:=by rw [hx8h.o];unfold issueM;split<;>rfl
         have hres:=zh (show refreshM c b=(aset x8.f.id x8.f b,y.a) by rw [hid8,hx8h.o,hyh.o,hx1h.o];unfold refreshM;rw [hg.o];simp only;rw [hth.o];simp only;rw [if_neg hN1.o,if_neg (by rw [hus.o];decide),if_neg (by rw [hwiv.o];decide),if_neg (by rw [←hlen.o];exact h6h.o),if_pos hc0h.o,hk1h.o]);obtain⟨Y1,hY1e⟩:∃Y1:List Nat,Hid (Y1= [gc,gf,gr]++rowOf y.slice):=⟨_,zh rfl⟩
         have hY1:=zh (show∀g∈Y1,w0.heap.size≤g from fun g hg=>by
          rw [hY1e.o]at hg;rcases List.mem_append.1 hg with hg |hg
          ·simp only [List.mem_cons,List.not_mem_nil,or_false]at hg;omega
          ·have:=hgyrh.o g hg;omega)
         have hFamh:=zh (show FamIn V9 (X++Y1) x8 from by
          rw [hY1e.o];exact hw9.famO ((foff_from hw9 hh.o.hX).app hY8h.o))
         have hAnsh:=zh (show AnsIn V9 w0.heap.size y from ans_fr ⟨hAns8h.o.1,hAns8h.o.2.mono hV7w0⟩ F9 (by simp));have hyY:=zh (show∀g∈rowOf y.slice,g∈Y1 from fun g hg=>by rw [hY1e.o];exact List.mem_append.2 (.inr hg));have hgrY:=zh (show gr∈Y1 by rw [hY1e.o];simp);have hgrV7:gr<V7.heap.size:=hR7h.o.lt;have hyg:=zh (show∀g∈rowOf y.slice,g≠gr from fun g hg e=>by
          have:=hgyrh.o g hg;omega)
         clear F9 hG9 hw9 hrV8 hid8;go_upto_region 16 with(fail)
         obtain⟨l,hl1,hl2,hl3⟩:=hh.o.hb;have hl3h:=zh hl3;have hl2h:=zh hl2;clear hl3 hl2;refine wp_tail_gen 7 (fun w1=>Blk w1 gf 26 (x8).cells∧Blk w1 p 183 #[.map (some mb),.int .i64 room]∧IsMap w1 mb Value.string FA.val l∧Fr [] V9 w1) ⟨hBxh.o.drew,hPVh.o.drew,hl1.fr (F0Vh.o.drew) (by simp),(Fr.refl [] V9).drew⟩ (by kernel_rfl) (by kernel_rfl) ?_;clear hl1;rintro w1 ⟨h1,h2,h3,f1⟩;have hcc:=fam_cells h1;obtain⟨q0,q1,q2,q3,q4,q5,q6,q7,q8,q9,q10,hgl⟩:=hcc;have e0:=h2.cell 0;simp only [zG,zH]at e0;have hp1:=h2.lt;simp only [List.take_succ_cons,List.take_zero,List.drop_succ_cons,List.drop_zero];repeat still_step
         refine wpStill_nil ?_;refine wpList_map_set h3 kStr uMsf (x8.f).id (x8) rfl rfl rfl rfl rfl ?_;intro w2 hm ht;have F2:Fr [mb] w1 w2:=ht.fr;have hmX:mb∈X++Y1:=List.mem_append.2 (.inl hh.o.hmb);have hfam2:=(hFamh.o.fr f1.nil).fr (F2.mono (S':=X++Y1) (fun g hg=>by simp at hg;rw [hg];exact hmX));have hbk:=zh (bk_aset l hl2h.o hm hl3h.o (F0Vh.o.trans f1) F2 hh.o.hmb hY1.o hfam2);have hR2:=(hRVh.o.fr f1 (by simp)).fr F2 (by simp;omega);have hG2:=(hGh.o.fr f1 (by simp)).fr F2 (by simp;omega);have FT:=zh ((F0Vh.o.nil.trans f1.nil).trans F2);have hAns2:=zh (ans_fr hAnsh.o (f1.nil.trans F2) (fun g hg=>by
          obtain⟨ad,e,h⟩:=rowOf_mem.1 hg;have h1:=hAnsh.o.2 ad e;have h2:=hh.o.hX mb hh.o.hmb;simp;omega))
         have hrl2:=hR2.lt;have hgl2:=hG2.lt;obtain⟨a0,a1,a2,a3,a4,a5,a6,a7,hfz⟩:=AA.blk hG2;clear h1 h2 h3 hm ht q0 q1 q2 q3 q4 q5 q6 q7 q8 q9 q10 hgl e0 hp1 hfam2 hfz hmX;go_wp2_with (refine wpList_store_row rfl 67 _ _ rfl gr _ rfl rfl 67 zs hR2 infoAns (by rw [hz];rfl) (by kernel_rfl) ?_)
         refine bodyPost_ret (results_cell_row rfl _ _ gr 67 _ (0,0) _ rfl (Blk.setRow hR2 _) uAns rfl infoAns) rfl ?_;exact ans_yes (Y:=Y1) hbk.o FT.o ((Fr.refl [gr] w2).setRow (.inl (by simp)) _) (fun g hg=>by simp at hg;rw [hg];exact⟨hgrY.o,hgr0⟩) hmw (y) hAns2.o hyY.o (fun g hg=>by have:=hyg.o g hg;simp;omega) hres.o
        ·have hn0d:((n:Int)==0)=false:=by rw [beq_eq_false_iff_ne];omega
         have hc0h:=zh (show¬c.scope.length=0 by omega);have hnnh:=zh hnn;have hn32:=hh.o.hn32;clear hnn hn0;have hw7h:=zh hw7;have F07h:=zh F07;have hP7h:=zh hP7;have hR7h:=zh hR7;have hFO7h:=zh hFO7;have hV7w0:w0.heap.size≤V7.heap.size:=F07.size;have hY0:∀g∈ [gc,gf,gr],g<V7.heap.size:=fun g hg=>by have h1:=hC7.lt;have h2:=hB7.lt;have h3:=hR7.lt;simp only [List.mem_cons,List.not_mem_nil,or_false]at hg;omega
         have hiss:=issue_t V7 gf w0.heap.size x1 A d (c.scope) true [gc,gf,gr] hB7 hw7 hV7w0 hFO7 (by simp) hY0 (by have:=hh.o.hS.fr F07 (by simp [Off]);rwa [←hnnh.o]at this) (fun h0 ad e hm=>by
          have h1:=hh.o.hS.lt (by omega) (by have:=hnnh.o;omega) ad e;rcases List.mem_cons.1 hm with hm |hm
          ·omega
          ·obtain⟨ad2,e2,h2⟩:=rowOf_mem.1 hm;have:=hw7h.o.ft ad2 e2;omega) (by rw [hnnh.o];omega) (by omega) hscl
         rw [hnnh.o]at hiss;clear hY0 hB7 hw7 F07 hP7 hR7 hC7 hFO7;go_wp2_with fail
         refine hiss.mono ?_;rintro e V8 ⟨y,x8,rfl,hy,hAns8,hx8,hw8,hB8,F8,hY8⟩;have hgyr:∀g∈rowOf y.slice,V7.heap.size≤g:=fun g hg=>by obtain⟨ad,e,rfl⟩:=rowOf_mem.1 hg;exact hAns8.2 ad e
         have hgyrh:=zh hgyr;have hS8:∀g,g∈gf::rowOf (.slice x1.tA x1.ts.length x1.tc)→w0.heap.size≤g∧g≠gc∧g≠gr:=fun g hg=>by
          rcases List.mem_cons.1 hg with hg |hg
          ·exact⟨by omega,by omega,by omega⟩
          ·obtain⟨ad,e,h⟩:=rowOf_mem.1 hg;refine⟨by rw [←h];exact hw7h.o.ft ad e,fun h2=>hFO7h.o.t ad e (by simp [h,h2]),fun h2=>hFO7h.o.t ad e (by simp [h,h2])⟩
         have hS8w:∀g,g∈gf::rowOf (.slice x1.tA x1.ts.length x1.tc)→g≠p∧g≠mb:=fun g hg=>by have h1:=(hS8 g hg).1;have h2:=hh.o.hp.lt;have h3:=hh.o.hX mb hh.o.hmb;omega
         have hR8:=hR7h.o.fr F8 (fun h=>(hS8 _ h).2.2 rfl);have hP8:=hP7h.o.fr F8 (fun h=>(hS8w _ h).1 rfl);have F08:=F07h.o.andThen F8 (fun g hg=> .inr (hS8 g hg).1);have hx8h:=zh hx8;have hyh:=zh hy;have hw8h:=zh hw8;have hB8h:=zh hB8;have hY8h:=zh hY8;have hAns8h:=zh hAns8;have hR8h:=zh hR8;have hP8h:=zh hP8;have F08h:=zh F08;have hV78:V7.heap.size≤V8.heap.size:=F8.size;clear hiss F8 hgyr hR8 hP8 F08 hx8 hy hw8 hB8 hY8 hAns8 hS8 hS8w c3 d6 hcl hfl;unfold AA.val;go_upto_region 16 with(refine wpList_store_row rfl 67 _ _ rfl V8.heap.size _ rfl rfl 67 _ (Blk.new _ _ _) (infoAnsY y) (by rw [AA.size8];rfl) (AA.one y) ?_)
         refine wp_gen (fun V9=>Blk V9 V8.heap.size 67 y.cells∧Fr [] V8 V9) ⟨Blk.setRow (Blk.new _ _ _) _,((Fr.refl [] V8).alloc _).setRow (.inr (Nat.le_refl _)) _⟩ ?_;rintro V9 ⟨hG9,F9⟩;obtain⟨ga,HGA⟩:∃z,Hid (V8.heap.size=z):=⟨_,zh rfl⟩
         rw [HGA.o]at hG9⊢;have hrV8:=hR8h.o.lt;have hga:w.heap.size≤ga:=by have:=HGA.o;omega
         have hgar:ga≠gr:=by have:=HGA.o;omega
         have hGh:=zh hG9;have hBxh:=zh (hB8h.o.fr F9 (by simp));have hRVh:=zh (hR8h.o.fr F9 (by simp));have hPVh:=zh (hP8h.o.fr F9 (by simp));have F0Vh:=zh (F08h.o.trans F9);have hw9:=hw8h.o.fr0 F9;have hid8:x8.f.id=x1.f.id:=by rw [hx8h.o];unfold issueM;split<;>rfl
         have hres:=zh (show refreshM c b=(aset x8.f.id x8.f b,y.a) by rw [hid8,hx8h.o,hyh.o,hx1h.o];unfold refreshM;rw [hg.o];simp only;rw [hth.o];simp only;rw [if_neg hN1.o,if_neg (by rw [hus.o];decide),if_neg (by rw [hwiv.o];decide),if_neg (by rw [←hlen.o];exact h6h.o),if_neg hc0h.o,hk1h.o]);obtain⟨Y1,hY1e⟩:∃Y1:List Nat,Hid (Y1= [gc,gf,gr]++rowOf y.slice):=⟨_,zh rfl⟩
         have hY1:=zh (show∀g∈Y1,w0.heap.size≤g from fun g hg=>by
          rw [hY1e.o]at hg;rcases List.mem_append.1 hg with hg |hg
          ·simp only [List.mem_cons,List.not_mem_nil,or_false]at hg;omega
          ·have:=hgyrh.o g hg;omega)
         have hFamh:=zh (show FamIn V9 (X++Y1) x8 from by
          rw [hY1e.o];exact hw9.famO ((foff_from hw9 hh.o.hX).app hY8h.o))
         have hAnsh:=zh (show AnsIn V9 w0.heap.size y from ans_fr ⟨hAns8h.o.1,hAns8h.o.2.mono hV7w0⟩ F9 (by simp));have hyY:=zh (show∀g∈rowOf y.slice,g∈Y1 from fun g hg=>by rw [hY1e.o];exact List.mem_append.2 (.inr hg));have hgrY:=zh (show gr∈Y1 by rw [hY1e.o];simp);have hgrV7:gr<V7.heap.size:=hR7h.o.lt;have hyg:=zh (show∀g∈rowOf y.slice,g≠gr from fun g hg e=>by
          have:=hgyrh.o g hg;omega)
         clear F9 hG9 hw9 hrV8 hid8;go_upto_region 16 with(fail)
         obtain⟨l,hl1,hl2,hl3⟩:=hh.o.hb;have hl3h:=zh hl3;have hl2h:=zh hl2;clear hl3 hl2;refine wp_tail_gen 7 (fun w1=>Blk w1 gf 26 (x8).cells∧Blk w1 p 183 #[.map (some mb),.int .i64 room]∧IsMap w1 mb Value.string FA.val l∧Fr [] V9 w1) ⟨hBxh.o.drew,hPVh.o.drew,hl1.fr (F0Vh.o.drew) (by simp),(Fr.refl [] V9).drew⟩ (by kernel_rfl) (by kernel_rfl) ?_;clear hl1;rintro w1 ⟨h1,h2,h3,f1⟩;have hcc:=fam_cells h1;obtain⟨q0,q1,q2,q3,q4,q5,q6,q7,q8,q9,q10,hgl⟩:=hcc;have e0:=h2.cell 0;simp only [zG,zH]at e0;have hp1:=h2.lt;simp only [List.take_succ_cons,List.take_zero,List.drop_succ_cons,List.drop_zero];repeat still_step
         refine wpStill_nil ?_;refine wpList_map_set h3 kStr uMsf (x8.f).id (x8) rfl rfl rfl rfl rfl ?_;intro w2 hm ht;have F2:Fr [mb] w1 w2:=ht.fr;have hmX:mb∈X++Y1:=List.mem_append.2 (.inl hh.o.hmb);have hfam2:=(hFamh.o.fr f1.nil).fr (F2.mono (S':=X++Y1) (fun g hg=>by simp at hg;rw [hg];exact hmX));have hbk:=zh (bk_aset l hl2h.o hm hl3h.o (F0Vh.o.trans f1) F2 hh.o.hmb hY1.o hfam2);have hR2:=(hRVh.o.fr f1 (by simp)).fr F2 (by simp;omega);have hG2:=(hGh.o.fr f1 (by simp)).fr F2 (by simp;omega);have FT:=zh ((F0Vh.o.nil.trans f1.nil).trans F2);have hAns2:=zh (ans_fr hAnsh.o (f1.nil.trans F2) (fun g hg=>by
          obtain⟨ad,e,h⟩:=rowOf_mem.1 hg;have h1:=hAnsh.o.2 ad e;have h2:=hh.o.hX mb hh.o.hmb;simp;omega))
         have hrl2:=hR2.lt;have hgl2:=hG2.lt;obtain⟨a0,a1,a2,a3,a4,a5,a6,a7,hfz⟩:=AA.blk hG2;clear h1 h2 h3 hm ht q0 q1 q2 q3 q4 q5 q6 q7 q8 q9 q10 hgl e0 hp1 hfam2 hfz hmX;go_wp2_with (refine wpList_store_row rfl 67 _ _ rfl gr _ rfl rfl 67 zs hR2 infoAns (by rw [hz];rfl) (by kernel_rfl) ?_)
         refine bodyPost_ret (results_cell_row rfl _ _ gr 67 _ (0,0) _ rfl (Blk.setRow hR2 _) uAns rfl infoAns) rfl ?_;exact ans_yes (Y:=Y1) hbk.o FT.o ((Fr.refl [gr] w2).setRow (.inl (by simp)) _) (fun g hg=>by simp at hg;rw [hg];exact⟨hgrY.o,hgr0⟩) hmw (y) hAns2.o hyY.o (fun g hg=>by have:=hyg.o g hg;simp;omega) hres.o
    ·have hcb:(x.f.client.toList==c.client.toList)=false:=by rw [toList_beq];simp [hcl1]
     have hres:=zh (show refreshM c b=(b,noA 3) by unfold refreshM;rw [hg.o];simp only;rw [hth.o];simp only;rw [if_pos (.inr hcl1)]);clear hcl1;have hno:=no_t W2 3;go_wp2_with fail
     refine hno.mono ?_;rintro e N2 ⟨rfl,FN⟩;have FNh:=zh (F2h.o.trans FN);have hRN:=hR2h.o.fr FN (by simp);have hrlN:=hRN.lt;clear hno FN;unfold AA.val AA.cells noA;go_wp2_with (refine wpList_store_row rfl 67 _ _ rfl gr _ rfl rfl 67 zs hRN infoAns (by rw [hz];rfl) (by kernel_rfl) ?_)
     refine bodyPost_ret (results_cell_row rfl _ _ gr 67 _ (0,0) _ rfl (Blk.setRow hRN _) uAns rfl infoAns) rfl ?_;exact ans_no (a:=noA 3) (hbYh.o.fr FNh.o (by simp) (by simp)) (F0h.o.trans FNh.o).nil ((Fr.refl [gr] N2).setRow (.inl (by simp)) _) (fun g hg=>by simp at hg;rw [hg];exact⟨by simp,hgr0⟩) hmw rfl hres.o
end Go.Proofs.YtpmgepijkhaonaaGreat
