/- Walk: a copy stands alone. Conditions: each theorem's own. -/
import Derived.Test.YtdeoinjjphdbmaaGreatKm
import Derived.Test.YtdeoinjjphdbmaaGreatKt
namespace Go.Proofs.YtdeoinjjphdbmaaGreat
open Go.RowKit Go.Sig
def Hd (w:World) (x:FA):Prop:=∃zs,Own w 55 3 (.slice x.tA x.ts.length x.tc) x.ts.length zs∧∀k t,x.ts[k]? =some t→zs[k*3+1]? =some (.slice t.A t.tok.scope.length t.c)
theorem own_put {w:World}{e:TypeId}{s n c:Nat}{A:Option Addr}{zs:List Value}(h:Own w e s (.slice A n c) n zs) (g j:Nat) (v:Value):∃ys,Own (w.setCell ⟨g,j,none⟩ v) e s (.slice A n c) n ys∧∀i,i≠j→ys[i]? =zs[i]? :=by
 obtain⟨h1,h2⟩:=id h
 rcases h2 with⟨hv,h0⟩ | ⟨g',cap,cur,hv,_,hh,hnc,hcm,hcs,htk⟩
 ·injection hv with a1 a2 a3
  subst a1 a2 a3
  exact⟨zs,⟨h1,.inl ⟨rfl,h0⟩⟩,fun _ _=>rfl⟩
 ·injection hv with hv1 _ hv3
  subst hv1 hv3
  by_cases hg:g'=g
  ·subst hg
   have hB:Blk w g' e cur:=hh
   refine⟨(cur.setIfInBounds j v).toList.take (n*s),⟨by rw [List.length_take,Array.length_toList,Array.size_setIfInBounds,hcs];exact Nat.min_eq_left (Nat.mul_le_mul_right _ hnc),.inr ⟨g',c,_,rfl,Nat.zero_le _,hB.set j v,hnc,hcm,by rw [Array.size_setIfInBounds];exact hcs,rfl⟩⟩,fun i hi=> ?_⟩
   rw [Array.toList_setIfInBounds,List.take_set,List.getElem?_set_ne (fun h=>hi h.symm),htk]
  ·exact⟨zs,h.fr ((Fr.refl [g] w).setCell (p:=⟨g,j,none⟩) (.inl (by simp)) v) (fun i hi=>by
    obtain⟨ad,e1,rfl⟩:=rowOf_mem.1 hi
    obtain rfl:=Option.some.inj e1
    simpa using hg),fun _ _=>rfl⟩
structure St (Wf W9:World) (Aa:Option Addr) (na ca:Nat) (la:List FA) (v:World):Prop where
 row:Own v 39 11 (.slice Aa na ca) na (famCells la)
 hd:∀x∈la,Hd v x
 keep:Keep Wf v
 fr:Fr [] W9 v
section
variable {Wf W9 v:World}{Aa:Option Addr}{na ca:Nat}{la:List FA}
theorem St.wipe (h:St Wf W9 Aa na ca la v) {A:Option Addr}{n c:Nat}{v':World}(ho:OwnE v 9 1 A n c) (hf:From W9.heap.size A) (hk:Keep v v') (hF:Fr (rowOf (.slice A n c)) v v'):St Wf W9 Aa na ca la v':=
 ⟨own_fr_ty h.row ho (by decide) hF,fun x hx=>by obtain⟨zs,h1,h2⟩:=h.hd x hx;exact⟨zs,own_fr_ty h1 ho (by decide) hF,h2⟩,h.keep.trans hk,h.fr.andThen hF (fun g hg=> .inr (by obtain⟨ad,e,rfl⟩:=rowOf_mem.1 hg;exact hf ad e))⟩
theorem St.int (h:St Wf W9 Aa na ca la v) {g n c j:Nat}{u:Value}(ho:OwnE v 3 1 (some ⟨g,0,none⟩) n c) (hg:W9.heap.size≤g):St Wf W9 Aa na ca la (v.setCell ⟨g,j,none⟩ u):=by
 have hF:Fr (rowOf (.slice (some ⟨g,0,none⟩) n c)) v (v.setCell ⟨g,j,none⟩ u):=(Fr.refl _ _).setCell (p:=⟨g,j,none⟩) (.inl (by simp [rowOf,Value.ownBlock])) _
 exact⟨own_fr_ty h.row ho (by decide) hF,fun x hx=>by obtain⟨zs,h1,h2⟩:=h.hd x hx;exact⟨zs,own_fr_ty h1 ho (by decide) hF,h2⟩,h.keep.trans (Keep.set _ _ _ _),h.fr.setCell (p:=⟨g,j,none⟩) (.inr hg) _⟩
theorem St.used (h:St Wf W9 Aa na ca la v) {g n c k:Nat}{u:Value}(ho:OwnE v 55 3 (some ⟨g,0,none⟩) n c) (hg:W9.heap.size≤g):St Wf W9 Aa na ca la (v.setCell ⟨g,k*3+2,none⟩ u):=by
 have hF:Fr (rowOf (.slice (some ⟨g,0,none⟩) n c)) v (v.setCell ⟨g,k*3+2,none⟩ u):=(Fr.refl _ _).setCell (p:=⟨g,k*3+2,none⟩) (.inl (by simp [rowOf,Value.ownBlock])) _
 exact⟨own_fr_ty h.row ho (by decide) hF,fun x hx=>by
  obtain⟨zs,h1,h2⟩:=h.hd x hx
  obtain⟨ys,k1,k2⟩:=own_put h1 g (k*3+2) u
  exact⟨ys,k1,fun i t ht=>(k2 _ (by omega)).trans (h2 i t ht)⟩,h.keep.trans (Keep.set _ _ _ _),h.fr.setCell (p:=⟨g,k*3+2,none⟩) (.inr hg) _⟩
theorem St.cells (h:St Wf W9 Aa na ca la v) {i:Nat}{x:FA}(hi:i<na) (hx:la[i]? =some x):∃g,Aa=some ⟨g,0,none⟩∧∀j u,x.cells[j]? =some u→v.cell? ⟨g,i*11+j,none⟩=some u:=by
 obtain⟨b,o,e,hc⟩:=h.row.rd.2 (by omega)
 have hil:i<la.length:=(List.getElem?_eq_some_iff.1 hx).1
 obtain⟨A',c',e1,h4⟩:=h.row.form
 injection e1 with e1 _ _
 subst e1
 rcases h4 with h4 | ⟨g,h4,_⟩
 ·rw [h4]at e
  cases e
 ·rw [h4]at e
  injection e with e
  injection e with e1 e2 _
  subst e1 e2
  refine⟨g,h4,fun j u hu=> ?_⟩
  have hx2:la[i]=x:=by have:=(List.getElem?_eq_some_iff.1 hx).2;exact this
  have:=hc _ _ (famCells_at hil (by rw [hx2];exact hu))
  rwa [Nat.zero_add]at this
theorem St.cell {ga i:Nat}{x:FA}(h:St Wf W9 (some ⟨ga,0,none⟩) na ca la v) (hi:i<na) (hx:la[i]? =some x):∀j u,x.cells[j]? =some u→v.cell? ⟨ga,i*11+j,none⟩=some u:=by
 obtain⟨g,e,hc⟩:=h.cells hi hx
 injection e with e
 injection e with e _ _
 rw [e]
 exact hc
theorem St.tok (h:St Wf W9 Aa na ca la v) {x:FA}(hx:x∈la) {k:Nat}{t:TA}(hk:x.ts[k]? =some t):∃g,x.tA=some ⟨g,0,none⟩∧v.cell? ⟨g,k*3+1,none⟩=some (.slice t.A t.tok.scope.length t.c)∧OwnE v 55 3 (some ⟨g,0,none⟩) x.ts.length x.tc:=by
 obtain⟨zs,h1,h2⟩:=h.hd x hx
 have hkl:k<x.ts.length:=(List.getElem?_eq_some_iff.1 hk).1
 obtain⟨g,u,e,_,_,_⟩:=own_cell ⟨zs,h1⟩ (j:=k*3+1) (by omega)
 obtain⟨b,o,e2,hc⟩:=h1.rd.2 (by omega)
 rw [e]at e2
 injection e2 with e2
 injection e2 with e3 e4 _
 subst e3 e4
 refine⟨g,e,?_,?_⟩
 ·have:=hc _ _ (h2 k t hk)
  rwa [Nat.zero_add]at this
 ·rw [←e]
  exact⟨zs,h1⟩
theorem FamW.hd {w:World}{B:Nat}{x:FA}(h:FamW w B x):Hd w x:=⟨_,h.toks,fun k t hk=>by
 obtain⟨hl,rfl⟩:=List.getElem?_eq_some_iff.1 hk
 exact(tokCells_at hl).2.1⟩
end
set_option maxRecDepth 100000 in
set_option maxHeartbeats 8000000 in
theorem gcopies_t (w:World) (n:Int) (A:Option Addr) (m k:Nat) (l:List CA) (B:Option Addr) (bm bk:Nat) (bl:List CA) (h:CmdsIn w A m l) (h2:CmdsIn w B bm bl) (hmax:∀y∈bl,y.c.scope.length≤8796093022208):
  Calls Tryz.prog 11 #[.int .i64 n,.slice A m k,.slice B bm bk] w fun e w'=>e= .returned (.bool true)∧Fr [] w w':=by
 have hrun:=grun_t w n A m k l h
 have hh:=zh h2
 have hmaxh:=zh hmax
 clear h h2 hmax
 go_enter Tryz.func11,Tryz.ntmps11
 go_wp2_with fail
 refine Calls.mono (show Calls Tryz.prog 27 _ _ _ from hrun) ?_
 rintro e W1 ⟨p,mb,c',b,A',l',rfl,hB,hR,hb60,hmw,hpw,F1⟩
 clear hrun
 obtain⟨rm,hrm⟩:∃z,Hid (roomM n=z):=⟨_,zh rfl⟩
 rw [hrm.o]at hB⊢
 go_upto_region 2 with(refine wpList_store_row rfl 50 _ _ rfl W1.heap.size _ rfl rfl 50 _ (Blk.new _ _ _) infoRb (by rfl) (by kernel_rfl) ?_)
 refine wp_gen (fun V=>Blk V W1.heap.size 50 #[.slice A' l'.length c',.int .i64 rm]∧Fr [] W1 V) ⟨Blk.setRow (Blk.new _ _ _) _,((Fr.refl [] W1).alloc _).setRow (.inr (Nat.le_refl _)) _⟩ ?_
 rintro WB ⟨h8,F2⟩
 obtain⟨g8,HG8⟩:∃z,Hid (W1.heap.size=z):=⟨_,zh rfl⟩
 rw [HG8.o]at h8⊢
 have FB:=zh (F1.trans F2)
 have hBk:=zh (hB.fr0 F2)
 have hL:=zh ((hR.hL.fr F2.nil).mono (Y:= []) (by simp))
 have hm:=zh hR.hb
 have ok:=zh hR.ok
 have hll:l'.length=b.length:=by
  have h1:=congrArg List.length hR.hb
  rwa [List.length_map,famsM_length _ hR.ok]at h1
 obtain⟨nn,hnn⟩:∃z,Hid (l'.length=z):=⟨_,zh rfl⟩
 rw [hnn.o]at h8 hll
 have hllh:=zh hll
 have hn60:=zh (show nn≤60 by omega)
 have h8h:=zh h8
 have hkn:=known_t WB
 clear hB hR F1 F2 h8 hll hb60 hmw hpw
 go_wp2_with fail
 refine Calls.mono (show Calls Tryz.prog 17 _ _ _ from hkn) ?_
 rintro e V ⟨rfl,GV⟩
 have hBkV:=hBk.o.fr0 GV
 have hcopy:=copy_t V p mb rm [mb] b hBkV
 have hBkVh:=zh hBkV
 have GVh:=zh GV
 clear hkn GV hBkV
 go_wp2_with fail
 refine Calls.mono (show Calls Tryz.prog 37 _ _ _ from hcopy) ?_
 rintro e V2 ⟨pc,mc,b2,rfl,hBc,hpc,hmc,G2⟩
 have F2:=zh (FB.o.trans (GVh.o.trans G2))
 have hmcl:mc<V2.heap.size:=hBc.hX mc hBc.hmb
 have hpcl:pc<V2.heap.size:=hBc.hp.lt
 have hB2:=zh (show BookAt V2 p mb rm ([mb]++ [mc]) b from hBkVh.o.more G2 (fun g hg=>by simp at hg;rw [hg];exact⟨hmc,hmcl⟩))
 have hL2:=zh (show FamsIn V2 [mc] A' nn l' by
  have h1:=(hL.o.fr GVh.o).to (Y:= [mc]) G2 (fun g hg=> .inr (by simp at hg;rw [hg];exact hmc))
  rwa [hnn.o]at h1)
 have h82:=zh (h8h.o.fr (GVh.o.trans G2) (by simp))
 have hmc0:=zh (show w.heap.size≤mc by have:=FB.o.size;have:=GVh.o.size;omega)
 have h8mc:=zh (show g8≠mc by have:=(h8h.o.fr GVh.o (by simp)).lt;omega)
 have hmbmc:=zh (show mb≠mc∧p≠mc by have:=hBkVh.o.hX mb (by simp);have:=hBkVh.o.hp.lt;omega)
 have hlts:=zh (show mc<V2.heap.size∧pc<V2.heap.size from⟨hmcl,hpcl⟩)
 have hBch:=zh hBc
 clear hcopy hBc G2 hpc hmc hmcl hpcl hBk hL h8h
 go_upto_block 0 with(fail)
 go_cut []from 11 to 64 (fun wx=>Fr [mc] V2 wx∧V2.heap.size≤wx.heap.size)
 case first=>
  go_wp2_with fail
  go_loopg [11] (bm+1) (fun gk s11 wr=>∃(i:Nat) (b2:GBk),s11= .int .i64 i∧i≤bm∧bm - i<gk∧BookAt wr pc mc rm [mc] b2∧Fr [mc] V2 wr)
  case atStart=>exact⟨0,b2,rfl,by omega,by omega,hBch.o,Fr.refl _ _⟩
  case round=>
   obtain⟨i,b3,rfl,him,hik,hBr,hFr⟩:=hrel
   have hBrh:=zh hBr
   have hFrh:=zh hFr
   have hFw:=zh (show Fr [] w wr from F2.o.andThen hFr (fun g hg=> .inr (by simp at hg;have:=hmc0.o;omega)))
   clear hBr hFr
   by_cases hlt:i<bm
   ·have hlt':(i:Int)<bm:=by omega
    by_cases h60:i<60
    ·have h60':(i:Int)<60:=by omega
     obtain⟨⟨c,cA,ck⟩,rb,ro,rfl,hxi,hcs,hci⟩:=(hh.o.fr hFw.o).row hlt
     simp only [CA.cells]at hcs hci
     have hcih:=zh hci
     have hlth:=zh hlt
     have hcm:=zh (hmaxh.o _ (List.mem_of_getElem? hxi))
     clear hxi hci
     go_upto_region 9 with(first | (refine wpList_load_cells rfl 30 _ rfl rfl hcs uCmd rfl (infoCmdV _ _ _ _) ?_) | (refine wpList_store_row rfl 30 _ _ rfl wr.heap.size _ rfl rfl 30 _ (Blk.new _ _ _) (infoCmdV _ _ _ _) (by rw [cmdV_size];rfl) (cmdV_one _ _ _ _) ?_))
     refine wp_gen (fun W=>Blk W wr.heap.size 30 (cmdV c cA c.scope.length ck)∧Fr [] wr W) ⟨Blk.setRow (Blk.new _ _ _) _,((Fr.refl [] wr).alloc _).setRow (.inr (Nat.le_refl _)) _⟩ ?_
     rintro W ⟨hC,F5⟩
     obtain⟨gc,HGC⟩:∃z,Hid (wr.heap.size=z):=⟨_,zh rfl⟩
     rw [HGC.o]at hC⊢
     have hgcl:=hC.lt
     have hgc2:=zh (show V2.heap.size≤gc∧gc≠mc∧gc≠pc by have:=hFrh.o.size;have:=HGC.o;have:=hlts.o;omega)
     have hB5:=zh (hBrh.o.more F5 (Y:= [gc]) (fun g hg=>by simp at hg;rw [hg];exact⟨Nat.le_of_eq HGC.o,hgcl⟩))
     have F5h:=zh F5
     have hC5:=zh hC
     obtain⟨k,hk⟩:∃z,Hid (c.scope.length=z):=⟨_,zh rfl⟩
     have hcS:=hcih.o.hS
     have hkm:k≤8796093022208:=by have:=hcm.o;have:=hk.o;simp only at*;omega
     rw [hk.o]at hcS
     have hnA:cA=none→k=0:=fun e=>by subst e;exact rd_none hcS
     have hr1:=zh ((hcS.fr F5 (by simp [Off])).fr ((Fr.refl [] W).alloc (.cells #[] 9)) (by simp [Off]))
     rw [hk.o]at hC
     obtain⟨_,_,_,_,_,_,k0,_,_,_,_,_,_,hgl⟩:=cmdV_cells hC
     clear hcS F5 hcs hgcl hC
     go_upto_region 10 with(refine wpList_own_append tStrs (Own.made W #[] 9 1 0 0 (by omega) (by decide) rfl) hr1.o (strCells_one _) hnA (by unfold maxLen;omega) (by omega) rfl rfl rfl rfl (fun v2 w2 p1 p2 p3=> ?_);obtain⟨A3,c3,rfl,hA3⟩:=p1.form;obtain⟨q1,q2,q3⟩:=made_new p1 p2 p3;have hz3:=(hC5.o.fr q2 (by simp)).frozen 6;have hl3:=(hC5.o.fr q2 (by simp)).lt;have k3:=(hC5.o.fr q2 (by simp)).cell 6;unfold cmdV at k3;simp only [zG,zH,zI]at k3;clear p1 p2 p3 hA3 k0 hgl)
     have hCw:=(hC5.o.fr q2 (by simp)).set 6 (.slice A3 k c3)
     have hCw':Blk (w2.setCell ⟨gc,6,none⟩ (.slice A3 k c3)) gc 30 (cmdV c A3 k c3):=hCw
     have F6:Fr [gc] w2 (w2.setCell ⟨gc,6,none⟩ (.slice A3 k c3)):=(Fr.refl [gc] w2).setCell (p:=⟨gc,6,none⟩) (.inl (by simp)) _
     refine wp_gen (fun V=>Blk V gc 30 (cmdV c A3 k c3)∧Fr [gc] w2 V) ⟨hCw',F6⟩ ?_
     have hrw:∀g∈rowOf (.slice A3 k c3),W.heap.size≤g∧g<w2.heap.size:=fun g hg=>⟨q3 g hg,q1.lt g hg⟩
     have hrwh:=zh hrw
     have q1h:=zh q1
     have q2h:=zh q2
     have hBw:=zh (hB5.o.more q2 hrw)
     have hgcW:=zh (show gc<W.heap.size from hC5.o.lt)
     clear hCw hCw' F6 hz3 hl3 k3 hrw q1 q2 q3 hnA
     rintro X6 ⟨hC6,F6⟩
     have hgcn:=zh (show∀g∈rowOf (.slice A3 k c3),g∉ [gc]from fun g hg=>by have:=(hrwh.o g hg).1;have:=hgcW.o;simp;omega)
     have hB6:=zh (hBw.o.fr F6 (fun g hg=> .inl (by simp at hg;simp [hg])) (by simp;exact fun h=>hgc2.o.2.1 h.symm) (by simp;exact fun h=>hgc2.o.2.2 h.symm))
     have q16:=zh (q1h.o.fr F6 hgcn.o)
     have FV6:=zh (show Fr [mc] V2 X6 from((hFrh.o.trans (F5h.o.trans q2h.o).nil)).andThen F6 (fun g hg=> .inr (by simp at hg;rw [hg];exact hgc2.o.1)))
     have hci6:CmdIn X6 c A3 k:=⟨q16.o.rd,hk.o,by omega,hcih.o.hs,hcih.o.hf⟩
     have hd:=bdo_t X6 pc mc rm _ b3 c A3 k c3 hB6.o hci6
     have hC6h:=zh hC6
     have hszV:=zh (show V2.heap.size≤W.heap.size∧W.heap.size≤X6.heap.size by have:=hFrh.o.size;have:=F5h.o.size;have:=q2h.o.size;have:=F6.size;omega)
     clear hci6 F6
     go_wp2_with (refine wpList_load_cells rfl 30 _ rfl rfl (blk_cells hC6) uCmd rfl (infoCmdV _ _ _ _) ?_)
     refine Calls.mono (show Calls Tryz.prog 14 _ _ _ from hd) ?_
     rintro e X7 ⟨y,rfl,hy,hA,hBv,Fv⟩
     have hyh:=zh hy
     have hAh:=zh hA
     have hBvh:=zh hBv
     have Fvh:=zh Fv
     have hC7:=zh (hC6h.o.fr Fv (by simp;exact hgc2.o.2.1))
     have hrmc:=zh (show∀g∈rowOf (.slice A3 k c3),g∉ [mc]from fun g hg=>by have:=(hrwh.o g hg).1;have:=hszV.o;have:=hlts.o;simp;omega)
     have q17:=zh (q16.o.fr Fv hrmc.o)
     clear hd hA hBv Fv hy hC6
     unfold AA.val
     go_upto_region 11 with(refine wpList_store_row rfl 33 _ _ rfl X7.heap.size y.cells rfl rfl 33 _ (Blk.new _ _ _) (infoAnsY y) (by rw [AA.size8];rfl) (AA.one y) ?_)
     refine wp_gen (fun W3=>Blk W3 X7.heap.size 33 y.cells∧Fr [] X7 W3) ⟨Blk.setRow (Blk.new _ _ _) _,((Fr.refl [] X7).alloc _).setRow (.inr (Nat.le_refl _)) _⟩ ?_
     rintro X8 ⟨hG,FG⟩
     obtain⟨ga,HGA⟩:∃z,Hid (X7.heap.size=z):=⟨_,zh rfl⟩
     rw [HGA.o]at hG⊢
     obtain⟨_,_,_,a3,_,_,_,_,hal⟩:=AA.blk hG
     unfold AA.slice at*
     have hyr:=zh (show∀g∈rowOf (.slice y.A y.a.scope.length y.c),X6.heap.size≤g from fun g hg=>by obtain⟨ad,e,rfl⟩:=rowOf_mem.1 hg;exact hAh.o.2 ad e)
     have hOy:=zh (show OwnE X8 9 1 y.A y.a.scope.length y.c from⟨_,hAh.o.1.fr FG (by simp)⟩)
     have hOx:=zh (show OwnE X8 9 1 A3 k c3 from⟨_,q17.o.fr FG (by simp)⟩)
     have hyl:y.a.scope.length≤1000000:=by have h1:=do_set (room:=rm) (c:=c) hBrh.o.ok;have:=(setM_sizes h1).1;rw [hyh.o];omega
     have hB8:=zh (hBvh.o.fr0 FG)
     have hC8:=zh (hC7.o.fr FG (by simp))
     have FV8:=zh (show Fr [mc] V2 X8 from(FV6.o.trans Fvh.o).trans FG.nil)
     have hw1:=wipe_t X8 y.A y.a.scope.length y.c hOy.o (by omega)
     clear FG hG
     go_wp2_with fail
     refine Calls.mono (show Calls Tryz.prog 38 _ _ _ from hw1) ?_
     rintro e X9 ⟨rfl,K9,F9⟩
     have hB9:=zh (hB8.o.fr F9 (fun g hg=> .inl (List.mem_append.2 (.inr hg))) (fun hg=>by have:=hyr.o _ hg;have:=hszV.o;have:=hlts.o;omega) (fun hg=>by have:=hyr.o _ hg;have:=hszV.o;have:=hlts.o;omega))
     have hC9:=hC8.o.fr F9 (fun hg=>by have:=hyr.o _ hg;have:=hC6h.o.lt;omega)
     have FV9:=zh (show Fr [mc] V2 X9 from FV8.o.andThen F9 (fun g hg=> .inr (by have:=hyr.o _ hg;have:=hszV.o;omega)))
     have hOx9:=zh (K9 _ _ _ _ _ hOx.o)
     have hw2:=wipe_t X9 A3 k c3 hOx9.o (by omega)
     obtain⟨_,_,_,_,_,_,k6,_,_,_,_,_,_,hgl9⟩:=cmdV_cells hC9
     clear hw1 K9 F9 a3 hal hC9
     go_wp2_with fail
     refine Calls.mono (show Calls Tryz.prog 38 _ _ _ from hw2) ?_
     rintro e X10 ⟨rfl,K10,F10⟩
     have hB10:=zh (hB9.o.fr F10 (fun g hg=> .inl (List.mem_append.2 (.inl (List.mem_append.2 (.inr hg))))) (fun hg=>hrmc.o _ hg (by simp)) (fun hg=>by have:=(hrwh.o _ hg).1;have:=hszV.o;have:=hlts.o;omega))
     have FV10:=zh (show Fr [mc] V2 X10 from FV9.o.andThen F10 (fun g hg=> .inr (by have:=(hrwh.o _ hg).1;have:=hszV.o;omega)))
     clear hw2 K10 F10 k6 hgl9
     go_wp2_with fail
     go_roundg (bm - i)
     case measure=>have:=hlth.o;omega
     case rel=>exact⟨i+1,_,by go_num,by have:=hlth.o;omega,by have:=hlth.o;omega,hB10.o.mono (by simp) (by simp),FV10.o⟩
    ·have h60':¬(i:Int)<60:=by omega
     have h60d:decide ((i:Int)<60)=false:=decide_eq_false h60'
     clear hlt h60
     go_wp2_with fail
     go_meet
     exact⟨hFrh.o,hFrh.o.size⟩
   ·have hge:¬(i:Int)<bm:=by omega
    clear hlt
    go_wp2_with fail
    go_meet
    exact⟨hFrh.o,hFrh.o.size⟩
 case rest=>
  go_upto_region 13 with(fail)
  refine wp_gen (fun v=>Fr [mc] V2 v) hcut.1 ?_
  clear hcut
  rintro W9 FV
  have hBx:=hB2.o.fr FV (fun g hg=>by simp at hg;simp [hg]) (by simp;exact hmbmc.o.1) (by simp;exact hmbmc.o.2)
  have hBxh:=zh hBx
  have hLx:=zh ((hL2.o.fr FV).mono (Y:= []) (by simp))
  have h8x:=zh (h82.o.fr FV (by simp;exact h8mc.o))
  have Fw:=zh (show Fr [] w W9 from F2.o.andThen FV (fun g hg=> .inr (by simp at hg;have:=hmc0.o;omega)))
  have hbl:=zh (show b.length≤60 by have:=hllh.o;have:=hn60.o;omega)
  have hfs:=fams2_t W9 p mb rm _ b hBx (by have:=hbl.o;omega)
  clear FV hBx
  go_wp2_with fail
  refine Calls.mono (show Calls Tryz.prog 19 _ _ _ from hfs) ?_
  rintro e Wf ⟨la,Aa,ca,rfl,ha1,ha2,haW,Gf⟩
  have hlan:la.length=b.length:=by
   have h1:=congrArg List.length ha1
   rwa [List.length_map,famsM_length _ ok.o]at h1
  have hsh:=zh (ha2.read (X:= []) ok.o ha1 (by simp)).short
  obtain⟨na,hna⟩:∃z,Hid (la.length=z):=⟨_,zh rfl⟩
  have hna60:na≤60:=by have:=hbl.o;have:=hna.o;omega
  have hst0:=zh (show St Wf W9 Aa na ca la Wf from⟨by have:=ha2.row;rwa [hna.o]at this,fun x hx=>(haW x hx).hd,Keep.refl _,Gf⟩)
  have haWh:=zh haW
  rw [hna.o]
  clear hfs ha1 ha2 haW Gf hlan
  go_upto_block 2 with(fail)
  go_cut [14,16,17]from 67 to 123 (fun s14 s16 s17 wx=>Fr [] W9 wx)
  case first=>
   go_wp2_with fail
   go_loopg [14] (na+1) (fun gk s14 wr=>∃i:Nat,s14= .int .i64 i∧i≤na∧na - i<gk∧St Wf W9 Aa na ca la wr)
   case atStart=>exact⟨0,rfl,by omega,by omega,hst0.o⟩
   case round=>
    obtain⟨i,rfl,hi,hk,hst⟩:=hrel
    have hsth:=zh hst
    clear hst
    by_cases hlt:i<na
    ·have hlt':(i:Int)<na:=by omega
     have hlth:=zh hlt
     obtain⟨x,hx⟩:∃x,la[i]? =some x:=⟨_,List.getElem?_eq_getElem (by rw [hna.o];exact hlt)⟩
     have hxm:=zh (List.mem_of_getElem? hx)
     have hxh:=zh hx
     obtain⟨ga,rfl,hc⟩:=hsth.o.cells hlt hx
     have k3:wr.cell? ⟨ga,i*11+3,none⟩=some (.slice x.sA x.f.scope.length x.sc):=hc 3 _ rfl
     have hxs:=zh (hsh.o x hxm.o)
     have hsl:=hxs.o.scope
     have ho:=hsth.o.keep _ _ _ _ _ ⟨_,(haWh.o x hxm.o).scope⟩
     have hoh:=zh ho
     have hw:=wipe_t wr x.sA x.f.scope.length x.sc ho (by omega)
     clear hx hc ho
     go_wp2_with fail
     refine Calls.mono (show Calls Tryz.prog 38 _ _ _ from hw) ?_
     rintro e X1 ⟨rfl,K1,F1⟩
     have hst1:=zh (hsth.o.wipe hoh.o (haWh.o x hxm.o).fs K1 F1)
     obtain⟨ln,hln⟩:∃z,Hid (x.f.leases.length=z):=⟨_,zh rfl⟩
     obtain⟨lA,hlA⟩:∃z,Hid (x.lA=z):=⟨_,zh rfl⟩
     obtain⟨tn,htn⟩:∃z,Hid (x.ts.length=z):=⟨_,zh rfl⟩
     obtain⟨tA,htA⟩:∃z,Hid (x.tA=z):=⟨_,zh rfl⟩
     have hlnm:ln≤1000:=by have:=hxs.o.leases;have:=hln.o;omega
     have htnm:tn≤1000:=by have:=hxs.o.toks;have:=htn.o;omega
     have hcell:=zh (show∀v,St Wf W9 (some ⟨ga,0,none⟩) na ca la v→v.cell? ⟨ga,i*11+10,none⟩=some (.slice lA ln x.lc)∧v.cell? ⟨ga,i*11+8,none⟩=some (.slice tA tn x.tc)from fun v hv=>⟨by rw [←hln.o,←hlA.o];exact hv.cell hlth.o hxh.o 10 _ rfl,by rw [←htn.o,←htA.o];exact hv.cell hlth.o hxh.o 8 _ rfl⟩)
     have hol:=zh (show∀v,St Wf W9 (some ⟨ga,0,none⟩) na ca la v→OwnE v 3 1 lA ln x.lc from fun v hv=>by rw [←hln.o,←hlA.o];exact hv.keep _ _ _ _ _ ⟨_,(haWh.o x hxm.o).leases⟩)
     have hlf:=zh (show From W9.heap.size lA by rw [←hlA.o];exact(haWh.o x hxm.o).fl)
     have htf:=zh (show From W9.heap.size tA by rw [←htA.o];exact(haWh.o x hxm.o).ft)
     clear hw K1 F1 k3 hsth hoh hsl
     go_upto_block 4 with(fail)
     go_cut [16]from 79 to 95 (fun s16 wx=>St Wf W9 (some ⟨ga,0,none⟩) na ca la wx)
     case first=>
      go_wp2_with fail
      go_loopg [16] (ln+1) (fun gk s16 wr=>∃k:Nat,s16= .int .i64 k∧k≤ln∧ln - k<gk∧St Wf W9 (some ⟨ga,0,none⟩) na ca la wr)
      case atStart=>exact⟨0,rfl,by omega,by omega,hst1.o⟩
      case round=>
       obtain⟨k,rfl,hkl,hkk,hst⟩:=hrel
       have hsth:=zh hst
       obtain⟨l10,_⟩:=hcell.o _ hst
       clear hst
       by_cases hltk:k<ln
       ·have hltk':(k:Int)<ln:=by omega
        have hltkh:=zh hltk
        have ho:=hol.o _ hsth.o
        have hoh:=zh ho
        obtain⟨g,u,rfl,hcu,hz,hg⟩:=own_cell ho (j:=k) (by omega)
        have hgw:=zh (hlf.o _ rfl)
        clear ho
        go_wp2_with fail
        go_roundg (ln - k)
        case measure=>have:=hltkh.o;omega
        case rel=>exact⟨k+1,by go_num,by have:=hltkh.o;omega,by have:=hltkh.o;omega,hsth.o.int hoh.o hgw.o⟩
       ·have hge:¬(k:Int)<ln:=by omega
        clear hltk
        go_wp2_with fail
        go_meet
        exact hsth.o
     case rest=>
      have hst2:=zh hcut
      clear hcut
      go_wp2_with fail
      go_loopg [17] (tn+1) (fun gk s17 wr=>∃k:Nat,s17= .int .i64 k∧k≤tn∧tn - k<gk∧St Wf W9 (some ⟨ga,0,none⟩) na ca la wr)
      case atStart=>exact⟨0,rfl,by omega,by omega,hst2.o⟩
      case round=>
       obtain⟨k,rfl,hkl,hkk,hst⟩:=hrel
       have hsth:=zh hst
       obtain⟨_,l8⟩:=hcell.o _ hst
       clear hst
       by_cases hltk:k<tn
       ·have hltk':(k:Int)<tn:=by omega
        have hltkh:=zh hltk
        obtain⟨t,ht⟩:∃t,x.ts[k]? =some t:=⟨_,List.getElem?_eq_getElem (by rw [htn.o];exact hltk)⟩
        have htm:=zh (List.mem_of_getElem? ht)
        obtain⟨g,eg,hct,hot⟩:=hsth.o.tok hxm.o ht
        rw [htA.o]at eg
        subst eg
        rw [htn.o]at hot
        have hoth:=zh hot
        have hgw:=zh (htf.o _ rfl)
        have ho:=hsth.o.keep _ _ _ _ _ ⟨_,(haWh.o x hxm.o).each t htm.o⟩
        have hoh:=zh ho
        have hw:=wipe_t wr t.A t.tok.scope.length t.c ho (by have:=hxs.o.each t htm.o;omega)
        have hgl:=block_lt_of_cell hct
        clear ho hot ht
        go_wp2_with fail
        refine Calls.mono (show Calls Tryz.prog 38 _ _ _ from hw) ?_
        rintro e X2 ⟨rfl,K2,F2'⟩
        have hst3:=zh (hsth.o.wipe hoh.o ((haWh.o x hxm.o).fe t htm.o) K2 F2')
        have hot3:=zh (K2 _ _ _ _ _ hoth.o)
        obtain⟨_,l8⟩:=hcell.o _ hst3.o
        obtain⟨g',u,e',hcu,hz,hg⟩:=own_cell hot3.o (j:=k*3+2) (by omega)
        injection e' with e'
        injection e' with e' _ _
        subst e'
        clear hw K2 F2' hct hgl
        go_wp2_with fail
        go_roundg (tn - k)
        case measure=>have:=hltkh.o;omega
        case rel=>exact⟨k+1,by go_num,by have:=hltkh.o;omega,by have:=hltkh.o;omega,hst3.o.used hot3.o hgw.o⟩
       ·have hge:¬(k:Int)<tn:=by omega
        clear hltk
        go_wp2_with fail
        go_roundg (na - i)
        case measure=>have:=hlth.o;omega
        case rel=>exact⟨i+1,by go_num,by have:=hlth.o;omega,by have:=hlth.o;omega,hsth.o⟩
    ·have hge:¬(i:Int)<na:=by omega
     clear hlt
     go_wp2_with fail
     go_meet
     exact hsth.o.fr
  case rest=>
   have FE:=zh hcut
   clear hcut
   go_upto_region 26 with(fail)
   refine wp_gen (fun v=>Fr [] W9 v) FE.o ?_
   clear FE
   rintro X0 F0
   have F0h:=zh F0
   clear F0
   go_wp2_with fail
   refine Calls.mono (show Calls Tryz.prog 14 _ _ _ from do_nil X0) ?_
   rintro e X1 ⟨rfl,G1⟩
   unfold AA.val
   go_upto_region 28 with(refine wpList_store_row rfl 33 _ _ rfl X1.heap.size (AA.mk (noA 7) none 0).cells rfl rfl 33 _ (Blk.new _ _ _) (infoAnsY _) (by rw [AA.size8];rfl) (AA.one _) ?_)
   refine wp_gen (fun v=>Blk v X1.heap.size 33 (AA.mk (noA 7) none 0).cells∧Fr [] X1 v) ⟨Blk.setRow (Blk.new _ _ _) _,((Fr.refl [] X1).alloc _).setRow (.inr (Nat.le_refl _)) _⟩ ?_
   rintro X2 ⟨hG,G2⟩
   obtain⟨ga,HGA⟩:∃z,Hid (X1.heap.size=z):=⟨_,zh rfl⟩
   rw [HGA.o]at hG⊢
   have hGh:=zh hG
   have F2h:=zh (F0h.o.trans (G1.trans G2))
   clear G1 G2 hG
   go_wp2_with fail
   refine Calls.mono (show Calls Tryz.prog 16 _ _ _ from family_nil X2 _) ?_
   rintro e X3 ⟨rfl,G3⟩
   unfold FA.val
   go_upto_region 29 with(refine wpList_store_row rfl 39 _ _ rfl X3.heap.size zeroFA.cells rfl rfl 39 _ (Blk.new _ _ _) (infoFamA zeroFA) (by rw [FA.size11];rfl) (FA.all1 zeroFA) ?_)
   refine wp_gen (fun v=>Fr [] X3 v) (((Fr.refl [] X3).alloc _).setRow (.inr (Nat.le_refl _)) _) ?_
   rintro X4 G4
   have FX:=zh (F2h.o.trans (G3.trans G4))
   have hGX:=zh (hGh.o.fr (G3.trans G4) (by simp))
   have hSall:=zh (show∀v:World,Fr [] X4 v→v.cell? ⟨g8,0,none⟩=some (.slice A' nn c')∧v.cell? ⟨ga,0,none⟩=some (.int .i64 7)from fun v hv=>⟨(h8x.o.fr (FX.o.trans hv) (by simp)).cell 0,(hGX.o.fr hv (by simp)).cell 0⟩)
   clear G3 G4
   have fy0:Fr [] X4 (World.drew X4):=(Fr.refl [] X4).drew
   refine wp_region_z (fun w'=>w'.cell? ⟨g8,0,none⟩=some (.slice A' nn c')∧w'.cell? ⟨ga,0,none⟩=some (.int .i64 7)) [] (by kernel_rfl) (hSall.o _ (Fr.refl _ _).drew) ?_
   intro hHeld
   refine wpZ_tk (i:=0) (v:= ?_) hHeld ?_ ?_
   rotate_left
   ·(intro w hSw;go_simp<;>with_reducible rfl)
   try simp only [zA,zC,Act.put,zD,zE,zF]
   refine wpZ_tk (i:=2) (v:= ?_) hHeld ?_ ?_
   rotate_left
   ·(intro w hSw;go_simp<;>with_reducible rfl)
   try simp only [zA,zB,zC,Act.put,zD,zE,zF]
   refine wpZ_tk (i:=3) (v:= ?_) hHeld ?_ ?_
   rotate_left
   ·(intro w hSw;go_simp<;>with_reducible rfl)
   try simp only [zA,zB,zC,Act.put,zD,zE,zF]
   refine wpZ_one (i:=1) (by kernel_rfl) rfl (fun K hK=> ?_)
   go_simp
   refine Calls.mono (show Calls Tryz.prog 19 _ _ _ from fams_t (World.drew X4) p mb rm _ b (hBxh.o.fr0 (FX.o.trans fy0)) (by have:=hbl.o;omega)) ?_
   rintro e Y1 ⟨lb,Ab,cb,rfl,hb1,hb2,G1⟩
   have fy1:Fr [] X4 Y1:=fy0.trans G1
   have hlbn:lb.length=nn:=by
    have h1:=congrArg List.length hb1
    rw [List.length_map,famsM_length _ ok.o]at h1
    have:=hllh.o
    omega
   have hlb:=zh (show FamsIn Y1 [] Ab nn lb by have:=hb2.read (X:= []) ok.o hb1 (by simp);rwa [hlbn]at this)
   have hlm:=zh (hb1.trans hm.o.symm)
   rw [hlbn]
   clear hb1 hb2 hlbn
   try dsimp only
   refine hK.out _ _ (hSall.o _ fy1) (fun hHeld=> ?_)
   clear hK K
   try simp only [zA,zB,zC,Act.put,zD,zE,zF]
   refine wpZ_one (i:=4) (by kernel_rfl) rfl (fun K hK=> ?_)
   go_simp
   refine Calls.mono (show Calls Tryz.prog 22 _ _ _ from rall_t Y1 Ab A' nn cb c' lb l' hlb.o (hLx.o.fr (FX.o.trans fy1)) hlm.o (by have:=hn60.o;omega)) ?_
   rintro e Y2 ⟨rfl,G2⟩
   have fy2:Fr [] X4 Y2:=fy1.trans G2
   try dsimp only
   refine hK.out _ _ (hSall.o _ fy2) (fun hHeld=> ?_)
   clear hK K
   try simp only [zA,zB,zC,Act.put,zD,zE,zF]
   refine wpZ_tk (i:=5) (v:= ?_) hHeld ?_ ?_
   rotate_left
   ·(intro w hSw;go_simp<;>with_reducible rfl)
   try simp only [zA,zB,zC,Act.put,zD,zE,zF]
   refine wpZ_tk (i:=6) (v:= ?_) hHeld ?_ ?_
   rotate_left
   ·(intro w hSw;go_simp<;>with_reducible rfl)
   try simp only [zA,zB,zC,Act.put,zD,zE,zF]
   refine wpZ_tk (i:=7) (v:= ?_) hHeld ?_ ?_
   rotate_left
   ·(intro w hSw;go_simp<;>with_reducible rfl)
   try simp only [zA,zB,zC,Act.put,zD,zE,zF]
   refine wpZ_tk (i:=8) (v:= ?_) hHeld ?_ ?_
   rotate_left
   ·(intro w hSw;go_simp<;>with_reducible rfl)
   try simp only [zA,zB,zC,Act.put,zD,zE,zF]
   refine wpZ_tk (i:=9) (v:= ?_) hHeld ?_ ?_
   rotate_left
   ·(intro w hSw;go_simp<;>with_reducible rfl)
   try simp only [zA,zB,zC,Act.put,zD,zE,zF]
   refine wpZ_tk (i:=10) (v:= ?_) hHeld ?_ ?_
   rotate_left
   ·(intro w hSw;go_simp<;>with_reducible rfl)
   try simp only [zA,zB,zC,Act.put,zD,zE,zF]
   refine wpZ_tk (i:=11) (v:= ?_) hHeld ?_ ?_
   rotate_left
   ·(intro w hSw;go_simp<;>with_reducible rfl)
   try simp only [zA,zB,zC,Act.put,zD,zE,zF]
   refine wpZ_tk (i:=12) (v:= ?_) hHeld ?_ ?_
   rotate_left
   ·(intro w hSw;go_simp<;>with_reducible rfl)
   try simp only [zA,zB,zC,Act.put,zD,zE,zF]
   refine wpZ_tk (i:=13) (v:= ?_) hHeld ?_ ?_
   rotate_left
   ·(intro w hSw;go_simp<;>with_reducible rfl)
   try simp only [zA,zB,zC,Act.put,zD,zE,zF]
   refine wpZ_tk (i:=14) (v:= ?_) hHeld ?_ ?_
   rotate_left
   ·(intro w hSw;go_simp<;>with_reducible rfl)
   try simp only [zA,zB,zC,Act.put,zD,zE,zF]
   refine wpZ_tk (i:=15) (v:= ?_) hHeld ?_ ?_
   rotate_left
   ·(intro w hSw;go_simp<;>with_reducible rfl)
   try simp only [zA,zB,zC,Act.put,zD,zE,zF]
   refine wpZ_one (i:=16) (by kernel_rfl) rfl (fun K hK=> ?_)
   go_simp
   refine Calls.mono (show Calls Tryz.prog 28 _ _ _ from room_nil Y2) ?_
   rintro e Y3 ⟨rfl,hY3⟩
   have fy3:Fr [] X4 Y3:=hY3▸fy2
   try dsimp only
   refine hK.out _ _ (hSall.o _ fy3) (fun hHeld=> ?_)
   clear hK K
   try simp only [zA,zB,zC,Act.put,zD,zE,zF]
   refine wpZ_tk (i:=17) (v:= ?_) hHeld ?_ ?_
   rotate_left
   ·(intro w hSw;go_simp<;>with_reducible rfl)
   try simp only [zA,zB,zC,Act.put,zD,zE,zF]
   refine wpZ_tk (i:=18) (v:= ?_) hHeld ?_ ?_
   rotate_left
   ·(intro w hSw;go_simp<;>with_reducible rfl)
   try simp only [zA,zB,zC,Act.put,zD,zE,zF]
   refine wpZ_tk (i:=19) (v:= ?_) hHeld ?_ ?_
   rotate_left
   ·(intro w hSw;go_simp<;>with_reducible rfl)
   try simp only [zA,zB,zC,Act.put,zD,zE,zF]
   refine wpZ_tk (i:=20) (v:= ?_) hHeld ?_ ?_
   rotate_left
   ·(intro w hSw;go_simp<;>with_reducible rfl)
   try simp only [zA,zB,zC,Act.put,zD,zE,zF]
   refine wpZ_one (i:=21) (by kernel_rfl) rfl (fun K hK=> ?_)
   go_simp
   refine Calls.mono (show Calls Tryz.prog 26 _ _ _ from count_nil Y3) ?_
   rintro e Y4 ⟨rfl,hY4⟩
   have fy4:Fr [] X4 Y4:=hY4▸fy3
   try dsimp only
   refine hK.out _ _ (hSall.o _ fy4) (fun hHeld=> ?_)
   clear hK K
   try simp only [zA,zB,zC,Act.put,zD,zE,zF]
   refine wpZ_tk (i:=22) (v:= ?_) hHeld ?_ ?_
   rotate_left
   ·(intro w hSw;go_simp<;>with_reducible rfl)
   try simp only [zA,zB,zC,Act.put,zD,zE,zF]
   refine wpZ_tk (i:=23) (v:= ?_) hHeld ?_ ?_
   rotate_left
   ·(intro w hSw;go_simp<;>with_reducible rfl)
   try simp only [zA,zB,zC,Act.put,zD,zE,zF]
   refine wpZ_tk (i:=24) (v:= ?_) hHeld ?_ ?_
   rotate_left
   ·(intro w hSw;go_simp<;>with_reducible rfl)
   try simp only [zA,zB,zC,Act.put,zD,zE,zF]
   refine wpZ_tk (i:=25) (v:= ?_) hHeld ?_ ?_
   rotate_left
   ·(intro w hSw;go_simp<;>with_reducible rfl)
   try simp only [zA,zB,zC,Act.put,zD,zE,zF]
   refine wpZ_one (i:=26) (by kernel_rfl) rfl (fun K hK=> ?_)
   go_simp
   refine Calls.mono (show Calls Tryz.prog 19 _ _ _ from families_nil Y4) ?_
   rintro e Y5 ⟨rfl,hY5⟩
   have fy5:Fr [] X4 Y5:=hY5▸fy4
   try dsimp only
   refine hK.out _ _ (hSall.o _ fy5) (fun hHeld=> ?_)
   clear hK K
   try simp only [zA,zB,zC,Act.put,zD,zE,zF]
   refine wpZ_tk (i:=27) (v:= ?_) hHeld ?_ ?_
   rotate_left
   ·(intro w hSw;go_simp<;>with_reducible rfl)
   try simp only [zA,zB,zC,Act.put,zD,zE,zF]
   refine wpZ_tk (i:=28) (v:= ?_) hHeld ?_ ?_
   rotate_left
   ·(intro w hSw;go_simp<;>with_reducible rfl)
   try simp only [zA,zB,zC,Act.put,zD,zE,zF]
   refine wpZ_tk (i:=29) (v:= ?_) hHeld ?_ ?_
   rotate_left
   ·(intro w hSw;go_simp<;>with_reducible rfl)
   try simp only [zA,zB,zC,Act.put,zD,zE,zF]
   refine wpZ_tk (i:=30) (v:= ?_) hHeld ?_ ?_
   rotate_left
   ·(intro w hSw;go_simp<;>with_reducible rfl)
   try simp only [zA,zB,zC,Act.put,zD,zE,zF]
   refine wpZ_tk (i:=31) (v:= ?_) hHeld ?_ ?_
   rotate_left
   ·(intro w hSw;go_simp<;>with_reducible rfl)
   try simp only [zA,zB,zC,Act.put,zD,zE,zF]
   refine wpZ_one (i:=32) (by kernel_rfl) rfl (fun K hK=> ?_)
   go_simp
   refine Calls.mono (show Calls Tryz.prog 30 _ _ _ from pending_nil Y5) ?_
   rintro e Y6 ⟨rfl,G6⟩
   have fy6:Fr [] X4 Y6:=fy5.trans G6
   try dsimp only
   refine hK.out _ _ (hSall.o _ fy6) (fun hHeld=> ?_)
   clear hK K
   try simp only [zA,zB,zC,Act.put,zD,zE,zF]
   refine wpZ_tk (i:=33) (v:= ?_) hHeld ?_ ?_
   rotate_left
   ·(intro w hSw;go_simp<;>with_reducible rfl)
   try simp only [zA,zB,zC,Act.put,zD,zE,zF]
   refine wpZ_tk (i:=34) (v:= ?_) hHeld ?_ ?_
   rotate_left
   ·(intro w hSw;go_simp<;>with_reducible rfl)
   try simp only [zA,zB,zC,Act.put,zD,zE,zF]
   refine wpZ_tk (i:=35) (v:= ?_) hHeld ?_ ?_
   rotate_left
   ·(intro w hSw;go_simp<;>with_reducible rfl)
   try simp only [zA,zB,zC,Act.put,zD,zE,zF]
   refine wpZ_tk (i:=36) (v:= ?_) hHeld ?_ ?_
   rotate_left
   ·(intro w hSw;go_simp<;>with_reducible rfl)
   try simp only [zA,zB,zC,Act.put,zD,zE,zF]
   refine wpZ_tk (i:=37) (v:= ?_) hHeld ?_ ?_
   rotate_left
   ·(intro w hSw;go_simp<;>with_reducible rfl)
   try simp only [zA,zB,zC,Act.put,zD,zE,zF]
   refine wpZ_tk (i:=38) (v:= ?_) hHeld ?_ ?_
   rotate_left
   ·(intro w hSw;go_simp<;>with_reducible rfl)
   try simp only [zA,zB,zC,Act.put,zD,zE,zF]
   refine wpZ_one (i:=39) (by kernel_rfl) rfl (fun K hK=> ?_)
   go_simp
   refine Calls.mono (show Calls Tryz.prog 34 _ _ _ from put_nil Y6 zeroFA) ?_
   rintro e Y7 ⟨rfl,G7⟩
   have fy7:Fr [] X4 Y7:=fy6.trans G7
   try dsimp only
   refine hK.out _ _ (hSall.o _ fy7) (fun hHeld=> ?_)
   clear hK K
   try simp only [zA,zB,zC,Act.put,zD,zE,zF]
   refine wpZ_tk (i:=40) (v:= ?_) hHeld ?_ ?_
   rotate_left
   ·(intro w hSw;go_simp<;>with_reducible rfl)
   try simp only [zA,zB,zC,Act.put,zD,zE,zF]
   refine wpZ_tk (i:=41) (v:= ?_) hHeld ?_ ?_
   rotate_left
   ·(intro w hSw;go_simp<;>with_reducible rfl)
   try simp only [zA,zB,zC,Act.put,zD,zE,zF]
   refine wpZ_tk (i:=42) (v:= ?_) hHeld ?_ ?_
   rotate_left
   ·(intro w hSw;go_simp<;>with_reducible rfl)
   try simp only [zA,zB,zC,Act.put,zD,zE,zF]
   refine wpZ_tk (i:=43) (v:= ?_) hHeld ?_ ?_
   rotate_left
   ·(intro w hSw;go_simp<;>with_reducible rfl)
   try simp only [zA,zB,zC,Act.put,zD,zE,zF]
   refine wpZ_one (i:=44) (by kernel_rfl) rfl (fun K hK=> ?_)
   go_simp
   refine Calls.mono (show Calls Tryz.prog 36 _ _ _ from drop_nil Y7 _) ?_
   rintro e Y8 ⟨rfl,hY8⟩
   have fy8:Fr [] X4 Y8:=hY8▸fy7
   try dsimp only
   refine hK.out _ _ (hSall.o _ fy8) (fun hHeld=> ?_)
   clear hK K
   try simp only [zA,zB,zC,Act.put,zD,zE,zF]
   refine wpZ_tk (i:=45) (v:= ?_) hHeld ?_ ?_
   rotate_left
   ·(intro w hSw;go_simp<;>with_reducible rfl)
   try simp only [zA,zB,zC,Act.put,zD,zE,zF]
   refine wpZ_tk (i:=46) (v:= ?_) hHeld ?_ ?_
   rotate_left
   ·(intro w hSw;go_simp<;>with_reducible rfl)
   try simp only [zA,zB,zC,Act.put,zD,zE,zF]
   refine wpZ_tk (i:=47) (v:= ?_) hHeld ?_ ?_
   rotate_left
   ·(intro w hSw;go_simp<;>with_reducible rfl)
   try simp only [zA,zB,zC,Act.put,zD,zE,zF]
   refine wpZ_tk (i:=48) (v:= ?_) hHeld ?_ ?_
   rotate_left
   ·(intro w hSw;go_simp<;>with_reducible rfl)
   try simp only [zA,zB,zC,Act.put,zD,zE,zF]
   refine wpZ_one (i:=49) (by kernel_rfl) rfl (fun K hK=> ?_)
   go_simp
   refine Calls.mono (show Calls Tryz.prog 37 _ _ _ from copy_nil Y8) ?_
   rintro e Y9 ⟨rfl,hY9⟩
   have fy9:Fr [] X4 Y9:=hY9▸fy8
   try dsimp only
   refine hK.out _ _ (hSall.o _ fy9) (fun hHeld=> ?_)
   clear hK K
   try simp only [zA,zB,zC,Act.put,zD,zE,zF]
   refine wpZ_tk (i:=50) (v:= ?_) hHeld ?_ ?_
   rotate_left
   ·(intro w hSw;go_simp<;>with_reducible rfl)
   try simp only [zA,zB,zC,Act.put,zD,zE,zF]
   refine wpZ_tk (i:=51) (v:= ?_) hHeld ?_ ?_
   rotate_left
   ·(intro w hSw;go_simp<;>with_reducible rfl)
   try simp only [zA,zB,zC,Act.put,zD,zE,zF]
   refine wpZ_tk (i:=52) (v:= ?_) hHeld ?_ ?_
   rotate_left
   ·(intro w hSw;go_simp<;>with_reducible rfl)
   try simp only [zA,zB,zC,Act.put,zD,zE,zF]
   refine wpZ_done (by kernel_rfl) ?_ _
   clear hHeld
   go_wp2_with fail
   go_ret
   exact⟨rfl,Fw.o.trans (FX.o.trans fy9)⟩
end Go.Proofs.YtdeoinjjphdbmaaGreat
