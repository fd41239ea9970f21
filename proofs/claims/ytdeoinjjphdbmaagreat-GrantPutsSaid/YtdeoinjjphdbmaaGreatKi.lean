/- Walk: the document's Do, kinds 1 and 4. Conditions: each theorem's own. -/
import Derived.Test.YtdeoinjjphdbmaaGreatKg
namespace Go.Proofs.YtdeoinjjphdbmaaGreat
open Go.RowKit Go.Sig
set_option maxRecDepth 100000 in
set_option maxHeartbeats 16000000 in
theorem rdo_4 (w:World) (X:List Nat) (A:Option Addr) (n c0:Nat) (room:Int) (l:List FA) (b:GBk) (c:GCmd) (cA:Option Addr) (ck:Nat) (h:RBk w X A n l b) (hc:CmdIn w c cA c.scope.length) (hcX:0<c.scope.length→Off X cA) (hm0:mayM c=true) (hk0:c.kind=4):
  Calls Tryz.prog 60 #[.agg #[.slice A n c0,.int .i64 room],.agg (cmdV c cA c.scope.length ck)] w (RDoPost w X room (dDo room c (l.map (·.f)))):=by
 have hh:=zh h
 have hch:=zh hc
 have hcXh:=zh hcX
 have hm:=zh hm0
 have hk:=zh hk0
 clear hk0
 clear h hc hcX hm0
 have hzs:∃zs:Array Value,zs.size=8∧Hid (zs=(AA.mk (noA 0) none 0).cells):=⟨_,rfl,zh rfl⟩
 obtain⟨za,hza,hzah⟩:=hzs
 unfold cmdV
 go_enter Tryz.func60,Tryz.ntmps60
 go_upto_region 1 with(fail)
 refine wp_gen (fun W=>Blk W w.heap.size 50 #[.slice A n c0,.int .i64 room]∧Blk W (w.heap.size+1) 30 (cmdV c cA c.scope.length ck)∧Blk W (w.heap.size+1+1) 50 #[.slice none 0 0,.int .i64 0]∧Blk W (w.heap.size+1+1+1) 33 za∧Fr [] w W) ⟨?_,?_,?_,?_,?_⟩ ?_
 ·exact(((Blk.new _ _ _).alloc _).alloc _).alloc _
 ·refine Blk.alloc (Blk.alloc (Blk.new' _ _ ?_) _) _
  simp
 ·refine Blk.alloc (Blk.new' _ _ ?_) _
  simp
 ·rw [hzah.o]
  exact Blk.new' _ _ (by simp)
 ·exact((((Fr.refl _ _).alloc _).alloc _).alloc _).alloc _
 rintro W ⟨hP,hC,hR4,hR5,fW⟩
 obtain⟨g2,HG2⟩:∃z,Hid (w.heap.size=z):=⟨_,zh rfl⟩
 rw [HG2.o]at hP hC hR4 hR5⊢
 obtain⟨g3,HG3⟩:∃z,Hid (g2+1=z):=⟨_,zh rfl⟩
 rw [HG3.o]at hC hR4 hR5⊢
 obtain⟨g4,HG4⟩:∃z,Hid (g3+1=z):=⟨_,zh rfl⟩
 rw [HG4.o]at hR4 hR5⊢
 obtain⟨g5,HG5⟩:∃z,Hid (g4+1=z):=⟨_,zh rfl⟩
 rw [HG5.o]at hR5⊢
 have hws:Hid (w.heap.size≤g2∧w.heap.size≤g3∧w.heap.size≤g4∧w.heap.size≤g5∧g2<W.heap.size∧g3<W.heap.size∧g4<W.heap.size∧g5<W.heap.size∧g2≠g4∧g2≠g5∧g3≠g4∧g3≠g5∧g4≠g5):=by
  have:=HG2.o
  have:=HG3.o
  have:=HG4.o
  have:=HG5.o
  exact zh ⟨by omega,by omega,by omega,by omega,hP.lt,hC.lt,hR4.lt,hR5.lt,by omega,by omega,by omega,by omega,by omega⟩
 have hPh:=zh hP
 have hCh:=zh hC
 have hR4h:=zh hR4
 have hR5h:=zh hR5
 have fWh:=zh fW
 have hX1:∀g∈X++ [g4,g5],g∈X∨w.heap.size≤g:=fun g hg=>by
  rcases List.mem_append.1 hg with hg |hg
  ·exact .inl hg
  ·obtain⟨_,_,a3,a4,_⟩:=hws.o
   simp at hg
   exact .inr (by omega)
 have hX2:∀g∈X++ [g4,g5],g<W.heap.size:=fun g hg=>by
  rcases List.mem_append.1 hg with hg |hg
  ·exact Nat.lt_of_lt_of_le (hh.o.hX g hg) fW.size
  ·obtain⟨_,_,_,_,_,_,a3,a4,_⟩:=hws.o
   simp at hg
   omega
 have hX2h:=zh hX2
 have hLW:=zh (hh.o.hL.to fW.nil hX1)
 have hAW:RdX W (X++ [g4,g5]) 1 cA c.scope.length (strCells c.scope):=by
  have hd:RdX w X 1 cA c.scope.length (strCells c.scope):=⟨hch.o.hS,hcXh.o⟩
  exact hd.to (by decide) fW.nil hX1
 have hAWh:=zh hAW
 have hmay:=rmay17_t W c cA c.scope.length ck (hch.o.hS.fr fW (by simp [Off])) rfl hch.o.hl hch.o.hs hch.o.hf
 rw [hm.o]at hmay
 clear hP hR4 hR5 fW hX1 hX2 hAW
 go_wp2_with (refine wpList_load_at rfl 30 _ rfl rfl hC (sub_self _) uCmd rfl (by unfold cmdV;exact infoCmd) ?_;rw [Array.toArray_toList])
 refine Calls.mono (show Calls Tryz.prog 23 _ _ _ from hmay) ?_
 rintro e W2 ⟨rfl,F2⟩
 clear hmay hC
 have F2h:=zh F2
 have fw:=zh (fWh.o.trans F2)
 clear F2
 obtain⟨og,hog⟩:∃z,Hid (dGet c.family (l.map (·.f))=z):=⟨_,zh rfl⟩
 have hgok:=get_ok hh.o.ok c.family
 rw [←hh.o.hb,hog.o]at hgok
 have hgokh:=zh hgok
 have hget:=rget_t W2 (X++ [g4,g5]) A n c0 room l c.family (hLW.o.fr F2h.o.nil) (by have:=hh.o.hmax;omega)
 unfold GetPost at hget
 obtain⟨is,his⟩:∃z,Hid (og.isSome=z):=⟨_,zh rfl⟩
 rw [hog.o,his.o]at hget
 have hPv:=hPh.o.fr F2h.o (by simp)
 have hCv:=hCh.o.fr F2h.o (by simp)
 obtain⟨d0,d1,d2,d3,d4,d5,d6,d7,d8,d9,d10,d11,d12,hcl⟩:=cmdV_cells hCv
 clear d0 d2 d3 d4 d5 d6 d7 d8 d9 d10 d11 d12 hgok hCv
 go_wp2_with (refine wpList_load_at rfl 50 _ rfl rfl hPv (sub_self _) uRb rfl infoRbL ?_;rw [Array.toArray_toList])
 refine Calls.mono (show Calls Tryz.prog 32 _ _ _ from hget) ?_
 rintro e W3 ⟨y,rfl,hy,hyin,F3⟩
 unfold FA.val
 clear hget d1 hcl hPv
 go_upto_region 4 with(refine wpList_store_row rfl 39 _ _ rfl W3.heap.size y.cells rfl rfl 39 _ (Blk.new _ _ _) (infoFamA y) (by rw [FA.size11];rfl) (FA.all1 y) ?_)
 refine wp_gen (fun W=>Blk W W3.heap.size 39 y.cells∧Fr [] W3 W) ⟨Blk.setRow (Blk.new _ _ _) _,((Fr.refl [] W3).alloc _).setRow (.inr (Nat.le_refl _)) _⟩ ?_
 rintro W4 ⟨hB6,F4⟩
 obtain⟨g6,HG6⟩:∃z,Hid (W3.heap.size=z):=⟨_,zh rfl⟩
 rw [HG6.o]at hB6⊢
 have h6s:=zh (show W.heap.size≤g6 by have:=F2h.o.size;have:=F3.size;have:=HG6.o;omega)
 have hyin4:=zh (hyin.fr F4.nil)
 have hB6h:=zh hB6
 have F4h:=zh (F2h.o.trans (F3.trans F4))
 have fw4:=zh (fWh.o.trans F4h.o)
 have hyh:=zh hy
 have hys:=zh (fam_short (hyin4.o.mono (Y:= []) (by simp)) (by rw [hy];exact hgokh.o))
 obtain⟨d0,d1,d2,d3,d4,d5,d6,d7,d8,d9,d10,d11,d12,hcl⟩:=cmdV_cells (hCh.o.fr F4h.o (by simp))
 obtain⟨c0',c1,c2,c3,c4,c5,c6,c7,c8,c9,c10,hgl⟩:=fam_cells hB6
 rw [hk.o]at d0
 clear F3 F4 hyin hB6 hy c0' fw F2h
 cases is with
 |false=>
  obtain rfl:og=none:=by simpa using his.o
  by_cases hfull:room≤(n:Int)
  ·have dfull:decide (room≤(n:Int))=true:=decide_eq_true hfull
   have hful:=zh hfull
   have hPc:=hPh.o.fr F4h.o (by simp)
   have e0:=hPc.cell 0
   have e1:=hPc.cell 1
   have hg2:=hPc.lt
   simp only [zG,zH,zI]at e0 e1
   clear hPc
   have hres:=zh (show dDo room c (l.map (·.f))=(l.map (·.f),noA 7) by rw [dk4 hm.o hk.o,hog.o,if_neg (by decide),if_pos (by rw [List.length_map,hh.o.hL.hn];exact hful.o)])
   obtain⟨hR4v,hR5v,hPv,hbk1,hbkh⟩:=rdo_pre (cb:=#[.slice A n c0,.int .i64 room]) hR4h.o hR5h.o hPh.o F4h.o hws.o.2.2.2.2.2.2.2.2.2.2.2.2
   go_wp2_with (first
    | (refine wpList_load_at rfl 50 _ rfl rfl hPv (sub_self _) uRb rfl infoRbL ?_;rw [Array.toArray_toList])
    | (refine wpList_store_row rfl 50 _ _ rfl g4 _ rfl rfl 50 _ hR4v infoRb (by rfl) (by kernel_rfl) ?_)
    | (refine wpList_store_row rfl 33 _ _ rfl g5 _ rfl rfl 33 za hbk1 infoAns hza (by kernel_rfl) ?_))
   refine bodyPost_ret (results_cc (p:=4) (q:=5) rfl _ _ g4 g5 50 33 _ _ _ _ rfl (hbkh.o _).2.1 uRb rfl infoRb rfl (hbkh.o _).2.2 uAns rfl infoAns) rfl ?_
   rw [hres.o]
   exact rdo_end (r:=(l.map (·.f),noA 7)) (hLW.o.fr F4h.o.nil) rfl (RdX.nil _ _ _ _) fw4.o hws.o.2.2.1 hws.o.2.2.2.1 (ac:=0) rfl
  ·have dfull:decide (room≤(n:Int))=false:=decide_eq_false hfull
   have hful:=zh hfull
   have hPc:=hPh.o.fr F4h.o (by simp)
   have e0:=hPc.cell 0
   have e1:=hPc.cell 1
   have hg2:=hPc.lt
   simp only [zG,zH,zI]at e0 e1
   have hB6o:=hB6h.o
   clear hPc hfull c1 c2 c3 c4 c5 c6 c7 c8 c9 c10 hgl
   go_upto_region 14 with(refine wpList_store_row rfl 39 _ _ rfl g6 _ rfl rfl 39 _ hB6o infoFam (by rfl) (by kernel_rfl) ?_)
   have F6:Fr [g6] W4 (W4.setRow g6 (FA.mk ⟨c.family,c.client,nilB,c.scope,nilB,nilB,nilB,0,[],false,[]⟩ cA ck none 0 [] none 0).cells):=(Fr.refl [g6] W4).setRow (.inl (by simp)) _
   refine wp_gen (fun U=>Blk U g6 39 (FA.mk ⟨c.family,c.client,nilB,c.scope,nilB,nilB,nilB,0,[],false,[]⟩ cA ck none 0 [] none 0).cells∧Fr [g6] W4 U) ⟨Blk.setRow hB6o (FA.mk ⟨c.family,c.client,nilB,c.scope,nilB,nilB,nilB,0,[],false,[]⟩ cA ck none 0 [] none 0).cells,F6⟩ ?_
   clear F6 e0 e1 hg2 d0 d1 d2 d3 d4 d5 d6 d7 d8 d9 d10 d11 d12 hcl hB6o
   rintro W6 ⟨hB6n,F6⟩
   have h6n:=zh (show g2≠g6∧g3≠g6∧g4≠g6∧g5≠g6 by
    have:=h6s.o
    obtain⟨_,_,_,_,a1,a2,a3,a4,_⟩:=hws.o
    exact⟨by omega,by omega,by omega,by omega⟩)
   have F6w:Fr [] W W6:=F4h.o.andThen F6 (fun g hg=> .inr (by simp at hg;rw [hg];exact h6s.o))
   have fw4:=zh (fw4.o.andThen F6 (fun g hg=> .inr (by simp at hg;rw [hg];exact Nat.le_trans fWh.o.size h6s.o)))
   have F4h:=zh F6w
   have hB6h:=zh hB6n
   have hmo:=zh (mayM_ok hm.o)
   have hscl:c.scope.length≤1000:=by have:=(setM_sizes hmo.o.set).1;omega
   have hA6:RdX W6 (X++ [g4,g5]) 1 cA c.scope.length (strCells c.scope):=hAWh.o.fr F6w.nil
   have hA6h:=zh hA6
   have hxin:FamIn W6 (X++ [g4,g5]) (FA.mk ⟨c.family,c.client,nilB,c.scope,nilB,nilB,nilB,0,[],false,[]⟩ cA ck none 0 [] none 0):=⟨rfl,hA6,RdX.nil _ _ _ _,RdX.nil _ _ _ _,fun t ht=>by cases ht⟩
   have hxs:Short (FA.mk ⟨c.family,c.client,nilB,c.scope,nilB,nilB,nilB,0,[],false,[]⟩ cA ck none 0 [] none 0):=⟨hscl,Nat.zero_le _,Nat.zero_le _,fun t ht=>by cases ht⟩
   have hxinh:=zh hxin
   have hxsh:=zh hxs
   have hsclh:=zh hscl
   obtain⟨d0,d1,d2,d3,d4,d5,d6,d7,d8,d9,d10,d11,d12,hcl⟩:=cmdV_cells (hCh.o.fr F6w (by simp))
   rw [hk.o]at d0
   obtain⟨x0,hx0⟩:∃q,Hid ((FA.mk ⟨c.family,c.client,nilB,c.scope,nilB,nilB,nilB,0,[],false,[]⟩ cA ck none 0 [] none 0)=q):=⟨_,zh rfl⟩
   have hx0f:=zh (show x0.f=(⟨c.family,c.client,nilB,c.scope,nilB,nilB,nilB,0,[],false,[]⟩:GFam) by rw [←hx0.o])
   rw [hx0.o]at hB6h hxinh hxsh
   clear F6 F6w hB6n hA6 hxin hxs hscl
   have hiss:=rissue_t W6 (X++ [g4,g5]) (fun g hg=>Nat.lt_of_lt_of_le (hX2h.o g hg) F4h.o.size) x0 (hxinh.o.mono (by simp)) hxsh.o cA ck c.scope hA6h.o hsclh.o false
   rw [hx0f.o]at hiss
   go_wp2_with (first
    | (refine wpList_load_at rfl 39 _ rfl rfl hB6h.o (sub_self _) uFam rfl (infoFamL _) ?_;rw [Array.toArray_toList]))
   refine Calls.mono (show Calls Tryz.prog 86 _ _ _ from hiss) ?_
   rintro e V ⟨z,rfl,hz,hzT,hzrow,GV⟩
   have hzfr5:=zh hzrow
   clear hzrow
   obtain⟨an,han⟩:∃q,Hid (AA.mk (issueM (⟨c.family,c.client,nilB,c.scope,nilB,nilB,nilB,0,[],false,[]⟩:GFam) c.scope false).2 cA ck=q):=⟨_,zh rfl⟩
   rw [han.o]
   unfold FA.val AA.val
   clear hiss
   go_upto_region 16 with(first
    | (refine wpList_store_row rfl 39 _ _ rfl V.heap.size z.cells rfl rfl 39 _ (Blk.alloc (Blk.new _ _ _) _) (infoFamA z) (by rw [FA.size11];rfl) (FA.all1 z) ?_)
    | (refine wpList_store_row rfl 33 _ _ rfl (V.heap.size+1) an.cells rfl rfl 33 _ (Blk.fr (Blk.new' _ _ (by simp)) ((Fr.refl [V.heap.size] _).setRow (.inl (by simp)) _) (by simp)) (infoAnsY an) (by rw [AA.size8];rfl) (AA.one an) ?_))
   refine wp_gen (fun U=>Blk U V.heap.size 39 z.cells∧Blk U (V.heap.size+1) 33 an.cells∧Fr [] V U) ⟨?_,?_,?_⟩ ?_
   ·exact(Blk.setRow (Blk.alloc (Blk.new _ _ _) _) _).fr ((Fr.refl [V.heap.size+1] _).setRow (.inl (by simp)) _) (by simp)
   ·refine Blk.setRow (Blk.fr (Blk.new' _ _ ?_) ((Fr.refl [V.heap.size] _).setRow (.inl (by simp)) _) (by simp)) _
    simp
   ·exact((((Fr.refl [] V).alloc _).alloc _).setRow (.inr (Nat.le_refl _)) _).setRow (.inr (by simp)) _
   rintro W5 ⟨hBz,hBa,F5⟩
   obtain⟨gz,HZ⟩:∃q,Hid (V.heap.size=q):=⟨_,zh rfl⟩
   rw [HZ.o]at hBz hBa⊢
   obtain⟨ga,HA⟩:∃q,Hid (gz+1=q):=⟨_,zh rfl⟩
   rw [HA.o]at hBa⊢
   have hzT5:=zh (hzT.more F5 (Y:= [gz,ga]) (fun g hg=>by have:=HZ.o;have:=HA.o;simp at hg;omega))
   have hzh:=zh hz
   have hBzh:=zh hBz
   have hBah:=zh hBa
   have F5h:=zh (F4h.o.trans (GV.trans F5))
   have fw5:=zh (fw4.o.trans (GV.trans F5))
   have FC5:=zh (GV.trans F5)
   have hgzC:=zh (show(World.heap W6).size≤gz by have:=GV.size;have:=HZ.o;omega)
   have hza0:=zh (show g4≠gz∧g5≠gz∧g4≠ga∧g5≠ga∧gz≠ga∧w.heap.size≤gz∧w.heap.size≤ga∧g2≠gz∧g3≠gz∧W.heap.size≤gz by
    have h1:=F4h.o.size
    have h2:=GV.size
    have:=HZ.o
    have:=HA.o
    obtain⟨b1,b2,b3,b4,a1,a2,a3,a4,_⟩:=hws.o
    exact⟨by omega,by omega,by omega,by omega,by omega,by omega,by omega,by omega,by omega,by omega⟩)
   clear hz hzT hBz hBa GV F5
   have hzin:=zh (hzT5.o.fam.mono (Y:=X++ [g4,g5]) (fun g hg=>List.mem_append.2 (.inl hg)))
   have hzs:=zh (fam_new_short hzin.o hzh.o (by unfold issueM;simp) (by unfold issueM;simpa using hsclh.o) (by unfold issueM;simp) (by unfold issueM;simpa using hsclh.o))
   have hres:=zh (show dDo room c (l.map (·.f))=(dWith (issueM (⟨c.family,c.client,nilB,c.scope,nilB,nilB,nilB,0,[],false,[]⟩:GFam) c.scope false).1 (l.map (·.f)),(issueM (⟨c.family,c.client,nilB,c.scope,nilB,nilB,nilB,0,[],false,[]⟩:GFam) c.scope false).2) by rw [dk4 hm.o hk.o,hog.o,if_neg (by decide),if_neg (by rw [List.length_map,hh.o.hL.hn];have:=hful.o;omega)])
   go_upto_region 16 with(fail)
   have q1:=hPh.o.fr F5h.o (by simp)
   have q2:=hBzh.o
   have q3:=hBah.o
   have hR4v:=hR4h.o.fr F5h.o (by simp)
   have hR5v:=hR5h.o.fr F5h.o (by simp)
   have hwith:=rwith_t (World.drew W5) (X++ [g4,g5]) A n c0 room l z ((hLW.o.fr F5h.o.nil).fr ((Fr.refl _ _).drew)) (hzin.o.fr ((Fr.refl _ _).drew)) hzs.o (fun g hg=>Nat.lt_of_lt_of_le (hX2h.o g hg) F5h.o.size) hh.o.hmax
   rw [hzh.o]at hwith
   refine wp_region_z (fun w'=>Blk w' g2 50 #[.slice A n c0,.int .i64 room]∧Blk w' gz 39 z.cells∧Blk w' ga 33 an.cells) [] (by kernel_rfl) ⟨q1,q2,q3⟩ ?_
   intro hHeld
   refine wpZ_take (i:=0) rfl (by kernel_rfl) (by kernel_rfl) (by kernel_rfl) (by kernel_rfl) (fun _ _ _ h=>h) (yieldsIf_load_mid (by kernel_rfl) 50 _ rfl g2 0 rfl ([.slice A n c0,.int .i64 room]) _ (fun w h=>range_cells h.1) uRb rfl (by kernel_rfl)) hHeld ?_
   try simp only [zA,zC,Act.put,zD,zE,zF]
   refine wpZ_take (i:=1) rfl (by kernel_rfl) (by kernel_rfl) (by kernel_rfl) (by kernel_rfl) (fun _ _ _ h=>h) (yieldsIf_load_mid (by kernel_rfl) 39 _ rfl gz 0 rfl (z.cells.toList) _ (fun w h=>range_cells h.2.1) uFam rfl (infoFamL _)) hHeld ?_
   try simp only [zA,zB,zC,Act.put,zD,zE,zF]
   refine wpZ_take (i:=3) rfl (by kernel_rfl) (by kernel_rfl) (by kernel_rfl) (by kernel_rfl) (fun _ _ _ h=>h) (yieldsIf_load_mid (by kernel_rfl) 33 _ rfl ga 0 rfl (an.cells.toList) _ (fun w h=>range_cells h.2.2) uAns rfl (infoAnsL _)) hHeld ?_
   try simp only [zA,zB,zC,Act.put,zD,zE,zF]
   refine wpZ_one (i:=2) (by kernel_rfl) rfl (fun K hK=> ?_)
   go_simp
   refine Calls.mono (show Calls Tryz.prog 35 _ _ _ from hwith) ?_
   rintro e V9 ⟨A1,c1x,l1,rfl,hl1,hm1,G9⟩
   have G9:Fr [] W5 V9:=G9.of_drew
   have q1:=q1.fr G9 (by simp)
   have q2:=q2.fr G9 (by simp)
   have q3:=q3.fr G9 (by simp)
   have hbk:=fun cs=>rdo_blks (V:=V9) (cb:=#[.slice A1 l1.length c1x,.int .i64 room]) (cs:=cs) (hR4v.fr G9 (by simp)) (hR5v.fr G9 (by simp)) hws.o.2.2.2.2.2.2.2.2.2.2.2.2
   have hR4w:=hR4v.fr G9 (by simp)
   have G10:Fr [g4] V9 (V9.setRow g4 #[.slice A1 l1.length c1x,.int .i64 room]):=(Fr.refl [g4] _).setRow (.inl (by simp)) _
   have r1:=q1.fr G10 (by simp;exact hws.o.2.2.2.2.2.2.2.2.1)
   have r2:=q2.fr G10 (by simp;exact fun h=>hza0.o.1 h.symm)
   have r3:=q3.fr G10 (by simp;exact fun h=>hza0.o.2.2.1 h.symm)
   have G11:Fr [g5] (V9.setRow g4 #[.slice A1 l1.length c1x,.int .i64 room]) ((V9.setRow g4 #[.slice A1 l1.length c1x,.int .i64 room]).setRow g5 an.cells):=(Fr.refl [g5] _).setRow (.inl (by simp)) _
   try dsimp only
   refine hK.out _ _ ⟨q1,q2,q3⟩ (fun hHeld=> ?_)
   clear hK K
   try simp only [zA,zB,zC,Act.put,zD,zE,zF]
   refine wpZ_one (i:=4) (by kernel_rfl) rfl (fun K hK=> ?_)
   rw [if_pos (wanted_none rfl)]
   refine wp_store_row 50 _ _ rfl g4 _ rfl rfl 50 _ hR4w infoRb (by kernel_rfl) (by kernel_rfl) ?_
   show K (Act.put _ none undef) _
   refine hK.out _ _ ⟨r1,r2,r3⟩ (fun hHeld=> ?_)
   clear hK K
   try simp only [Act.put]
   refine wpZ_one (i:=5) (by kernel_rfl) rfl (fun K hK=> ?_)
   rw [if_pos (wanted_none rfl)]
   refine wp_store_row 33 _ _ rfl g5 an.cells rfl rfl 33 za (hbk #[]).1 (infoAnsY an) (hza.trans (AA.size8 an).symm) (AA.one an) ?_
   show K (Act.put _ none undef) _
   refine hK.out _ _ ⟨r1.fr G11 (by simp;exact hws.o.2.2.2.2.2.2.2.2.2.1),r2.fr G11 (by simp;exact fun h=>hza0.o.2.1 h.symm),r3.fr G11 (by simp;exact fun h=>hza0.o.2.2.2.1 h.symm)⟩ (fun hHeld=> ?_)
   clear hK K
   try simp only [Act.put]
   refine wpZ_done (by kernel_rfl) ?_ _
   go_wp2_with fail
   refine bodyPost_ret (results_cc (p:=4) (q:=5) rfl _ _ g4 g5 50 33 _ an.cells _ _ rfl (hbk _).2.1 uRb rfl infoRb rfl (hbk _).2.2 uAns rfl (infoAnsY an)) rfl ?_
   rw [hres.o]
   exact rdo_end (r:=(dWith (issueM (⟨c.family,c.client,nilB,c.scope,nilB,nilB,nilB,0,[],false,[]⟩:GFam) c.scope false).1 (l.map (·.f)),(issueM (⟨c.family,c.client,nilB,c.scope,nilB,nilB,nilB,0,[],false,[]⟩:GFam) c.scope false).2)) hl1 hm1 ((show RdX V9 (X++ [g4,g5]) 1 cA c.scope.length (strCells c.scope)from hAWh.o.fr (F5h.o.trans G9).nil)) (fw5.o.trans G9) hws.o.2.2.1 hws.o.2.2.2.1 (aA:=cA) (ac:=ck) (by rw [han.o])
 |true=>
  obtain⟨f,rfl⟩:=Option.isSome_iff_exists.1 his.o
  have hyf:=zh (show y.f=f from hyh.o)
  have hfok:=zh (get_some hh.o.ok (by rw [←hh.o.hb];exact hog.o))
  obtain⟨rv,hrv⟩:∃z,Hid (y.f.revoked=z):=⟨_,zh rfl⟩
  rw [hrv.o]at c9
  have hob:=toList_beq y.f.client c.client
  obtain⟨ow,how⟩:∃z,Hid (decide (y.f.client=c.client)=z):=⟨_,zh rfl⟩
  rw [how.o]at hob
  have hrf:=zh (show f.revoked=rv by rw [←hyf.o];exact hrv.o)
  have hof:=zh (show decide (f.client=c.client)=ow by rw [←hyf.o];exact how.o)
  have hres:=zh (show dDo room c (l.map (·.f))=(l.map (·.f),noA 1) by rw [dk4 hm.o hk.o,hog.o];exact if_pos rfl)
  obtain⟨hR4v,hR5v,hPv,hbk1,hbkh⟩:=rdo_pre (cb:=#[.slice A n c0,.int .i64 room]) hR4h.o hR5h.o hPh.o F4h.o hws.o.2.2.2.2.2.2.2.2.2.2.2.2
  go_wp2_with (first
   | (refine wpList_load_at rfl 50 _ rfl rfl hPv (sub_self _) uRb rfl infoRbL ?_;rw [Array.toArray_toList])
   | (refine wpList_store_row rfl 50 _ _ rfl g4 _ rfl rfl 50 _ hR4v infoRb (by rfl) (by kernel_rfl) ?_)
   | (refine wpList_store_row rfl 33 _ _ rfl g5 _ rfl rfl 33 za hbk1 infoAns hza (by kernel_rfl) ?_))
  refine bodyPost_ret (results_cc (p:=4) (q:=5) rfl _ _ g4 g5 50 33 _ _ _ _ rfl (hbkh.o _).2.1 uRb rfl infoRb rfl (hbkh.o _).2.2 uAns rfl infoAns) rfl ?_
  rw [hres.o]
  exact rdo_end (r:=(l.map (·.f),noA 1)) (hLW.o.fr F4h.o.nil) rfl (RdX.nil _ _ _ _) fw4.o hws.o.2.2.1 hws.o.2.2.2.1 (ac:=0) rfl
set_option maxRecDepth 100000 in
set_option maxHeartbeats 16000000 in
theorem rdo_1 (w:World) (X:List Nat) (A:Option Addr) (n c0:Nat) (room:Int) (l:List FA) (b:GBk) (c:GCmd) (cA:Option Addr) (ck:Nat) (h:RBk w X A n l b) (hc:CmdIn w c cA c.scope.length) (hcX:0<c.scope.length→Off X cA) (hm0:mayM c=true) (hk0:c.kind=1):
  Calls Tryz.prog 60 #[.agg #[.slice A n c0,.int .i64 room],.agg (cmdV c cA c.scope.length ck)] w (RDoPost w X room (dDo room c (l.map (·.f)))):=by
 have hh:=zh h
 have hch:=zh hc
 have hcXh:=zh hcX
 have hm:=zh hm0
 have hk:=zh hk0
 clear hk0
 clear h hc hcX hm0
 have hzs:∃zs:Array Value,zs.size=8∧Hid (zs=(AA.mk (noA 0) none 0).cells):=⟨_,rfl,zh rfl⟩
 obtain⟨za,hza,hzah⟩:=hzs
 unfold cmdV
 go_enter Tryz.func60,Tryz.ntmps60
 go_upto_region 1 with(fail)
 refine wp_gen (fun W=>Blk W w.heap.size 50 #[.slice A n c0,.int .i64 room]∧Blk W (w.heap.size+1) 30 (cmdV c cA c.scope.length ck)∧Blk W (w.heap.size+1+1) 50 #[.slice none 0 0,.int .i64 0]∧Blk W (w.heap.size+1+1+1) 33 za∧Fr [] w W) ⟨?_,?_,?_,?_,?_⟩ ?_
 ·exact(((Blk.new _ _ _).alloc _).alloc _).alloc _
 ·refine Blk.alloc (Blk.alloc (Blk.new' _ _ ?_) _) _
  simp
 ·refine Blk.alloc (Blk.new' _ _ ?_) _
  simp
 ·rw [hzah.o]
  exact Blk.new' _ _ (by simp)
 ·exact((((Fr.refl _ _).alloc _).alloc _).alloc _).alloc _
 rintro W ⟨hP,hC,hR4,hR5,fW⟩
 obtain⟨g2,HG2⟩:∃z,Hid (w.heap.size=z):=⟨_,zh rfl⟩
 rw [HG2.o]at hP hC hR4 hR5⊢
 obtain⟨g3,HG3⟩:∃z,Hid (g2+1=z):=⟨_,zh rfl⟩
 rw [HG3.o]at hC hR4 hR5⊢
 obtain⟨g4,HG4⟩:∃z,Hid (g3+1=z):=⟨_,zh rfl⟩
 rw [HG4.o]at hR4 hR5⊢
 obtain⟨g5,HG5⟩:∃z,Hid (g4+1=z):=⟨_,zh rfl⟩
 rw [HG5.o]at hR5⊢
 have hws:Hid (w.heap.size≤g2∧w.heap.size≤g3∧w.heap.size≤g4∧w.heap.size≤g5∧g2<W.heap.size∧g3<W.heap.size∧g4<W.heap.size∧g5<W.heap.size∧g2≠g4∧g2≠g5∧g3≠g4∧g3≠g5∧g4≠g5):=by
  have:=HG2.o
  have:=HG3.o
  have:=HG4.o
  have:=HG5.o
  exact zh ⟨by omega,by omega,by omega,by omega,hP.lt,hC.lt,hR4.lt,hR5.lt,by omega,by omega,by omega,by omega,by omega⟩
 have hPh:=zh hP
 have hCh:=zh hC
 have hR4h:=zh hR4
 have hR5h:=zh hR5
 have fWh:=zh fW
 have hX1:∀g∈X++ [g4,g5],g∈X∨w.heap.size≤g:=fun g hg=>by
  rcases List.mem_append.1 hg with hg |hg
  ·exact .inl hg
  ·obtain⟨_,_,a3,a4,_⟩:=hws.o
   simp at hg
   exact .inr (by omega)
 have hX2:∀g∈X++ [g4,g5],g<W.heap.size:=fun g hg=>by
  rcases List.mem_append.1 hg with hg |hg
  ·exact Nat.lt_of_lt_of_le (hh.o.hX g hg) fW.size
  ·obtain⟨_,_,_,_,_,_,a3,a4,_⟩:=hws.o
   simp at hg
   omega
 have hX2h:=zh hX2
 have hLW:=zh (hh.o.hL.to fW.nil hX1)
 have hAW:RdX W (X++ [g4,g5]) 1 cA c.scope.length (strCells c.scope):=by
  have hd:RdX w X 1 cA c.scope.length (strCells c.scope):=⟨hch.o.hS,hcXh.o⟩
  exact hd.to (by decide) fW.nil hX1
 have hAWh:=zh hAW
 have hmay:=rmay17_t W c cA c.scope.length ck (hch.o.hS.fr fW (by simp [Off])) rfl hch.o.hl hch.o.hs hch.o.hf
 rw [hm.o]at hmay
 clear hP hR4 hR5 fW hX1 hX2 hAW
 go_wp2_with (refine wpList_load_at rfl 30 _ rfl rfl hC (sub_self _) uCmd rfl (by unfold cmdV;exact infoCmd) ?_;rw [Array.toArray_toList])
 refine Calls.mono (show Calls Tryz.prog 23 _ _ _ from hmay) ?_
 rintro e W2 ⟨rfl,F2⟩
 clear hmay hC
 have F2h:=zh F2
 have fw:=zh (fWh.o.trans F2)
 clear F2
 obtain⟨og,hog⟩:∃z,Hid (dGet c.family (l.map (·.f))=z):=⟨_,zh rfl⟩
 have hgok:=get_ok hh.o.ok c.family
 rw [←hh.o.hb,hog.o]at hgok
 have hgokh:=zh hgok
 have hget:=rget_t W2 (X++ [g4,g5]) A n c0 room l c.family (hLW.o.fr F2h.o.nil) (by have:=hh.o.hmax;omega)
 unfold GetPost at hget
 obtain⟨is,his⟩:∃z,Hid (og.isSome=z):=⟨_,zh rfl⟩
 rw [hog.o,his.o]at hget
 have hPv:=hPh.o.fr F2h.o (by simp)
 have hCv:=hCh.o.fr F2h.o (by simp)
 obtain⟨d0,d1,d2,d3,d4,d5,d6,d7,d8,d9,d10,d11,d12,hcl⟩:=cmdV_cells hCv
 clear d0 d2 d3 d4 d5 d6 d7 d8 d9 d10 d11 d12 hgok hCv
 go_wp2_with (refine wpList_load_at rfl 50 _ rfl rfl hPv (sub_self _) uRb rfl infoRbL ?_;rw [Array.toArray_toList])
 refine Calls.mono (show Calls Tryz.prog 32 _ _ _ from hget) ?_
 rintro e W3 ⟨y,rfl,hy,hyin,F3⟩
 unfold FA.val
 clear hget d1 hcl hPv
 go_upto_region 4 with(refine wpList_store_row rfl 39 _ _ rfl W3.heap.size y.cells rfl rfl 39 _ (Blk.new _ _ _) (infoFamA y) (by rw [FA.size11];rfl) (FA.all1 y) ?_)
 refine wp_gen (fun W=>Blk W W3.heap.size 39 y.cells∧Fr [] W3 W) ⟨Blk.setRow (Blk.new _ _ _) _,((Fr.refl [] W3).alloc _).setRow (.inr (Nat.le_refl _)) _⟩ ?_
 rintro W4 ⟨hB6,F4⟩
 obtain⟨g6,HG6⟩:∃z,Hid (W3.heap.size=z):=⟨_,zh rfl⟩
 rw [HG6.o]at hB6⊢
 have h6s:=zh (show W.heap.size≤g6 by have:=F2h.o.size;have:=F3.size;have:=HG6.o;omega)
 have hyin4:=zh (hyin.fr F4.nil)
 have hB6h:=zh hB6
 have F4h:=zh (F2h.o.trans (F3.trans F4))
 have fw4:=zh (fWh.o.trans F4h.o)
 have hyh:=zh hy
 have hys:=zh (fam_short (hyin4.o.mono (Y:= []) (by simp)) (by rw [hy];exact hgokh.o))
 obtain⟨d0,d1,d2,d3,d4,d5,d6,d7,d8,d9,d10,d11,d12,hcl⟩:=cmdV_cells (hCh.o.fr F4h.o (by simp))
 obtain⟨c0',c1,c2,c3,c4,c5,c6,c7,c8,c9,c10,hgl⟩:=fam_cells hB6
 rw [hk.o]at d0
 clear F3 F4 hyin hB6 hy c0' fw F2h
 cases is with
 |false=>
  obtain rfl:og=none:=by simpa using his.o
  by_cases hfull:room≤(n:Int)
  ·have dfull:decide (room≤(n:Int))=true:=decide_eq_true hfull
   have hful:=zh hfull
   have hPc:=hPh.o.fr F4h.o (by simp)
   have e0:=hPc.cell 0
   have e1:=hPc.cell 1
   have hg2:=hPc.lt
   simp only [zG,zH,zI]at e0 e1
   clear hPc
   have hres:=zh (show dDo room c (l.map (·.f))=(l.map (·.f),noA 7) by rw [dk1 hm.o hk.o,hog.o,if_neg (by decide),if_pos (by rw [List.length_map,hh.o.hL.hn];exact hful.o)])
   obtain⟨hR4v,hR5v,hPv,hbk1,hbkh⟩:=rdo_pre (cb:=#[.slice A n c0,.int .i64 room]) hR4h.o hR5h.o hPh.o F4h.o hws.o.2.2.2.2.2.2.2.2.2.2.2.2
   go_wp2_with (first
    | (refine wpList_load_at rfl 50 _ rfl rfl hPv (sub_self _) uRb rfl infoRbL ?_;rw [Array.toArray_toList])
    | (refine wpList_store_row rfl 50 _ _ rfl g4 _ rfl rfl 50 _ hR4v infoRb (by rfl) (by kernel_rfl) ?_)
    | (refine wpList_store_row rfl 33 _ _ rfl g5 _ rfl rfl 33 za hbk1 infoAns hza (by kernel_rfl) ?_))
   refine bodyPost_ret (results_cc (p:=4) (q:=5) rfl _ _ g4 g5 50 33 _ _ _ _ rfl (hbkh.o _).2.1 uRb rfl infoRb rfl (hbkh.o _).2.2 uAns rfl infoAns) rfl ?_
   rw [hres.o]
   exact rdo_end (r:=(l.map (·.f),noA 7)) (hLW.o.fr F4h.o.nil) rfl (RdX.nil _ _ _ _) fw4.o hws.o.2.2.1 hws.o.2.2.2.1 (ac:=0) rfl
  ·have dfull:decide (room≤(n:Int))=false:=decide_eq_false hfull
   have hful:=zh hfull
   have hPc:=hPh.o.fr F4h.o (by simp)
   have e0:=hPc.cell 0
   have e1:=hPc.cell 1
   have hg2:=hPc.lt
   simp only [zG,zH,zI]at e0 e1
   have hB6o:=hB6h.o
   clear hPc hfull c1 c2 c3 c4 c5 c6 c7 c8 c9 c10 hgl
   go_upto_region 14 with(refine wpList_store_row rfl 39 _ _ rfl g6 _ rfl rfl 39 _ hB6o infoFam (by rfl) (by kernel_rfl) ?_)
   have F6:Fr [g6] W4 (W4.setRow g6 (FA.mk ⟨c.family,c.client,nilB,c.scope,nilB,nilB,nilB,0,[],false,[]⟩ cA ck none 0 [] none 0).cells):=(Fr.refl [g6] W4).setRow (.inl (by simp)) _
   refine wp_gen (fun U=>Blk U g6 39 (FA.mk ⟨c.family,c.client,nilB,c.scope,nilB,nilB,nilB,0,[],false,[]⟩ cA ck none 0 [] none 0).cells∧Fr [g6] W4 U) ⟨Blk.setRow hB6o (FA.mk ⟨c.family,c.client,nilB,c.scope,nilB,nilB,nilB,0,[],false,[]⟩ cA ck none 0 [] none 0).cells,F6⟩ ?_
   clear F6 e0 e1 hg2 d0 d1 d2 d3 d4 d5 d6 d7 d8 d9 d10 d11 d12 hcl hB6o
   rintro W6 ⟨hB6n,F6⟩
   have h6n:=zh (show g2≠g6∧g3≠g6∧g4≠g6∧g5≠g6 by
    have:=h6s.o
    obtain⟨_,_,_,_,a1,a2,a3,a4,_⟩:=hws.o
    exact⟨by omega,by omega,by omega,by omega⟩)
   have F6w:Fr [] W W6:=F4h.o.andThen F6 (fun g hg=> .inr (by simp at hg;rw [hg];exact h6s.o))
   have fw4:=zh (fw4.o.andThen F6 (fun g hg=> .inr (by simp at hg;rw [hg];exact Nat.le_trans fWh.o.size h6s.o)))
   have F4h:=zh F6w
   have hB6h:=zh hB6n
   have hmo:=zh (mayM_ok hm.o)
   have hscl:c.scope.length≤1000:=by have:=(setM_sizes hmo.o.set).1;omega
   have hA6:RdX W6 (X++ [g4,g5]) 1 cA c.scope.length (strCells c.scope):=hAWh.o.fr F6w.nil
   have hA6h:=zh hA6
   have hxin:FamIn W6 (X++ [g4,g5]) (FA.mk ⟨c.family,c.client,nilB,c.scope,nilB,nilB,nilB,0,[],false,[]⟩ cA ck none 0 [] none 0):=⟨rfl,hA6,RdX.nil _ _ _ _,RdX.nil _ _ _ _,fun t ht=>by cases ht⟩
   have hxs:Short (FA.mk ⟨c.family,c.client,nilB,c.scope,nilB,nilB,nilB,0,[],false,[]⟩ cA ck none 0 [] none 0):=⟨hscl,Nat.zero_le _,Nat.zero_le _,fun t ht=>by cases ht⟩
   have hxinh:=zh hxin
   have hxsh:=zh hxs
   have hsclh:=zh hscl
   have hBs:Blk W6 g6 39 #[.string c.family,.string c.client,.string nilB,.slice cA c.scope.length ck,.string nilB,.string nilB,.string nilB,.int .i64 0,.slice none 0 0,.bool false,.slice none 0 0]:=hB6n
   clear F6 F6w hB6n hA6 hxin hxs hscl hB6h hxinh hxsh
   have kk:=hBs.cell 2
   have kz:=hBs.frozen 2
   have kl:=hBs.lt
   simp only [zG,zH,zI]at kk
   obtain⟨d0,d1,d2,d3,d4,d5,d6,d7,d8,d9,d10,d11,d12,hcl⟩:=cmdV_cells (hCh.o.fr F4h.o (by simp))
   rw [hk.o]at d0
   go_upto_region 18 with(fail)
   have hB:=hBs.set 2 (.string c.user)
   simp only [zD,zE,zF]at hB
   have F6:Fr [g6] W6 (World.setCell W6 ⟨g6,2,none⟩ (.string c.user)):=(Fr.refl [g6] W6).setCell (p:=⟨g6,2,none⟩) (.inl (by simp)) _
   refine wp_gen (fun U=>Blk U g6 39 #[.string c.family,.string c.client,.string c.user,.slice cA c.scope.length ck,.string nilB,.string nilB,.string nilB,.int .i64 0,.slice none 0 0,.bool false,.slice none 0 0]∧Fr [g6] W6 U) ⟨hB,F6⟩ ?_
   clear hB F6 kk kz kl d0 d1 d2 d3 d4 d5 d6 d7 d8 d9 d10 d11 d12 hcl hBs
   rintro V0 ⟨hBs,F6⟩
   have fw4:=zh (fw4.o.andThen F6 (fun g hg=> .inr (by simp at hg;rw [hg];exact Nat.le_trans fWh.o.size h6s.o)))
   have F4h:=zh (F4h.o.andThen F6 (fun g hg=> .inr (by simp at hg;rw [hg];exact h6s.o)))
   clear F6
   have kk:=hBs.cell 4
   have kz:=hBs.frozen 4
   have kl:=hBs.lt
   simp only [zG,zH,zI]at kk
   obtain⟨d0,d1,d2,d3,d4,d5,d6,d7,d8,d9,d10,d11,d12,hcl⟩:=cmdV_cells (hCh.o.fr F4h.o (by simp))
   rw [hk.o]at d0
   go_upto_region 19 with(fail)
   have hB:=hBs.set 4 (.string c.redirect)
   simp only [zD,zE,zF]at hB
   have F6:Fr [g6] V0 (World.setCell V0 ⟨g6,4,none⟩ (.string c.redirect)):=(Fr.refl [g6] V0).setCell (p:=⟨g6,4,none⟩) (.inl (by simp)) _
   refine wp_gen (fun U=>Blk U g6 39 #[.string c.family,.string c.client,.string c.user,.slice cA c.scope.length ck,.string c.redirect,.string nilB,.string nilB,.int .i64 0,.slice none 0 0,.bool false,.slice none 0 0]∧Fr [g6] V0 U) ⟨hB,F6⟩ ?_
   clear hB F6 kk kz kl d0 d1 d2 d3 d4 d5 d6 d7 d8 d9 d10 d11 d12 hcl hBs
   rintro V1 ⟨hBs,F6⟩
   have fw4:=zh (fw4.o.andThen F6 (fun g hg=> .inr (by simp at hg;rw [hg];exact Nat.le_trans fWh.o.size h6s.o)))
   have F4h:=zh (F4h.o.andThen F6 (fun g hg=> .inr (by simp at hg;rw [hg];exact h6s.o)))
   clear F6
   have kk:=hBs.cell 5
   have kz:=hBs.frozen 5
   have kl:=hBs.lt
   simp only [zG,zH,zI]at kk
   obtain⟨d0,d1,d2,d3,d4,d5,d6,d7,d8,d9,d10,d11,d12,hcl⟩:=cmdV_cells (hCh.o.fr F4h.o (by simp))
   rw [hk.o]at d0
   go_upto_region 20 with(fail)
   have hB:=hBs.set 5 (.string c.challenge)
   simp only [zD,zE,zF]at hB
   have F6:Fr [g6] V1 (World.setCell V1 ⟨g6,5,none⟩ (.string c.challenge)):=(Fr.refl [g6] V1).setCell (p:=⟨g6,5,none⟩) (.inl (by simp)) _
   refine wp_gen (fun U=>Blk U g6 39 #[.string c.family,.string c.client,.string c.user,.slice cA c.scope.length ck,.string c.redirect,.string c.challenge,.string nilB,.int .i64 0,.slice none 0 0,.bool false,.slice none 0 0]∧Fr [g6] V1 U) ⟨hB,F6⟩ ?_
   clear hB F6 kk kz kl d0 d1 d2 d3 d4 d5 d6 d7 d8 d9 d10 d11 d12 hcl hBs
   rintro V2 ⟨hBs,F6⟩
   have fw4:=zh (fw4.o.andThen F6 (fun g hg=> .inr (by simp at hg;rw [hg];exact Nat.le_trans fWh.o.size h6s.o)))
   have F4h:=zh (F4h.o.andThen F6 (fun g hg=> .inr (by simp at hg;rw [hg];exact h6s.o)))
   clear F6
   have kk:=hBs.cell 6
   have kz:=hBs.frozen 6
   have kl:=hBs.lt
   simp only [zG,zH,zI]at kk
   obtain⟨d0,d1,d2,d3,d4,d5,d6,d7,d8,d9,d10,d11,d12,hcl⟩:=cmdV_cells (hCh.o.fr F4h.o (by simp))
   rw [hk.o]at d0
   go_upto_region 21 with(fail)
   have hB:=hBs.set 6 (.string c.method)
   simp only [zD,zE,zF]at hB
   have F6:Fr [g6] V2 (World.setCell V2 ⟨g6,6,none⟩ (.string c.method)):=(Fr.refl [g6] V2).setCell (p:=⟨g6,6,none⟩) (.inl (by simp)) _
   refine wp_gen (fun U=>Blk U g6 39 #[.string c.family,.string c.client,.string c.user,.slice cA c.scope.length ck,.string c.redirect,.string c.challenge,.string c.method,.int .i64 0,.slice none 0 0,.bool false,.slice none 0 0]∧Fr [g6] V2 U) ⟨hB,F6⟩ ?_
   clear hB F6 kk kz kl d0 d1 d2 d3 d4 d5 d6 d7 d8 d9 d10 d11 d12 hcl hBs
   rintro V3 ⟨hBs,F6⟩
   have fw4:=zh (fw4.o.andThen F6 (fun g hg=> .inr (by simp at hg;rw [hg];exact Nat.le_trans fWh.o.size h6s.o)))
   have F4h:=zh (F4h.o.andThen F6 (fun g hg=> .inr (by simp at hg;rw [hg];exact h6s.o)))
   clear F6
   have kk:=hBs.cell 7
   have kz:=hBs.frozen 7
   have kl:=hBs.lt
   simp only [zG,zH,zI]at kk
   obtain⟨d0,d1,d2,d3,d4,d5,d6,d7,d8,d9,d10,d11,d12,hcl⟩:=cmdV_cells (hCh.o.fr F4h.o (by simp))
   rw [hk.o]at d0
   go_upto_region 22 with(fail)
   have hB:=hBs.set 7 (.int .i64 1)
   simp only [zD,zE,zF]at hB
   have F6:Fr [g6] V3 (World.setCell V3 ⟨g6,7,none⟩ (.int .i64 1)):=(Fr.refl [g6] V3).setCell (p:=⟨g6,7,none⟩) (.inl (by simp)) _
   refine wp_gen (fun U=>Blk U g6 39 #[.string c.family,.string c.client,.string c.user,.slice cA c.scope.length ck,.string c.redirect,.string c.challenge,.string c.method,.int .i64 1,.slice none 0 0,.bool false,.slice none 0 0]∧Fr [g6] V3 U) ⟨hB,F6⟩ ?_
   clear hB F6 kk kz kl d0 d1 d2 d3 d4 d5 d6 d7 d8 d9 d10 d11 d12 hcl hBs
   rintro V4 ⟨hBs,F6⟩
   have fw4:=zh (fw4.o.andThen F6 (fun g hg=> .inr (by simp at hg;rw [hg];exact Nat.le_trans fWh.o.size h6s.o)))
   have F4h:=zh (F4h.o.andThen F6 (fun g hg=> .inr (by simp at hg;rw [hg];exact h6s.o)))
   clear F6
   obtain⟨x1,hx1⟩:∃q,Hid (FA.mk ⟨c.family,c.client,c.user,c.scope,c.redirect,c.challenge,c.method,1,[],false,[]⟩ cA ck none 0 [] none 0=q):=⟨_,zh rfl⟩
   have hx1f:=zh (show x1.f=⟨c.family,c.client,c.user,c.scope,c.redirect,c.challenge,c.method,1,[],false,[]⟩ by rw [←hx1.o])
   have hB1:Blk V4 g6 39 x1.cells:=by rw [←hx1.o];exact hBs
   have hx1i:=zh (show FamIn V4 (X++ [g4,g5]) x1 by rw [←hx1.o];exact⟨rfl,hAWh.o.fr F4h.o.nil,RdX.nil _ _ _ _,RdX.nil _ _ _ _,fun t ht=>by cases ht⟩)
   have hx1s:=zh (show Short x1 by rw [←hx1.o];exact⟨hsclh.o,Nat.zero_le _,Nat.zero_le _,fun t ht=>by cases ht⟩)
   have hres:=zh (show dDo room c (l.map (·.f))=(dWith ⟨c.family,c.client,c.user,c.scope,c.redirect,c.challenge,c.method,1,[],false,[]⟩ (l.map (·.f)),⟨0,0,0,c.scope,nilB,nilB,false,false⟩) by rw [dk1 hm.o hk.o,hog.o,if_neg (by decide),if_neg (by rw [List.length_map,hh.o.hL.hn];have:=hful.o;omega)])
   have q1:=hPh.o.fr F4h.o (by simp)
   have q2:=hB1
   have q3:V4.cell? ⟨g3,6,none⟩=some (.slice cA c.scope.length ck):=(hCh.o.fr F4h.o (by simp)).cell 6
   have hR4v:=hR4h.o.fr F4h.o (by simp)
   have hR5v:=hR5h.o.fr F4h.o (by simp)
   have hown:=rown_t (World.drew V4) (X++ [g4,g5]) (fun g hg=>Nat.lt_of_lt_of_le (hX2h.o g hg) F4h.o.size) x1 ((hx1i.o.mono (by simp)).fr ((Fr.refl _ _).drew)) hx1s.o
   clear hBs hB1
   go_upto_region 22 with(fail)
   refine wp_region_z (fun w'=>Blk w' g2 50 #[.slice A n c0,.int .i64 room]∧Blk w' g6 39 x1.cells∧w'.cell? ⟨g3,6,none⟩=some (.slice cA c.scope.length ck)) [] (by kernel_rfl) ⟨q1,q2,q3⟩ ?_
   intro hHeld
   refine wpZ_take (i:=0) rfl (by kernel_rfl) (by kernel_rfl) (by kernel_rfl) (by kernel_rfl) (fun _ _ _ h=>h) (yieldsIf_load_mid (by kernel_rfl) 50 _ rfl g2 0 rfl ([.slice A n c0,.int .i64 room]) _ (fun w h=>range_cells h.1) uRb rfl (by kernel_rfl)) hHeld ?_
   try simp only [zA,zC,Act.put,zD,zE,zF]
   refine wpZ_take (i:=1) rfl (by kernel_rfl) (by kernel_rfl) (by kernel_rfl) (by kernel_rfl) (fun _ _ _ h=>h) (yieldsIf_load_mid (by kernel_rfl) 39 _ rfl g6 0 rfl (x1.cells.toList) _ (fun w h=>range_cells h.2.1) uFam rfl (infoFamL _)) hHeld ?_
   try simp only [zA,zB,zC,Act.put,zD,zE,zF]
   refine wpZ_tk (i:=4) (v:= ?_) hHeld ?_ ?_
   rotate_left
   ·(intro w hSw;go_simp<;>with_reducible rfl)
   try simp only [zA,zB,zC,Act.put,zD,zE,zF]
   refine wpZ_tk (i:=5) (v:= ?_) hHeld ?_ ?_
   rotate_left
   ·(intro w hSw;go_simp<;>with_reducible rfl)
   try simp only [zA,zB,zC,Act.put,zD,zE,zF]
   refine wpZ_tk (i:=6) (v:= ?_) hHeld ?_ ?_
   rotate_left
   ·(intro w hSw;go_simp<;>with_reducible rfl)
   try simp only [zA,zB,zC,Act.put,zD,zE,zF]
   refine wpZ_one (i:=2) (by kernel_rfl) rfl (fun K hK=> ?_)
   go_simp
   refine Calls.mono (show Calls Tryz.prog 87 _ _ _ from hown) ?_
   rintro e V8 ⟨z,rfl,hz,hzT,hzr,G8⟩
   have G8:Fr [] V4 V8:=G8.of_drew
   have q1:=q1.fr G8 (by simp)
   have q2:=q2.fr G8 (by simp)
   have q3:=cell_fr G8 q3
   have hzs:=same_short (hx1i.o.mono (by simp)) (hzT.fam.mono (Y:= []) (by simp)) hz hx1s.o
   have hwith:=rwith_t V8 (X++ [g4,g5]) A n c0 room l z (hLW.o.fr (F4h.o.trans G8).nil) hzT.fam hzs (fun g hg=>Nat.lt_of_lt_of_le (hX2h.o g hg) (F4h.o.trans G8).size) hh.o.hmax
   rw [hz,hx1f.o]at hwith
   try dsimp only
   refine hK.out _ _ ⟨q1,q2,q3⟩ (fun hHeld=> ?_)
   clear hK K
   try simp only [zA,zB,zC,Act.put,zD,zE,zF]
   refine wpZ_one (i:=3) (by kernel_rfl) rfl (fun K hK=> ?_)
   go_simp
   refine Calls.mono (show Calls Tryz.prog 35 _ _ _ from hwith) ?_
   rintro e V9 ⟨A1,c1x,l1,rfl,hl1,hm1,G9⟩
   have q1:=q1.fr G9 (by simp)
   have q2:=q2.fr G9 (by simp)
   have q3:=cell_fr G9 q3
   have G9:=G8.trans G9
   have hbk:=fun cs=>rdo_blks (V:=V9) (cb:=#[.slice A1 l1.length c1x,.int .i64 room]) (cs:=cs) (hR4v.fr G9 (by simp)) (hR5v.fr G9 (by simp)) hws.o.2.2.2.2.2.2.2.2.2.2.2.2
   have hR4w:=hR4v.fr G9 (by simp)
   have G10:Fr [g4] V9 (V9.setRow g4 #[.slice A1 l1.length c1x,.int .i64 room]):=(Fr.refl [g4] _).setRow (.inl (by simp)) _
   have r1:=q1.fr G10 (by simp;exact hws.o.2.2.2.2.2.2.2.2.1)
   have r2:=q2.fr G10 (by simp;exact fun h=>h6n.o.2.2.1 h.symm)
   have r3:=(G10.cell (p:=⟨g3,6,none⟩) (block_lt_of_cell q3) (by simp;exact hws.o.2.2.2.2.2.2.2.2.2.2.1)).trans q3
   have G11:=fun cs=>((Fr.refl [g5] (V9.setRow g4 #[.slice A1 l1.length c1x,.int .i64 room])).setRow (g:=g5) (.inl (by simp)) cs)
   try dsimp only
   refine hK.out _ _ ⟨q1,q2,q3⟩ (fun hHeld=> ?_)
   clear hK K
   try simp only [zA,zB,zC,Act.put,zD,zE,zF]
   refine wpZ_one (i:=7) (by kernel_rfl) rfl (fun K hK=> ?_)
   rw [if_pos (wanted_none rfl)]
   refine wp_store_row 50 _ _ rfl g4 _ rfl rfl 50 _ hR4w infoRb (by kernel_rfl) (by kernel_rfl) ?_
   show K (Act.put _ none undef) _
   refine hK.out _ _ ⟨r1,r2,r3⟩ (fun hHeld=> ?_)
   clear hK K
   try simp only [Act.put]
   refine wpZ_one (i:=8) (by kernel_rfl) rfl (fun K hK=> ?_)
   rw [if_pos (wanted_none rfl)]
   refine wp_store_row 33 _ _ rfl g5 _ rfl rfl 33 za (hbk #[]).1 infoAns hza (by kernel_rfl) ?_
   show K (Act.put _ none undef) _
   refine hK.out _ _ ⟨r1.fr (G11 _) (by simp;exact hws.o.2.2.2.2.2.2.2.2.2.1),r2.fr (G11 _) (by simp;exact fun h=>h6n.o.2.2.2 h.symm),((G11 _).cell (p:=⟨g3,6,none⟩) (block_lt_of_cell r3) (by simp;exact hws.o.2.2.2.2.2.2.2.2.2.2.2.1)).trans r3⟩ (fun hHeld=> ?_)
   clear hK K
   try simp only [Act.put]
   refine wpZ_done (by kernel_rfl) ?_ _
   go_wp2_with fail
   refine bodyPost_ret (results_cc (p:=4) (q:=5) rfl _ _ g4 g5 50 33 _ _ _ _ rfl (hbk _).2.1 uRb rfl infoRb rfl (hbk _).2.2 uAns rfl infoAns) rfl ?_
   rw [hres.o]
   exact rdo_end (r:=(dWith ⟨c.family,c.client,c.user,c.scope,c.redirect,c.challenge,c.method,1,[],false,[]⟩ (l.map (·.f)),⟨0,0,0,c.scope,nilB,nilB,false,false⟩)) hl1 hm1 (show RdX V9 (X++ [g4,g5]) 1 cA c.scope.length (strCells c.scope)from hAWh.o.fr (F4h.o.trans G9).nil) (fw4.o.trans G9) hws.o.2.2.1 hws.o.2.2.2.1 (aA:=cA) (ac:=ck) rfl
 |true=>
  obtain⟨f,rfl⟩:=Option.isSome_iff_exists.1 his.o
  have hyf:=zh (show y.f=f from hyh.o)
  have hfok:=zh (get_some hh.o.ok (by rw [←hh.o.hb];exact hog.o))
  obtain⟨rv,hrv⟩:∃z,Hid (y.f.revoked=z):=⟨_,zh rfl⟩
  rw [hrv.o]at c9
  have hob:=toList_beq y.f.client c.client
  obtain⟨ow,how⟩:∃z,Hid (decide (y.f.client=c.client)=z):=⟨_,zh rfl⟩
  rw [how.o]at hob
  have hrf:=zh (show f.revoked=rv by rw [←hyf.o];exact hrv.o)
  have hof:=zh (show decide (f.client=c.client)=ow by rw [←hyf.o];exact how.o)
  have hres:=zh (show dDo room c (l.map (·.f))=(l.map (·.f),noA 1) by rw [dk1 hm.o hk.o,hog.o];exact if_pos rfl)
  obtain⟨hR4v,hR5v,hPv,hbk1,hbkh⟩:=rdo_pre (cb:=#[.slice A n c0,.int .i64 room]) hR4h.o hR5h.o hPh.o F4h.o hws.o.2.2.2.2.2.2.2.2.2.2.2.2
  go_wp2_with (first
   | (refine wpList_load_at rfl 50 _ rfl rfl hPv (sub_self _) uRb rfl infoRbL ?_;rw [Array.toArray_toList])
   | (refine wpList_store_row rfl 50 _ _ rfl g4 _ rfl rfl 50 _ hR4v infoRb (by rfl) (by kernel_rfl) ?_)
   | (refine wpList_store_row rfl 33 _ _ rfl g5 _ rfl rfl 33 za hbk1 infoAns hza (by kernel_rfl) ?_))
  refine bodyPost_ret (results_cc (p:=4) (q:=5) rfl _ _ g4 g5 50 33 _ _ _ _ rfl (hbkh.o _).2.1 uRb rfl infoRb rfl (hbkh.o _).2.2 uAns rfl infoAns) rfl ?_
  rw [hres.o]
  exact rdo_end (r:=(l.map (·.f),noA 1)) (hLW.o.fr F4h.o.nil) rfl (RdX.nil _ _ _ _) fw4.o hws.o.2.2.1 hws.o.2.2.2.1 (ac:=0) rfl
end Go.Proofs.YtdeoinjjphdbmaaGreat
