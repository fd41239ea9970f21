/- Walk: the document's Do, kinds 5 and 7. Conditions: each theorem's own. -/
import Derived.Test.YtdeoinjjphdbmaaGreatKg
namespace Go.Proofs.YtdeoinjjphdbmaaGreat
open Go.RowKit Go.Sig
set_option maxRecDepth 100000 in
set_option maxHeartbeats 16000000 in
theorem rdo_7 (w:World) (X:List Nat) (A:Option Addr) (n c0:Nat) (room:Int) (l:List FA) (b:GBk) (c:GCmd) (cA:Option Addr) (ck:Nat) (h:RBk w X A n l b) (hc:CmdIn w c cA c.scope.length) (hcX:0<c.scope.length→Off X cA) (hm0:mayM c=true) (hk0:c.kind=7):
  Calls Tryz.prog 60 #[.agg #[.slice A n c0,.int .i64 room],.agg (cmdV c cA c.scope.length ck)] w (RDoPost w X room (dDo room c (l.map (·.f)))):=by
 have hh:=zh h
 have hch:=zh hc
 have hcXh:=zh hcX
 have hm:=zh hm0
 have hk:=zh hk0
 clear hk0
 clear h hc hcX hm0
 have hzs:∃zs:Array Value,zs.size=8∧Hid (zs=(AA.mk (noA 0) none 0).cells):=⟨_,rfl,zh rfl⟩
 obtain⟨za,hza,hzah⟩:=hzs
 unfold cmdV
 go_enter Tryz.func60,Tryz.ntmps60
 go_upto_region 1 with(fail)
 refine wp_gen (fun W=>Blk W w.heap.size 50 #[.slice A n c0,.int .i64 room]∧Blk W (w.heap.size+1) 30 (cmdV c cA c.scope.length ck)∧Blk W (w.heap.size+1+1) 50 #[.slice none 0 0,.int .i64 0]∧Blk W (w.heap.size+1+1+1) 33 za∧Fr [] w W) ⟨?_,?_,?_,?_,?_⟩ ?_
 ·exact(((Blk.new _ _ _).alloc _).alloc _).alloc _
 ·refine Blk.alloc (Blk.alloc (Blk.new' _ _ ?_) _) _
  simp
 ·refine Blk.alloc (Blk.new' _ _ ?_) _
  simp
 ·rw [hzah.o]
  exact Blk.new' _ _ (by simp)
 ·exact((((Fr.refl _ _).alloc _).alloc _).alloc _).alloc _
 rintro W ⟨hP,hC,hR4,hR5,fW⟩
 obtain⟨g2,HG2⟩:∃z,Hid (w.heap.size=z):=⟨_,zh rfl⟩
 rw [HG2.o]at hP hC hR4 hR5⊢
 obtain⟨g3,HG3⟩:∃z,Hid (g2+1=z):=⟨_,zh rfl⟩
 rw [HG3.o]at hC hR4 hR5⊢
 obtain⟨g4,HG4⟩:∃z,Hid (g3+1=z):=⟨_,zh rfl⟩
 rw [HG4.o]at hR4 hR5⊢
 obtain⟨g5,HG5⟩:∃z,Hid (g4+1=z):=⟨_,zh rfl⟩
 rw [HG5.o]at hR5⊢
 have hws:Hid (w.heap.size≤g2∧w.heap.size≤g3∧w.heap.size≤g4∧w.heap.size≤g5∧g2<W.heap.size∧g3<W.heap.size∧g4<W.heap.size∧g5<W.heap.size∧g2≠g4∧g2≠g5∧g3≠g4∧g3≠g5∧g4≠g5):=by
  have:=HG2.o
  have:=HG3.o
  have:=HG4.o
  have:=HG5.o
  exact zh ⟨by omega,by omega,by omega,by omega,hP.lt,hC.lt,hR4.lt,hR5.lt,by omega,by omega,by omega,by omega,by omega⟩
 have hPh:=zh hP
 have hCh:=zh hC
 have hR4h:=zh hR4
 have hR5h:=zh hR5
 have fWh:=zh fW
 have hX1:∀g∈X++ [g4,g5],g∈X∨w.heap.size≤g:=fun g hg=>by
  rcases List.mem_append.1 hg with hg |hg
  ·exact .inl hg
  ·obtain⟨_,_,a3,a4,_⟩:=hws.o
   simp at hg
   exact .inr (by omega)
 have hX2:∀g∈X++ [g4,g5],g<W.heap.size:=fun g hg=>by
  rcases List.mem_append.1 hg with hg |hg
  ·exact Nat.lt_of_lt_of_le (hh.o.hX g hg) fW.size
  ·obtain⟨_,_,_,_,_,_,a3,a4,_⟩:=hws.o
   simp at hg
   omega
 have hX2h:=zh hX2
 have hLW:=zh (hh.o.hL.to fW.nil hX1)
 have hAW:RdX W (X++ [g4,g5]) 1 cA c.scope.length (strCells c.scope):=by
  have hd:RdX w X 1 cA c.scope.length (strCells c.scope):=⟨hch.o.hS,hcXh.o⟩
  exact hd.to (by decide) fW.nil hX1
 have hAWh:=zh hAW
 have hmay:=rmay17_t W c cA c.scope.length ck (hch.o.hS.fr fW (by simp [Off])) rfl hch.o.hl hch.o.hs hch.o.hf
 rw [hm.o]at hmay
 clear hP hR4 hR5 fW hX1 hX2 hAW
 go_wp2_with (refine wpList_load_at rfl 30 _ rfl rfl hC (sub_self _) uCmd rfl (by unfold cmdV;exact infoCmd) ?_;rw [Array.toArray_toList])
 refine Calls.mono (show Calls Tryz.prog 23 _ _ _ from hmay) ?_
 rintro e W2 ⟨rfl,F2⟩
 clear hmay hC
 have F2h:=zh F2
 have fw:=zh (fWh.o.trans F2)
 clear F2
 obtain⟨og,hog⟩:∃z,Hid (dGet c.family (l.map (·.f))=z):=⟨_,zh rfl⟩
 have hgok:=get_ok hh.o.ok c.family
 rw [←hh.o.hb,hog.o]at hgok
 have hgokh:=zh hgok
 have hget:=rget_t W2 (X++ [g4,g5]) A n c0 room l c.family (hLW.o.fr F2h.o.nil) (by have:=hh.o.hmax;omega)
 unfold GetPost at hget
 obtain⟨is,his⟩:∃z,Hid (og.isSome=z):=⟨_,zh rfl⟩
 rw [hog.o,his.o]at hget
 have hPv:=hPh.o.fr F2h.o (by simp)
 have hCv:=hCh.o.fr F2h.o (by simp)
 obtain⟨d0,d1,d2,d3,d4,d5,d6,d7,d8,d9,d10,d11,d12,hcl⟩:=cmdV_cells hCv
 clear d0 d2 d3 d4 d5 d6 d7 d8 d9 d10 d11 d12 hgok hCv
 go_wp2_with (refine wpList_load_at rfl 50 _ rfl rfl hPv (sub_self _) uRb rfl infoRbL ?_;rw [Array.toArray_toList])
 refine Calls.mono (show Calls Tryz.prog 32 _ _ _ from hget) ?_
 rintro e W3 ⟨y,rfl,hy,hyin,F3⟩
 unfold FA.val
 clear hget d1 hcl hPv
 go_upto_region 4 with(refine wpList_store_row rfl 39 _ _ rfl W3.heap.size y.cells rfl rfl 39 _ (Blk.new _ _ _) (infoFamA y) (by rw [FA.size11];rfl) (FA.all1 y) ?_)
 refine wp_gen (fun W=>Blk W W3.heap.size 39 y.cells∧Fr [] W3 W) ⟨Blk.setRow (Blk.new _ _ _) _,((Fr.refl [] W3).alloc _).setRow (.inr (Nat.le_refl _)) _⟩ ?_
 rintro W4 ⟨hB6,F4⟩
 obtain⟨g6,HG6⟩:∃z,Hid (W3.heap.size=z):=⟨_,zh rfl⟩
 rw [HG6.o]at hB6⊢
 have h6s:=zh (show W.heap.size≤g6 by have:=F2h.o.size;have:=F3.size;have:=HG6.o;omega)
 have hyin4:=zh (hyin.fr F4.nil)
 have hB6h:=zh hB6
 have F4h:=zh (F2h.o.trans (F3.trans F4))
 have fw4:=zh (fWh.o.trans F4h.o)
 have hyh:=zh hy
 have hys:=zh (fam_short (hyin4.o.mono (Y:= []) (by simp)) (by rw [hy];exact hgokh.o))
 obtain⟨d0,d1,d2,d3,d4,d5,d6,d7,d8,d9,d10,d11,d12,hcl⟩:=cmdV_cells (hCh.o.fr F4h.o (by simp))
 obtain⟨c0',c1,c2,c3,c4,c5,c6,c7,c8,c9,c10,hgl⟩:=fam_cells hB6
 rw [hk.o]at d0
 clear F3 F4 hyin hB6 hy c0' fw F2h
 cases is with
 |false=>
  obtain rfl:og=none:=by simpa using his.o
  have hres:=zh (show dDo room c (l.map (·.f))=(l.map (·.f),noA 0) by rw [dNone hm.o (by rw [hk.o];decide) (by rw [hk.o];decide) hog.o,if_neg (by rw [hk.o];decide)])
  obtain⟨hR4v,hR5v,hPv,hbk1,hbkh⟩:=rdo_pre (cb:=#[.slice A n c0,.int .i64 room]) hR4h.o hR5h.o hPh.o F4h.o hws.o.2.2.2.2.2.2.2.2.2.2.2.2
  go_wp2_with (first
   | (refine wpList_load_at rfl 50 _ rfl rfl hPv (sub_self _) uRb rfl infoRbL ?_;rw [Array.toArray_toList])
   | (refine wpList_store_row rfl 50 _ _ rfl g4 _ rfl rfl 50 _ hR4v infoRb (by rfl) (by kernel_rfl) ?_)
   | (refine wpList_store_row rfl 33 _ _ rfl g5 _ rfl rfl 33 za hbk1 infoAns hza (by kernel_rfl) ?_))
  refine bodyPost_ret (results_cc (p:=4) (q:=5) rfl _ _ g4 g5 50 33 _ _ _ _ rfl (hbkh.o _).2.1 uRb rfl infoRb rfl (hbkh.o _).2.2 uAns rfl infoAns) rfl ?_
  rw [hres.o]
  exact rdo_end (r:=(l.map (·.f),noA 0)) (hLW.o.fr F4h.o.nil) rfl (RdX.nil _ _ _ _) fw4.o hws.o.2.2.1 hws.o.2.2.2.1 (ac:=0) rfl
 |true=>
  obtain⟨f,rfl⟩:=Option.isSome_iff_exists.1 his.o
  have hyf:=zh (show y.f=f from hyh.o)
  have hfok:=zh (get_some hh.o.ok (by rw [←hh.o.hb];exact hog.o))
  obtain⟨rv,hrv⟩:∃z,Hid (y.f.revoked=z):=⟨_,zh rfl⟩
  rw [hrv.o]at c9
  have hob:=toList_beq y.f.client c.client
  obtain⟨ow,how⟩:∃z,Hid (decide (y.f.client=c.client)=z):=⟨_,zh rfl⟩
  rw [how.o]at hob
  have hrf:=zh (show f.revoked=rv by rw [←hyf.o];exact hrv.o)
  have hof:=zh (show decide (f.client=c.client)=ow by rw [←hyf.o];exact how.o)
  cases rv with
  |false=>
   have hres:=zh (show dDo room c (l.map (·.f))=(l.map (·.f),noA 0) by rw [dk7 hm.o hk.o hog.o,if_neg (by rw [hrf.o];decide)])
   obtain⟨hR4v,hR5v,hPv,hbk1,hbkh⟩:=rdo_pre (cb:=#[.slice A n c0,.int .i64 room]) hR4h.o hR5h.o hPh.o F4h.o hws.o.2.2.2.2.2.2.2.2.2.2.2.2
   go_wp2_with (first
    | (refine wpList_load_at rfl 50 _ rfl rfl hPv (sub_self _) uRb rfl infoRbL ?_;rw [Array.toArray_toList])
    | (refine wpList_store_row rfl 50 _ _ rfl g4 _ rfl rfl 50 _ hR4v infoRb (by rfl) (by kernel_rfl) ?_)
    | (refine wpList_store_row rfl 33 _ _ rfl g5 _ rfl rfl 33 za hbk1 infoAns hza (by kernel_rfl) ?_))
   refine bodyPost_ret (results_cc (p:=4) (q:=5) rfl _ _ g4 g5 50 33 _ _ _ _ rfl (hbkh.o _).2.1 uRb rfl infoRb rfl (hbkh.o _).2.2 uAns rfl infoAns) rfl ?_
   rw [hres.o]
   exact rdo_end (r:=(l.map (·.f),noA 0)) (hLW.o.fr F4h.o.nil) rfl (RdX.nil _ _ _ _) fw4.o hws.o.2.2.1 hws.o.2.2.2.1 (ac:=0) rfl
  |true=>
   have hwout:=rwout_t W4 (X++ [g4,g5]) A n c0 room l c.family (hLW.o.fr F4h.o.nil) (fun g hg=>Nat.lt_of_lt_of_le (hX2h.o g hg) F4h.o.size) (by have:=hh.o.hmax;omega)
   have hres:=zh (show dDo room c (l.map (·.f))=(woutM c.family (l.map (·.f)),noA 0) by rw [dk7 hm.o hk.o hog.o,if_pos hrf.o])
   have hPv:=hPh.o.fr F4h.o (by simp)
   go_wp2_with (refine wpList_load_at rfl 50 _ rfl rfl hPv (sub_self _) uRb rfl infoRbL ?_;rw [Array.toArray_toList])
   refine Calls.mono (show Calls Tryz.prog 21 _ _ _ from hwout) ?_
   rintro e V ⟨A1,c1x,l1,rfl,hl1,hm1,FV⟩
   have FVh:=zh (F4h.o.trans FV)
   have fwV:=zh (fw4.o.trans FV)
   have hl1h:=zh hl1
   have hm1h:=zh hm1
   clear hwout hl1 hm1 FV hPv
   obtain⟨hR4v,hR5v,hPv,hbk1,hbkh⟩:=rdo_pre (cb:=#[.slice A1 l1.length c1x,.int .i64 room]) hR4h.o hR5h.o hPh.o FVh.o hws.o.2.2.2.2.2.2.2.2.2.2.2.2
   go_wp2_with (first
    | (refine wpList_store_row rfl 50 _ _ rfl g4 _ rfl rfl 50 _ hR4v infoRb (by rfl) (by kernel_rfl) ?_)
    | (refine wpList_store_row rfl 33 _ _ rfl g5 _ rfl rfl 33 za hbk1 infoAns hza (by kernel_rfl) ?_))
   refine bodyPost_ret (results_cc (p:=4) (q:=5) rfl _ _ g4 g5 50 33 _ _ _ _ rfl (hbkh.o _).2.1 uRb rfl infoRb rfl (hbkh.o _).2.2 uAns rfl infoAns) rfl ?_
   rw [hres.o]
   exact rdo_end (r:=(woutM c.family (l.map (·.f)),noA 0)) (hl1h.o) hm1h.o (RdX.nil _ _ _ _) fwV.o hws.o.2.2.1 hws.o.2.2.2.1 (ac:=0) rfl
set_option maxRecDepth 100000 in
set_option maxHeartbeats 16000000 in
theorem rdo_5 (w:World) (X:List Nat) (A:Option Addr) (n c0:Nat) (room:Int) (l:List FA) (b:GBk) (c:GCmd) (cA:Option Addr) (ck:Nat) (h:RBk w X A n l b) (hc:CmdIn w c cA c.scope.length) (hcX:0<c.scope.length→Off X cA) (hm0:mayM c=true) (hk0:c.kind=5):
  Calls Tryz.prog 60 #[.agg #[.slice A n c0,.int .i64 room],.agg (cmdV c cA c.scope.length ck)] w (RDoPost w X room (dDo room c (l.map (·.f)))):=by
 have hh:=zh h
 have hch:=zh hc
 have hcXh:=zh hcX
 have hm:=zh hm0
 have hk:=zh hk0
 clear hk0
 clear h hc hcX hm0
 have hzs:∃zs:Array Value,zs.size=8∧Hid (zs=(AA.mk (noA 0) none 0).cells):=⟨_,rfl,zh rfl⟩
 obtain⟨za,hza,hzah⟩:=hzs
 unfold cmdV
 go_enter Tryz.func60,Tryz.ntmps60
 go_upto_region 1 with(fail)
 refine wp_gen (fun W=>Blk W w.heap.size 50 #[.slice A n c0,.int .i64 room]∧Blk W (w.heap.size+1) 30 (cmdV c cA c.scope.length ck)∧Blk W (w.heap.size+1+1) 50 #[.slice none 0 0,.int .i64 0]∧Blk W (w.heap.size+1+1+1) 33 za∧Fr [] w W) ⟨?_,?_,?_,?_,?_⟩ ?_
 ·exact(((Blk.new _ _ _).alloc _).alloc _).alloc _
 ·refine Blk.alloc (Blk.alloc (Blk.new' _ _ ?_) _) _
  simp
 ·refine Blk.alloc (Blk.new' _ _ ?_) _
  simp
 ·rw [hzah.o]
  exact Blk.new' _ _ (by simp)
 ·exact((((Fr.refl _ _).alloc _).alloc _).alloc _).alloc _
 rintro W ⟨hP,hC,hR4,hR5,fW⟩
 obtain⟨g2,HG2⟩:∃z,Hid (w.heap.size=z):=⟨_,zh rfl⟩
 rw [HG2.o]at hP hC hR4 hR5⊢
 obtain⟨g3,HG3⟩:∃z,Hid (g2+1=z):=⟨_,zh rfl⟩
 rw [HG3.o]at hC hR4 hR5⊢
 obtain⟨g4,HG4⟩:∃z,Hid (g3+1=z):=⟨_,zh rfl⟩
 rw [HG4.o]at hR4 hR5⊢
 obtain⟨g5,HG5⟩:∃z,Hid (g4+1=z):=⟨_,zh rfl⟩
 rw [HG5.o]at hR5⊢
 have hws:Hid (w.heap.size≤g2∧w.heap.size≤g3∧w.heap.size≤g4∧w.heap.size≤g5∧g2<W.heap.size∧g3<W.heap.size∧g4<W.heap.size∧g5<W.heap.size∧g2≠g4∧g2≠g5∧g3≠g4∧g3≠g5∧g4≠g5):=by
  have:=HG2.o
  have:=HG3.o
  have:=HG4.o
  have:=HG5.o
  exact zh ⟨by omega,by omega,by omega,by omega,hP.lt,hC.lt,hR4.lt,hR5.lt,by omega,by omega,by omega,by omega,by omega⟩
 have hPh:=zh hP
 have hCh:=zh hC
 have hR4h:=zh hR4
 have hR5h:=zh hR5
 have fWh:=zh fW
 have hX1:∀g∈X++ [g4,g5],g∈X∨w.heap.size≤g:=fun g hg=>by
  rcases List.mem_append.1 hg with hg |hg
  ·exact .inl hg
  ·obtain⟨_,_,a3,a4,_⟩:=hws.o
   simp at hg
   exact .inr (by omega)
 have hX2:∀g∈X++ [g4,g5],g<W.heap.size:=fun g hg=>by
  rcases List.mem_append.1 hg with hg |hg
  ·exact Nat.lt_of_lt_of_le (hh.o.hX g hg) fW.size
  ·obtain⟨_,_,_,_,_,_,a3,a4,_⟩:=hws.o
   simp at hg
   omega
 have hX2h:=zh hX2
 have hLW:=zh (hh.o.hL.to fW.nil hX1)
 have hAW:RdX W (X++ [g4,g5]) 1 cA c.scope.length (strCells c.scope):=by
  have hd:RdX w X 1 cA c.scope.length (strCells c.scope):=⟨hch.o.hS,hcXh.o⟩
  exact hd.to (by decide) fW.nil hX1
 have hAWh:=zh hAW
 have hmay:=rmay17_t W c cA c.scope.length ck (hch.o.hS.fr fW (by simp [Off])) rfl hch.o.hl hch.o.hs hch.o.hf
 rw [hm.o]at hmay
 clear hP hR4 hR5 fW hX1 hX2 hAW
 go_wp2_with (refine wpList_load_at rfl 30 _ rfl rfl hC (sub_self _) uCmd rfl (by unfold cmdV;exact infoCmd) ?_;rw [Array.toArray_toList])
 refine Calls.mono (show Calls Tryz.prog 23 _ _ _ from hmay) ?_
 rintro e W2 ⟨rfl,F2⟩
 clear hmay hC
 have F2h:=zh F2
 have fw:=zh (fWh.o.trans F2)
 clear F2
 obtain⟨og,hog⟩:∃z,Hid (dGet c.family (l.map (·.f))=z):=⟨_,zh rfl⟩
 have hgok:=get_ok hh.o.ok c.family
 rw [←hh.o.hb,hog.o]at hgok
 have hgokh:=zh hgok
 have hget:=rget_t W2 (X++ [g4,g5]) A n c0 room l c.family (hLW.o.fr F2h.o.nil) (by have:=hh.o.hmax;omega)
 unfold GetPost at hget
 obtain⟨is,his⟩:∃z,Hid (og.isSome=z):=⟨_,zh rfl⟩
 rw [hog.o,his.o]at hget
 have hPv:=hPh.o.fr F2h.o (by simp)
 have hCv:=hCh.o.fr F2h.o (by simp)
 obtain⟨d0,d1,d2,d3,d4,d5,d6,d7,d8,d9,d10,d11,d12,hcl⟩:=cmdV_cells hCv
 clear d0 d2 d3 d4 d5 d6 d7 d8 d9 d10 d11 d12 hgok hCv
 go_wp2_with (refine wpList_load_at rfl 50 _ rfl rfl hPv (sub_self _) uRb rfl infoRbL ?_;rw [Array.toArray_toList])
 refine Calls.mono (show Calls Tryz.prog 32 _ _ _ from hget) ?_
 rintro e W3 ⟨y,rfl,hy,hyin,F3⟩
 unfold FA.val
 clear hget d1 hcl hPv
 go_upto_region 4 with(refine wpList_store_row rfl 39 _ _ rfl W3.heap.size y.cells rfl rfl 39 _ (Blk.new _ _ _) (infoFamA y) (by rw [FA.size11];rfl) (FA.all1 y) ?_)
 refine wp_gen (fun W=>Blk W W3.heap.size 39 y.cells∧Fr [] W3 W) ⟨Blk.setRow (Blk.new _ _ _) _,((Fr.refl [] W3).alloc _).setRow (.inr (Nat.le_refl _)) _⟩ ?_
 rintro W4 ⟨hB6,F4⟩
 obtain⟨g6,HG6⟩:∃z,Hid (W3.heap.size=z):=⟨_,zh rfl⟩
 rw [HG6.o]at hB6⊢
 have h6s:=zh (show W.heap.size≤g6 by have:=F2h.o.size;have:=F3.size;have:=HG6.o;omega)
 have hyin4:=zh (hyin.fr F4.nil)
 have hB6h:=zh hB6
 have F4h:=zh (F2h.o.trans (F3.trans F4))
 have fw4:=zh (fWh.o.trans F4h.o)
 have hyh:=zh hy
 have hys:=zh (fam_short (hyin4.o.mono (Y:= []) (by simp)) (by rw [hy];exact hgokh.o))
 obtain⟨d0,d1,d2,d3,d4,d5,d6,d7,d8,d9,d10,d11,d12,hcl⟩:=cmdV_cells (hCh.o.fr F4h.o (by simp))
 obtain⟨c0',c1,c2,c3,c4,c5,c6,c7,c8,c9,c10,hgl⟩:=fam_cells hB6
 rw [hk.o]at d0
 clear F3 F4 hyin hB6 hy c0' fw F2h
 cases is with
 |false=>
  obtain rfl:og=none:=by simpa using his.o
  have hres:=zh (show dDo room c (l.map (·.f))=(l.map (·.f),(⟨0,0,0,[],nilB,nilB,false,false⟩:GAns)) by rw [dNone hm.o (by rw [hk.o];decide) (by rw [hk.o];decide) hog.o,if_neg (by rw [hk.o];decide)];rfl)
  go_upto_region 51 with(fail)
  have hP51:=hPh.o.fr F4h.o (by simp)
  have k9:World.cell? W4 ⟨g6,9,none⟩=some (.bool y.f.revoked):=c9
  have hR4v:=hR4h.o.fr F4h.o (by simp)
  have hR5v:=hR5h.o.fr F4h.o (by simp)
  have hbk:=fun cs=>rdo_blks (V:=World.drew W4) (cb:=#[.slice A n c0,.int .i64 room]) (cs:=cs) hR4v hR5v hws.o.2.2.2.2.2.2.2.2.2.2.2.2
  have n64:g6≠g4∧g6≠g5:=by
   have:=h6s.o
   obtain⟨_,_,_,_,_,_,a3,a4,_⟩:=hws.o
   exact⟨by omega,by omega⟩
  have G4:Fr [g4] W4 ((World.drew W4).setRow g4 #[.slice A n c0,.int .i64 room]):=((Fr.refl [g4] _).drew).setRow (.inl (by simp)) _
  have hP52:=hP51.fr G4 (by simp;exact hws.o.2.2.2.2.2.2.2.2.1)
  have k92:=(G4.cell (p:=⟨g6,9,none⟩) (block_lt_of_cell k9) (by simp;exact n64.1)).trans k9
  have G5:=fun cs=>((Fr.refl [g5] ((World.drew W4).setRow g4 #[.slice A n c0,.int .i64 room])).setRow (g:=g5) (.inl (by simp)) cs)
  refine wp_region_z (fun w'=>Blk w' g2 50 #[.slice A n c0,.int .i64 room]∧w'.cell? ⟨g6,9,none⟩=some (.bool y.f.revoked)) [] (by kernel_rfl) ⟨hP51,k9⟩ ?_
  intro hHeld
  refine wpZ_take (i:=0) rfl (by kernel_rfl) (by kernel_rfl) (by kernel_rfl) (by kernel_rfl) (fun _ _ _ h=>h) (yieldsIf_load_mid (by kernel_rfl) 50 _ rfl g2 0 rfl ([.slice A n c0,.int .i64 room]) _ (fun w h=>range_cells h.1) uRb rfl (by kernel_rfl)) hHeld ?_
  try simp only [zA,zC,Act.put,zD,zE,zF]
  refine wpZ_tk (i:=1) (v:= ?_) hHeld ?_ ?_
  rotate_left
  ·(intro w hSw;go_simp<;>with_reducible rfl)
  try simp only [zA,zB,zC,Act.put,zD,zE,zF]
  refine wpZ_tk (i:=2) (v:= ?_) hHeld ?_ ?_
  rotate_left
  ·(intro w hSw;go_simp<;>with_reducible rfl)
  try simp only [zA,zB,zC,Act.put,zD,zE,zF]
  refine wpZ_take (i:=3) (v:=undef) rfl (by kernel_rfl) (by kernel_rfl) (by kernel_rfl) (by kernel_rfl) (fun _ _ _ h=>h) (Or.inr ⟨by rfl,rfl⟩) hHeld ?_
  try simp only [zA,zB,zC,Act.put,zD,zE,zF]
  refine wpZ_take (i:=4) (v:=undef) rfl (by kernel_rfl) (by kernel_rfl) (by kernel_rfl) (by kernel_rfl) (fun _ _ _ h=>h) (Or.inr ⟨by rfl,rfl⟩) hHeld ?_
  try simp only [zA,zB,zC,Act.put,zD,zE,zF]
  refine wpZ_tk (i:=5) (v:= ?_) hHeld ?_ ?_
  rotate_left
  ·(intro w hSw;go_simp<;>with_reducible rfl)
  try simp only [zA,zB,zC,Act.put,zD,zE,zF]
  refine wpZ_tk (i:=6) (v:= ?_) hHeld ?_ ?_
  rotate_left
  ·(intro w hSw;go_simp<;>with_reducible rfl)
  try simp only [zA,zB,zC,Act.put,zD,zE,zF]
  refine wpZ_one (i:=7) (by kernel_rfl) rfl (fun K hK=> ?_)
  rw [if_pos (wanted_none rfl)]
  refine wp_store_row 50 _ _ rfl g4 _ rfl rfl 50 _ hR4v infoRb (by kernel_rfl) (by kernel_rfl) ?_
  show K (Act.put _ none undef) _
  refine hK.out _ _ ⟨hP52,k92⟩ (fun hHeld=> ?_)
  clear hK K
  try simp only [Act.put]
  refine wpZ_one (i:=8) (by kernel_rfl) rfl (fun K hK=> ?_)
  rw [if_pos (wanted_none rfl)]
  refine wp_store_row 33 _ _ rfl g5 _ rfl rfl 33 za (hbk #[]).1 infoAns hza (by kernel_rfl) ?_
  show K (Act.put _ none undef) _
  refine hK.out _ _ ⟨hP52.fr (G5 _) (by simp;exact hws.o.2.2.2.2.2.2.2.2.2.1),((G5 _).cell (p:=⟨g6,9,none⟩) (block_lt_of_cell k92) (by simp;exact n64.2)).trans k92⟩ (fun hHeld=> ?_)
  clear hK K
  try simp only [Act.put]
  refine wpZ_done (by kernel_rfl) ?_ _
  go_wp2_with fail
  refine bodyPost_ret (results_cc (p:=4) (q:=5) rfl _ _ g4 g5 50 33 _ _ _ _ rfl (hbk _).2.1 uRb rfl infoRb rfl (hbk _).2.2 uAns rfl infoAns) rfl ?_
  rw [hres.o]
  exact rdo_end (r:=(l.map (·.f),(⟨0,0,0,[],nilB,nilB,false,false⟩:GAns))) ((hLW.o.fr F4h.o.nil).fr ((Fr.refl _ _).drew)) rfl (RdX.nil _ _ _ _) fw4.o.drew hws.o.2.2.1 hws.o.2.2.2.1 (ac:=0) rfl
 |true=>
  obtain⟨f,rfl⟩:=Option.isSome_iff_exists.1 his.o
  have hyf:=zh (show y.f=f from hyh.o)
  have hfok:=zh (get_some hh.o.ok (by rw [←hh.o.hb];exact hog.o))
  obtain⟨rv,hrv⟩:∃z,Hid (y.f.revoked=z):=⟨_,zh rfl⟩
  rw [hrv.o]at c9
  have hob:=toList_beq y.f.client c.client
  obtain⟨ow,how⟩:∃z,Hid (decide (y.f.client=c.client)=z):=⟨_,zh rfl⟩
  rw [how.o]at hob
  have hrf:=zh (show f.revoked=rv by rw [←hyf.o];exact hrv.o)
  have hof:=zh (show decide (f.client=c.client)=ow by rw [←hyf.o];exact how.o)
  cases rv with
  |true=>
   cases ow with
   |true=>
    have hres:=zh (show dDo room c (l.map (·.f))=(l.map (·.f),(⟨0,0,0,[],nilB,nilB,false,true⟩:GAns)) by rw [dk5 hm.o hk.o hog.o,if_neg (by rw [hrf.o];simp),hof.o,hrf.o];rfl)
    go_upto_region 51 with(fail)
    have hP51:=hPh.o.fr F4h.o (by simp)
    have k9:World.cell? W4 ⟨g6,9,none⟩=some (.bool true):=c9
    have hR4v:=hR4h.o.fr F4h.o (by simp)
    have hR5v:=hR5h.o.fr F4h.o (by simp)
    have hbk:=fun cs=>rdo_blks (V:=World.drew W4) (cb:=#[.slice A n c0,.int .i64 room]) (cs:=cs) hR4v hR5v hws.o.2.2.2.2.2.2.2.2.2.2.2.2
    have n64:g6≠g4∧g6≠g5:=by
     have:=h6s.o
     obtain⟨_,_,_,_,_,_,a3,a4,_⟩:=hws.o
     exact⟨by omega,by omega⟩
    have G4:Fr [g4] W4 ((World.drew W4).setRow g4 #[.slice A n c0,.int .i64 room]):=((Fr.refl [g4] _).drew).setRow (.inl (by simp)) _
    have hP52:=hP51.fr G4 (by simp;exact hws.o.2.2.2.2.2.2.2.2.1)
    have k92:=(G4.cell (p:=⟨g6,9,none⟩) (block_lt_of_cell k9) (by simp;exact n64.1)).trans k9
    have G5:=fun cs=>((Fr.refl [g5] ((World.drew W4).setRow g4 #[.slice A n c0,.int .i64 room])).setRow (g:=g5) (.inl (by simp)) cs)
    refine wp_region_z (fun w'=>Blk w' g2 50 #[.slice A n c0,.int .i64 room]∧w'.cell? ⟨g6,9,none⟩=some (.bool true)) [] (by kernel_rfl) ⟨hP51,k9⟩ ?_
    intro hHeld
    refine wpZ_take (i:=0) rfl (by kernel_rfl) (by kernel_rfl) (by kernel_rfl) (by kernel_rfl) (fun _ _ _ h=>h) (yieldsIf_load_mid (by kernel_rfl) 50 _ rfl g2 0 rfl ([.slice A n c0,.int .i64 room]) _ (fun w h=>range_cells h.1) uRb rfl (by kernel_rfl)) hHeld ?_
    try simp only [zA,zC,Act.put,zD,zE,zF]
    refine wpZ_tk (i:=1) (v:= ?_) hHeld ?_ ?_
    rotate_left
    ·(intro w hSw;go_simp<;>with_reducible rfl)
    try simp only [zA,zB,zC,Act.put,zD,zE,zF]
    refine wpZ_tk (i:=2) (v:= ?_) hHeld ?_ ?_
    rotate_left
    ·(intro w hSw;go_simp<;>with_reducible rfl)
    try simp only [zA,zB,zC,Act.put,zD,zE,zF]
    refine wpZ_tk (i:=3) (v:= ?_) hHeld ?_ ?_
    rotate_left
    ·(intro w hSw;go_simp<;>with_reducible rfl)
    try simp only [zA,zB,zC,Act.put,zD,zE,zF]
    refine wpZ_tk (i:=4) (v:= ?_) hHeld ?_ ?_
    rotate_left
    ·(intro w hSw;go_simp<;>with_reducible rfl)
    try simp only [zA,zB,zC,Act.put,zD,zE,zF]
    refine wpZ_tk (i:=5) (v:= ?_) hHeld ?_ ?_
    rotate_left
    ·(intro w hSw;go_simp<;>with_reducible rfl)
    try simp only [zA,zB,zC,Act.put,zD,zE,zF]
    refine wpZ_tk (i:=6) (v:= ?_) hHeld ?_ ?_
    rotate_left
    ·(intro w hSw;go_simp<;>with_reducible rfl)
    try simp only [zA,zB,zC,Act.put,zD,zE,zF]
    refine wpZ_one (i:=7) (by kernel_rfl) rfl (fun K hK=> ?_)
    rw [if_pos (wanted_none rfl)]
    refine wp_store_row 50 _ _ rfl g4 _ rfl rfl 50 _ hR4v infoRb (by kernel_rfl) (by kernel_rfl) ?_
    show K (Act.put _ none undef) _
    refine hK.out _ _ ⟨hP52,k92⟩ (fun hHeld=> ?_)
    clear hK K
    try simp only [Act.put]
    refine wpZ_one (i:=8) (by kernel_rfl) rfl (fun K hK=> ?_)
    rw [if_pos (wanted_none rfl)]
    refine wp_store_row 33 _ _ rfl g5 _ rfl rfl 33 za (hbk #[]).1 infoAns hza (by kernel_rfl) ?_
    show K (Act.put _ none undef) _
    refine hK.out _ _ ⟨hP52.fr (G5 _) (by simp;exact hws.o.2.2.2.2.2.2.2.2.2.1),((G5 _).cell (p:=⟨g6,9,none⟩) (block_lt_of_cell k92) (by simp;exact n64.2)).trans k92⟩ (fun hHeld=> ?_)
    clear hK K
    try simp only [Act.put]
    refine wpZ_done (by kernel_rfl) ?_ _
    go_wp2_with fail
    refine bodyPost_ret (results_cc (p:=4) (q:=5) rfl _ _ g4 g5 50 33 _ _ _ _ rfl (hbk _).2.1 uRb rfl infoRb rfl (hbk _).2.2 uAns rfl infoAns) rfl ?_
    rw [hres.o]
    exact rdo_end (r:=(l.map (·.f),(⟨0,0,0,[],nilB,nilB,false,true⟩:GAns))) ((hLW.o.fr F4h.o.nil).fr ((Fr.refl _ _).drew)) rfl (RdX.nil _ _ _ _) fw4.o.drew hws.o.2.2.1 hws.o.2.2.2.1 (ac:=0) rfl
   |false=>
    have hres:=zh (show dDo room c (l.map (·.f))=(l.map (·.f),(⟨0,0,0,[],nilB,nilB,false,false⟩:GAns)) by rw [dk5 hm.o hk.o hog.o,if_neg (by rw [hrf.o];simp),hof.o,hrf.o];rfl)
    go_upto_region 51 with(fail)
    have hP51:=hPh.o.fr F4h.o (by simp)
    have k9:World.cell? W4 ⟨g6,9,none⟩=some (.bool true):=c9
    have hR4v:=hR4h.o.fr F4h.o (by simp)
    have hR5v:=hR5h.o.fr F4h.o (by simp)
    have hbk:=fun cs=>rdo_blks (V:=World.drew W4) (cb:=#[.slice A n c0,.int .i64 room]) (cs:=cs) hR4v hR5v hws.o.2.2.2.2.2.2.2.2.2.2.2.2
    have n64:g6≠g4∧g6≠g5:=by
     have:=h6s.o
     obtain⟨_,_,_,_,_,_,a3,a4,_⟩:=hws.o
     exact⟨by omega,by omega⟩
    have G4:Fr [g4] W4 ((World.drew W4).setRow g4 #[.slice A n c0,.int .i64 room]):=((Fr.refl [g4] _).drew).setRow (.inl (by simp)) _
    have hP52:=hP51.fr G4 (by simp;exact hws.o.2.2.2.2.2.2.2.2.1)
    have k92:=(G4.cell (p:=⟨g6,9,none⟩) (block_lt_of_cell k9) (by simp;exact n64.1)).trans k9
    have G5:=fun cs=>((Fr.refl [g5] ((World.drew W4).setRow g4 #[.slice A n c0,.int .i64 room])).setRow (g:=g5) (.inl (by simp)) cs)
    refine wp_region_z (fun w'=>Blk w' g2 50 #[.slice A n c0,.int .i64 room]∧w'.cell? ⟨g6,9,none⟩=some (.bool true)) [] (by kernel_rfl) ⟨hP51,k9⟩ ?_
    intro hHeld
    refine wpZ_take (i:=0) rfl (by kernel_rfl) (by kernel_rfl) (by kernel_rfl) (by kernel_rfl) (fun _ _ _ h=>h) (yieldsIf_load_mid (by kernel_rfl) 50 _ rfl g2 0 rfl ([.slice A n c0,.int .i64 room]) _ (fun w h=>range_cells h.1) uRb rfl (by kernel_rfl)) hHeld ?_
    try simp only [zA,zC,Act.put,zD,zE,zF]
    refine wpZ_tk (i:=1) (v:= ?_) hHeld ?_ ?_
    rotate_left
    ·(intro w hSw;go_simp<;>with_reducible rfl)
    try simp only [zA,zB,zC,Act.put,zD,zE,zF]
    refine wpZ_tk (i:=2) (v:= ?_) hHeld ?_ ?_
    rotate_left
    ·(intro w hSw;go_simp<;>with_reducible rfl)
    try simp only [zA,zB,zC,Act.put,zD,zE,zF]
    refine wpZ_take (i:=3) (v:=undef) rfl (by kernel_rfl) (by kernel_rfl) (by kernel_rfl) (by kernel_rfl) (fun _ _ _ h=>h) (Or.inr ⟨by rfl,rfl⟩) hHeld ?_
    try simp only [zA,zB,zC,Act.put,zD,zE,zF]
    refine wpZ_take (i:=4) (v:=undef) rfl (by kernel_rfl) (by kernel_rfl) (by kernel_rfl) (by kernel_rfl) (fun _ _ _ h=>h) (Or.inr ⟨by rfl,rfl⟩) hHeld ?_
    try simp only [zA,zB,zC,Act.put,zD,zE,zF]
    refine wpZ_tk (i:=5) (v:= ?_) hHeld ?_ ?_
    rotate_left
    ·(intro w hSw;go_simp<;>with_reducible rfl)
    try simp only [zA,zB,zC,Act.put,zD,zE,zF]
    refine wpZ_tk (i:=6) (v:= ?_) hHeld ?_ ?_
    rotate_left
    ·(intro w hSw;go_simp<;>with_reducible rfl)
    try simp only [zA,zB,zC,Act.put,zD,zE,zF]
    refine wpZ_one (i:=7) (by kernel_rfl) rfl (fun K hK=> ?_)
    rw [if_pos (wanted_none rfl)]
    refine wp_store_row 50 _ _ rfl g4 _ rfl rfl 50 _ hR4v infoRb (by kernel_rfl) (by kernel_rfl) ?_
    show K (Act.put _ none undef) _
    refine hK.out _ _ ⟨hP52,k92⟩ (fun hHeld=> ?_)
    clear hK K
    try simp only [Act.put]
    refine wpZ_one (i:=8) (by kernel_rfl) rfl (fun K hK=> ?_)
    rw [if_pos (wanted_none rfl)]
    refine wp_store_row 33 _ _ rfl g5 _ rfl rfl 33 za (hbk #[]).1 infoAns hza (by kernel_rfl) ?_
    show K (Act.put _ none undef) _
    refine hK.out _ _ ⟨hP52.fr (G5 _) (by simp;exact hws.o.2.2.2.2.2.2.2.2.2.1),((G5 _).cell (p:=⟨g6,9,none⟩) (block_lt_of_cell k92) (by simp;exact n64.2)).trans k92⟩ (fun hHeld=> ?_)
    clear hK K
    try simp only [Act.put]
    refine wpZ_done (by kernel_rfl) ?_ _
    go_wp2_with fail
    refine bodyPost_ret (results_cc (p:=4) (q:=5) rfl _ _ g4 g5 50 33 _ _ _ _ rfl (hbk _).2.1 uRb rfl infoRb rfl (hbk _).2.2 uAns rfl infoAns) rfl ?_
    rw [hres.o]
    exact rdo_end (r:=(l.map (·.f),(⟨0,0,0,[],nilB,nilB,false,false⟩:GAns))) ((hLW.o.fr F4h.o.nil).fr ((Fr.refl _ _).drew)) rfl (RdX.nil _ _ _ _) fw4.o.drew hws.o.2.2.1 hws.o.2.2.2.1 (ac:=0) rfl
  |false=>
   cases ow with
   |false=>
    have hres:=zh (show dDo room c (l.map (·.f))=(l.map (·.f),(⟨0,0,0,[],nilB,nilB,false,false⟩:GAns)) by rw [dk5 hm.o hk.o hog.o,if_neg (by have:=hof.o;simp at this;simp [this]),hof.o,hrf.o];rfl)
    go_upto_region 51 with(fail)
    have hP51:=hPh.o.fr F4h.o (by simp)
    have k9:World.cell? W4 ⟨g6,9,none⟩=some (.bool false):=c9
    have hR4v:=hR4h.o.fr F4h.o (by simp)
    have hR5v:=hR5h.o.fr F4h.o (by simp)
    have hbk:=fun cs=>rdo_blks (V:=World.drew W4) (cb:=#[.slice A n c0,.int .i64 room]) (cs:=cs) hR4v hR5v hws.o.2.2.2.2.2.2.2.2.2.2.2.2
    have n64:g6≠g4∧g6≠g5:=by
     have:=h6s.o
     obtain⟨_,_,_,_,_,_,a3,a4,_⟩:=hws.o
     exact⟨by omega,by omega⟩
    have G4:Fr [g4] W4 ((World.drew W4).setRow g4 #[.slice A n c0,.int .i64 room]):=((Fr.refl [g4] _).drew).setRow (.inl (by simp)) _
    have hP52:=hP51.fr G4 (by simp;exact hws.o.2.2.2.2.2.2.2.2.1)
    have k92:=(G4.cell (p:=⟨g6,9,none⟩) (block_lt_of_cell k9) (by simp;exact n64.1)).trans k9
    have G5:=fun cs=>((Fr.refl [g5] ((World.drew W4).setRow g4 #[.slice A n c0,.int .i64 room])).setRow (g:=g5) (.inl (by simp)) cs)
    refine wp_region_z (fun w'=>Blk w' g2 50 #[.slice A n c0,.int .i64 room]∧w'.cell? ⟨g6,9,none⟩=some (.bool false)) [] (by kernel_rfl) ⟨hP51,k9⟩ ?_
    intro hHeld
    refine wpZ_take (i:=0) rfl (by kernel_rfl) (by kernel_rfl) (by kernel_rfl) (by kernel_rfl) (fun _ _ _ h=>h) (yieldsIf_load_mid (by kernel_rfl) 50 _ rfl g2 0 rfl ([.slice A n c0,.int .i64 room]) _ (fun w h=>range_cells h.1) uRb rfl (by kernel_rfl)) hHeld ?_
    try simp only [zA,zC,Act.put,zD,zE,zF]
    refine wpZ_tk (i:=1) (v:= ?_) hHeld ?_ ?_
    rotate_left
    ·(intro w hSw;go_simp<;>with_reducible rfl)
    try simp only [zA,zB,zC,Act.put,zD,zE,zF]
    refine wpZ_tk (i:=2) (v:= ?_) hHeld ?_ ?_
    rotate_left
    ·(intro w hSw;go_simp<;>with_reducible rfl)
    try simp only [zA,zB,zC,Act.put,zD,zE,zF]
    refine wpZ_take (i:=3) (v:=undef) rfl (by kernel_rfl) (by kernel_rfl) (by kernel_rfl) (by kernel_rfl) (fun _ _ _ h=>h) (Or.inr ⟨by rfl,rfl⟩) hHeld ?_
    try simp only [zA,zB,zC,Act.put,zD,zE,zF]
    refine wpZ_take (i:=4) (v:=undef) rfl (by kernel_rfl) (by kernel_rfl) (by kernel_rfl) (by kernel_rfl) (fun _ _ _ h=>h) (Or.inr ⟨by rfl,rfl⟩) hHeld ?_
    try simp only [zA,zB,zC,Act.put,zD,zE,zF]
    refine wpZ_tk (i:=5) (v:= ?_) hHeld ?_ ?_
    rotate_left
    ·(intro w hSw;go_simp<;>with_reducible rfl)
    try simp only [zA,zB,zC,Act.put,zD,zE,zF]
    refine wpZ_tk (i:=6) (v:= ?_) hHeld ?_ ?_
    rotate_left
    ·(intro w hSw;go_simp<;>with_reducible rfl)
    try simp only [zA,zB,zC,Act.put,zD,zE,zF]
    refine wpZ_one (i:=7) (by kernel_rfl) rfl (fun K hK=> ?_)
    rw [if_pos (wanted_none rfl)]
    refine wp_store_row 50 _ _ rfl g4 _ rfl rfl 50 _ hR4v infoRb (by kernel_rfl) (by kernel_rfl) ?_
    show K (Act.put _ none undef) _
    refine hK.out _ _ ⟨hP52,k92⟩ (fun hHeld=> ?_)
    clear hK K
    try simp only [Act.put]
    refine wpZ_one (i:=8) (by kernel_rfl) rfl (fun K hK=> ?_)
    rw [if_pos (wanted_none rfl)]
    refine wp_store_row 33 _ _ rfl g5 _ rfl rfl 33 za (hbk #[]).1 infoAns hza (by kernel_rfl) ?_
    show K (Act.put _ none undef) _
    refine hK.out _ _ ⟨hP52.fr (G5 _) (by simp;exact hws.o.2.2.2.2.2.2.2.2.2.1),((G5 _).cell (p:=⟨g6,9,none⟩) (block_lt_of_cell k92) (by simp;exact n64.2)).trans k92⟩ (fun hHeld=> ?_)
    clear hK K
    try simp only [Act.put]
    refine wpZ_done (by kernel_rfl) ?_ _
    go_wp2_with fail
    refine bodyPost_ret (results_cc (p:=4) (q:=5) rfl _ _ g4 g5 50 33 _ _ _ _ rfl (hbk _).2.1 uRb rfl infoRb rfl (hbk _).2.2 uAns rfl infoAns) rfl ?_
    rw [hres.o]
    exact rdo_end (r:=(l.map (·.f),(⟨0,0,0,[],nilB,nilB,false,false⟩:GAns))) ((hLW.o.fr F4h.o.nil).fr ((Fr.refl _ _).drew)) rfl (RdX.nil _ _ _ _) fw4.o.drew hws.o.2.2.1 hws.o.2.2.2.1 (ac:=0) rfl
   |true=>
    have hmo:=zh (mayM_ok hm.o)
    have his5:=ris_t W4 y (hyin4.o.mono (by simp)) hys.o c.token c.serial hmo.o.serial.1 hmo.o.serial.2
    obtain⟨r,hr⟩:∃z,Hid (isM y.f c.token c.serial=z):=⟨_,zh rfl⟩
    rw [hr.o]at his5
    have hrr:=zh (show isM f c.token c.serial=r by rw [←hyf.o];exact hr.o)
    go_wp2_with (first
     | (refine wpList_load_want (by rfl) 39 _ rfl rfl hB6h.o (sub_self _) uFam rfl (infoFamL _) ?_;rw [Array.toArray_toList]))
    refine Calls.mono (show Calls Tryz.prog 90 _ _ _ from his5) ?_
    rintro e W5 ⟨rfl,G⟩
    clear his5
    have hB6h:=zh (hB6h.o.fr G (by simp))
    have hyin4:=zh (hyin4.o.fr G.nil)
    have F4h:=zh (F4h.o.trans G)
    have fw4:=zh (fw4.o.trans G)
    cases r with
    |true=>
     have hfall:=rfall_t W5 (X++ [g4,g5]) A n c0 room l y (hLW.o.fr F4h.o.nil) (hyin4.o.mono (by simp)) hys.o (fun g hg=>Nat.lt_of_lt_of_le (hX2h.o g hg) F4h.o.size) hh.o.hmax
     rw [hyf.o]at hfall
     have hres:=zh (show dDo room c (l.map (·.f))=(dFall f (l.map (·.f)),(⟨0,0,0,[],nilB,nilB,false,true⟩:GAns)) by rw [dk5 hm.o hk.o hog.o,if_pos ⟨hrf.o,by simpa using hof.o,hrr.o⟩])
     have hPv:=hPh.o.fr F4h.o (by simp)
     go_wp2_with (first
      | (refine wpList_load_at rfl 50 _ rfl rfl hPv (sub_self _) uRb rfl infoRbL ?_;rw [Array.toArray_toList])
      | (refine wpList_load_at rfl 39 _ rfl rfl hB6h.o (sub_self _) uFam rfl (infoFamL _) ?_;rw [Array.toArray_toList]))
     refine Calls.mono (show Calls Tryz.prog 88 _ _ _ from hfall) ?_
     rintro e V ⟨A1,c1x,l1,rfl,hl1,hm1,FV⟩
     have FVh:=zh (F4h.o.trans FV)
     have fwV:=zh (fw4.o.trans FV)
     have hl1h:=zh hl1
     have hm1h:=zh hm1
     clear hfall hl1 hm1 FV hPv
     obtain⟨hR4v,hR5v,hPv,hbk1,hbkh⟩:=rdo_pre (cb:=#[.slice A1 l1.length c1x,.int .i64 room]) hR4h.o hR5h.o hPh.o FVh.o hws.o.2.2.2.2.2.2.2.2.2.2.2.2
     go_wp2_with (first
      | (refine wpList_store_row rfl 50 _ _ rfl g4 _ rfl rfl 50 _ hR4v infoRb (by rfl) (by kernel_rfl) ?_)
      | (refine wpList_store_row rfl 33 _ _ rfl g5 _ rfl rfl 33 za hbk1 infoAns hza (by kernel_rfl) ?_))
     refine bodyPost_ret (results_cc (p:=4) (q:=5) rfl _ _ g4 g5 50 33 _ _ _ _ rfl (hbkh.o _).2.1 uRb rfl infoRb rfl (hbkh.o _).2.2 uAns rfl infoAns) rfl ?_
     rw [hres.o]
     exact rdo_end (r:=(dFall f (l.map (·.f)),(⟨0,0,0,[],nilB,nilB,false,true⟩:GAns))) (hl1h.o) hm1h.o (RdX.nil _ _ _ _) fwV.o hws.o.2.2.1 hws.o.2.2.2.1 (ac:=0) rfl
    |false=>
     have c9:=cell_fr G c9
     have hres:=zh (show dDo room c (l.map (·.f))=(l.map (·.f),(⟨0,0,0,[],nilB,nilB,false,false⟩:GAns)) by rw [dk5 hm.o hk.o hog.o,if_neg (by rw [hrr.o];simp),hof.o,hrf.o];rfl)
     go_upto_region 51 with(fail)
     have hP51:=hPh.o.fr F4h.o (by simp)
     have k9:World.cell? W5 ⟨g6,9,none⟩=some (.bool false):=c9
     have hR4v:=hR4h.o.fr F4h.o (by simp)
     have hR5v:=hR5h.o.fr F4h.o (by simp)
     have hbk:=fun cs=>rdo_blks (V:=World.drew W5) (cb:=#[.slice A n c0,.int .i64 room]) (cs:=cs) hR4v hR5v hws.o.2.2.2.2.2.2.2.2.2.2.2.2
     have n64:g6≠g4∧g6≠g5:=by
      have:=h6s.o
      obtain⟨_,_,_,_,_,_,a3,a4,_⟩:=hws.o
      exact⟨by omega,by omega⟩
     have G4:Fr [g4] W5 ((World.drew W5).setRow g4 #[.slice A n c0,.int .i64 room]):=((Fr.refl [g4] _).drew).setRow (.inl (by simp)) _
     have hP52:=hP51.fr G4 (by simp;exact hws.o.2.2.2.2.2.2.2.2.1)
     have k92:=(G4.cell (p:=⟨g6,9,none⟩) (block_lt_of_cell k9) (by simp;exact n64.1)).trans k9
     have G5:=fun cs=>((Fr.refl [g5] ((World.drew W5).setRow g4 #[.slice A n c0,.int .i64 room])).setRow (g:=g5) (.inl (by simp)) cs)
     refine wp_region_z (fun w'=>Blk w' g2 50 #[.slice A n c0,.int .i64 room]∧w'.cell? ⟨g6,9,none⟩=some (.bool false)) [] (by kernel_rfl) ⟨hP51,k9⟩ ?_
     intro hHeld
     refine wpZ_take (i:=0) rfl (by kernel_rfl) (by kernel_rfl) (by kernel_rfl) (by kernel_rfl) (fun _ _ _ h=>h) (yieldsIf_load_mid (by kernel_rfl) 50 _ rfl g2 0 rfl ([.slice A n c0,.int .i64 room]) _ (fun w h=>range_cells h.1) uRb rfl (by kernel_rfl)) hHeld ?_
     try simp only [zA,zC,Act.put,zD,zE,zF]
     refine wpZ_tk (i:=1) (v:= ?_) hHeld ?_ ?_
     rotate_left
     ·(intro w hSw;go_simp<;>with_reducible rfl)
     try simp only [zA,zB,zC,Act.put,zD,zE,zF]
     refine wpZ_tk (i:=2) (v:= ?_) hHeld ?_ ?_
     rotate_left
     ·(intro w hSw;go_simp<;>with_reducible rfl)
     try simp only [zA,zB,zC,Act.put,zD,zE,zF]
     refine wpZ_tk (i:=3) (v:= ?_) hHeld ?_ ?_
     rotate_left
     ·(intro w hSw;go_simp<;>with_reducible rfl)
     try simp only [zA,zB,zC,Act.put,zD,zE,zF]
     refine wpZ_tk (i:=4) (v:= ?_) hHeld ?_ ?_
     rotate_left
     ·(intro w hSw;go_simp<;>with_reducible rfl)
     try simp only [zA,zB,zC,Act.put,zD,zE,zF]
     refine wpZ_tk (i:=5) (v:= ?_) hHeld ?_ ?_
     rotate_left
     ·(intro w hSw;go_simp<;>with_reducible rfl)
     try simp only [zA,zB,zC,Act.put,zD,zE,zF]
     refine wpZ_tk (i:=6) (v:= ?_) hHeld ?_ ?_
     rotate_left
     ·(intro w hSw;go_simp<;>with_reducible rfl)
     try simp only [zA,zB,zC,Act.put,zD,zE,zF]
     refine wpZ_one (i:=7) (by kernel_rfl) rfl (fun K hK=> ?_)
     rw [if_pos (wanted_none rfl)]
     refine wp_store_row 50 _ _ rfl g4 _ rfl rfl 50 _ hR4v infoRb (by kernel_rfl) (by kernel_rfl) ?_
     show K (Act.put _ none undef) _
     refine hK.out _ _ ⟨hP52,k92⟩ (fun hHeld=> ?_)
     clear hK K
     try simp only [Act.put]
     refine wpZ_one (i:=8) (by kernel_rfl) rfl (fun K hK=> ?_)
     rw [if_pos (wanted_none rfl)]
     refine wp_store_row 33 _ _ rfl g5 _ rfl rfl 33 za (hbk #[]).1 infoAns hza (by kernel_rfl) ?_
     show K (Act.put _ none undef) _
     refine hK.out _ _ ⟨hP52.fr (G5 _) (by simp;exact hws.o.2.2.2.2.2.2.2.2.2.1),((G5 _).cell (p:=⟨g6,9,none⟩) (block_lt_of_cell k92) (by simp;exact n64.2)).trans k92⟩ (fun hHeld=> ?_)
     clear hK K
     try simp only [Act.put]
     refine wpZ_done (by kernel_rfl) ?_ _
     go_wp2_with fail
     refine bodyPost_ret (results_cc (p:=4) (q:=5) rfl _ _ g4 g5 50 33 _ _ _ _ rfl (hbk _).2.1 uRb rfl infoRb rfl (hbk _).2.2 uAns rfl infoAns) rfl ?_
     rw [hres.o]
     exact rdo_end (r:=(l.map (·.f),(⟨0,0,0,[],nilB,nilB,false,false⟩:GAns))) ((hLW.o.fr F4h.o.nil).fr ((Fr.refl _ _).drew)) rfl (RdX.nil _ _ _ _) fw4.o.drew hws.o.2.2.1 hws.o.2.2.2.1 (ac:=0) rfl
end Go.Proofs.YtdeoinjjphdbmaaGreat
