/- Walk: the document's Do, kind 3. Conditions: each theorem's own. -/
import Derived.Test.YtdeoinjjphdbmaaGreatKg
namespace Go.Proofs.YtdeoinjjphdbmaaGreat
open Go.RowKit Go.Sig
set_option maxRecDepth 100000 in
set_option maxHeartbeats 16000000 in
theorem rdo_3 (w:World) (X:List Nat) (A:Option Addr) (n c0:Nat) (room:Int) (l:List FA) (b:GBk) (c:GCmd) (cA:Option Addr) (ck:Nat) (h:RBk w X A n l b) (hc:CmdIn w c cA c.scope.length) (hcX:0<c.scope.length→Off X cA) (hm0:mayM c=true) (hk0:c.kind=3):
  Calls Tryz.prog 60 #[.agg #[.slice A n c0,.int .i64 room],.agg (cmdV c cA c.scope.length ck)] w (RDoPost w X room (dDo room c (l.map (·.f)))):=by
 have hh:=zh h
 have hch:=zh hc
 have hcXh:=zh hcX
 have hm:=zh hm0
 have hk:=zh hk0
 clear hk0
 clear h hc hcX hm0
 have hzs:∃zs:Array Value,zs.size=8∧Hid (zs=(AA.mk (noA 0) none 0).cells):=⟨_,rfl,zh rfl⟩
 obtain⟨za,hza,hzah⟩:=hzs
 unfold cmdV
 go_enter Tryz.func60,Tryz.ntmps60
 go_upto_region 1 with(fail)
 refine wp_gen (fun W=>Blk W w.heap.size 50 #[.slice A n c0,.int .i64 room]∧Blk W (w.heap.size+1) 30 (cmdV c cA c.scope.length ck)∧Blk W (w.heap.size+1+1) 50 #[.slice none 0 0,.int .i64 0]∧Blk W (w.heap.size+1+1+1) 33 za∧Fr [] w W) ⟨?_,?_,?_,?_,?_⟩ ?_
 ·exact(((Blk.new _ _ _).alloc _).alloc _).alloc _
 ·refine Blk.alloc (Blk.alloc (Blk.new' _ _ ?_) _) _
  simp
 ·refine Blk.alloc (Blk.new' _ _ ?_) _
  simp
 ·rw [hzah.o]
  exact Blk.new' _ _ (by simp)
 ·exact((((Fr.refl _ _).alloc _).alloc _).alloc _).alloc _
 rintro W ⟨hP,hC,hR4,hR5,fW⟩
 obtain⟨g2,HG2⟩:∃z,Hid (w.heap.size=z):=⟨_,zh rfl⟩
 rw [HG2.o]at hP hC hR4 hR5⊢
 obtain⟨g3,HG3⟩:∃z,Hid (g2+1=z):=⟨_,zh rfl⟩
 rw [HG3.o]at hC hR4 hR5⊢
 obtain⟨g4,HG4⟩:∃z,Hid (g3+1=z):=⟨_,zh rfl⟩
 rw [HG4.o]at hR4 hR5⊢
 obtain⟨g5,HG5⟩:∃z,Hid (g4+1=z):=⟨_,zh rfl⟩
 rw [HG5.o]at hR5⊢
 have hws:Hid (w.heap.size≤g2∧w.heap.size≤g3∧w.heap.size≤g4∧w.heap.size≤g5∧g2<W.heap.size∧g3<W.heap.size∧g4<W.heap.size∧g5<W.heap.size∧g2≠g4∧g2≠g5∧g3≠g4∧g3≠g5∧g4≠g5):=by
  have:=HG2.o
  have:=HG3.o
  have:=HG4.o
  have:=HG5.o
  exact zh ⟨by omega,by omega,by omega,by omega,hP.lt,hC.lt,hR4.lt,hR5.lt,by omega,by omega,by omega,by omega,by omega⟩
 have hPh:=zh hP
 have hCh:=zh hC
 have hR4h:=zh hR4
 have hR5h:=zh hR5
 have fWh:=zh fW
 have hX1:∀g∈X++ [g4,g5],g∈X∨w.heap.size≤g:=fun g hg=>by
  rcases List.mem_append.1 hg with hg |hg
  ·exact .inl hg
  ·obtain⟨_,_,a3,a4,_⟩:=hws.o
   simp at hg
   exact .inr (by omega)
 have hX2:∀g∈X++ [g4,g5],g<W.heap.size:=fun g hg=>by
  rcases List.mem_append.1 hg with hg |hg
  ·exact Nat.lt_of_lt_of_le (hh.o.hX g hg) fW.size
  ·obtain⟨_,_,_,_,_,_,a3,a4,_⟩:=hws.o
   simp at hg
   omega
 have hX2h:=zh hX2
 have hLW:=zh (hh.o.hL.to fW.nil hX1)
 have hAW:RdX W (X++ [g4,g5]) 1 cA c.scope.length (strCells c.scope):=by
  have hd:RdX w X 1 cA c.scope.length (strCells c.scope):=⟨hch.o.hS,hcXh.o⟩
  exact hd.to (by decide) fW.nil hX1
 have hAWh:=zh hAW
 have hmay:=rmay17_t W c cA c.scope.length ck (hch.o.hS.fr fW (by simp [Off])) rfl hch.o.hl hch.o.hs hch.o.hf
 rw [hm.o]at hmay
 clear hP hR4 hR5 fW hX1 hX2 hAW
 go_wp2_with (refine wpList_load_at rfl 30 _ rfl rfl hC (sub_self _) uCmd rfl (by unfold cmdV;exact infoCmd) ?_;rw [Array.toArray_toList])
 refine Calls.mono (show Calls Tryz.prog 23 _ _ _ from hmay) ?_
 rintro e W2 ⟨rfl,F2⟩
 clear hmay hC
 have F2h:=zh F2
 have fw:=zh (fWh.o.trans F2)
 clear F2
 obtain⟨og,hog⟩:∃z,Hid (dGet c.family (l.map (·.f))=z):=⟨_,zh rfl⟩
 have hgok:=get_ok hh.o.ok c.family
 rw [←hh.o.hb,hog.o]at hgok
 have hgokh:=zh hgok
 have hget:=rget_t W2 (X++ [g4,g5]) A n c0 room l c.family (hLW.o.fr F2h.o.nil) (by have:=hh.o.hmax;omega)
 unfold GetPost at hget
 obtain⟨is,his⟩:∃z,Hid (og.isSome=z):=⟨_,zh rfl⟩
 rw [hog.o,his.o]at hget
 have hPv:=hPh.o.fr F2h.o (by simp)
 have hCv:=hCh.o.fr F2h.o (by simp)
 obtain⟨d0,d1,d2,d3,d4,d5,d6,d7,d8,d9,d10,d11,d12,hcl⟩:=cmdV_cells hCv
 clear d0 d2 d3 d4 d5 d6 d7 d8 d9 d10 d11 d12 hgok hCv
 go_wp2_with (refine wpList_load_at rfl 50 _ rfl rfl hPv (sub_self _) uRb rfl infoRbL ?_;rw [Array.toArray_toList])
 refine Calls.mono (show Calls Tryz.prog 32 _ _ _ from hget) ?_
 rintro e W3 ⟨y,rfl,hy,hyin,F3⟩
 unfold FA.val
 clear hget d1 hcl hPv
 go_upto_region 4 with(refine wpList_store_row rfl 39 _ _ rfl W3.heap.size y.cells rfl rfl 39 _ (Blk.new _ _ _) (infoFamA y) (by rw [FA.size11];rfl) (FA.all1 y) ?_)
 refine wp_gen (fun W=>Blk W W3.heap.size 39 y.cells∧Fr [] W3 W) ⟨Blk.setRow (Blk.new _ _ _) _,((Fr.refl [] W3).alloc _).setRow (.inr (Nat.le_refl _)) _⟩ ?_
 rintro W4 ⟨hB6,F4⟩
 obtain⟨g6,HG6⟩:∃z,Hid (W3.heap.size=z):=⟨_,zh rfl⟩
 rw [HG6.o]at hB6⊢
 have h6s:=zh (show W.heap.size≤g6 by have:=F2h.o.size;have:=F3.size;have:=HG6.o;omega)
 have hyin4:=zh (hyin.fr F4.nil)
 have hB6h:=zh hB6
 have F4h:=zh (F2h.o.trans (F3.trans F4))
 have fw4:=zh (fWh.o.trans F4h.o)
 have hyh:=zh hy
 have hys:=zh (fam_short (hyin4.o.mono (Y:= []) (by simp)) (by rw [hy];exact hgokh.o))
 obtain⟨d0,d1,d2,d3,d4,d5,d6,d7,d8,d9,d10,d11,d12,hcl⟩:=cmdV_cells (hCh.o.fr F4h.o (by simp))
 obtain⟨c0',c1,c2,c3,c4,c5,c6,c7,c8,c9,c10,hgl⟩:=fam_cells hB6
 rw [hk.o]at d0
 clear F3 F4 hyin hB6 hy c0' fw F2h
 cases is with
 |false=>
  obtain rfl:og=none:=by simpa using his.o
  have hres:=zh (show dDo room c (l.map (·.f))=(l.map (·.f),noA 3) by rw [dNone hm.o (by rw [hk.o];decide) (by rw [hk.o];decide) hog.o,if_pos (by rw [hk.o];decide)])
  obtain⟨hR4v,hR5v,hPv,hbk1,hbkh⟩:=rdo_pre (cb:=#[.slice A n c0,.int .i64 room]) hR4h.o hR5h.o hPh.o F4h.o hws.o.2.2.2.2.2.2.2.2.2.2.2.2
  go_wp2_with (first
   | (refine wpList_load_at rfl 50 _ rfl rfl hPv (sub_self _) uRb rfl infoRbL ?_;rw [Array.toArray_toList])
   | (refine wpList_store_row rfl 50 _ _ rfl g4 _ rfl rfl 50 _ hR4v infoRb (by rfl) (by kernel_rfl) ?_)
   | (refine wpList_store_row rfl 33 _ _ rfl g5 _ rfl rfl 33 za hbk1 infoAns hza (by kernel_rfl) ?_))
  refine bodyPost_ret (results_cc (p:=4) (q:=5) rfl _ _ g4 g5 50 33 _ _ _ _ rfl (hbkh.o _).2.1 uRb rfl infoRb rfl (hbkh.o _).2.2 uAns rfl infoAns) rfl ?_
  rw [hres.o]
  exact rdo_end (r:=(l.map (·.f),noA 3)) (hLW.o.fr F4h.o.nil) rfl (RdX.nil _ _ _ _) fw4.o hws.o.2.2.1 hws.o.2.2.2.1 (ac:=0) rfl
 |true=>
  obtain⟨f,rfl⟩:=Option.isSome_iff_exists.1 his.o
  have hyf:=zh (show y.f=f from hyh.o)
  have hfok:=zh (get_some hh.o.ok (by rw [←hh.o.hb];exact hog.o))
  obtain⟨rv,hrv⟩:∃z,Hid (y.f.revoked=z):=⟨_,zh rfl⟩
  rw [hrv.o]at c9
  have hob:=toList_beq y.f.client c.client
  obtain⟨ow,how⟩:∃z,Hid (decide (y.f.client=c.client)=z):=⟨_,zh rfl⟩
  rw [how.o]at hob
  have hrf:=zh (show f.revoked=rv by rw [←hyf.o];exact hrv.o)
  have hof:=zh (show decide (f.client=c.client)=ow by rw [←hyf.o];exact how.o)
  cases rv with
  |true=>
   have hres:=zh (show dDo room c (l.map (·.f))=(l.map (·.f),noA 3) by rw [dk3 hm.o hk.o hog.o,if_pos (.inl hrf.o)])
   obtain⟨hR4v,hR5v,hPv,hbk1,hbkh⟩:=rdo_pre (cb:=#[.slice A n c0,.int .i64 room]) hR4h.o hR5h.o hPh.o F4h.o hws.o.2.2.2.2.2.2.2.2.2.2.2.2
   go_wp2_with (first
    | (refine wpList_load_at rfl 50 _ rfl rfl hPv (sub_self _) uRb rfl infoRbL ?_;rw [Array.toArray_toList])
    | (refine wpList_store_row rfl 50 _ _ rfl g4 _ rfl rfl 50 _ hR4v infoRb (by rfl) (by kernel_rfl) ?_)
    | (refine wpList_store_row rfl 33 _ _ rfl g5 _ rfl rfl 33 za hbk1 infoAns hza (by kernel_rfl) ?_))
   refine bodyPost_ret (results_cc (p:=4) (q:=5) rfl _ _ g4 g5 50 33 _ _ _ _ rfl (hbkh.o _).2.1 uRb rfl infoRb rfl (hbkh.o _).2.2 uAns rfl infoAns) rfl ?_
   rw [hres.o]
   exact rdo_end (r:=(l.map (·.f),noA 3)) (hLW.o.fr F4h.o.nil) rfl (RdX.nil _ _ _ _) fw4.o hws.o.2.2.1 hws.o.2.2.2.1 (ac:=0) rfl
  |false=>
   cases ow with
   |false=>
    have hres:=zh (show dDo room c (l.map (·.f))=(l.map (·.f),noA 3) by rw [dk3 hm.o hk.o hog.o,if_pos (.inr (.inl (by have:=hof.o;simpa using this)))])
    obtain⟨hR4v,hR5v,hPv,hbk1,hbkh⟩:=rdo_pre (cb:=#[.slice A n c0,.int .i64 room]) hR4h.o hR5h.o hPh.o F4h.o hws.o.2.2.2.2.2.2.2.2.2.2.2.2
    go_wp2_with (first
     | (refine wpList_load_at rfl 50 _ rfl rfl hPv (sub_self _) uRb rfl infoRbL ?_;rw [Array.toArray_toList])
     | (refine wpList_store_row rfl 50 _ _ rfl g4 _ rfl rfl 50 _ hR4v infoRb (by rfl) (by kernel_rfl) ?_)
     | (refine wpList_store_row rfl 33 _ _ rfl g5 _ rfl rfl 33 za hbk1 infoAns hza (by kernel_rfl) ?_))
    refine bodyPost_ret (results_cc (p:=4) (q:=5) rfl _ _ g4 g5 50 33 _ _ _ _ rfl (hbkh.o _).2.1 uRb rfl infoRb rfl (hbkh.o _).2.2 uAns rfl infoAns) rfl ?_
    rw [hres.o]
    exact rdo_end (r:=(l.map (·.f),noA 3)) (hLW.o.fr F4h.o.nil) rfl (RdX.nil _ _ _ _) fw4.o hws.o.2.2.1 hws.o.2.2.2.1 (ac:=0) rfl
   |true=>
    have hmo:=zh (mayM_ok hm.o)
    have his5:=ris_t W4 y (hyin4.o.mono (by simp)) hys.o 3 c.serial hmo.o.serial.1 hmo.o.serial.2
    obtain⟨r,hr⟩:∃z,Hid (isM y.f 3 c.serial=z):=⟨_,zh rfl⟩
    rw [hr.o]at his5
    have hrr:=zh (show isM f 3 c.serial=r by rw [←hyf.o];exact hr.o)
    go_wp2_with (first
     | (refine wpList_load_want (by rfl) 39 _ rfl rfl hB6h.o (sub_self _) uFam rfl (infoFamL _) ?_;rw [Array.toArray_toList]))
    refine Calls.mono (show Calls Tryz.prog 90 _ _ _ from his5) ?_
    rintro e WI ⟨rfl,G⟩
    clear his5
    have hB6h:=zh (hB6h.o.fr G (by simp))
    have hyin4:=zh (hyin4.o.fr G.nil)
    have F4h:=zh (F4h.o.trans G)
    have fw4:=zh (fw4.o.trans G)
    clear d0 d1 d2 d3 d4 d5 d6 d7 d8 d9 d10 d11 d12 hcl c1 c2 c3 c4 c5 c6 c7 c8 c9 c10 hgl hob G
    cases r with
    |false=>
     have hres:=zh (show dDo room c (l.map (·.f))=(l.map (·.f),noA 3) by rw [dk3 hm.o hk.o hog.o,if_pos (.inr (.inr hrr.o))])
     obtain⟨hR4v,hR5v,hPv,hbk1,hbkh⟩:=rdo_pre (cb:=#[.slice A n c0,.int .i64 room]) hR4h.o hR5h.o hPh.o F4h.o hws.o.2.2.2.2.2.2.2.2.2.2.2.2
     go_wp2_with (first
      | (refine wpList_load_at rfl 50 _ rfl rfl hPv (sub_self _) uRb rfl infoRbL ?_;rw [Array.toArray_toList])
      | (refine wpList_store_row rfl 50 _ _ rfl g4 _ rfl rfl 50 _ hR4v infoRb (by rfl) (by kernel_rfl) ?_)
      | (refine wpList_store_row rfl 33 _ _ rfl g5 _ rfl rfl 33 za hbk1 infoAns hza (by kernel_rfl) ?_))
     refine bodyPost_ret (results_cc (p:=4) (q:=5) rfl _ _ g4 g5 50 33 _ _ _ _ rfl (hbkh.o _).2.1 uRb rfl infoRb rfl (hbkh.o _).2.2 uAns rfl infoAns) rfl ?_
     rw [hres.o]
     exact rdo_end (r:=(l.map (·.f),noA 3)) (hLW.o.fr F4h.o.nil) rfl (RdX.nil _ _ _ _) fw4.o hws.o.2.2.1 hws.o.2.2.2.1 (ac:=0) rfl
    |true=>
     have hd1:=zh (show¬(f.revoked=true∨f.client≠c.client∨isM f 3 c.serial=false) by rw [hrf.o,hrr.o];have:=hof.o;simp at this;simp [this])
     obtain⟨t,ht3,i,hi,hilt,htl⟩:∃t:GTok,Hid (f.tokens[(c.serial - 1).toNat]? =some t)∧∃i:Nat,Hid (c.serial=i+1)∧Hid (i<f.tokens.length)∧Hid (f.tokens.length≤8):=by
      have h1:=hrr.o
      unfold isM at h1
      rw [if_neg (by decide)]at h1
      obtain⟨t,ht⟩:=Option.isSome_iff_exists.1 h1
      obtain⟨t1,t2,t3,_⟩:=tokM_some ht
      exact⟨t,zh t3,(c.serial - 1).toNat,zh (by omega),zh (by omega),zh hfok.o.tokens⟩
     have hit:=zh (show(c.serial - 1).toNat=i by have:=hi.o;omega)
     have hlenf:=zh (show y.ts.length=f.tokens.length by rw [hyin4.o.len,hyf.o])
     obtain⟨tn,htn⟩:∃q,Hid (f.tokens.length=q):=⟨_,zh rfl⟩
     have hlt':(i:Int)<tn:=by have:=hilt.o;have:=htn.o;omega
     have htn8:tn≤8:=by have:=htl.o;have:=htn.o;omega
     obtain⟨ta,tb,ob,eA,hti,htr⟩:=tok_at hyin4.o.toks.1 rfl (show i<y.ts.length by rw [hlenf.o];exact hilt.o)
     have htt:ta.tok=t:=by
      have h1:=ht3.o
      rw [hit.o,←hyf.o,←hyin4.o.ts,List.getElem?_map,hti]at h1
      exact Option.some.inj h1
     have u2:=htr 2 (.bool ta.tok.used) rfl
     rw [htt]at u2
     obtain⟨u,hu⟩:∃q,Hid (t.used=q):=⟨_,zh rfl⟩
     rw [hu.o]at u2
     obtain⟨d0,d1,d2,d3,d4,d5,d6,d7,d8,d9,d10,d11,d12,hcl⟩:=cmdV_cells (hCh.o.fr F4h.o (by simp))
     obtain⟨c0',c1,c2,c3,c4,c5,c6,c7,c8,c9,c10,hgl⟩:=fam_cells hB6h.o
     rw [hi.o]at d2
     rw [eA,hlenf.o,htn.o]at c8
     have hwr:IntKind.i64.wrap ((i:Int)+1 - 1)=i:=by rw [IntKind.wrap_i64];omega
     clear d0 d1 d3 d4 d5 d7 d8 d9 d10 d11 d12 c0' c1 c2 c4 c5 c6 c7 c9 c10 eA hti htr htt
     cases u with
     |true=>
      have hfall:=rfall_t WI (X++ [g4,g5]) A n c0 room l y (hLW.o.fr F4h.o.nil) (hyin4.o.mono (by simp)) hys.o (fun g hg=>Nat.lt_of_lt_of_le (hX2h.o g hg) F4h.o.size) hh.o.hmax
      rw [hyf.o]at hfall
      have hres:=zh (show dDo room c (l.map (·.f))=(dFall f (l.map (·.f)),noA 3) by rw [dk3 hm.o hk.o hog.o,if_neg hd1.o,ht3.o];simp only;rw [if_pos hu.o])
      have hPv:=hPh.o.fr F4h.o (by simp)
      go_wp2_with (first
       | (refine wpList_load_at rfl 50 _ rfl rfl hPv (sub_self _) uRb rfl infoRbL ?_;rw [Array.toArray_toList])
       | (refine wpList_load_at rfl 39 _ rfl rfl hB6h.o (sub_self _) uFam rfl (infoFamL _) ?_;rw [Array.toArray_toList]))
      refine Calls.mono (show Calls Tryz.prog 88 _ _ _ from hfall) ?_
      rintro e V ⟨A1,c1x,l1,rfl,hl1,hm1,FV⟩
      have FVh:=zh (F4h.o.trans FV)
      have fwV:=zh (fw4.o.trans FV)
      have hl1h:=zh hl1
      have hm1h:=zh hm1
      clear hfall hl1 hm1 FV hPv
      obtain⟨hR4v,hR5v,hPv,hbk1,hbkh⟩:=rdo_pre (cb:=#[.slice A1 l1.length c1x,.int .i64 room]) hR4h.o hR5h.o hPh.o FVh.o hws.o.2.2.2.2.2.2.2.2.2.2.2.2
      go_wp2_with (first
       | (refine wpList_store_row rfl 50 _ _ rfl g4 _ rfl rfl 50 _ hR4v infoRb (by rfl) (by kernel_rfl) ?_)
       | (refine wpList_store_row rfl 33 _ _ rfl g5 _ rfl rfl 33 za hbk1 infoAns hza (by kernel_rfl) ?_))
      refine bodyPost_ret (results_cc (p:=4) (q:=5) rfl _ _ g4 g5 50 33 _ _ _ _ rfl (hbkh.o _).2.1 uRb rfl infoRb rfl (hbkh.o _).2.2 uAns rfl infoAns) rfl ?_
      rw [hres.o]
      exact rdo_end (r:=(dFall f (l.map (·.f)),noA 3)) (hl1h.o) hm1h.o (RdX.nil _ _ _ _) fwV.o hws.o.2.2.1 hws.o.2.2.2.1 (ac:=0) rfl
     |false=>
      have hwi:=rwithin_t WI cA y.sA c.scope.length y.f.scope.length ck y.sc c.scope y.f.scope (hAWh.o.fr F4h.o.nil).1 rfl hyin4.o.scope.1 rfl (by have:=(setM_sizes hmo.o.set).1;omega) (by have:=hys.o.scope;omega) hch.o.hs
      obtain⟨wi,hwib⟩:∃q,Hid (within c.scope y.f.scope=q):=⟨_,zh rfl⟩
      rw [hwib.o]at hwi
      have hwf:=zh (show within c.scope f.scope=wi by rw [←hyf.o];exact hwib.o)
      go_wp2_with fail
      refine Calls.mono (show Calls Tryz.prog 33 _ _ _ from hwi) ?_
      rintro e WJ ⟨rfl,rfl⟩
      clear hwi
      cases wi with
      |false=>
       have hres:=zh (show dDo room c (l.map (·.f))=(l.map (·.f),noA 6) by rw [dk3 hm.o hk.o hog.o,if_neg hd1.o,ht3.o];simp only;rw [if_neg (by rw [hu.o];decide),if_pos hwf.o])
       obtain⟨hR4v,hR5v,hPv,hbk1,hbkh⟩:=rdo_pre (cb:=#[.slice A n c0,.int .i64 room]) hR4h.o hR5h.o hPh.o F4h.o hws.o.2.2.2.2.2.2.2.2.2.2.2.2
       go_wp2_with (first
        | (refine wpList_load_at rfl 50 _ rfl rfl hPv (sub_self _) uRb rfl infoRbL ?_;rw [Array.toArray_toList])
        | (refine wpList_store_row rfl 50 _ _ rfl g4 _ rfl rfl 50 _ hR4v infoRb (by rfl) (by kernel_rfl) ?_)
        | (refine wpList_store_row rfl 33 _ _ rfl g5 _ rfl rfl 33 za hbk1 infoAns hza (by kernel_rfl) ?_))
       refine bodyPost_ret (results_cc (p:=4) (q:=5) rfl _ _ g4 g5 50 33 _ _ _ _ rfl (hbkh.o _).2.1 uRb rfl infoRb rfl (hbkh.o _).2.2 uAns rfl infoAns) rfl ?_
       rw [hres.o]
       exact rdo_end (r:=(l.map (·.f),noA 6)) (hLW.o.fr F4h.o.nil) rfl (RdX.nil _ _ _ _) fw4.o hws.o.2.2.1 hws.o.2.2.2.1 (ac:=0) rfl
      |true=>
       by_cases h6:6<tn
       ·have e6:decide (6<(tn:Int))=true:=decide_eq_true (by omega)
        have h6h:=zh h6
        clear h6
        have hres:=zh (show dDo room c (l.map (·.f))=(l.map (·.f),noA 7) by rw [dk3 hm.o hk.o hog.o,if_neg hd1.o,ht3.o];simp only;rw [if_neg (by rw [hu.o];decide),if_neg (by rw [hwf.o];decide),if_pos (by rw [htn.o];exact h6h.o)])
        obtain⟨hR4v,hR5v,hPv,hbk1,hbkh⟩:=rdo_pre (cb:=#[.slice A n c0,.int .i64 room]) hR4h.o hR5h.o hPh.o F4h.o hws.o.2.2.2.2.2.2.2.2.2.2.2.2
        go_wp2_with (first
         | (refine wpList_load_at rfl 50 _ rfl rfl hPv (sub_self _) uRb rfl infoRbL ?_;rw [Array.toArray_toList])
         | (refine wpList_store_row rfl 50 _ _ rfl g4 _ rfl rfl 50 _ hR4v infoRb (by rfl) (by kernel_rfl) ?_)
         | (refine wpList_store_row rfl 33 _ _ rfl g5 _ rfl rfl 33 za hbk1 infoAns hza (by kernel_rfl) ?_))
        refine bodyPost_ret (results_cc (p:=4) (q:=5) rfl _ _ g4 g5 50 33 _ _ _ _ rfl (hbkh.o _).2.1 uRb rfl infoRb rfl (hbkh.o _).2.2 uAns rfl infoAns) rfl ?_
        rw [hres.o]
        exact rdo_end (r:=(l.map (·.f),noA 7)) (hLW.o.fr F4h.o.nil) rfl (RdX.nil _ _ _ _) fw4.o hws.o.2.2.1 hws.o.2.2.2.1 (ac:=0) rfl
       ·have e6:decide (6<(tn:Int))=false:=decide_eq_false (by omega)
        have h6h:=zh (show tn≤6 by omega)
        clear h6
        obtain⟨zb,hzb⟩:∃q,Hid (decide (c.scope.length=0)=q):=⟨_,zh rfl⟩
        have hz0:((c.scope.length:Int)==0)=zb:=by rw [←hzb.o,Bool.beq_eq_decide_eq];congr 1;simp
        obtain⟨tA2,tc2,sl,hsl⟩:∃tA2 tc2 sl,Hid ((if c.scope.length=0 then f.scope else c.scope)=sl∧(zb=true→y.sA=tA2∧y.sc=tc2∧y.f.scope=sl)∧(zb=false→cA=tA2∧ck=tc2∧c.scope=sl)∧RdX WI (X++ [g4,g5]) 1 tA2 sl.length (strCells sl)∧sl.length≤1000):=by
         by_cases h0:c.scope.length=0
         ·exact⟨y.sA,y.sc,f.scope,zh ⟨if_pos h0,fun _=>⟨rfl,rfl,by rw [hyf.o]⟩,fun h=>(by rw [←hzb.o,decide_eq_true h0]at h;cases h),by rw [←hyf.o];exact hyin4.o.scope,fok_sc hfok.o⟩⟩
         ·exact⟨cA,ck,c.scope,zh ⟨if_neg h0,fun h=>(by rw [←hzb.o,decide_eq_false h0]at h;cases h),fun _=>⟨rfl,rfl,rfl⟩,hAWh.o.fr F4h.o.nil,(by have:=(setM_sizes hmo.o.set).1;omega)⟩⟩
        obtain⟨cn,hcn⟩:∃q,Hid (c.scope.length=q):=⟨_,zh rfl⟩
        go_upto_if 220 with(fail)
        go_cut [14]from 221 to 222 (fun s14 wx=>s14= .slice tA2 sl.length tc2∧WI=wx)
        case first=>
         cases zb with
         |true=>
          go_wp2_with fail
          go_meet
          obtain⟨e1,e2,e3⟩:=hsl.o.2.1 (by simp)
          exact⟨by rw [e1,e2,e3],rfl⟩
         |false=>
          go_wp2_with fail
          go_meet
          obtain⟨e1,e2,e3⟩:=hsl.o.2.2.1 (by simp)
          exact⟨by rw [e1,e2,e3],rfl⟩
        case rest=>
         obtain⟨rfl,rfl⟩:=hcut
         clear u2 d2 d6 hcl c3 c8 hgl hwr hlt' hz0 e6
         have hiss:=rissue_t WI (X++ [g4,g5]) (fun g hg=>Nat.lt_of_lt_of_le (hX2h.o g hg) F4h.o.size) y (hyin4.o.mono (by simp)) hys.o tA2 tc2 sl hsl.o.2.2.2.1 hsl.o.2.2.2.2 true
         rw [hyf.o]at hiss
         go_wp2_with (first
          | (refine wpList_load_at rfl 39 _ rfl rfl hB6h.o (sub_self _) uFam rfl (infoFamL _) ?_;rw [Array.toArray_toList]))
         refine Calls.mono (show Calls Tryz.prog 86 _ _ _ from hiss) ?_
         rintro e V ⟨z,rfl,hz,hzT,hzrow,GV⟩
         have hzfr5:=zh hzrow
         clear hzrow
         obtain⟨an,han⟩:∃q,Hid (AA.mk (issueM f sl true).2 tA2 tc2=q):=⟨_,zh rfl⟩
         rw [han.o]
         unfold FA.val AA.val
         clear hiss
         go_upto_region 46 with(first
          | (refine wpList_store_row rfl 39 _ _ rfl V.heap.size z.cells rfl rfl 39 _ (Blk.alloc (Blk.new _ _ _) _) (infoFamA z) (by rw [FA.size11];rfl) (FA.all1 z) ?_)
          | (refine wpList_store_row rfl 33 _ _ rfl (V.heap.size+1) an.cells rfl rfl 33 _ (Blk.fr (Blk.new' _ _ (by simp)) ((Fr.refl [V.heap.size] _).setRow (.inl (by simp)) _) (by simp)) (infoAnsY an) (by rw [AA.size8];rfl) (AA.one an) ?_))
         refine wp_gen (fun U=>Blk U V.heap.size 39 z.cells∧Blk U (V.heap.size+1) 33 an.cells∧Fr [] V U) ⟨?_,?_,?_⟩ ?_
         ·exact(Blk.setRow (Blk.alloc (Blk.new _ _ _) _) _).fr ((Fr.refl [V.heap.size+1] _).setRow (.inl (by simp)) _) (by simp)
         ·refine Blk.setRow (Blk.fr (Blk.new' _ _ ?_) ((Fr.refl [V.heap.size] _).setRow (.inl (by simp)) _) (by simp)) _
          simp
         ·exact((((Fr.refl [] V).alloc _).alloc _).setRow (.inr (Nat.le_refl _)) _).setRow (.inr (by simp)) _
         rintro W5 ⟨hBz,hBa,F5⟩
         obtain⟨gz,HZ⟩:∃q,Hid (V.heap.size=q):=⟨_,zh rfl⟩
         rw [HZ.o]at hBz hBa⊢
         obtain⟨ga,HA⟩:∃q,Hid (gz+1=q):=⟨_,zh rfl⟩
         rw [HA.o]at hBa⊢
         have hzT5:=zh (hzT.more F5 (Y:= [gz,ga]) (fun g hg=>by have:=HZ.o;have:=HA.o;simp at hg;omega))
         have hzh:=zh hz
         have hBzh:=zh hBz
         have hBah:=zh hBa
         have F5h:=zh (F4h.o.trans (GV.trans F5))
         have fw5:=zh (fw4.o.trans (GV.trans F5))
         have FC5:=zh (GV.trans F5)
         have hgzC:=zh (show(World.heap WI).size≤gz by have:=GV.size;have:=HZ.o;omega)
         have hza0:=zh (show g4≠gz∧g5≠gz∧g4≠ga∧g5≠ga∧gz≠ga∧w.heap.size≤gz∧w.heap.size≤ga∧g2≠gz∧g3≠gz∧W.heap.size≤gz by
          have h1:=F4h.o.size
          have h2:=GV.size
          have:=HZ.o
          have:=HA.o
          obtain⟨b1,b2,b3,b4,a1,a2,a3,a4,_⟩:=hws.o
          exact⟨by omega,by omega,by omega,by omega,by omega,by omega,by omega,by omega,by omega,by omega⟩)
         clear hz hzT hBz hBa GV F5
         have hzfr:=hzfr5
         obtain⟨d0,d1,d2,d3,d4,d5,d6,d7,d8,d9,d10,d11,d12,hcl⟩:=cmdV_cells (hCh.o.fr F5h.o (by simp))
         rw [hi.o]at d2
         clear d0 d1 d3 d4 d5 d6 d7 d8 d9 d10 d11 d12
         have hzlen:=hzT5.o.fam.len
         have hil2:=zh (show i<z.ts.length by
          rw [hzlen,hzh.o]
          have:=htl.o
          have:=hilt.o
          unfold issueM
          simp
          omega)
         obtain⟨gt,hgt⟩:∃gt,z.tA=some ⟨gt,0,none⟩:=by
          have hp:0<z.ts.length:=by have:=hil2.o;omega
          rcases Own.form2 hzT5.o.toks with⟨_,h2,_⟩ | ⟨g,h1,_⟩
          ·omega
          ·exact⟨g,h1⟩
         have hrow:=hzT5.o.toks
         rw [hgt]at hrow
         obtain⟨gb,ob,hAA,hcell⟩:=hrow.rd.at (by have:=hil2.o;omega)
         cases hAA
         have hq2:=hcell _ _ (tokCells_at hil2.o).2.2
         rw [Nat.zero_add]at hq2
         have hqz:W5.frozen? ⟨gt,i*3+2,none⟩=false:=by
          rcases hrow.2 with⟨hv,_⟩ | ⟨g',cap,cur,hv,_,hh2,_⟩
          ·cases hv
          ·injection hv with hv1 _ _
           injection hv1 with hv1
           injection hv1 with hv1 _ _
           subst hv1
           exact(show Blk W5 gt 55 cur from hh2).frozen _
         have hgtl:gt<W5.heap.size:=hrow.lt gt (rowOf_mem.2 ⟨_,rfl,rfl⟩)
         have hgtX:gt∉X++ [g4,g5]++ [gz,ga]:=hzT5.o.ft gt (by rw [hgt];exact rowOf_mem.2 ⟨_,rfl,rfl⟩)
         have hgtf:=zh (show(World.heap WI).size≤gt from hzfr.o gt (by rw [hgt];exact rowOf_mem.2 ⟨_,rfl,rfl⟩))
         have hzu:=famT_use hzT5.o hgt hil2.o
         have hgth:=zh hgt
         have k8:=hBzh.o.cell 8
         have hgzl:=hBzh.o.lt
         have k8':W5.cell? ⟨gz,8,none⟩=some (.slice (some ⟨gt,0,none⟩) z.ts.length z.tc):=by rw [←hgt];exact k8
         obtain⟨zn,hzn⟩:∃q,Hid (z.ts.length=q):=⟨_,zh rfl⟩
         rw [hzn.o]at k8'
         have hilz:(i:Int)<zn:=by have:=hil2.o;have:=hzn.o;omega
         have hznm:zn≤1000:=by
          have h1:=hzn.o
          have h2:=issue_len hfok.o (sl:=sl) (r:=true)
          rw [←hzh.o,←hzlen]at h2
          omega
         have hF9:Fr [gt] W5 (W5.setCell ⟨gt,i*3+2,none⟩ (.bool true)):=(Fr.refl [gt] W5).setCell (p:=⟨gt,i*3+2,none⟩) (.inl (by simp)) _
         obtain⟨z2,hz2⟩:∃q,Hid (({z with f:={z.f with tokens:=useM z.f.tokens i},ts:=useT z.ts i}:FA)=q):=⟨_,zh rfl⟩
         have hz2c:z2.cells=z.cells:=by
          rw [←hz2.o]
          unfold FA.cells
          simp only [useT_length]
         have hz2f:=zh (show z2.f={(issueM f sl true).1 with tokens:=useM (issueM f sl true).1.tokens i} by rw [←hz2.o,←hzh.o])
         rw [hz2.o]at hzu
         have hB9:Blk (W5.setCell ⟨gt,i*3+2,none⟩ (.bool true)) gz 39 z2.cells:=by rw [hz2c];exact hBzh.o.fr hF9 (by simp;exact fun h=>hgtX (by simp [h]))
         have hA9:=hBah.o.fr hF9 (by simp;exact fun h=>hgtX (by simp [h]))
         have hF9h:=zh hF9
         have hzuh:=zh hzu
         have hB9h:=zh hB9
         have hA9h:=zh hA9
         have hgtXh:=zh hgtX
         clear hF9 hzu hB9 hA9 hgtX hgt hrow hcell k8 hz2c
         go_upto_region 47 with(fail)
         refine wp_gen (fun U=>Blk U gz 39 z2.cells∧Blk U ga 33 an.cells∧FamT U (X++ [g4,g5]++ [gz,ga]) z2∧Fr [gt] W5 U) ⟨hB9h.o,hA9h.o,hzuh.o,hF9h.o⟩ ?_
         clear hq2 hqz hgtl k8' hilz hznm hgzl d2 hcl hzlen
         rintro W6 ⟨hB9,hA9,hzT6,hF9⟩
         have hBz6:=zh hB9
         have hBa6:=zh hA9
         have hzT6h:=zh hzT6
         have F6h:=zh (F5h.o.andThen hF9 (fun g hg=> .inr (by simp at hg;rw [hg];exact Nat.le_trans F4h.o.size hgtf.o)))
         have FC6:=zh (FC5.o.andThen hF9 (fun g hg=> .inr (by simp at hg;rw [hg];exact hgtf.o)))
         have fw6:=zh (fw5.o.andThen hF9 (fun g hg=> .inr (by simp at hg;rw [hg];exact Nat.le_trans (Nat.le_trans fWh.o.size F4h.o.size) hgtf.o)))
         clear hB9 hA9 hzT6 hF9
         have hzin:=zh (hzT6h.o.fam.mono (Y:=X++ [g4,g5]) (fun g hg=>List.mem_append.2 (.inl hg)))
         have hzs:=zh (fam_new_short hzin.o hz2f.o (by simp only [useM_length];exact issue_len hfok.o) (issue_sc hfok.o) (issue_le hfok.o) (use_each (issue_each hfok.o hsl.o.2.2.2.2)))
         have hres:=zh (show dDo room c (l.map (·.f))=(dWith {(issueM f sl true).1 with tokens:=useM (issueM f sl true).1.tokens i} (l.map (·.f)),(issueM f sl true).2) by rw [dk3 hm.o hk.o hog.o,if_neg hd1.o,ht3.o];simp only;rw [if_neg (by rw [hu.o];decide),if_neg (by rw [hwf.o];decide),if_neg (by rw [htn.o];have:=h6h.o;omega),hsl.o.1,hit.o])
         go_upto_region 47 with(fail)
         have q1:=hPh.o.fr F6h.o (by simp)
         have q2:=hBz6.o
         have q3:=hBa6.o
         have hR4v:=hR4h.o.fr F6h.o (by simp)
         have hR5v:=hR5h.o.fr F6h.o (by simp)
         have hwith:=rwith_t (World.drew W6) (X++ [g4,g5]) A n c0 room l z2 ((hLW.o.fr F6h.o.nil).fr ((Fr.refl _ _).drew)) (hzin.o.fr ((Fr.refl _ _).drew)) hzs.o (fun g hg=>Nat.lt_of_lt_of_le (hX2h.o g hg) F6h.o.size) hh.o.hmax
         rw [hz2f.o]at hwith
         refine wp_region_z (fun w'=>Blk w' g2 50 #[.slice A n c0,.int .i64 room]∧Blk w' gz 39 z2.cells∧Blk w' ga 33 an.cells) [] (by kernel_rfl) ⟨q1,q2,q3⟩ ?_
         intro hHeld
         refine wpZ_take (i:=0) rfl (by kernel_rfl) (by kernel_rfl) (by kernel_rfl) (by kernel_rfl) (fun _ _ _ h=>h) (yieldsIf_load_mid (by kernel_rfl) 50 _ rfl g2 0 rfl ([.slice A n c0,.int .i64 room]) _ (fun w h=>range_cells h.1) uRb rfl (by kernel_rfl)) hHeld ?_
         try simp only [zA,zC,Act.put,zD,zE,zF]
         refine wpZ_take (i:=1) rfl (by kernel_rfl) (by kernel_rfl) (by kernel_rfl) (by kernel_rfl) (fun _ _ _ h=>h) (yieldsIf_load_mid (by kernel_rfl) 39 _ rfl gz 0 rfl (z2.cells.toList) _ (fun w h=>range_cells h.2.1) uFam rfl (infoFamL _)) hHeld ?_
         try simp only [zA,zB,zC,Act.put,zD,zE,zF]
         refine wpZ_take (i:=3) rfl (by kernel_rfl) (by kernel_rfl) (by kernel_rfl) (by kernel_rfl) (fun _ _ _ h=>h) (yieldsIf_load_mid (by kernel_rfl) 33 _ rfl ga 0 rfl (an.cells.toList) _ (fun w h=>range_cells h.2.2) uAns rfl (infoAnsL _)) hHeld ?_
         try simp only [zA,zB,zC,Act.put,zD,zE,zF]
         refine wpZ_one (i:=2) (by kernel_rfl) rfl (fun K hK=> ?_)
         go_simp
         refine Calls.mono (show Calls Tryz.prog 35 _ _ _ from hwith) ?_
         rintro e V9 ⟨A1,c1x,l1,rfl,hl1,hm1,G9⟩
         have G9:Fr [] W6 V9:=G9.of_drew
         have q1:=q1.fr G9 (by simp)
         have q2:=q2.fr G9 (by simp)
         have q3:=q3.fr G9 (by simp)
         have hbk:=fun cs=>rdo_blks (V:=V9) (cb:=#[.slice A1 l1.length c1x,.int .i64 room]) (cs:=cs) (hR4v.fr G9 (by simp)) (hR5v.fr G9 (by simp)) hws.o.2.2.2.2.2.2.2.2.2.2.2.2
         have hR4w:=hR4v.fr G9 (by simp)
         have G10:Fr [g4] V9 (V9.setRow g4 #[.slice A1 l1.length c1x,.int .i64 room]):=(Fr.refl [g4] _).setRow (.inl (by simp)) _
         have r1:=q1.fr G10 (by simp;exact hws.o.2.2.2.2.2.2.2.2.1)
         have r2:=q2.fr G10 (by simp;exact fun h=>hza0.o.1 h.symm)
         have r3:=q3.fr G10 (by simp;exact fun h=>hza0.o.2.2.1 h.symm)
         have G11:Fr [g5] (V9.setRow g4 #[.slice A1 l1.length c1x,.int .i64 room]) ((V9.setRow g4 #[.slice A1 l1.length c1x,.int .i64 room]).setRow g5 an.cells):=(Fr.refl [g5] _).setRow (.inl (by simp)) _
         try dsimp only
         refine hK.out _ _ ⟨q1,q2,q3⟩ (fun hHeld=> ?_)
         clear hK K
         try simp only [zA,zB,zC,Act.put,zD,zE,zF]
         refine wpZ_one (i:=4) (by kernel_rfl) rfl (fun K hK=> ?_)
         rw [if_pos (wanted_none rfl)]
         refine wp_store_row 50 _ _ rfl g4 _ rfl rfl 50 _ hR4w infoRb (by kernel_rfl) (by kernel_rfl) ?_
         show K (Act.put _ none undef) _
         refine hK.out _ _ ⟨r1,r2,r3⟩ (fun hHeld=> ?_)
         clear hK K
         try simp only [Act.put]
         refine wpZ_one (i:=5) (by kernel_rfl) rfl (fun K hK=> ?_)
         rw [if_pos (wanted_none rfl)]
         refine wp_store_row 33 _ _ rfl g5 an.cells rfl rfl 33 za (hbk #[]).1 (infoAnsY an) (hza.trans (AA.size8 an).symm) (AA.one an) ?_
         show K (Act.put _ none undef) _
         refine hK.out _ _ ⟨r1.fr G11 (by simp;exact hws.o.2.2.2.2.2.2.2.2.2.1),r2.fr G11 (by simp;exact fun h=>hza0.o.2.1 h.symm),r3.fr G11 (by simp;exact fun h=>hza0.o.2.2.2.1 h.symm)⟩ (fun hHeld=> ?_)
         clear hK K
         try simp only [Act.put]
         refine wpZ_done (by kernel_rfl) ?_ _
         go_wp2_with fail
         refine bodyPost_ret (results_cc (p:=4) (q:=5) rfl _ _ g4 g5 50 33 _ an.cells _ _ rfl (hbk _).2.1 uRb rfl infoRb rfl (hbk _).2.2 uAns rfl (infoAnsY an)) rfl ?_
         rw [hres.o]
         exact rdo_end (r:=(dWith {(issueM f sl true).1 with tokens:=useM (issueM f sl true).1.tokens i} (l.map (·.f)),(issueM f sl true).2)) hl1 hm1 ((issue_ans (show RdX V9 (X++ [g4,g5]) 1 tA2 sl.length (strCells sl)from(hsl.o.2.2.2.1.fr (FC6.o.trans G9).nil)))) (fw6.o.trans G9) hws.o.2.2.1 hws.o.2.2.2.1 (aA:=tA2) (ac:=tc2) (by rw [han.o])
end Go.Proofs.YtdeoinjjphdbmaaGreat
