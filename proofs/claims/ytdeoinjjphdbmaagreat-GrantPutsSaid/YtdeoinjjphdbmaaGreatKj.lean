/- Walk: the document's Do, kind 2. Conditions: each theorem's own. -/
import Derived.Test.YtdeoinjjphdbmaaGreatKg
namespace Go.Proofs.YtdeoinjjphdbmaaGreat
open Go.RowKit Go.Sig
set_option maxRecDepth 100000 in
set_option maxHeartbeats 16000000 in
theorem rdo_2 (w:World) (X:List Nat) (A:Option Addr) (n c0:Nat) (room:Int) (l:List FA) (b:GBk) (c:GCmd) (cA:Option Addr) (ck:Nat) (h:RBk w X A n l b) (hc:CmdIn w c cA c.scope.length) (hcX:0<c.scope.length→Off X cA) (hm0:mayM c=true) (hk0:c.kind=2):
  Calls Tryz.prog 60 #[.agg #[.slice A n c0,.int .i64 room],.agg (cmdV c cA c.scope.length ck)] w (RDoPost w X room (dDo room c (l.map (·.f)))):=by
 have hh:=zh h
 have hch:=zh hc
 have hcXh:=zh hcX
 have hm:=zh hm0
 have hk:=zh hk0
 clear hk0
 clear h hc hcX hm0
 have hzs:∃zs:Array Value,zs.size=8∧Hid (zs=(AA.mk (noA 0) none 0).cells):=⟨_,rfl,zh rfl⟩
 obtain⟨za,hza,hzah⟩:=hzs
 unfold cmdV
 go_enter Tryz.func60,Tryz.ntmps60
 go_upto_region 1 with(fail)
 refine wp_gen (fun W=>Blk W w.heap.size 50 #[.slice A n c0,.int .i64 room]∧Blk W (w.heap.size+1) 30 (cmdV c cA c.scope.length ck)∧Blk W (w.heap.size+1+1) 50 #[.slice none 0 0,.int .i64 0]∧Blk W (w.heap.size+1+1+1) 33 za∧Fr [] w W) ⟨?_,?_,?_,?_,?_⟩ ?_
 ·exact(((Blk.new _ _ _).alloc _).alloc _).alloc _
 ·refine Blk.alloc (Blk.alloc (Blk.new' _ _ ?_) _) _
  simp
 ·refine Blk.alloc (Blk.new' _ _ ?_) _
  simp
 ·rw [hzah.o]
  exact Blk.new' _ _ (by simp)
 ·exact((((Fr.refl _ _).alloc _).alloc _).alloc _).alloc _
 rintro W ⟨hP,hC,hR4,hR5,fW⟩
 obtain⟨g2,HG2⟩:∃z,Hid (w.heap.size=z):=⟨_,zh rfl⟩
 rw [HG2.o]at hP hC hR4 hR5⊢
 obtain⟨g3,HG3⟩:∃z,Hid (g2+1=z):=⟨_,zh rfl⟩
 rw [HG3.o]at hC hR4 hR5⊢
 obtain⟨g4,HG4⟩:∃z,Hid (g3+1=z):=⟨_,zh rfl⟩
 rw [HG4.o]at hR4 hR5⊢
 obtain⟨g5,HG5⟩:∃z,Hid (g4+1=z):=⟨_,zh rfl⟩
 rw [HG5.o]at hR5⊢
 have hws:Hid (w.heap.size≤g2∧w.heap.size≤g3∧w.heap.size≤g4∧w.heap.size≤g5∧g2<W.heap.size∧g3<W.heap.size∧g4<W.heap.size∧g5<W.heap.size∧g2≠g4∧g2≠g5∧g3≠g4∧g3≠g5∧g4≠g5):=by
  have:=HG2.o
  have:=HG3.o
  have:=HG4.o
  have:=HG5.o
  exact zh ⟨by omega,by omega,by omega,by omega,hP.lt,hC.lt,hR4.lt,hR5.lt,by omega,by omega,by omega,by omega,by omega⟩
 have hPh:=zh hP
 have hCh:=zh hC
 have hR4h:=zh hR4
 have hR5h:=zh hR5
 have fWh:=zh fW
 have hX1:∀g∈X++ [g4,g5],g∈X∨w.heap.size≤g:=fun g hg=>by
  rcases List.mem_append.1 hg with hg |hg
  ·exact .inl hg
  ·obtain⟨_,_,a3,a4,_⟩:=hws.o
   simp at hg
   exact .inr (by omega)
 have hX2:∀g∈X++ [g4,g5],g<W.heap.size:=fun g hg=>by
  rcases List.mem_append.1 hg with hg |hg
  ·exact Nat.lt_of_lt_of_le (hh.o.hX g hg) fW.size
  ·obtain⟨_,_,_,_,_,_,a3,a4,_⟩:=hws.o
   simp at hg
   omega
 have hX2h:=zh hX2
 have hLW:=zh (hh.o.hL.to fW.nil hX1)
 have hAW:RdX W (X++ [g4,g5]) 1 cA c.scope.length (strCells c.scope):=by
  have hd:RdX w X 1 cA c.scope.length (strCells c.scope):=⟨hch.o.hS,hcXh.o⟩
  exact hd.to (by decide) fW.nil hX1
 have hAWh:=zh hAW
 have hmay:=rmay17_t W c cA c.scope.length ck (hch.o.hS.fr fW (by simp [Off])) rfl hch.o.hl hch.o.hs hch.o.hf
 rw [hm.o]at hmay
 clear hP hR4 hR5 fW hX1 hX2 hAW
 go_wp2_with (refine wpList_load_at rfl 30 _ rfl rfl hC (sub_self _) uCmd rfl (by unfold cmdV;exact infoCmd) ?_;rw [Array.toArray_toList])
 refine Calls.mono (show Calls Tryz.prog 23 _ _ _ from hmay) ?_
 rintro e W2 ⟨rfl,F2⟩
 clear hmay hC
 have F2h:=zh F2
 have fw:=zh (fWh.o.trans F2)
 clear F2
 obtain⟨og,hog⟩:∃z,Hid (dGet c.family (l.map (·.f))=z):=⟨_,zh rfl⟩
 have hgok:=get_ok hh.o.ok c.family
 rw [←hh.o.hb,hog.o]at hgok
 have hgokh:=zh hgok
 have hget:=rget_t W2 (X++ [g4,g5]) A n c0 room l c.family (hLW.o.fr F2h.o.nil) (by have:=hh.o.hmax;omega)
 unfold GetPost at hget
 obtain⟨is,his⟩:∃z,Hid (og.isSome=z):=⟨_,zh rfl⟩
 rw [hog.o,his.o]at hget
 have hPv:=hPh.o.fr F2h.o (by simp)
 have hCv:=hCh.o.fr F2h.o (by simp)
 obtain⟨d0,d1,d2,d3,d4,d5,d6,d7,d8,d9,d10,d11,d12,hcl⟩:=cmdV_cells hCv
 clear d0 d2 d3 d4 d5 d6 d7 d8 d9 d10 d11 d12 hgok hCv
 go_wp2_with (refine wpList_load_at rfl 50 _ rfl rfl hPv (sub_self _) uRb rfl infoRbL ?_;rw [Array.toArray_toList])
 refine Calls.mono (show Calls Tryz.prog 32 _ _ _ from hget) ?_
 rintro e W3 ⟨y,rfl,hy,hyin,F3⟩
 unfold FA.val
 clear hget d1 hcl hPv
 go_upto_region 4 with(refine wpList_store_row rfl 39 _ _ rfl W3.heap.size y.cells rfl rfl 39 _ (Blk.new _ _ _) (infoFamA y) (by rw [FA.size11];rfl) (FA.all1 y) ?_)
 refine wp_gen (fun W=>Blk W W3.heap.size 39 y.cells∧Fr [] W3 W) ⟨Blk.setRow (Blk.new _ _ _) _,((Fr.refl [] W3).alloc _).setRow (.inr (Nat.le_refl _)) _⟩ ?_
 rintro W4 ⟨hB6,F4⟩
 obtain⟨g6,HG6⟩:∃z,Hid (W3.heap.size=z):=⟨_,zh rfl⟩
 rw [HG6.o]at hB6⊢
 have h6s:=zh (show W.heap.size≤g6 by have:=F2h.o.size;have:=F3.size;have:=HG6.o;omega)
 have hyin4:=zh (hyin.fr F4.nil)
 have hB6h:=zh hB6
 have F4h:=zh (F2h.o.trans (F3.trans F4))
 have fw4:=zh (fWh.o.trans F4h.o)
 have hyh:=zh hy
 have hys:=zh (fam_short (hyin4.o.mono (Y:= []) (by simp)) (by rw [hy];exact hgokh.o))
 obtain⟨d0,d1,d2,d3,d4,d5,d6,d7,d8,d9,d10,d11,d12,hcl⟩:=cmdV_cells (hCh.o.fr F4h.o (by simp))
 obtain⟨c0',c1,c2,c3,c4,c5,c6,c7,c8,c9,c10,hgl⟩:=fam_cells hB6
 rw [hk.o]at d0
 clear F3 F4 hyin hB6 hy c0' fw F2h
 cases is with
 |false=>
  obtain rfl:og=none:=by simpa using his.o
  have hres:=zh (show dDo room c (l.map (·.f))=(l.map (·.f),noA 3) by rw [dNone hm.o (by rw [hk.o];decide) (by rw [hk.o];decide) hog.o,if_pos (by rw [hk.o];decide)])
  obtain⟨hR4v,hR5v,hPv,hbk1,hbkh⟩:=rdo_pre (cb:=#[.slice A n c0,.int .i64 room]) hR4h.o hR5h.o hPh.o F4h.o hws.o.2.2.2.2.2.2.2.2.2.2.2.2
  go_wp2_with (first
   | (refine wpList_load_at rfl 50 _ rfl rfl hPv (sub_self _) uRb rfl infoRbL ?_;rw [Array.toArray_toList])
   | (refine wpList_store_row rfl 50 _ _ rfl g4 _ rfl rfl 50 _ hR4v infoRb (by rfl) (by kernel_rfl) ?_)
   | (refine wpList_store_row rfl 33 _ _ rfl g5 _ rfl rfl 33 za hbk1 infoAns hza (by kernel_rfl) ?_))
  refine bodyPost_ret (results_cc (p:=4) (q:=5) rfl _ _ g4 g5 50 33 _ _ _ _ rfl (hbkh.o _).2.1 uRb rfl infoRb rfl (hbkh.o _).2.2 uAns rfl infoAns) rfl ?_
  rw [hres.o]
  exact rdo_end (r:=(l.map (·.f),noA 3)) (hLW.o.fr F4h.o.nil) rfl (RdX.nil _ _ _ _) fw4.o hws.o.2.2.1 hws.o.2.2.2.1 (ac:=0) rfl
 |true=>
  obtain⟨f,rfl⟩:=Option.isSome_iff_exists.1 his.o
  have hyf:=zh (show y.f=f from hyh.o)
  have hfok:=zh (get_some hh.o.ok (by rw [←hh.o.hb];exact hog.o))
  obtain⟨rv,hrv⟩:∃z,Hid (y.f.revoked=z):=⟨_,zh rfl⟩
  rw [hrv.o]at c9
  have hob:=toList_beq y.f.client c.client
  obtain⟨ow,how⟩:∃z,Hid (decide (y.f.client=c.client)=z):=⟨_,zh rfl⟩
  rw [how.o]at hob
  have hrf:=zh (show f.revoked=rv by rw [←hyf.o];exact hrv.o)
  have hof:=zh (show decide (f.client=c.client)=ow by rw [←hyf.o];exact how.o)
  obtain⟨cd,hcd⟩:∃z,Hid (y.f.code=z):=⟨_,zh rfl⟩
  rw [hcd.o]at c7
  have hcf:=zh (show f.code=cd by rw [←hyf.o];exact hcd.o)
  cases rv with
  |true=>
   have hres:=zh (show dDo room c (l.map (·.f))=(l.map (·.f),noA 3) by rw [dk2 hm.o hk.o hog.o,if_pos (.inl hrf.o)])
   obtain⟨hR4v,hR5v,hPv,hbk1,hbkh⟩:=rdo_pre (cb:=#[.slice A n c0,.int .i64 room]) hR4h.o hR5h.o hPh.o F4h.o hws.o.2.2.2.2.2.2.2.2.2.2.2.2
   go_wp2_with (first
    | (refine wpList_load_at rfl 50 _ rfl rfl hPv (sub_self _) uRb rfl infoRbL ?_;rw [Array.toArray_toList])
    | (refine wpList_store_row rfl 50 _ _ rfl g4 _ rfl rfl 50 _ hR4v infoRb (by rfl) (by kernel_rfl) ?_)
    | (refine wpList_store_row rfl 33 _ _ rfl g5 _ rfl rfl 33 za hbk1 infoAns hza (by kernel_rfl) ?_))
   refine bodyPost_ret (results_cc (p:=4) (q:=5) rfl _ _ g4 g5 50 33 _ _ _ _ rfl (hbkh.o _).2.1 uRb rfl infoRb rfl (hbkh.o _).2.2 uAns rfl infoAns) rfl ?_
   rw [hres.o]
   exact rdo_end (r:=(l.map (·.f),noA 3)) (hLW.o.fr F4h.o.nil) rfl (RdX.nil _ _ _ _) fw4.o hws.o.2.2.1 hws.o.2.2.2.1 (ac:=0) rfl
  |false=>
   cases ow with
   |false=>
    have hres:=zh (show dDo room c (l.map (·.f))=(l.map (·.f),noA 3) by rw [dk2 hm.o hk.o hog.o,if_pos (.inr (.inl (by have:=hof.o;simpa using this)))])
    obtain⟨hR4v,hR5v,hPv,hbk1,hbkh⟩:=rdo_pre (cb:=#[.slice A n c0,.int .i64 room]) hR4h.o hR5h.o hPh.o F4h.o hws.o.2.2.2.2.2.2.2.2.2.2.2.2
    go_wp2_with (first
     | (refine wpList_load_at rfl 50 _ rfl rfl hPv (sub_self _) uRb rfl infoRbL ?_;rw [Array.toArray_toList])
     | (refine wpList_store_row rfl 50 _ _ rfl g4 _ rfl rfl 50 _ hR4v infoRb (by rfl) (by kernel_rfl) ?_)
     | (refine wpList_store_row rfl 33 _ _ rfl g5 _ rfl rfl 33 za hbk1 infoAns hza (by kernel_rfl) ?_))
    refine bodyPost_ret (results_cc (p:=4) (q:=5) rfl _ _ g4 g5 50 33 _ _ _ _ rfl (hbkh.o _).2.1 uRb rfl infoRb rfl (hbkh.o _).2.2 uAns rfl infoAns) rfl ?_
    rw [hres.o]
    exact rdo_end (r:=(l.map (·.f),noA 3)) (hLW.o.fr F4h.o.nil) rfl (RdX.nil _ _ _ _) fw4.o hws.o.2.2.1 hws.o.2.2.2.1 (ac:=0) rfl
   |true=>
    by_cases h0:cd=0
    ·have b0:(cd==0)=true:=by rw [beq_iff_eq];exact h0
     have h0h:=zh h0
     clear h0
     have hres:=zh (show dDo room c (l.map (·.f))=(l.map (·.f),noA 3) by rw [dk2 hm.o hk.o hog.o,if_pos (.inr (.inr (by rw [hcf.o];exact h0h.o)))])
     obtain⟨hR4v,hR5v,hPv,hbk1,hbkh⟩:=rdo_pre (cb:=#[.slice A n c0,.int .i64 room]) hR4h.o hR5h.o hPh.o F4h.o hws.o.2.2.2.2.2.2.2.2.2.2.2.2
     go_wp2_with (first
      | (refine wpList_load_at rfl 50 _ rfl rfl hPv (sub_self _) uRb rfl infoRbL ?_;rw [Array.toArray_toList])
      | (refine wpList_store_row rfl 50 _ _ rfl g4 _ rfl rfl 50 _ hR4v infoRb (by rfl) (by kernel_rfl) ?_)
      | (refine wpList_store_row rfl 33 _ _ rfl g5 _ rfl rfl 33 za hbk1 infoAns hza (by kernel_rfl) ?_))
     refine bodyPost_ret (results_cc (p:=4) (q:=5) rfl _ _ g4 g5 50 33 _ _ _ _ rfl (hbkh.o _).2.1 uRb rfl infoRb rfl (hbkh.o _).2.2 uAns rfl infoAns) rfl ?_
     rw [hres.o]
     exact rdo_end (r:=(l.map (·.f),noA 3)) (hLW.o.fr F4h.o.nil) rfl (RdX.nil _ _ _ _) fw4.o hws.o.2.2.1 hws.o.2.2.2.1 (ac:=0) rfl
    ·have b0:(cd==0)=false:=by rw [beq_eq_false_iff_ne];exact h0
     have hd1:=zh (show¬(f.revoked=true∨f.client≠c.client∨f.code=0) by rw [hrf.o,hcf.o];have:=hof.o;simp at this;simp [this,h0])
     by_cases h2:cd=2
     ·have b2:(cd==2)=true:=by rw [beq_iff_eq];exact h2
      have h2h:=zh h2
      clear h0 h2
      have hfall:=rfall_t W4 (X++ [g4,g5]) A n c0 room l y (hLW.o.fr F4h.o.nil) (hyin4.o.mono (by simp)) hys.o (fun g hg=>Nat.lt_of_lt_of_le (hX2h.o g hg) F4h.o.size) hh.o.hmax
      rw [hyf.o]at hfall
      have hres:=zh (show dDo room c (l.map (·.f))=(dFall f (l.map (·.f)),noA 3) by rw [dk2 hm.o hk.o hog.o,if_neg hd1.o,if_pos (by rw [hcf.o];exact h2h.o)])
      have hPv:=hPh.o.fr F4h.o (by simp)
      go_wp2_with (first
       | (refine wpList_load_at rfl 50 _ rfl rfl hPv (sub_self _) uRb rfl infoRbL ?_;rw [Array.toArray_toList])
       | (refine wpList_load_at rfl 39 _ rfl rfl hB6h.o (sub_self _) uFam rfl (infoFamL _) ?_;rw [Array.toArray_toList]))
      refine Calls.mono (show Calls Tryz.prog 88 _ _ _ from hfall) ?_
      rintro e V ⟨A1,c1x,l1,rfl,hl1,hm1,FV⟩
      have FVh:=zh (F4h.o.trans FV)
      have fwV:=zh (fw4.o.trans FV)
      have hl1h:=zh hl1
      have hm1h:=zh hm1
      clear hfall hl1 hm1 FV hPv
      obtain⟨hR4v,hR5v,hPv,hbk1,hbkh⟩:=rdo_pre (cb:=#[.slice A1 l1.length c1x,.int .i64 room]) hR4h.o hR5h.o hPh.o FVh.o hws.o.2.2.2.2.2.2.2.2.2.2.2.2
      go_wp2_with (first
       | (refine wpList_store_row rfl 50 _ _ rfl g4 _ rfl rfl 50 _ hR4v infoRb (by rfl) (by kernel_rfl) ?_)
       | (refine wpList_store_row rfl 33 _ _ rfl g5 _ rfl rfl 33 za hbk1 infoAns hza (by kernel_rfl) ?_))
      refine bodyPost_ret (results_cc (p:=4) (q:=5) rfl _ _ g4 g5 50 33 _ _ _ _ rfl (hbkh.o _).2.1 uRb rfl infoRb rfl (hbkh.o _).2.2 uAns rfl infoAns) rfl ?_
      rw [hres.o]
      exact rdo_end (r:=(dFall f (l.map (·.f)),noA 3)) (hl1h.o) hm1h.o (RdX.nil _ _ _ _) fwV.o hws.o.2.2.1 hws.o.2.2.2.1 (ac:=0) rfl
     ·have b2:(cd==2)=false:=by rw [beq_eq_false_iff_ne];exact h2
      have hd2:=zh (show¬f.code=2 by rw [hcf.o];exact h2)
      have hrd:=toList_beq y.f.redirect c.redirect
      obtain⟨rdb,hrdb⟩:∃z,Hid (decide (y.f.redirect=c.redirect)=z):=⟨_,zh rfl⟩
      rw [hrdb.o]at hrd
      have hch:=str_empty y.f.challenge
      obtain⟨chb,hchb⟩:∃z,Hid (decide (y.f.challenge.size=0)=z):=⟨_,zh rfl⟩
      rw [hchb.o]at hch
      have hve:=str_empty c.verifier
      obtain⟨veb,hveb⟩:∃z,Hid (decide (c.verifier.size=0)=z):=⟨_,zh rfl⟩
      rw [hveb.o]at hve
      have hmo:=zh (mayM_ok hm.o)
      have hck:=rcheck_t W4 y.f.challenge y.f.method c.verifier (by have:=textsM_mem hmo.o.texts (s:=c.verifier) (by simp);omega)
      obtain⟨ckb,hckb⟩:∃z,Hid (pkCheck y.f.challenge y.f.method c.verifier=z):=⟨_,zh rfl⟩
      rw [hckb.o]at hck
      obtain⟨bd,hbd⟩:∃z,Hid ((!rdb || (chb&& !veb) || (!chb&& !ckb))=z):=⟨_,zh rfl⟩
      have hd3:=zh (show(f.redirect≠c.redirect∨(f.challenge.size=0∧c.verifier.size≠0)∨(f.challenge.size≠0∧pkCheck f.challenge f.method c.verifier=false))↔bd=true by
       rw [←hbd.o,←hrdb.o,←hchb.o,←hveb.o,←hckb.o,←hyf.o]
       simp only [Bool.or_eq_true,Bool.and_eq_true,Bool.not_eq_true',decide_eq_true_eq,decide_eq_false_iff_not,ne_eq,or_assoc])
      clear h0 h2
      go_upto_region 28 with(fail)
      go_cut [156]from 127 to 156 (fun s156 wx=>s156= .bool bd∧Fr [] W4 wx)
      case first=>
       cases rdb with
       |false=>
        have hv:=zh (show bd=true by rw [←hbd.o];rfl)
        clear hck
        go_wp2_with fail
        go_meet
        exact⟨by rw [hv.o],Fr.refl _ _⟩
       |true=>
        cases chb with
        |true=>
         clear hck
         cases veb with
         |true=>
          have hv:=zh (show bd=false by rw [←hbd.o];rfl)
          go_wp2_with fail
          go_meet
          exact⟨by rw [hv.o],Fr.refl _ _⟩
         |false=>
          have hv:=zh (show bd=true by rw [←hbd.o];rfl)
          go_wp2_with fail
          go_meet
          exact⟨by rw [hv.o],Fr.refl _ _⟩
        |false=>
         have hv:=zh (show bd= !ckb by rw [←hbd.o];simp)
         go_wp2_with (go_at_call 89;refine Calls.mono (show Calls Tryz.prog 89 _ _ _ from hck) ?_;rintro e W5 ⟨rfl,G⟩)
         go_meet
         exact⟨by rw [hv.o],G⟩
      case rest=>
       obtain⟨rfl,G⟩:=hcut
       obtain⟨WC,hWC⟩:∃V:World,V=wc:=⟨_,rfl⟩
       subst hWC
       have hB6h:=zh (hB6h.o.fr G (by simp))
       have hyin4:=zh (hyin4.o.fr G.nil)
       have F4h:=zh (F4h.o.trans G)
       have fw4:=zh (fw4.o.trans G)
       obtain⟨d0,d1,d2,d3,d4,d5,d6,d7,d8,d9,d10,d11,d12,hcl⟩:=cmdV_cells (hCh.o.fr F4h.o (by simp))
       obtain⟨c0',c1,c2,c3,c4,c5,c6,c7,c8,c9,c10,hgl⟩:=fam_cells hB6h.o
       clear c0' hck hrd hch hve G
       cases bd with
       |true=>
        have hres:=zh (show dDo room c (l.map (·.f))=(l.map (·.f),noA 3) by rw [dk2 hm.o hk.o hog.o,if_neg hd1.o,if_neg hd2.o,if_pos (hd3.o.2 rfl)])
        obtain⟨hR4v,hR5v,hPv,hbk1,hbkh⟩:=rdo_pre (cb:=#[.slice A n c0,.int .i64 room]) hR4h.o hR5h.o hPh.o F4h.o hws.o.2.2.2.2.2.2.2.2.2.2.2.2
        go_wp2_with (first
         | (refine wpList_load_at rfl 50 _ rfl rfl hPv (sub_self _) uRb rfl infoRbL ?_;rw [Array.toArray_toList])
         | (refine wpList_store_row rfl 50 _ _ rfl g4 _ rfl rfl 50 _ hR4v infoRb (by rfl) (by kernel_rfl) ?_)
         | (refine wpList_store_row rfl 33 _ _ rfl g5 _ rfl rfl 33 za hbk1 infoAns hza (by kernel_rfl) ?_))
        refine bodyPost_ret (results_cc (p:=4) (q:=5) rfl _ _ g4 g5 50 33 _ _ _ _ rfl (hbkh.o _).2.1 uRb rfl infoRb rfl (hbkh.o _).2.2 uAns rfl infoAns) rfl ?_
        rw [hres.o]
        exact rdo_end (r:=(l.map (·.f),noA 3)) (hLW.o.fr F4h.o.nil) rfl (RdX.nil _ _ _ _) fw4.o hws.o.2.2.1 hws.o.2.2.2.1 (ac:=0) rfl
       |false=>
        have hscl:=hys.o.scope
        have hscf:=zh (show y.f.scope=f.scope by rw [hyf.o])
        have hiss:=rissue_t WC (X++ [g4,g5]) (fun g hg=>Nat.lt_of_lt_of_le (hX2h.o g hg) F4h.o.size) y (hyin4.o.mono (by simp)) hys.o y.sA y.sc y.f.scope hyin4.o.scope hscl c.refresh
        rw [show issueM y.f y.f.scope c.refresh=issueM f f.scope c.refresh by rw [hyf.o]]at hiss
        go_wp2_with (first
         | (refine wpList_load_at rfl 39 _ rfl rfl hB6h.o (sub_self _) uFam rfl (infoFamL _) ?_;rw [Array.toArray_toList]))
        refine Calls.mono (show Calls Tryz.prog 86 _ _ _ from hiss) ?_
        rintro e V ⟨z,rfl,hz,hzT,hzrow,GV⟩
        have hzfr5:=zh hzrow
        clear hzrow
        obtain⟨an,han⟩:∃q,Hid (AA.mk (issueM f f.scope c.refresh).2 y.sA y.sc=q):=⟨_,zh rfl⟩
        rw [han.o]
        unfold FA.val AA.val
        clear hiss
        go_upto_region 31 with(first
         | (refine wpList_store_row rfl 39 _ _ rfl V.heap.size z.cells rfl rfl 39 _ (Blk.alloc (Blk.new _ _ _) _) (infoFamA z) (by rw [FA.size11];rfl) (FA.all1 z) ?_)
         | (refine wpList_store_row rfl 33 _ _ rfl (V.heap.size+1) an.cells rfl rfl 33 _ (Blk.fr (Blk.new' _ _ (by simp)) ((Fr.refl [V.heap.size] _).setRow (.inl (by simp)) _) (by simp)) (infoAnsY an) (by rw [AA.size8];rfl) (AA.one an) ?_))
        refine wp_gen (fun U=>Blk U V.heap.size 39 z.cells∧Blk U (V.heap.size+1) 33 an.cells∧Fr [] V U) ⟨?_,?_,?_⟩ ?_
        ·exact(Blk.setRow (Blk.alloc (Blk.new _ _ _) _) _).fr ((Fr.refl [V.heap.size+1] _).setRow (.inl (by simp)) _) (by simp)
        ·refine Blk.setRow (Blk.fr (Blk.new' _ _ ?_) ((Fr.refl [V.heap.size] _).setRow (.inl (by simp)) _) (by simp)) _
         simp
        ·exact((((Fr.refl [] V).alloc _).alloc _).setRow (.inr (Nat.le_refl _)) _).setRow (.inr (by simp)) _
        rintro W5 ⟨hBz,hBa,F5⟩
        obtain⟨gz,HZ⟩:∃q,Hid (V.heap.size=q):=⟨_,zh rfl⟩
        rw [HZ.o]at hBz hBa⊢
        obtain⟨ga,HA⟩:∃q,Hid (gz+1=q):=⟨_,zh rfl⟩
        rw [HA.o]at hBa⊢
        have hzT5:=zh (hzT.more F5 (Y:= [gz,ga]) (fun g hg=>by have:=HZ.o;have:=HA.o;simp at hg;omega))
        have hzh:=zh hz
        have hBzh:=zh hBz
        have hBah:=zh hBa
        have F5h:=zh (F4h.o.trans (GV.trans F5))
        have fw5:=zh (fw4.o.trans (GV.trans F5))
        have FC5:=zh (GV.trans F5)
        have hgzC:=zh (show(World.heap WC).size≤gz by have:=GV.size;have:=HZ.o;omega)
        have hza0:=zh (show g4≠gz∧g5≠gz∧g4≠ga∧g5≠ga∧gz≠ga∧w.heap.size≤gz∧w.heap.size≤ga∧g2≠gz∧g3≠gz∧W.heap.size≤gz by
         have h1:=F4h.o.size
         have h2:=GV.size
         have:=HZ.o
         have:=HA.o
         obtain⟨b1,b2,b3,b4,a1,a2,a3,a4,_⟩:=hws.o
         exact⟨by omega,by omega,by omega,by omega,by omega,by omega,by omega,by omega,by omega,by omega⟩)
        clear hz hzT hBz hBa GV F5
        have hzT5o:=hzT5.o
        have hzfo:=hzh.o
        obtain⟨⟨zid,zcl,zus,zsc,zre,zch,zme,zco,zto,zrv,zle⟩,zsA,zscc,ztA,ztc,zts,zlA,zlc⟩:=z
        have hBzo:=hBzh.o
        rw [FA.cells_def]at hBzo
        dsimp only at hBzo
        have k7:=hBzo.cell 7
        have kz:=hBzo.frozen 7
        have kl:=hBzo.lt
        simp only [zG,zH,zI]at k7
        clear hBzh hzT5 hzh
        go_upto_region 32 with(fail)
        have hB9:=hBzo.set 7 (.int .i64 2)
        simp only [zD,zE,zF]at hB9
        have F9:Fr [gz] W5 (W5.setCell ⟨gz,7,none⟩ (.int .i64 2)):=(Fr.refl [gz] W5).setCell (p:=⟨gz,7,none⟩) (.inl (by simp)) _
        refine wp_gen (fun U=>Blk U gz 39 (FA.mk ⟨zid,zcl,zus,zsc,zre,zch,zme,2,zto,zrv,zle⟩ zsA zscc ztA ztc zts zlA zlc).cells∧Fr [gz] W5 U) ⟨by rw [FA.cells_def];exact hB9,F9⟩ ?_
        clear hB9 F9 k7 kz kl hBzo
        rintro W6 ⟨hB9,F9⟩
        obtain⟨t1,t2,t3,t4,t5,t6⟩:=hzT5o.frX F9 (by simp)
        have hzT6:FamT W6 (X++ [g4,g5]++ [gz,ga]) (FA.mk ⟨zid,zcl,zus,zsc,zre,zch,zme,2,zto,zrv,zle⟩ zsA zscc ztA ztc zts zlA zlc):=⟨t1,t2,t3,t4,t5,t6⟩
        obtain⟨z2,hz2⟩:∃q,Hid (FA.mk ⟨zid,zcl,zus,zsc,zre,zch,zme,2,zto,zrv,zle⟩ zsA zscc ztA ztc zts zlA zlc=q):=⟨_,zh rfl⟩
        have hz2f:=zh (show z2.f={(issueM f f.scope c.refresh).1 with code:=2} by rw [←hz2.o,←hzfo])
        rw [hz2.o]at hzT6 hB9
        have hBz6:=zh hB9
        have hzT6h:=zh hzT6
        have hBa6:=zh (hBah.o.fr F9 (by simp;exact fun h=>hza0.o.2.2.2.2.1 h.symm))
        have F6h:=zh (F5h.o.andThen F9 (fun g hg=> .inr (by simp at hg;rw [hg];exact hza0.o.2.2.2.2.2.2.2.2.2)))
        have FC6:=zh (FC5.o.andThen F9 (fun g hg=> .inr (by simp at hg;rw [hg];exact hgzC.o)))
        have fw6:=zh (fw5.o.andThen F9 (fun g hg=> .inr (by simp at hg;rw [hg];exact hza0.o.2.2.2.2.2.1)))
        clear t1 t2 t3 t4 t5 t6 hzT5o hzfo hzT6 hB9 F9
        have hzin:=zh (hzT6h.o.fam.mono (Y:=X++ [g4,g5]) (fun g hg=>List.mem_append.2 (.inl hg)))
        have hzs:=zh (fam_new_short hzin.o hz2f.o (issue_len hfok.o) (issue_sc hfok.o) (issue_le hfok.o) (issue_each hfok.o (fok_sc hfok.o)))
        have hres:=zh (show dDo room c (l.map (·.f))=(dWith {(issueM f f.scope c.refresh).1 with code:=2} (l.map (·.f)),(issueM f f.scope c.refresh).2) by rw [dk2 hm.o hk.o hog.o,if_neg hd1.o,if_neg hd2.o,if_neg (fun h=>by have:=hd3.o.1 h;cases this)])
        go_upto_region 32 with(fail)
        have q1:=hPh.o.fr F6h.o (by simp)
        have q2:=hBz6.o
        have q3:=hBa6.o
        have hR4v:=hR4h.o.fr F6h.o (by simp)
        have hR5v:=hR5h.o.fr F6h.o (by simp)
        have hwith:=rwith_t (World.drew W6) (X++ [g4,g5]) A n c0 room l z2 ((hLW.o.fr F6h.o.nil).fr ((Fr.refl _ _).drew)) (hzin.o.fr ((Fr.refl _ _).drew)) hzs.o (fun g hg=>Nat.lt_of_lt_of_le (hX2h.o g hg) F6h.o.size) hh.o.hmax
        rw [hz2f.o]at hwith
        refine wp_region_z (fun w'=>Blk w' g2 50 #[.slice A n c0,.int .i64 room]∧Blk w' gz 39 z2.cells∧Blk w' ga 33 an.cells) [] (by kernel_rfl) ⟨q1,q2,q3⟩ ?_
        intro hHeld
        refine wpZ_take (i:=0) rfl (by kernel_rfl) (by kernel_rfl) (by kernel_rfl) (by kernel_rfl) (fun _ _ _ h=>h) (yieldsIf_load_mid (by kernel_rfl) 50 _ rfl g2 0 rfl ([.slice A n c0,.int .i64 room]) _ (fun w h=>range_cells h.1) uRb rfl (by kernel_rfl)) hHeld ?_
        try simp only [zA,zC,Act.put,zD,zE,zF]
        refine wpZ_take (i:=1) rfl (by kernel_rfl) (by kernel_rfl) (by kernel_rfl) (by kernel_rfl) (fun _ _ _ h=>h) (yieldsIf_load_mid (by kernel_rfl) 39 _ rfl gz 0 rfl (z2.cells.toList) _ (fun w h=>range_cells h.2.1) uFam rfl (infoFamL _)) hHeld ?_
        try simp only [zA,zB,zC,Act.put,zD,zE,zF]
        refine wpZ_take (i:=3) rfl (by kernel_rfl) (by kernel_rfl) (by kernel_rfl) (by kernel_rfl) (fun _ _ _ h=>h) (yieldsIf_load_mid (by kernel_rfl) 33 _ rfl ga 0 rfl (an.cells.toList) _ (fun w h=>range_cells h.2.2) uAns rfl (infoAnsL _)) hHeld ?_
        try simp only [zA,zB,zC,Act.put,zD,zE,zF]
        refine wpZ_one (i:=2) (by kernel_rfl) rfl (fun K hK=> ?_)
        go_simp
        refine Calls.mono (show Calls Tryz.prog 35 _ _ _ from hwith) ?_
        rintro e V9 ⟨A1,c1x,l1,rfl,hl1,hm1,G9⟩
        have G9:Fr [] W6 V9:=G9.of_drew
        have q1:=q1.fr G9 (by simp)
        have q2:=q2.fr G9 (by simp)
        have q3:=q3.fr G9 (by simp)
        have hbk:=fun cs=>rdo_blks (V:=V9) (cb:=#[.slice A1 l1.length c1x,.int .i64 room]) (cs:=cs) (hR4v.fr G9 (by simp)) (hR5v.fr G9 (by simp)) hws.o.2.2.2.2.2.2.2.2.2.2.2.2
        have hR4w:=hR4v.fr G9 (by simp)
        have G10:Fr [g4] V9 (V9.setRow g4 #[.slice A1 l1.length c1x,.int .i64 room]):=(Fr.refl [g4] _).setRow (.inl (by simp)) _
        have r1:=q1.fr G10 (by simp;exact hws.o.2.2.2.2.2.2.2.2.1)
        have r2:=q2.fr G10 (by simp;exact fun h=>hza0.o.1 h.symm)
        have r3:=q3.fr G10 (by simp;exact fun h=>hza0.o.2.2.1 h.symm)
        have G11:Fr [g5] (V9.setRow g4 #[.slice A1 l1.length c1x,.int .i64 room]) ((V9.setRow g4 #[.slice A1 l1.length c1x,.int .i64 room]).setRow g5 an.cells):=(Fr.refl [g5] _).setRow (.inl (by simp)) _
        try dsimp only
        refine hK.out _ _ ⟨q1,q2,q3⟩ (fun hHeld=> ?_)
        clear hK K
        try simp only [zA,zB,zC,Act.put,zD,zE,zF]
        refine wpZ_one (i:=4) (by kernel_rfl) rfl (fun K hK=> ?_)
        rw [if_pos (wanted_none rfl)]
        refine wp_store_row 50 _ _ rfl g4 _ rfl rfl 50 _ hR4w infoRb (by kernel_rfl) (by kernel_rfl) ?_
        show K (Act.put _ none undef) _
        refine hK.out _ _ ⟨r1,r2,r3⟩ (fun hHeld=> ?_)
        clear hK K
        try simp only [Act.put]
        refine wpZ_one (i:=5) (by kernel_rfl) rfl (fun K hK=> ?_)
        rw [if_pos (wanted_none rfl)]
        refine wp_store_row 33 _ _ rfl g5 an.cells rfl rfl 33 za (hbk #[]).1 (infoAnsY an) (hza.trans (AA.size8 an).symm) (AA.one an) ?_
        show K (Act.put _ none undef) _
        refine hK.out _ _ ⟨r1.fr G11 (by simp;exact hws.o.2.2.2.2.2.2.2.2.2.1),r2.fr G11 (by simp;exact fun h=>hza0.o.2.1 h.symm),r3.fr G11 (by simp;exact fun h=>hza0.o.2.2.2.1 h.symm)⟩ (fun hHeld=> ?_)
        clear hK K
        try simp only [Act.put]
        refine wpZ_done (by kernel_rfl) ?_ _
        go_wp2_with fail
        refine bodyPost_ret (results_cc (p:=4) (q:=5) rfl _ _ g4 g5 50 33 _ an.cells _ _ rfl (hbk _).2.1 uRb rfl infoRb rfl (hbk _).2.2 uAns rfl (infoAnsY an)) rfl ?_
        rw [hres.o]
        exact rdo_end (r:=(dWith {(issueM f f.scope c.refresh).1 with code:=2} (l.map (·.f)),(issueM f f.scope c.refresh).2)) hl1 hm1 ((issue_ans (show RdX V9 (X++ [g4,g5]) 1 y.sA f.scope.length (strCells f.scope) by rw [←hscf.o];exact(hyin4.o.scope.fr (FC6.o.trans G9).nil)))) (fw6.o.trans G9) hws.o.2.2.1 hws.o.2.2.2.1 (aA:=y.sA) (ac:=y.sc) (by rw [han.o])
end Go.Proofs.YtdeoinjjphdbmaaGreat
