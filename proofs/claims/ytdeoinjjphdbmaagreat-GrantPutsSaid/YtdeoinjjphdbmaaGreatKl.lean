/- Walk: the document's Do, kind 6. Conditions: each theorem's own. -/
import Derived.Test.YtdeoinjjphdbmaaGreatKg
namespace Go.Proofs.YtdeoinjjphdbmaaGreat
open Go.RowKit Go.Sig
def lmN (e:Int) (l:List Int) (n:Nat):List Int:=((List.range n).map (fun n:Nat=>Int.ofNat n)).filter fun i=>decide (i=e) ||l.any fun x=>decide (x=i)
theorem lmN_succ (e:Int) (l:List Int) (n:Nat):lmN e l (n+1)=lmN e l n++if(decide ((n:Int)=e) ||l.any fun x=>decide (x=(n:Int)))=true then [(n:Int)]else []:=by
 unfold lmN
 rw [List.range_succ,List.map_append,List.filter_append]
 congr 1
 simp only [List.map_cons,List.map_nil,List.filter_cons,List.filter_nil,Int.ofNat_eq_natCast]
theorem lmN_le (e:Int) (l:List Int) (n:Nat):(lmN e l n).length≤n:=by
 unfold lmN
 refine Nat.le_trans (List.length_filter_le _ _) ?_
 rw [List.length_map,List.length_range]
 exact Nat.le_refl _
theorem any_more {l:List Int}{p:Int→Bool}{j:Nat}{x:Int}(h:l[j]? =some x):(l.take (j+1)).any p=((l.take j).any p ||p x):=by
 obtain⟨hj,rfl⟩:=List.getElem?_eq_some_iff.1 h
 rw [List.take_succ_eq_append_getElem hj,List.any_append]
 simp
theorem int_new (w:World) (x:Int) (ty:TypeId):Rd (w.alloc (.cells #[.int .i64 x] ty)) 1 (some ⟨w.heap.size,0,none⟩) 1 (intCells [x]):=by
 refine⟨rfl,fun _=>⟨_,0,rfl,fun j u hu=> ?_⟩⟩
 rw [(Blk.new w ty #[.int .i64 x]).cell,Nat.zero_add,zG]
 simpa [intCells]using hu
set_option maxRecDepth 100000 in
set_option maxHeartbeats 16000000 in
theorem rdo_6 (w:World) (X:List Nat) (A:Option Addr) (n c0:Nat) (room:Int) (l:List FA) (b:GBk) (c:GCmd) (cA:Option Addr) (ck:Nat) (h:RBk w X A n l b) (hc:CmdIn w c cA c.scope.length) (hcX:0<c.scope.length→Off X cA) (hm0:mayM c=true) (hk0:c.kind=6):
  Calls Tryz.prog 60 #[.agg #[.slice A n c0,.int .i64 room],.agg (cmdV c cA c.scope.length ck)] w (RDoPost w X room (dDo room c (l.map (·.f)))):=by
 have hh:=zh h
 have hch:=zh hc
 have hcXh:=zh hcX
 have hm:=zh hm0
 have hk:=zh hk0
 clear hk0
 clear h hc hcX hm0
 have hzs:∃zs:Array Value,zs.size=8∧Hid (zs=(AA.mk (noA 0) none 0).cells):=⟨_,rfl,zh rfl⟩
 obtain⟨za,hza,hzah⟩:=hzs
 unfold cmdV
 go_enter Tryz.func60,Tryz.ntmps60
 go_upto_region 1 with(fail)
 refine wp_gen (fun W=>Blk W w.heap.size 50 #[.slice A n c0,.int .i64 room]∧Blk W (w.heap.size+1) 30 (cmdV c cA c.scope.length ck)∧Blk W (w.heap.size+1+1) 50 #[.slice none 0 0,.int .i64 0]∧Blk W (w.heap.size+1+1+1) 33 za∧Fr [] w W) ⟨?_,?_,?_,?_,?_⟩ ?_
 ·exact(((Blk.new _ _ _).alloc _).alloc _).alloc _
 ·refine Blk.alloc (Blk.alloc (Blk.new' _ _ ?_) _) _
  simp
 ·refine Blk.alloc (Blk.new' _ _ ?_) _
  simp
 ·rw [hzah.o]
  exact Blk.new' _ _ (by simp)
 ·exact((((Fr.refl _ _).alloc _).alloc _).alloc _).alloc _
 rintro W ⟨hP,hC,hR4,hR5,fW⟩
 obtain⟨g2,HG2⟩:∃z,Hid (w.heap.size=z):=⟨_,zh rfl⟩
 rw [HG2.o]at hP hC hR4 hR5⊢
 obtain⟨g3,HG3⟩:∃z,Hid (g2+1=z):=⟨_,zh rfl⟩
 rw [HG3.o]at hC hR4 hR5⊢
 obtain⟨g4,HG4⟩:∃z,Hid (g3+1=z):=⟨_,zh rfl⟩
 rw [HG4.o]at hR4 hR5⊢
 obtain⟨g5,HG5⟩:∃z,Hid (g4+1=z):=⟨_,zh rfl⟩
 rw [HG5.o]at hR5⊢
 have hws:Hid (w.heap.size≤g2∧w.heap.size≤g3∧w.heap.size≤g4∧w.heap.size≤g5∧g2<W.heap.size∧g3<W.heap.size∧g4<W.heap.size∧g5<W.heap.size∧g2≠g4∧g2≠g5∧g3≠g4∧g3≠g5∧g4≠g5):=by
  have:=HG2.o
  have:=HG3.o
  have:=HG4.o
  have:=HG5.o
  exact zh ⟨by omega,by omega,by omega,by omega,hP.lt,hC.lt,hR4.lt,hR5.lt,by omega,by omega,by omega,by omega,by omega⟩
 have hPh:=zh hP
 have hCh:=zh hC
 have hR4h:=zh hR4
 have hR5h:=zh hR5
 have fWh:=zh fW
 have hX1:∀g∈X++ [g4,g5],g∈X∨w.heap.size≤g:=fun g hg=>by
  rcases List.mem_append.1 hg with hg |hg
  ·exact .inl hg
  ·obtain⟨_,_,a3,a4,_⟩:=hws.o
   simp at hg
   exact .inr (by omega)
 have hX2:∀g∈X++ [g4,g5],g<W.heap.size:=fun g hg=>by
  rcases List.mem_append.1 hg with hg |hg
  ·exact Nat.lt_of_lt_of_le (hh.o.hX g hg) fW.size
  ·obtain⟨_,_,_,_,_,_,a3,a4,_⟩:=hws.o
   simp at hg
   omega
 have hX2h:=zh hX2
 have hLW:=zh (hh.o.hL.to fW.nil hX1)
 have hAW:RdX W (X++ [g4,g5]) 1 cA c.scope.length (strCells c.scope):=by
  have hd:RdX w X 1 cA c.scope.length (strCells c.scope):=⟨hch.o.hS,hcXh.o⟩
  exact hd.to (by decide) fW.nil hX1
 have hAWh:=zh hAW
 have hmay:=rmay17_t W c cA c.scope.length ck (hch.o.hS.fr fW (by simp [Off])) rfl hch.o.hl hch.o.hs hch.o.hf
 rw [hm.o]at hmay
 clear hP hR4 hR5 fW hX1 hX2 hAW
 go_wp2_with (refine wpList_load_at rfl 30 _ rfl rfl hC (sub_self _) uCmd rfl (by unfold cmdV;exact infoCmd) ?_;rw [Array.toArray_toList])
 refine Calls.mono (show Calls Tryz.prog 23 _ _ _ from hmay) ?_
 rintro e W2 ⟨rfl,F2⟩
 clear hmay hC
 have F2h:=zh F2
 have fw:=zh (fWh.o.trans F2)
 clear F2
 obtain⟨og,hog⟩:∃z,Hid (dGet c.family (l.map (·.f))=z):=⟨_,zh rfl⟩
 have hgok:=get_ok hh.o.ok c.family
 rw [←hh.o.hb,hog.o]at hgok
 have hgokh:=zh hgok
 have hget:=rget_t W2 (X++ [g4,g5]) A n c0 room l c.family (hLW.o.fr F2h.o.nil) (by have:=hh.o.hmax;omega)
 unfold GetPost at hget
 obtain⟨is,his⟩:∃z,Hid (og.isSome=z):=⟨_,zh rfl⟩
 rw [hog.o,his.o]at hget
 have hPv:=hPh.o.fr F2h.o (by simp)
 have hCv:=hCh.o.fr F2h.o (by simp)
 obtain⟨d0,d1,d2,d3,d4,d5,d6,d7,d8,d9,d10,d11,d12,hcl⟩:=cmdV_cells hCv
 clear d0 d2 d3 d4 d5 d6 d7 d8 d9 d10 d11 d12 hgok hCv
 go_wp2_with (refine wpList_load_at rfl 50 _ rfl rfl hPv (sub_self _) uRb rfl infoRbL ?_;rw [Array.toArray_toList])
 refine Calls.mono (show Calls Tryz.prog 32 _ _ _ from hget) ?_
 rintro e W3 ⟨y,rfl,hy,hyin,F3⟩
 unfold FA.val
 clear hget d1 hcl hPv
 go_upto_region 4 with(refine wpList_store_row rfl 39 _ _ rfl W3.heap.size y.cells rfl rfl 39 _ (Blk.new _ _ _) (infoFamA y) (by rw [FA.size11];rfl) (FA.all1 y) ?_)
 refine wp_gen (fun W=>Blk W W3.heap.size 39 y.cells∧Fr [] W3 W) ⟨Blk.setRow (Blk.new _ _ _) _,((Fr.refl [] W3).alloc _).setRow (.inr (Nat.le_refl _)) _⟩ ?_
 rintro W4 ⟨hB6,F4⟩
 obtain⟨g6,HG6⟩:∃z,Hid (W3.heap.size=z):=⟨_,zh rfl⟩
 rw [HG6.o]at hB6⊢
 have h6s:=zh (show W.heap.size≤g6 by have:=F2h.o.size;have:=F3.size;have:=HG6.o;omega)
 have hyin4:=zh (hyin.fr F4.nil)
 have hB6h:=zh hB6
 have F4h:=zh (F2h.o.trans (F3.trans F4))
 have fw4:=zh (fWh.o.trans F4h.o)
 have hyh:=zh hy
 have hys:=zh (fam_short (hyin4.o.mono (Y:= []) (by simp)) (by rw [hy];exact hgokh.o))
 obtain⟨d0,d1,d2,d3,d4,d5,d6,d7,d8,d9,d10,d11,d12,hcl⟩:=cmdV_cells (hCh.o.fr F4h.o (by simp))
 obtain⟨c0',c1,c2,c3,c4,c5,c6,c7,c8,c9,c10,hgl⟩:=fam_cells hB6
 rw [hk.o]at d0
 clear F3 F4 hyin hB6 hy c0' fw F2h
 cases is with
 |false=>
  obtain rfl:og=none:=by simpa using his.o
  go_upto_region 6 with(fail)
  go_upto_region 52 with(fail)
  go_upto_region 53 with(fail)
  go_upto_region 54 with(fail)
  have hres:=zh (show dDo room c (l.map (·.f))=(l.map (·.f),noA 0) by rw [dNone hm.o (by rw [hk.o];decide) (by rw [hk.o];decide) hog.o,if_neg (by rw [hk.o];decide)])
  obtain⟨hR4v,hR5v,hPv,hbk1,hbkh⟩:=rdo_pre (cb:=#[.slice A n c0,.int .i64 room]) hR4h.o hR5h.o hPh.o F4h.o hws.o.2.2.2.2.2.2.2.2.2.2.2.2
  go_wp2_with (first
   | (refine wpList_load_at rfl 50 _ rfl rfl hPv (sub_self _) uRb rfl infoRbL ?_;rw [Array.toArray_toList])
   | (refine wpList_store_row rfl 50 _ _ rfl g4 _ rfl rfl 50 _ hR4v infoRb (by rfl) (by kernel_rfl) ?_)
   | (refine wpList_store_row rfl 33 _ _ rfl g5 _ rfl rfl 33 za hbk1 infoAns hza (by kernel_rfl) ?_))
  refine bodyPost_ret (v:= .tuple #[.agg #[.slice A n c0,.int .i64 room],.agg #[.int .i64 0,.int .i64 0,.int .i64 0,.slice none 0 0,.string ⟨#[]⟩,.string ⟨#[]⟩,.bool false,.bool false]]) (results_cc (p:=4) (q:=5) rfl _ _ g4 g5 50 33 _ _ _ _ rfl (hbkh.o _).2.1 uRb rfl infoRb rfl (hbkh.o _).2.2 uAns rfl infoAns) rfl ?_
  rw [hres.o]
  exact rdo_end (r:=(l.map (·.f),noA 0)) (hLW.o.fr F4h.o.nil) rfl (RdX.nil _ _ _ _) fw4.o hws.o.2.2.1 hws.o.2.2.2.1 (ac:=0) rfl
 |true=>
  obtain⟨f,rfl⟩:=Option.isSome_iff_exists.1 his.o
  have hyf:=zh (show y.f=f from hyh.o)
  have hfok:=zh (get_some hh.o.ok (by rw [←hh.o.hb];exact hog.o))
  obtain⟨rv,hrv⟩:∃z,Hid (y.f.revoked=z):=⟨_,zh rfl⟩
  rw [hrv.o]at c9
  have hob:=toList_beq y.f.client c.client
  obtain⟨ow,how⟩:∃z,Hid (decide (y.f.client=c.client)=z):=⟨_,zh rfl⟩
  rw [how.o]at hob
  have hrf:=zh (show f.revoked=rv by rw [←hyf.o];exact hrv.o)
  have hof:=zh (show decide (f.client=c.client)=ow by rw [←hyf.o];exact how.o)
  go_upto_region 6 with(fail)
  go_upto_region 52 with(fail)
  go_upto_region 53 with(fail)
  cases rv with
  |true=>
   go_upto_region 54 with(fail)
   have hres:=zh (show dDo room c (l.map (·.f))=(l.map (·.f),noA 0) by rw [dk6 hm.o hk.o hog.o,if_pos (.inl hrf.o)])
   obtain⟨hR4v,hR5v,hPv,hbk1,hbkh⟩:=rdo_pre (cb:=#[.slice A n c0,.int .i64 room]) hR4h.o hR5h.o hPh.o F4h.o hws.o.2.2.2.2.2.2.2.2.2.2.2.2
   go_wp2_with (first
    | (refine wpList_load_at rfl 50 _ rfl rfl hPv (sub_self _) uRb rfl infoRbL ?_;rw [Array.toArray_toList])
    | (refine wpList_store_row rfl 50 _ _ rfl g4 _ rfl rfl 50 _ hR4v infoRb (by rfl) (by kernel_rfl) ?_)
    | (refine wpList_store_row rfl 33 _ _ rfl g5 _ rfl rfl 33 za hbk1 infoAns hza (by kernel_rfl) ?_))
   refine bodyPost_ret (v:= .tuple #[.agg #[.slice A n c0,.int .i64 room],.agg #[.int .i64 0,.int .i64 0,.int .i64 0,.slice none 0 0,.string ⟨#[]⟩,.string ⟨#[]⟩,.bool false,.bool false]]) (results_cc (p:=4) (q:=5) rfl _ _ g4 g5 50 33 _ _ _ _ rfl (hbkh.o _).2.1 uRb rfl infoRb rfl (hbkh.o _).2.2 uAns rfl infoAns) rfl ?_
   rw [hres.o]
   exact rdo_end (r:=(l.map (·.f),noA 0)) (hLW.o.fr F4h.o.nil) rfl (RdX.nil _ _ _ _) fw4.o hws.o.2.2.1 hws.o.2.2.2.1 (ac:=0) rfl
  |false=>
   by_cases htk:c.token=1
   ·have b1:(c.token==1)=true:=by rw [beq_iff_eq];exact htk
    have htkh:=zh htk
    clear htk
    go_upto_region 54 with(fail)
    have hres:=zh (show dDo room c (l.map (·.f))=(l.map (·.f),noA 0) by rw [dk6 hm.o hk.o hog.o,if_pos (.inr (.inl htkh.o))])
    obtain⟨hR4v,hR5v,hPv,hbk1,hbkh⟩:=rdo_pre (cb:=#[.slice A n c0,.int .i64 room]) hR4h.o hR5h.o hPh.o F4h.o hws.o.2.2.2.2.2.2.2.2.2.2.2.2
    go_wp2_with (first
     | (refine wpList_load_at rfl 50 _ rfl rfl hPv (sub_self _) uRb rfl infoRbL ?_;rw [Array.toArray_toList])
     | (refine wpList_store_row rfl 50 _ _ rfl g4 _ rfl rfl 50 _ hR4v infoRb (by rfl) (by kernel_rfl) ?_)
     | (refine wpList_store_row rfl 33 _ _ rfl g5 _ rfl rfl 33 za hbk1 infoAns hza (by kernel_rfl) ?_))
    refine bodyPost_ret (v:= .tuple #[.agg #[.slice A n c0,.int .i64 room],.agg #[.int .i64 0,.int .i64 0,.int .i64 0,.slice none 0 0,.string ⟨#[]⟩,.string ⟨#[]⟩,.bool false,.bool false]]) (results_cc (p:=4) (q:=5) rfl _ _ g4 g5 50 33 _ _ _ _ rfl (hbkh.o _).2.1 uRb rfl infoRb rfl (hbkh.o _).2.2 uAns rfl infoAns) rfl ?_
    rw [hres.o]
    exact rdo_end (r:=(l.map (·.f),noA 0)) (hLW.o.fr F4h.o.nil) rfl (RdX.nil _ _ _ _) fw4.o hws.o.2.2.1 hws.o.2.2.2.1 (ac:=0) rfl
   ·have b1:(c.token==1)=false:=by rw [beq_eq_false_iff_ne];exact htk
    have htkh:=zh htk
    have hmo:=zh (mayM_ok hm.o)
    have his5:=ris_t W4 y (hyin4.o.mono (by simp)) hys.o c.token c.serial hmo.o.serial.1 hmo.o.serial.2
    obtain⟨r,hr⟩:∃z,Hid (isM y.f c.token c.serial=z):=⟨_,zh rfl⟩
    rw [hr.o]at his5
    have hrr:=zh (show isM f c.token c.serial=r by rw [←hyf.o];exact hr.o)
    clear htk
    go_wp2_with (first
     | (refine wpList_load_want (by rfl) 39 _ rfl rfl hB6h.o (sub_self _) uFam rfl (infoFamL _) ?_;rw [Array.toArray_toList]))
    refine Calls.mono (show Calls Tryz.prog 90 _ _ _ from his5) ?_
    rintro e WI ⟨rfl,G⟩
    clear his5
    have hB6h:=zh (hB6h.o.fr G (by simp))
    have hyin4:=zh (hyin4.o.fr G.nil)
    have F4h:=zh (F4h.o.trans G)
    have fw4:=zh (fw4.o.trans G)
    clear d0 d1 d2 d3 d4 d5 d6 d7 d8 d9 d10 d11 d12 hcl c1 c2 c3 c4 c5 c6 c7 c8 c9 c10 hgl hob G b1
    cases r with
    |false=>
     go_upto_region 54 with(fail)
     have hres:=zh (show dDo room c (l.map (·.f))=(l.map (·.f),noA 0) by rw [dk6 hm.o hk.o hog.o,if_pos (.inr (.inr hrr.o))])
     obtain⟨hR4v,hR5v,hPv,hbk1,hbkh⟩:=rdo_pre (cb:=#[.slice A n c0,.int .i64 room]) hR4h.o hR5h.o hPh.o F4h.o hws.o.2.2.2.2.2.2.2.2.2.2.2.2
     go_wp2_with (first
      | (refine wpList_load_at rfl 50 _ rfl rfl hPv (sub_self _) uRb rfl infoRbL ?_;rw [Array.toArray_toList])
      | (refine wpList_store_row rfl 50 _ _ rfl g4 _ rfl rfl 50 _ hR4v infoRb (by rfl) (by kernel_rfl) ?_)
      | (refine wpList_store_row rfl 33 _ _ rfl g5 _ rfl rfl 33 za hbk1 infoAns hza (by kernel_rfl) ?_))
     refine bodyPost_ret (v:= .tuple #[.agg #[.slice A n c0,.int .i64 room],.agg #[.int .i64 0,.int .i64 0,.int .i64 0,.slice none 0 0,.string ⟨#[]⟩,.string ⟨#[]⟩,.bool false,.bool false]]) (results_cc (p:=4) (q:=5) rfl _ _ g4 g5 50 33 _ _ _ _ rfl (hbkh.o _).2.1 uRb rfl infoRb rfl (hbkh.o _).2.2 uAns rfl infoAns) rfl ?_
     rw [hres.o]
     exact rdo_end (r:=(l.map (·.f),noA 0)) (hLW.o.fr F4h.o.nil) rfl (RdX.nil _ _ _ _) fw4.o hws.o.2.2.1 hws.o.2.2.2.1 (ac:=0) rfl
    |true=>
     have hd1:=zh (show¬(f.revoked=true∨c.token=1∨isM f c.token c.serial=false) by rw [hrf.o,hrr.o];simp [htkh.o])
     obtain⟨t,ht3,i,hi,hilt,htl⟩:∃t:GTok,Hid (f.tokens[(c.serial - 1).toNat]? =some t)∧∃i:Nat,Hid (c.serial=i+1)∧Hid (i<f.tokens.length)∧Hid (f.tokens.length≤8):=by
      have h1:=hrr.o
      unfold isM at h1
      rw [if_neg htkh.o]at h1
      obtain⟨t,ht⟩:=Option.isSome_iff_exists.1 h1
      obtain⟨t1,t2,t3,_⟩:=tokM_some ht
      exact⟨t,zh t3,(c.serial - 1).toNat,zh (by omega),zh (by omega),zh hfok.o.tokens⟩
     have hit:=zh (show(c.serial - 1).toNat=i by have:=hi.o;omega)
     have hlenf:=zh (show y.ts.length=f.tokens.length by rw [hyin4.o.len,hyf.o])
     obtain⟨tn,htn⟩:∃q,Hid (f.tokens.length=q):=⟨_,zh rfl⟩
     have hlt':(i:Int)<tn:=by have:=hilt.o;have:=htn.o;omega
     have htn8:tn≤8:=by have:=htl.o;have:=htn.o;omega
     obtain⟨ta,tb,ob,eA,hti,htr⟩:=tok_at hyin4.o.toks.1 rfl (show i<y.ts.length by rw [hlenf.o];exact hilt.o)
     have htt:ta.tok=t:=by
      have h1:=ht3.o
      rw [hit.o,←hyf.o,←hyin4.o.ts,List.getElem?_map,hti]at h1
      exact Option.some.inj h1
     have u2:=htr 2 (.bool ta.tok.used) rfl
     rw [htt]at u2
     obtain⟨u,hu⟩:∃q,Hid (t.used=q):=⟨_,zh rfl⟩
     rw [hu.o]at u2
     have hu1:=zh (show World.cell? WI ⟨tb,ob+i*3+1,none⟩=some (.slice ta.A t.scope.length ta.c) by
      have:=htr 1 (.slice ta.A ta.tok.scope.length ta.c) rfl
      rw [htt]at this
      exact this)
     have htam:=zh (List.mem_of_getElem? hti)
     have htth:=zh htt
     have htoff:=zh (show tb≠g4∧tb≠g5 by
      have h1:=hyin4.o.toks.2 (by have:=hlenf.o;have:=hilt.o;omega) _ eA
      simp at h1
      exact⟨h1.2.1,h1.2.2⟩)
     have heA:=zh eA
     obtain⟨d0,d1,d2,d3,d4,d5,d6,d7,d8,d9,d10,d11,d12,hcl⟩:=cmdV_cells (hCh.o.fr F4h.o (by simp))
     obtain⟨c0',c1,c2,c3,c4,c5,c6,c7,c8,c9,c10,hgl⟩:=fam_cells hB6h.o
     rw [hi.o]at d2
     rw [eA,hlenf.o,htn.o]at c8
     have hwr:IntKind.i64.wrap ((i:Int)+1 - 1)=i:=by rw [IntKind.wrap_i64];omega
     clear d0 d1 d3 d4 d5 d6 d7 d8 d9 d10 d11 d12 c0' c1 c2 c3 c4 c5 c6 c7 c9 c10 eA hti htr htt
     cases u with
     |true=>
      go_upto_region 54 with(fail)
      have hres:=zh (show dDo room c (l.map (·.f))=(l.map (·.f),noA 0) by rw [dk6 hm.o hk.o hog.o,if_neg hd1.o,ht3.o];simp only;rw [if_pos hu.o])
      obtain⟨hR4v,hR5v,hPv,hbk1,hbkh⟩:=rdo_pre (cb:=#[.slice A n c0,.int .i64 room]) hR4h.o hR5h.o hPh.o F4h.o hws.o.2.2.2.2.2.2.2.2.2.2.2.2
      go_wp2_with (first
       | (refine wpList_load_at rfl 50 _ rfl rfl hPv (sub_self _) uRb rfl infoRbL ?_;rw [Array.toArray_toList])
       | (refine wpList_store_row rfl 50 _ _ rfl g4 _ rfl rfl 50 _ hR4v infoRb (by rfl) (by kernel_rfl) ?_)
       | (refine wpList_store_row rfl 33 _ _ rfl g5 _ rfl rfl 33 za hbk1 infoAns hza (by kernel_rfl) ?_))
      refine bodyPost_ret (v:= .tuple #[.agg #[.slice A n c0,.int .i64 room],.agg #[.int .i64 0,.int .i64 0,.int .i64 0,.slice none 0 0,.string ⟨#[]⟩,.string ⟨#[]⟩,.bool false,.bool false]]) (results_cc (p:=4) (q:=5) rfl _ _ g4 g5 50 33 _ _ _ _ rfl (hbkh.o _).2.1 uRb rfl infoRb rfl (hbkh.o _).2.2 uAns rfl infoAns) rfl ?_
      rw [hres.o]
      exact rdo_end (r:=(l.map (·.f),noA 0)) (hLW.o.fr F4h.o.nil) rfl (RdX.nil _ _ _ _) fw4.o hws.o.2.2.1 hws.o.2.2.2.1 (ac:=0) rfl
     |false=>
      have hown:=rown_t WI (X++ [g4,g5]) (fun g hg=>Nat.lt_of_lt_of_le (hX2h.o g hg) F4h.o.size) y (hyin4.o.mono (by simp)) hys.o
      go_upto_region 55 with(fail)
      go_wp2_with (first
       | (refine wpList_load_at rfl 39 _ rfl rfl hB6h.o (sub_self _) uFam rfl (infoFamL _) ?_;rw [Array.toArray_toList]))
      refine Calls.mono (show Calls Tryz.prog 87 _ _ _ from hown) ?_
      rintro e V ⟨z,rfl,hz,hzT,hzr,GV⟩
      unfold FA.val
      clear hown hzr u2 d2 hcl c8 hgl hwr hlt'
      go_upto_region 56 with(refine wpList_store_row rfl 39 _ _ rfl V.heap.size z.cells rfl rfl 39 _ (Blk.new _ _ _) (infoFamA z) (by rw [FA.size11];rfl) (FA.all1 z) ?_)
      refine wp_gen (fun W=>Blk W V.heap.size 39 z.cells∧Fr [] V W) ⟨Blk.setRow (Blk.new _ _ _) _,((Fr.refl [] V).alloc _).setRow (.inr (Nat.le_refl _)) _⟩ ?_
      rintro W5 ⟨hBz,F5⟩
      obtain⟨gz,HZ⟩:∃q,Hid (V.heap.size=q):=⟨_,zh rfl⟩
      rw [HZ.o]at hBz⊢
      have hzT5:=zh (hzT.more F5 (Y:= [gz]) (fun g hg=>by have:=HZ.o;simp at hg;omega))
      have hzh:=zh (hz.trans hyf.o)
      have hBzh:=zh hBz
      have FC5:=zh (GV.trans F5)
      have F5h:=zh (F4h.o.trans FC5.o)
      have fw5:=zh (fw4.o.trans FC5.o)
      have hza0:=zh (show g4≠gz∧g5≠gz∧w.heap.size≤gz∧W.heap.size≤gz∧(World.heap WI).size≤gz∧gz<W5.heap.size by
       have h1:=F4h.o.size
       have h2:=GV.size
       have:=HZ.o
       have:=hBz.lt
       obtain⟨b1,b2,b3,b4,a1,a2,a3,a4,_⟩:=hws.o
       exact⟨by omega,by omega,by omega,by omega,by omega,by omega⟩)
      clear hz hzT hBz GV F5
      obtain⟨ln,hln⟩:∃q,Hid (y.f.leases.length=q):=⟨_,zh rfl⟩
      have hlf:=zh (show y.f.leases=f.leases by rw [hyf.o])
      have hlnm:ln≤1000:=by have:=hys.o.leases;have:=hln.o;omega
      go_wp2_with fail
      go_loopg [18,19] 33 (fun gk s18 s19 wr=>∃(e k d:Nat) (B:Option Addr),s19= .int .i64 e∧s18= .slice B k d∧e≤32∧32 - e<gk∧k≤e∧(lmN c.edge f.leases e).length=k∧Own wr 3 1 (.slice B k d) k (intCells (lmN c.edge f.leases e))∧(∀g∈rowOf (.slice B k d),W5.heap.size≤g)∧Fr [] W5 wr)
      case atStart=>exact⟨0,0,0,none,rfl,rfl,by omega,by omega,by omega,rfl,Own.nil _ _ _,by simp [rowOf,Value.ownBlock],Fr.refl _ _⟩
      case round=>
       obtain⟨e,k,d,B,rfl,rfl,he,hke,hkk,hlen,hO,hfr,hF⟩:=hrel
       obtain⟨WO,hWO⟩:∃V:World,V=wr:=⟨_,rfl⟩
       subst hWO
       have hOh:=zh hO
       have hfrh:=zh hfr
       have hFh:=zh hF
       have hlenh:=zh hlen
       clear hO hfr hF hlen
       by_cases hlt:e<32
       ·have hlt':(e:Int)<32:=by omega
        have hlth:=zh hlt
        obtain⟨d0,d1,d2,d3,d4,d5,d6,d7,d8,d9,d10,d11,d12,hcl⟩:=cmdV_cells (hCh.o.fr (F5h.o.trans hFh.o) (by simp))
        obtain⟨c0',c1,c2,c3,c4,c5,c6,c7,c8,c9,c10,hgl⟩:=fam_cells (hB6h.o.fr (FC5.o.trans hFh.o) (by simp))
        rw [hln.o]at c10
        obtain⟨eb,heb⟩:∃q,Hid (decide ((e:Int)=c.edge)=q):=⟨_,zh rfl⟩
        have heb2:((e:Int)==c.edge)=eb:=by rw [←heb.o,Bool.beq_eq_decide_eq]
        have hrdl:=zh (hyin4.o.leases.1.fr (FC5.o.trans hFh.o) (by simp [Off]))
        clear hlt d0 d1 d2 d3 d4 d5 d6 d7 d8 d9 d10 d11 c0' c1 c2 c3 c4 c5 c6 c7 c8 c9
        obtain⟨ge,hge⟩:∃q,Hid (33 - e=q):=⟨_,zh rfl⟩
        go_wp2_with fail
        go_loopg [20,21] (ln+1) (fun gk s20 s21 wr=>∃(j:Nat) (hb:Bool),s21= .int .i64 j∧s20= .bool hb∧j≤ln∧ln - j<gk∧hb=(eb || (f.leases.take j).any fun x=>decide (x=(e:Int)))∧WO=wr)
        case atStart=>exact⟨0,eb,rfl,rfl,by omega,by omega,by simp,rfl⟩
        case round=>
         obtain⟨j,hb,rfl,rfl,hj,hkj,hbv,rfl⟩:=hrel
         have hbvh:=zh hbv
         clear hbv
         by_cases hjl:j<ln
         ·have hjl':(j:Int)<ln:=by omega
          have hjlh:=zh hjl
          have hjl2:j<y.f.leases.length:=by rw [hln.o];exact hjl
          obtain⟨lb,lo,eL,hcL⟩:=hrdl.o.2 (by omega)
          have hLx:=hcL j _ (intCells_at hjl2)
          obtain⟨x,hx⟩:∃q,Hid (y.f.leases[j]'hjl2=q):=⟨_,zh rfl⟩
          rw [hx.o]at hLx
          have hxs:=zh (show f.leases[j]? =some x by rw [←hlf.o,List.getElem?_eq_getElem hjl2,hx.o])
          obtain⟨xb,hxb⟩:∃q,Hid (decide (x=(e:Int))=q):=⟨_,zh rfl⟩
          have hxb2:(x==(e:Int))=xb:=by rw [←hxb.o,Bool.beq_eq_decide_eq]
          have hnb:=zh (show(hb ||xb)=(eb || (f.leases.take (j+1)).any fun x=>decide (x=(e:Int))) by rw [any_more hxs.o,hbvh.o,←hxb.o,Bool.or_assoc])
          rw [eL]at c10
          clear hcL eL hjl hx
          cases hb with
          |true=>
           go_wp2_with fail
           go_roundg (ln - j)
           case measure=>have:=hjlh.o;omega
           case rel=>exact⟨j+1,true,by go_num,rfl,by have:=hjlh.o;omega,by have:=hjlh.o;omega,hnb.o,rfl⟩
          |false=>
           go_wp2_with fail
           go_roundg (ln - j)
           case measure=>have:=hjlh.o;omega
           case rel=>exact⟨j+1,xb,by go_num,rfl,by have:=hjlh.o;omega,by have:=hjlh.o;omega,hnb.o,rfl⟩
         ·have hjg:¬(j:Int)<ln:=by omega
          have hb2:=zh (show lmN c.edge f.leases (e+1)=lmN c.edge f.leases e++if hb=true then [(e:Int)]else [] by
           rw [lmN_succ,hbvh.o,List.take_of_length_le (by rw [←hlf.o,hln.o];omega),heb.o])
          clear hjl hkj
          cases hb with
          |false=>
           have hb3:=zh (hb2.o.trans (List.append_nil _))
           go_wp2_with fail
           go_roundg (32 - e)
           case measure=>have:=hlth.o;omega
           case rel=>exact⟨e+1,k,d,B,by go_num,rfl,by have:=hlth.o;omega,by have:=hlth.o;omega,by omega,by rw [hb3.o];exact hlenh.o,by rw [hb3.o];exact hOh.o,hfrh.o,hFh.o⟩
          |true=>
           have hb3:Hid (lmN c.edge f.leases (e+1)=lmN c.edge f.leases e++ [(e:Int)]):=zh hb2.o
           have he32:e≤32:=he
           go_wp2_with (refine wpList_own_append tInts (hOh.o.fr ((Fr.refl [] _).alloc _) (by simp)) (int_new WO _ _) (intCells_one _) (by simp) (by unfold maxLen;omega) (by omega) rfl rfl rfl rfl (fun v2 w2 p1 p2 p3=> ?_);obtain⟨A3,c3,rfl,hA3⟩:=p1.form)
           go_roundg (32 - e)
           case measure=>have:=hlth.o;omega
           case rel=>
            refine⟨e+1,k+1,c3,A3,by go_num,rfl,by have:=hlth.o;omega,by have:=hlth.o;omega,by omega,by rw [hb3.o,List.length_append,hlenh.o];rfl,?_,?_,?_⟩
            ·rw [hb3.o,show intCells (lmN c.edge f.leases e++ [(e:Int)])=intCells (lmN c.edge f.leases e)++intCells [(e:Int)]from List.map_append]
             exact p1
            ·intro g hg
             rcases p3 g hg with h |h
             ·exact hfrh.o g h
             ·rw [h]
              have:=hFh.o.size
              simp
              omega
            ·exact(hFh.o.alloc _).andThen p2 (fun g hg=> .inr (hfrh.o g hg))
       ·obtain rfl:e=32:=by omega
        have hge:¬((32:Nat):Int)<32:=by omega
        have hzT5o:=hzT5.o
        have hzfo:=hzh.o
        obtain⟨⟨zid,zcl,zus,zsc,zre,zch,zme,zco,zto,zrv,zle⟩,zsA,zscc,ztA,ztc,zts,zlA,zlc⟩:=z
        have hBzo:=hBzh.o.fr hFh.o (by simp)
        rw [FA.cells_def]at hBzo
        dsimp only at hBzo
        have k10:=hBzo.cell 10
        have kz:=hBzo.frozen 10
        have kl:=hBzo.lt
        simp only [zG,zH,zI]at k10
        clear hBzh hzT5 hzh hlt hke
        go_upto_region 68 with(fail)
        have hB9:=hBzo.set 10 (.slice B k d)
        simp only [zD,zE,zF]at hB9
        have F9:Fr [gz] WO (WO.setCell ⟨gz,10,none⟩ (.slice B k d)):=(Fr.refl [gz] WO).setCell (p:=⟨gz,10,none⟩) (.inl (by simp)) _
        refine wp_gen (fun U=>Blk U gz 39 (FA.mk ⟨zid,zcl,zus,zsc,zre,zch,zme,zco,zto,zrv,lmN c.edge f.leases 32⟩ zsA zscc ztA ztc zts B d).cells∧Fr [gz] WO U) ⟨by rw [FA.cells_def];simp only [hlenh.o];exact hB9,F9⟩ ?_
        clear hB9 F9 k10 kz kl hBzo
        rintro W6 ⟨hB9,F9⟩
        obtain⟨h1,h2,h3,h4,h5⟩:=(((hzT5o.fr0 hFh.o).frX F9 (by simp)).fam).mono (Y:=X++ [g4,g5]) (fun g hg=>List.mem_append.2 (.inl hg))
        have hO6:=hOh.o.fr F9 (fun g hg hh=>by
         have h6:=hfrh.o g hg
         have h7:=hza0.o.2.2.2.2.2
         simp at hh
         omega)
        have hz6:FamIn W6 (X++ [g4,g5]) (FA.mk ⟨zid,zcl,zus,zsc,zre,zch,zme,zco,zto,zrv,lmN c.edge f.leases 32⟩ zsA zscc ztA ztc zts B d):=⟨h1,h2,h3,by
         refine⟨?_,fun _ ad e1 hg=> ?_⟩
         ·simp only [hlenh.o]
          exact hO6.rd
         ·have h6:=hfrh.o ad.block (rowOf_mem.2 ⟨ad,e1,rfl⟩)
          have h7:=hX2h.o _ hg
          have h8:=F5h.o.size
          omega,h5⟩
        obtain⟨z2,hz2⟩:∃q,Hid (FA.mk ⟨zid,zcl,zus,zsc,zre,zch,zme,zco,zto,zrv,lmN c.edge f.leases 32⟩ zsA zscc ztA ztc zts B d=q):=⟨_,zh rfl⟩
        have hz2f:=zh (show z2.f={f with leases:=leasesM c.edge f.leases} by
         rw [←hz2.o]
         have h:=hzfo
         subst h
         rfl)
        rw [hz2.o]at hz6 hB9
        have hzin:=zh hz6
        have hzs:=zh (fam_new_short hz6 hz2f.o (by have:=hfok.o.tokens;simp only;omega) (show f.scope.length≤1000 from fok_sc hfok.o) (by have:=lmN_le c.edge f.leases 32;show(lmN c.edge f.leases 32).length≤1000;omega) (fun t ht=>by have:=(setM_sizes (hfok.o.each t ht).set).1;omega))
        have FC6:=zh ((FC5.o.trans hFh.o).andThen F9 (fun g hg=> .inr (by simp at hg;rw [hg];exact hza0.o.2.2.2.2.1)))
        have F6h:=zh (F4h.o.trans FC6.o)
        have fw6:=zh (fw4.o.trans FC6.o)
        clear h1 h2 h3 h4 h5 hO6 hz6 hzT5o hzfo F9
        have hres:=zh (show dDo room c (l.map (·.f))=(dWith {f with leases:=leasesM c.edge f.leases} (l.map (·.f)),(⟨0,0,0,t.scope,f.client,f.user,true,false⟩:GAns)) by rw [dk6 hm.o hk.o hog.o,if_neg hd1.o,ht3.o];simp only;rw [if_neg (by rw [hu.o];decide)])
        have n6:g6≠g4∧g6≠g5:=by
         have:=h6s.o
         obtain⟨_,_,_,_,_,_,a3,a4,_⟩:=hws.o
         exact⟨by omega,by omega⟩
        have hwr:IntKind.i64.wrap ((i:Int)+1 - 1)=i:=by rw [IntKind.wrap_i64];have:=hilt.o;have:=htl.o;omega
        have hwr2:IntKind.i64.wrap (i:Int)=i:=by rw [IntKind.wrap_i64];have:=hilt.o;have:=htl.o;omega
        have hi0:(0:Int)≤i:=by omega
        have hlt':(i:Int)<tn:=by have:=hilt.o;have:=htn.o;omega
        have q1:=hPh.o.fr F6h.o (by simp)
        have hB6w:=hB6h.o.fr FC6.o (by simp)
        have q4:World.cell? W6 ⟨g6,8,none⟩=some (.slice (some ⟨tb,ob,none⟩) tn y.tc):=by
         have:=hB6w.cell 8
         rw [←heA.o,←htn.o,←hlenf.o]
         exact this
        have q5:World.cell? W6 ⟨g3,2,none⟩=some (.int .i64 ((i:Int)+1)):=by
         have:=(hCh.o.fr F6h.o (by simp)).cell 2
         rw [←hi.o]
         exact this
        have q6:=cell_fr FC6.o hu1.o
        have q7:World.cell? W6 ⟨g6,1,none⟩=some (.string f.client):=by rw [←hyf.o];exact hB6w.cell 1
        have q8:World.cell? W6 ⟨g6,2,none⟩=some (.string f.user):=by rw [←hyf.o];exact hB6w.cell 2
        have hSall:∀w',Fr [g4,g5] W6 w'→Blk w' g2 50 #[.slice A n c0,.int .i64 room]∧Blk w' gz 39 z2.cells∧w'.cell? ⟨g6,8,none⟩=some (.slice (some ⟨tb,ob,none⟩) tn y.tc)∧w'.cell? ⟨g3,2,none⟩=some (.int .i64 ((i:Int)+1))∧w'.cell? ⟨tb,ob+i*3+1,none⟩=some (.slice ta.A t.scope.length ta.c)∧w'.cell? ⟨g6,1,none⟩=some (.string f.client)∧w'.cell? ⟨g6,2,none⟩=some (.string f.user):=fun w' h=>
         ⟨q1.fr h (by simp;exact⟨hws.o.2.2.2.2.2.2.2.2.1,hws.o.2.2.2.2.2.2.2.2.2.1⟩),hB9.fr h (by simp;exact⟨fun h=>hza0.o.1 h.symm,fun h=>hza0.o.2.1 h.symm⟩),(h.cell (p:=⟨g6,8,none⟩) (block_lt_of_cell q4) (by simp;exact n6)).trans q4,
          (h.cell (p:=⟨g3,2,none⟩) (block_lt_of_cell q5) (by simp;exact⟨hws.o.2.2.2.2.2.2.2.2.2.2.1,hws.o.2.2.2.2.2.2.2.2.2.2.2.1⟩)).trans q5,(h.cell (p:=⟨tb,ob+i*3+1,none⟩) (block_lt_of_cell q6) (by simp;exact htoff.o)).trans q6,
          (h.cell (p:=⟨g6,1,none⟩) (block_lt_of_cell q7) (by simp;exact n6)).trans q7,(h.cell (p:=⟨g6,2,none⟩) (block_lt_of_cell q8) (by simp;exact n6)).trans q8⟩
        have hSallh:=zh hSall
        have hR4v:=hR4h.o.fr F6h.o (by simp)
        have hR5v:=hR5h.o.fr F6h.o (by simp)
        have hwith:=rwith_t (World.drew W6) (X++ [g4,g5]) A n c0 room l z2 ((hLW.o.fr F6h.o.nil).fr ((Fr.refl _ _).drew)) (hzin.o.fr ((Fr.refl _ _).drew)) hzs.o (fun g hg=>Nat.lt_of_lt_of_le (hX2h.o g hg) F6h.o.size) hh.o.hmax
        rw [hz2f.o]at hwith
        have hansh:=zh (show RdX W6 (X++ [g4,g5]) 1 ta.A t.scope.length (strCells t.scope) by
         have:=(hyin4.o.each ta htam.o).fr FC6.o.nil
         rwa [htth.o]at this)
        clear q1 q4 q5 q6 q7 q8 hSall hB9 hB6w n6 hge
        refine wp_region_z (fun w'=>Blk w' g2 50 #[.slice A n c0,.int .i64 room]∧Blk w' gz 39 z2.cells∧w'.cell? ⟨g6,8,none⟩=some (.slice (some ⟨tb,ob,none⟩) tn y.tc)∧w'.cell? ⟨g3,2,none⟩=some (.int .i64 ((i:Int)+1))∧w'.cell? ⟨tb,ob+i*3+1,none⟩=some (.slice ta.A t.scope.length ta.c)∧w'.cell? ⟨g6,1,none⟩=some (.string f.client)∧w'.cell? ⟨g6,2,none⟩=some (.string f.user)) [] (by kernel_rfl) (hSallh.o _ ((Fr.refl _ _).drew)) ?_
        intro hHeld
        refine wpZ_take (i:=0) rfl (by kernel_rfl) (by kernel_rfl) (by kernel_rfl) (by kernel_rfl) (fun _ _ _ h=>h) (yieldsIf_load_mid (by kernel_rfl) 50 _ rfl g2 0 rfl ([.slice A n c0,.int .i64 room]) _ (fun w h=>range_cells h.1) uRb rfl (by kernel_rfl)) hHeld ?_
        try simp only [zA,zC,Act.put,zD,zE,zF]
        refine wpZ_take (i:=1) rfl (by kernel_rfl) (by kernel_rfl) (by kernel_rfl) (by kernel_rfl) (fun _ _ _ h=>h) (yieldsIf_load_mid (by kernel_rfl) 39 _ rfl gz 0 rfl (z2.cells.toList) _ (fun w h=>range_cells h.2.1) uFam rfl (infoFamL _)) hHeld ?_
        try simp only [zA,zB,zC,Act.put,zD,zE,zF]
        refine wpZ_tk (i:=3) (v:= ?_) hHeld ?_ ?_
        rotate_left
        ·(intro w hSw;go_simp<;>with_reducible rfl)
        try simp only [zA,zB,zC,Act.put,zD,zE,zF]
        refine wpZ_tk (i:=4) (v:= ?_) hHeld ?_ ?_
        rotate_left
        ·(intro w hSw;go_simp<;>with_reducible rfl)
        try simp only [zA,zB,zC,Act.put,zD,zE,zF]
        refine wpZ_tk (i:=5) (v:= ?_) hHeld ?_ ?_
        rotate_left
        ·(intro w hSw;go_simp<;>with_reducible rfl)
        try simp only [zA,zB,zC,Act.put,zD,zE,zF]
        refine wpZ_tk (i:=6) (v:= ?_) hHeld ?_ ?_
        rotate_left
        ·(intro w hSw;go_simp<;>with_reducible rfl)
        try simp only [zA,zB,zC,Act.put,zD,zE,zF]
        refine wpZ_tk (i:=7) (v:= ?_) hHeld ?_ ?_
        rotate_left
        ·(intro w hSw;go_simp<;>with_reducible rfl)
        try simp only [zA,zB,zC,Act.put,zD,zE,zF]
        refine wpZ_tk (i:=8) (v:= ?_) hHeld ?_ ?_
        rotate_left
        ·(intro w hSw;go_simp<;>with_reducible rfl)
        try simp only [zA,zB,zC,Act.put,zD,zE,zF]
        refine wpZ_tk (i:=9) (v:= ?_) hHeld ?_ ?_
        rotate_left
        ·(intro w hSw;go_simp<;>with_reducible rfl)
        try simp only [zA,zB,zC,Act.put,zD,zE,zF]
        refine wpZ_tk (i:=10) (v:= ?_) hHeld ?_ ?_
        rotate_left
        ·(intro w hSw;go_simp<;>with_reducible rfl)
        try simp only [zA,zB,zC,Act.put,zD,zE,zF]
        refine wpZ_tk (i:=11) (v:= ?_) hHeld ?_ ?_
        rotate_left
        ·(intro w hSw;go_simp<;>with_reducible rfl)
        try simp only [zA,zB,zC,Act.put,zD,zE,zF]
        refine wpZ_tk (i:=12) (v:= ?_) hHeld ?_ ?_
        rotate_left
        ·(intro w hSw;go_simp<;>with_reducible rfl)
        try simp only [zA,zB,zC,Act.put,zD,zE,zF]
        refine wpZ_tk (i:=13) (v:= ?_) hHeld ?_ ?_
        rotate_left
        ·(intro w hSw;go_simp<;>with_reducible rfl)
        try simp only [zA,zB,zC,Act.put,zD,zE,zF]
        refine wpZ_tk (i:=14) (v:= ?_) hHeld ?_ ?_
        rotate_left
        ·(intro w hSw;go_simp<;>with_reducible rfl)
        try simp only [zA,zB,zC,Act.put,zD,zE,zF]
        refine wpZ_tk (i:=15) (v:= ?_) hHeld ?_ ?_
        rotate_left
        ·(intro w hSw;go_simp<;>with_reducible rfl)
        try simp only [zA,zB,zC,Act.put,zD,zE,zF]
        refine wpZ_one (i:=2) (by kernel_rfl) rfl (fun K hK=> ?_)
        go_simp
        refine Calls.mono (show Calls Tryz.prog 35 _ _ _ from hwith) ?_
        rintro e V9 ⟨A1,c1x,l1,rfl,hl1,hm1,G9⟩
        have G9:Fr [] W6 V9:=G9.of_drew
        have hbk:=fun cs=>rdo_blks (V:=V9) (cb:=#[.slice A1 l1.length c1x,.int .i64 room]) (cs:=cs) (hR4v.fr G9 (by simp)) (hR5v.fr G9 (by simp)) hws.o.2.2.2.2.2.2.2.2.2.2.2.2
        have hR4w:=hR4v.fr G9 (by simp)
        have G10:Fr [g4,g5] W6 (V9.setRow g4 #[.slice A1 l1.length c1x,.int .i64 room]):=(G9.nil).setRow (.inl (by simp)) _
        have G11:=fun cs=>G10.setRow (g:=g5) (.inl (by simp)) cs
        try dsimp only
        refine hK.out _ _ (hSallh.o _ G9.nil) (fun hHeld=> ?_)
        clear hK K
        try simp only [zA,zB,zC,Act.put,zD,zE,zF]
        refine wpZ_one (i:=16) (by kernel_rfl) rfl (fun K hK=> ?_)
        rw [if_pos (wanted_none rfl)]
        refine wp_store_row 50 _ _ rfl g4 _ rfl rfl 50 _ hR4w infoRb (by kernel_rfl) (by kernel_rfl) ?_
        show K (Act.put _ none undef) _
        refine hK.out _ _ (hSallh.o _ G10) (fun hHeld=> ?_)
        clear hK K
        try simp only [Act.put]
        refine wpZ_one (i:=17) (by kernel_rfl) rfl (fun K hK=> ?_)
        rw [if_pos (wanted_none rfl)]
        refine wp_store_row 33 _ _ rfl g5 _ rfl rfl 33 za (hbk #[]).1 infoAns hza (by kernel_rfl) ?_
        show K (Act.put _ none undef) _
        refine hK.out _ _ (hSallh.o _ (G11 _)) (fun hHeld=> ?_)
        clear hK K
        try simp only [Act.put]
        refine wpZ_done (by kernel_rfl) ?_ _
        go_wp2_with fail
        refine bodyPost_ret (v:= .tuple #[.agg #[.slice A1 l1.length c1x,.int .i64 room],.agg #[.int .i64 0,.int .i64 0,.int .i64 0,.slice ta.A t.scope.length ta.c,.string f.client,.string f.user,.bool true,.bool false]]) (results_cc (p:=4) (q:=5) rfl _ _ g4 g5 50 33 _ _ _ _ rfl (hbk _).2.1 uRb rfl infoRb rfl (hbk _).2.2 uAns rfl infoAns) rfl ?_
        rw [hres.o]
        exact rdo_end (r:=(dWith {f with leases:=leasesM c.edge f.leases} (l.map (·.f)),(⟨0,0,0,t.scope,f.client,f.user,true,false⟩:GAns))) hl1 hm1 (show RdX V9 (X++ [g4,g5]) 1 ta.A t.scope.length (strCells t.scope)from hansh.o.fr G9.nil) (fw6.o.trans G9) hws.o.2.2.1 hws.o.2.2.2.1 (aA:=ta.A) (ac:=ta.c) rfl
end Go.Proofs.YtdeoinjjphdbmaaGreat
