/- A book's example: values. -/
import Derived.Test.YtpmgepijkhaonaaGreatLr
import Derived.Test.YtpmgepijkhaonaaGreatHm
import Derived.Test.YtpmgepijkhaonaaGreatTq
import Derived.Stop.BytesEq
namespace Go.Proofs.YtpmgepijkhaonaaGreat
open Go.RowKit Go.Sig
def opV (o:GOp) (A:Option Addr) (n d:Nat):Array Value:=#[.int .i64 o.edge,.int .i64 o.seq,.int .i64 o.low,.int .i64 o.c.kind,.string o.c.family,.int .i64 o.c.serial,.int .i64 o.c.token,.string o.c.client,.string o.c.user,.slice A n d,.string o.c.redirect,.string o.c.challenge,.string o.c.method,.string o.c.verifier,.bool o.c.refresh,.int .i64 o.c.edge]
theorem opV_cmd (o:GOp) (A:Option Addr) (n d:Nat):∀j v,(cmdV o.c A n d)[j]? =some v→(opV o A n d)[3+j]? =some v:=fun j v h=>by
 have e:opV o A n d=#[.int .i64 o.edge,.int .i64 o.seq,.int .i64 o.low]++cmdV o.c A n d:=rfl;rw [e,Array.getElem?_append_right (by simp)];simpa using h
theorem uOp:Tryz.prog.underlying 72=some (.struct (Tryz.prog.fieldsOf 72)):=by kernel_rfl
theorem opMay_a {o:GOp}(h:o.edge<0∨32≤o.edge∨o.seq<0∨1099511627776<o.seq∨o.low<0∨o.seq<o.low∨mayM o.c=false):opMay o=false:=by
 unfold opMay;rcases h with h |h |h |h |h |h |h<;>simp [h]
theorem opMay_b {o:GOp}(h:¬(o.edge<0∨32≤o.edge∨o.seq<0∨1099511627776<o.seq∨o.low<0∨o.seq<o.low∨mayM o.c=false)):opMay o=if o.seq=0 then decide (o.c.kind=7)&&decide (o.edge=0)else !decide (o.c.kind=7):=by
 simp only [not_or]at h;obtain⟨h1,h2,h3,h4,h5,h6,h7⟩:=h;unfold opMay;simp [h1,h2,h3,h4,h5,h6,h7]
set_option maxRecDepth 100000 in
set_option maxHeartbeats 8000000 in
theorem bMay_t (w:World) (o:GOp) (A:Option Addr) (n d:Nat) (hc:CmdIn w o.c A n):Calls Tryz.prog 75 #[.agg (opV o A n d)] w fun e w'=>e= .returned (.bool (opMay o))∧Fr [] w w':=by
 have hch:=zh hc;obtain⟨ed,hed⟩:∃z,Hid (o.edge=z):=⟨_,zh rfl⟩
 obtain⟨sq,hsq⟩:∃z,Hid (o.seq=z):=⟨_,zh rfl⟩
 obtain⟨lo,hlo⟩:∃z,Hid (o.low=z):=⟨_,zh rfl⟩
 obtain⟨kd,hkd⟩:∃z,Hid (o.c.kind=z):=⟨_,zh rfl⟩
 clear hc;go_enter Tryz.func75,Tryz.ntmps75;go_upto_region 1 with(fail)
 refine wp_gen (fun W=>Blk W w.heap.size 72 (opV o A n d)∧Fr [] w W) ⟨Blk.new _ _ _,(Fr.refl _ _).alloc _⟩ ?_;rintro W ⟨hB,fW⟩;obtain⟨g,HG⟩:∃z,Hid (w.heap.size=z):=⟨_,zh rfl⟩
 rw [HG.o]at hB⊢;have c0:=hB.cell 0;have c1:=hB.cell 1;have c2:=hB.cell 2;have c3:=hB.cell 3;unfold opV at c0 c1 c2 c3;simp only [zG,zH,zI]at c0 c1 c2 c3;rw [hed.o]at c0;rw [hsq.o]at c1;rw [hlo.o]at c2;rw [hkd.o]at c3;have hgl:=hB.lt;have hcc:∀j v,(cmdV o.c A n d)[j]? =some v→W.cell? ⟨g,3+j,none⟩=some v:=fun j v h=>by rw [hB.cell];exact opV_cmd o A n d j v h
 have fWh:=zh fW;have hm:=may_t W o.c A n d (hch.o.hS.fr fW (by simp [Off])) hch.o.hn hch.o.hl hch.o.hs hch.o.hf;have hBh:=zh hB;clear fW hB;by_cases h1:ed<0
 ·have hr:=zh (opMay_a (o:=o) (by rw [hed.o];exact .inl h1));clear hm hcc;go_wp2_with fail
  go_ret;exact⟨ret_bool hr.o.symm,fWh.o⟩
 have h1h:=zh h1;by_cases h2:32≤ed
 ·have hr:=zh (opMay_a (o:=o) (by rw [hed.o];exact .inr (.inl h2)));clear hm hcc;go_wp2_with fail
  go_ret;exact⟨ret_bool hr.o.symm,fWh.o⟩
 have h2h:=zh h2;by_cases h3:sq<0
 ·have hr:=zh (opMay_a (o:=o) (by rw [hsq.o];exact .inr (.inr (.inl h3))));clear hm hcc;go_wp2_with fail
  go_ret;exact⟨ret_bool hr.o.symm,fWh.o⟩
 have h3h:=zh h3;by_cases h4:1099511627776<sq
 ·have hr:=zh (opMay_a (o:=o) (by rw [hsq.o];exact .inr (.inr (.inr (.inl h4)))));clear hm hcc;go_wp2_with fail
  go_ret;exact⟨ret_bool hr.o.symm,fWh.o⟩
 have h4h:=zh h4;by_cases h5:lo<0
 ·have hr:=zh (opMay_a (o:=o) (by rw [hlo.o];exact .inr (.inr (.inr (.inr (.inl h5))))));clear hm hcc;go_wp2_with fail
  go_ret;exact⟨ret_bool hr.o.symm,fWh.o⟩
 have h5h:=zh h5;by_cases h6:sq<lo
 ·have hr:=zh (opMay_a (o:=o) (by rw [hsq.o,hlo.o];exact .inr (.inr (.inr (.inr (.inr (.inl h6)))))));clear hm hcc;go_wp2_with fail
  go_ret;exact⟨ret_bool hr.o.symm,fWh.o⟩
 have h6h:=zh h6;obtain⟨m,hmm⟩:∃z,Hid (mayM o.c=z):=⟨_,zh rfl⟩
 rw [hmm.o]at hm;go_wp2_with (refine wpList_load_if (by rfl) 70 _ rfl rfl hcc uCmd rfl infoCmd ?_)
 refine Calls.mono (show Calls Tryz.prog 125 _ _ _ from hm) ?_;rintro e W2 ⟨rfl,F2⟩;have d1:=cell_fr F2 c1;have d0:=cell_fr F2 c0;have d3:=cell_fr F2 c3;clear hm c0 c1 c2 c3 hcc;have hgl2:=(hBh.o.fr F2 (by simp)).lt;have FF:=zh (fWh.o.trans F2);clear F2;cases m with
 |false=>
  have hr:=zh (opMay_a (o:=o) (by rw [hmm.o];simp));go_wp2_with fail
  go_ret;exact⟨ret_bool hr.o.symm,FF.o⟩
 |true=>
  have hb:=opMay_b (o:=o) (by rw [hed.o,hsq.o,hlo.o,hmm.o];simp only [not_or];have a1:=h1h.o;have a2:=h2h.o;have a3:=h3h.o;have a4:=h4h.o;have a5:=h5h.o;have a6:=h6h.o;refine⟨by omega,by omega,by omega,by omega,by omega,by omega,by simp⟩);rw [hsq.o,hkd.o,hed.o]at hb;have hbh:=zh hb;clear hb h1 h2 h3 h4 h5 h6;by_cases h0:sq=0
  ·subst h0;by_cases hk:kd=7
   ·subst hk;go_wp2_with fail
    go_ret;exact⟨ret_bool (by rw [hbh.o];by_cases h:ed=0<;>simp [h]),FF.o⟩
   ·have hkh:=zh hk;go_wp2_with fail
    go_ret;exact⟨ret_bool (by rw [hbh.o];simp [hkh.o]),FF.o⟩
  ·have h0h:=zh h0;go_wp2_with fail
   go_ret;exact⟨ret_bool (by rw [hbh.o,if_neg h0h.o];by_cases h:kd=7<;>simp [h]),FF.o⟩
end Go.Proofs.YtpmgepijkhaonaaGreat
namespace Go.Proofs.YtpmgepijkhaonaaGreat
open Go.RowKit Go.Sig
theorem uMie:Tryz.prog.underlying 122=some (.map 3 128):=by kernel_rfl
theorem kInt:KeyOk Tryz.prog 3 (Value.int .i64):=keyOk_int (by kernel_rfl)
theorem infoOp (o:GOp) (A:Option Addr) (n d:Nat):(Tryz.prog.info? 72).map (·.size)=some (opV o A n d).size:=by unfold opV;kernel_rfl
def BDoPost (w:World) (pb p mb t me:Nat) (room:Int) (X:List Nat) (s:BkS) (o:GOp) (e:Ending) (w':World):Prop:=
 ∃y:AA,e= .returned y.val∧y.a=(bookDo room o s).2∧AnsIn w' w.heap.size y∧BkAt w' pb p mb t me room (X++rowOf y.slice) (bookDo room o s).1∧Fr [mb,t,me] w w'
theorem bdo_no {w w':World}{pb p mb t me:Nat}{room:Int}{X:List Nat}{s:BkS}{o:GOp}{k:Int}(h:BkAt w pb p mb t me room X s) (hF:Fr [] w w') (hr:bookDo room o s=(s,noA k)):BDoPost w pb p mb t me room X s o (.returned (.agg #[.int .i64 k,.int .i64 0,.int .i64 0,.slice none 0 0,.string ⟨#[]⟩,.string ⟨#[]⟩,.bool false,.bool false])) w':=by
 refine⟨⟨noA k,none,0⟩,rfl,by rw [hr],⟨Own.nil _ _ _,fun ad e=>by cases e⟩,?_,hF.nil⟩;rw [hr];have e:X++rowOf (AA.slice ⟨noA k,none,0⟩)=X:=List.append_nil _;rw [e];exact h.fr0 hF
theorem bookDo_a {room:Int}{o:GOp}{s:BkS}(h:opMay o=false):bookDo room o s=(s,noA 1):=by unfold bookDo;rw [if_pos h]
theorem bookDo_0 {room:Int}{o:GOp}{s:BkS}(h:opMay o=true) (h0:o.seq=0):bookDo room o s=(⟨(doM room o.c s.g).1,s.edges⟩,(doM room o.c s.g).2):=by unfold bookDo;rw [if_neg (by simp [h]),if_pos h0]
theorem bookDo_c {room:Int}{o:GOp}{s:BkS}(h:opMay o=true) (h0:o.seq≠0) {c:GCall}(hf:(edgeOf o.edge s).calls.find? (fun c=>decide (c.seq=o.seq))=some c):bookDo room o s=(s,c.ans):=by unfold bookDo;rw [if_neg (by simp [h]),if_neg h0,hf]
theorem bookDo_n {room:Int}{o:GOp}{s:BkS}(h:opMay o=true) (h0:o.seq≠0) (hf:(edgeOf o.edge s).calls.find? (fun c=>decide (c.seq=o.seq))=none):bookDo room o s=
  if o.seq<(edgeOf o.edge s).low then(s,noA 1)
  else if 8≤(keepC (max (edgeOf o.edge s).low o.low) (edgeOf o.edge s).calls).length then(s,noA 7)
  else(⟨(doM room o.c s.g).1,aset o.edge ⟨max (edgeOf o.edge s).low o.low,insC ⟨o.edge,o.seq,(doM room o.c s.g).2⟩ (keepC (max (edgeOf o.edge s).low o.low) (edgeOf o.edge s).calls)⟩ s.edges⟩,(doM room o.c s.g).2):=by unfold bookDo;rw [if_neg (by simp [h]),if_neg h0,hf]
theorem bk_out {w W:World}{pb p mb t me:Nat}{room:Int}{X Y Z:List Nat}{s s':BkS}(h:BkAt W pb p mb t me room ((X++Y)++Z) s') (hX:BkAt w pb p mb t me room X s):BkAt W pb p mb t me room (X++Z) s':=
 h.mono (fun _g hg=>(List.mem_append.1 hg).elim (fun hg=>List.mem_append.2 (.inl (List.mem_append.2 (.inl hg)))) (fun hg=>List.mem_append.2 (.inr hg))) (List.mem_append.2 (.inl hX.hg.hmb)) (List.mem_append.2 (.inl hX.tX)) (List.mem_append.2 (.inl hX.mX))
theorem BkAt.low {w:World}{pb p mb t me:Nat}{room:Int}{X:List Nat}{s:BkS}(h:BkAt w pb p mb t me room X s):∀z∈ [pb,p,mb,t,me],z<w.heap.size:=fun z hz=>by
 simp only [List.mem_cons,List.not_mem_nil,or_false]at hz;rcases hz with rfl |rfl |rfl |rfl |rfl
 ·exact h.hp.lt
 ·exact h.hg.hp.lt
 ·exact h.hg.hb.lt
 ·exact h.hg.hX _ h.tX
 ·exact h.hg.hX _ h.mX
theorem BkAt.new {w:World}{pb p mb t me g:Nat}{room:Int}{X:List Nat}{s:BkS}(h:BkAt w pb p mb t me room X s) (hg:w.heap.size≤g):∀z∈ [pb,p,mb,t,me],z∉ [g]:=fun z hz hm=>by
 have:=h.low z hz;have:=List.mem_singleton.1 hm;omega
theorem two_three {a b c:Nat}:∀i∈ [a,b],i∈ [a,b,c]:=fun i hi=>by
 simp only [List.mem_cons,List.not_mem_nil,or_false]at hi⊢;exact hi.imp id .inl
def EA.arr (x:EA):Array Value:=#[.int .i64 x.low,.slice x.A x.l.length x.c]
theorem infoEdge (x:EA):(Tryz.prog.info? 128).map (·.size)=some x.arr.size:=by unfold EA.arr;kernel_rfl
theorem EA.one (x:EA):x.arr.all (·.oneCell')=true:=by unfold EA.arr;kernel_rfl
theorem edge_at {w:World}{X:List Nat}{s:BkS}{l:List (Int×EA)}{ed:Int}(h2:l.map (fun p=>(p.1,p.2.e))=s.edges) (h3:∀p∈l,CallsIn w X p.2.A p.2.l):((aget ed l).getD zeroEA).e=edgeOf ed s∧CallsIn w X ((aget ed l).getD zeroEA).A ((aget ed l).getD zeroEA).l:=by
 unfold edgeOf;rw [←h2,aget_ea];cases hag:aget ed l with
 |none=>exact⟨rfl,CallsIn.nil _ _⟩
 |some z=>exact⟨rfl,h3 _ (mem_of_aget hag)⟩
theorem infoAAL (y:AA):(Tryz.prog.info? 67).map (·.size)=some y.cells.toList.length:=by rw [Array.length_toList];exact infoAA y
theorem call_new (w:World) (x:KA) (ty:TypeId):Rd (w.alloc (.cells x.arr ty)) 10 (some ⟨w.heap.size,0,none⟩) 1 (callCells [x]):=by
 refine⟨rfl,fun _=>⟨_,0,rfl,fun j u hu=> ?_⟩⟩;rw [(Blk.new w ty _).cell,Nat.zero_add,←Array.getElem?_toList];have e:callCells [x]=x.arr.toList:=List.append_nil _;rw [←e];exact hu
theorem range_cells' {w:World}{g:Nat}{t:TypeId}{cs:Array Value}(h:Blk w g t cs):w.rangeAt g 0 cs.toList:=fun j v hv=>by
 rw [h.cell,Nat.zero_add,←Array.getElem?_toList];exact hv
theorem mem_of_aset {k:Int}{x:EA}{p:Int×EA}:∀{l:List (Int×EA)},p∈aset k x l→p=(k,x)∨p∈l
 | [],h=> .inl (by simpa [aset]using h)
 | (a,y)::l,h=>by
  rw [aset]at h;split at h
  ·rcases List.mem_cons.1 h with h |h
   ·exact .inl h
   ·exact .inr (List.mem_cons.2 (.inr h))
  ·rcases List.mem_cons.1 h with h |h
   ·exact .inr (List.mem_cons.2 (.inl h))
   ·exact(mem_of_aset h).imp id fun h=>List.mem_cons.2 (.inr h)
theorem find_k {l:List KA}{i:Nat}{q:Int}(hi:i<l.length) (h1:l[i].k.seq=q) (h2:∀y∈l.take i,y.k.seq≠q):(l.map (·.k)).find? (fun c=>decide (c.seq=q))=some l[i].k:=by
 have e:l=l.take i++l[i]::l.drop (i+1):=by rw [List.getElem_cons_drop,List.take_append_drop]
 have h3:((l.take i).map (·.k)).find? (fun c=>decide (c.seq=q))=none:=List.find?_eq_none.2 fun c hc=>by obtain⟨y,hy,rfl⟩:=List.mem_map.1 hc;simpa using h2 y hy
 conv=>lhs;rw [e]
 rw [List.map_append,List.find?_append,h3,List.map_cons,List.find?_cons_of_pos (by simpa using h1)];rfl
theorem find_n {l:List KA}{q:Int}(h2:∀y∈l,y.k.seq≠q):(l.map (·.k)).find? (fun c=>decide (c.seq=q))=none:=List.find?_eq_none.2 fun c hc=>by
 obtain⟨y,hy,rfl⟩:=List.mem_map.1 hc;simpa using h2 y hy
def KA.aa (y:KA):AA:=⟨y.k.ans,y.A,y.c⟩
theorem KA.aa_at (y:KA):∀j v,y.aa.cells[j]? =some v→y.arr[2+j]? =some v:=fun j v h=>by
 have e:y.arr=#[.int .i64 y.k.edge,.int .i64 y.k.seq]++y.aa.cells:=rfl;rw [e,Array.getElem?_append_right (by simp)];simpa using h
set_option maxRecDepth 100000 in
set_option maxHeartbeats 8000000 in
theorem bop_t (w:World) (pb p mb t me:Nat) (room:Int) (X:List Nat) (s:BkS) (o:GOp) (A:Option Addr) (n d:Nat) (h:BkAt w pb p mb t me room X s) (hc:CmdIn w o.c A n):
  Calls Tryz.prog 20 #[.pointer (some ⟨pb,0,none⟩),.agg (opV o A n d)] w (BDoPost w pb p mb t me room X s o):=by
 have hh:=zh h;have hch:=zh hc;obtain⟨ed,hed⟩:∃z,Hid (o.edge=z):=⟨_,zh rfl⟩
 obtain⟨sq,hsq⟩:∃z,Hid (o.seq=z):=⟨_,zh rfl⟩
 obtain⟨lo,hlo⟩:∃z,Hid (o.low=z):=⟨_,zh rfl⟩
 have hzs:∃zs:Array Value,zs.size=8∧Hid (zs=(zeroAA).cells):=⟨_,rfl,zh rfl⟩
 obtain⟨zs,hz,hzh⟩:=hzs;have hz8:=zh hz;clear h hc;go_enter Tryz.func20,Tryz.ntmps20;go_upto_region 1 with(fail)
 refine wp_gen (fun W=>Blk W w.heap.size 72 (opV o A n d)∧Blk W (w.heap.size+1) 67 zs∧Fr [] w W) ⟨(Blk.new _ _ _).alloc _,by rw [hzh.o];exact Blk.new' _ _ (by simp),((Fr.refl _ _).alloc _).alloc _⟩ ?_;rintro W0 ⟨hB,hR,f0⟩;obtain⟨gc,HGC⟩:∃z,Hid (w.heap.size=z):=⟨_,zh rfl⟩
 rw [HGC.o]at hB hR⊢;obtain⟨gr,HGR⟩:∃z,Hid (gc+1=z):=⟨_,zh rfl⟩
 rw [HGR.o]at hR⊢;have hm:=bMay_t W0 o A n d (hch.o.fr f0 (by simp [Off]));obtain⟨m,hmm⟩:∃z,Hid (opMay o=z):=⟨_,zh rfl⟩
 rw [hmm.o]at hm;have hBh:=zh hB;have f0h:=zh f0;clear f0;go_wp2_with (refine wpList_load_at rfl 72 _ rfl rfl hB (sub_self _) uOp rfl (by rw [Array.length_toList];exact infoOp o A n d) ?_;rw [Array.toArray_toList])
 refine Calls.mono (show Calls Tryz.prog 75 _ _ _ from hm) ?_;rintro e W ⟨rfl,f1⟩;have hB1:=hBh.o.fr f1 (by simp);have hR1:=hR.fr f1 (by simp);have hBh:=zh hB1;have hRh:=zh hR1;have F:=zh (f0h.o.trans f1);have hgr:=zh (show w.heap.size≤gr by have:=HGC.o;have:=HGR.o;omega);clear hm hB hR f1;cases m with
 |false=>
  clear hB1;go_wp2_with (refine wpList_store_row rfl 67 _ _ rfl gr _ rfl rfl 67 zs hR1 infoAns (by rw [hz];rfl) (by kernel_rfl) ?_)
  refine bodyPost_ret (results_cell_row rfl _ _ gr 67 _ (0,0) _ rfl (Blk.setRow hR1 _) uAns rfl infoAns) rfl ?_;exact bdo_no hh.o (F.o.setRow (.inr hgr.o) _) (bookDo_a hmm.o)
 |true=>
  have c1:=hB1.cell 1;unfold opV at c1;simp only [zG,zH,zI]at c1;rw [hsq.o]at c1;have hgl:=hB1.lt;have hw:=hh.o.more (Y:= [gr]) F.o (fun g hg=>by
   obtain rfl:=List.mem_singleton.1 hg;exact⟨hgr.o,hR1.lt⟩)
  have hwh:=zh hw;by_cases h0:sq=0
  ·subst h0;have hdo:=does_t W pb p mb t me room (X++ [gr]) s o.c A n d hw (hch.o.fr F.o (by simp [Off]));have hcc:∀j v,(cmdV o.c A n d)[j]? =some v→W.cell? ⟨gc,3+j,none⟩=some v:=fun j v h=>by rw [hB1.cell];exact opV_cmd o A n d j v h
   clear hw hR1 hB1;go_wp2_with (refine wpList_load_cells rfl 70 _ rfl rfl hcc uCmd rfl infoCmd ?_)
   refine Calls.mono (show Calls Tryz.prog 78 _ _ _ from hdo) ?_;rintro e W2 ⟨y,rfl,hy,hyA,hbk,F2⟩;have hlm:=hh.o.hg.hb.lt;have hlt:=hh.o.hg.hX t hh.o.tX;have hR2:=hRh.o.fr F2 (by have:=hgr.o;simp;omega);have hyh:=zh hy;have hyAh:=zh hyA;have hbkh:=zh hbk;have F2h:=zh F2;have hR2h:=zh hR2;clear hy hyA hbk F2 hR2 hdo hcc;go_wp2_with (refine wpList_store_row rfl 67 _ _ rfl gr y.cells rfl rfl 67 zs hR2h.o (infoAA y) (by rw [hz];rfl) y.all1 ?_)
   refine bodyPost_ret (results_cell_row rfl _ _ gr 67 _ (0,0) _ rfl (Blk.setRow hR2h.o _) uAns rfl (infoAA y)) rfl ?_;have hrw:∀g∈rowOf y.slice,g∉ [gr]:=fun g hg hm=>by obtain⟨ad,e,rfl⟩:=rowOf_mem.1 hg;have h1:=hyAh.o.2 ad e;have h2:=hRh.o.lt;have:=List.mem_singleton.1 hm;omega
   have FS:Fr [gr] W2 (W2.setRow gr y.cells):=(Fr.refl _ _).setRow (.inl (by simp)) _;have hbk2:=hbkh.o.fr FS (fun g hg=> .inl (List.mem_append.2 (.inl (List.mem_append.2 (.inr hg))))) (hh.o.new hgr.o);refine⟨y,rfl,?_,⟨hyAh.o.1.fr FS hrw,hyAh.o.2.mono F.o.size⟩,?_,((F.o.nil (S:= [mb,t,me])).trans (F2h.o.mono two_three)).setRow (.inr hgr.o) _⟩
   ·rw [bookDo_0 hmm.o hsq.o];exact hyh.o
   ·rw [bookDo_0 hmm.o hsq.o];exact bk_out hbk2 hh.o
  ·have h0h:=zh h0;obtain⟨l,hl1,hl2,hl3⟩:=hh.o.he;have hla:=edge_at (ed:=ed) hl2 hl3;have hM:=hl1.fr F.o (by simp);have hl1h:=zh hl1;have hMh:=zh hM;have hl2h:=zh hl2;have hl3h:=zh hl3;obtain⟨x,hx⟩:∃z,Hid ((aget ed l).getD zeroEA=z):=⟨_,zh rfl⟩
   rw [hx.o]at hla;have hlook:∀V:World,IsMap V me (Value.int .i64) EA.val l→(Instr.lookup 122 (.map (some me)) (.int .i64 ed) false).run Tryz.prog V= .ok x.val V:=fun V hV=>by have h:=hV.run_lookup kInt (z:=zeroEA.val) uMie (fun w=>by kernel_rfl) ed;rw [h,←hx.o];cases aget ed l<;>rfl
   have hlookh:=zh hlook;have hlah:=zh hla;have e2:=(hw.hp).cell 2;have c0:=hB1.cell 0;unfold opV at c0;simp only [zG,zH,zI]at c0 e2;rw [hed.o]at c0;have hpl:=hw.hp.lt;clear hl1 hl2 hl3 hla hlook hw hR1 hB1 hM;go_upto_region 7 with(fail)
   refine wp_region_z (fun w'=>w'.cell? ⟨pb,2,none⟩=some (.map (some me))∧w'.cell? ⟨gc,0,none⟩=some (.int .i64 ed)∧IsMap w' me (Value.int .i64) EA.val l) [] (by kernel_rfl) ⟨e2,c0,hMh.o.fr ((Fr.refl [] W).drew) (by simp)⟩ ?_;intro hHeld;refine wpZ_tk (i:=0) (v:= ?_) hHeld ?_ ?_;rotate_left
   ·(intro w hSw;go_simp<;>with_reducible rfl)
   try simp only [zA,zC,Act.put,zD,zE,zF]
   refine wpZ_tk (i:=1) (v:= ?_) hHeld ?_ ?_;rotate_left
   ·(intro w hSw;go_simp<;>with_reducible rfl)
   try simp only [zA,zB,zC,Act.put,zD,zE,zF]
   refine wpZ_tk (i:=2) (v:= ?_) hHeld ?_ ?_;rotate_left
   ·(intro w hSw;go_simp<;>with_reducible rfl)
   try simp only [zA,zB,zC,Act.put,zD,zE,zF]
   refine wpZ_tk (i:=3) (v:= ?_) hHeld ?_ ?_;rotate_left
   ·(intro w hSw;go_simp<;>with_reducible rfl)
   try simp only [zA,zB,zC,Act.put,zD,zE,zF]
   refine wpZ_tk (i:=4) (v:= ?_) hHeld ?_ ?_;rotate_left
   ·(intro w hSw;go_simp<;>with_reducible rfl)
   try simp only [zA,zB,zC,Act.put,zD,zE,zF]
   refine wpZ_tk (i:=5) (v:= ?_) hHeld ?_ ?_;rotate_left
   ·(intro w hSw;go_simp<;>with_reducible rfl)
   try simp only [zA,zB,zC,Act.put,zD,zE,zF]
   refine wpZ_take (i:=6) (v:=x.val) rfl (by kernel_rfl) (by kernel_rfl) (by kernel_rfl) (by kernel_rfl) (fun _ _ _ h=>h) (Or.inl ⟨by rfl,fun w hSw=> ?_⟩) hHeld ?_
   ·have hlk:=hlookh.o w hSw.2.2;clear hSw;go_simp
   try simp only [zA,zB,zC,Act.put,zD,zE,zF]
   refine wpZ_one (i:=7) (by kernel_rfl) rfl (fun K hK=> ?_);go_simp;refine hK.out _ _ ⟨cell_fr ((Fr.refl [] W).drew.alloc _) e2,cell_fr ((Fr.refl [] W).drew.alloc _) c0,hMh.o.fr ((Fr.refl [] W).drew.alloc _) (by simp)⟩ (fun hHeld=> ?_);clear hK K;try simp only [zA,zB,zC,Act.put,zD,zE,zF]
   refine wpZ_one (i:=8) (by kernel_rfl) rfl (fun K hK=> ?_);rw [if_pos (wanted_none rfl)];refine wp_store_row 128 _ _ rfl W.heap.size x.arr rfl rfl 128 _ (Blk.new _ _ _) (infoEdge x) (by kernel_rfl) x.one ?_;show K (Act.put _ none undef) _;refine hK.out _ _ ⟨cell_fr (((Fr.refl [] W).drew.alloc _).setRow (.inr (Nat.le_refl _)) _) e2,cell_fr (((Fr.refl [] W).drew.alloc _).setRow (.inr (Nat.le_refl _)) _) c0,hMh.o.fr (((Fr.refl [] W).drew.alloc _).setRow (.inr (Nat.le_refl _)) _) (by simp)⟩ (fun hHeld=> ?_);clear hK K;try simp only [Act.put]
   refine wpZ_done (by kernel_rfl) ?_ _;go_upto_region 8 with(fail)
   refine wp_gen (fun W3=>Blk W3 W.heap.size 128 x.arr∧Fr [] W W3) ⟨Blk.setRow (Blk.new _ _ _) _,(((Fr.refl [] W).drew.alloc _).setRow (.inr (Nat.le_refl _)) _)⟩ ?_;clear hHeld e2 c0 hpl;rintro W3 ⟨hX3,F3⟩;obtain⟨gx,HGX⟩:∃z,Hid (W.heap.size=z):=⟨_,zh rfl⟩
   rw [HGX.o]at hX3⊢;have FW3:=zh (F.o.trans F3);have hB3:=zh (hBh.o.fr F3 (by simp));have hR3:=zh (hRh.o.fr F3 (by simp));have hbk3:=zh (hwh.o.fr0 F3);clear hlookh;obtain⟨xlow,xA,xc,xs⟩:=x;have hX3:Blk W3 gx 128 #[.int .i64 xlow,.slice xA xs.length xc]:=hX3;have hX3h:=zh hX3;have hee:edgeOf ed s=⟨xlow,xs.map (·.k)⟩:=hlah.o.1.symm;have heeh:=zh hee;have hcin:=zh (show CallsIn w X xA xs from hlah.o.2);have hRd:=hcin.o.row.1.fr FW3.o (by simp [Off]);obtain⟨xn,hxn⟩:∃z,Hid (xs.length=z):=⟨_,zh rfl⟩
   rw [hxn.o]at hX3 hRd;have k1:=hX3.cell 1;have hgx:=hX3.lt;simp only [zG,zH,zI]at k1;have hed32:=zh (show 0≤ed∧ed<32 by rw [←hed.o];exact⟨(opMay_ok hmm.o).1,(opMay_ok hmm.o).2.1⟩);have hek:=zh (show EdgeOk ed ⟨xlow,xs.map (·.k)⟩ by rw [←hee];exact edge_ok hh.o.ok hed32.o);have hx8:xn≤8:=by have:=hek.o.few;rw [List.length_map,hxn.o]at this;exact this
   have c1h:=zh c1;clear c1 F3 hX3 hee hgl;go_wp2_with fail
   go_loopg [39] (xn+1) (fun gk s39 wr=>∃(i:Nat),s39= .int .i64 i∧i≤xn∧xn - i<gk∧(∀y∈xs.take i,y.k.seq≠sq)∧Fr [] W3 wr)
   case atStart=>exact⟨0,rfl,by omega,by omega,fun y hy=>by simp at hy,Fr.refl _ _⟩
   case round=>
    obtain⟨i,rfl,hi,hk,hpre,hF⟩:=hrel;have hpreh:=zh hpre;have hFh:=zh hF;clear hpre;by_cases hlt:i<xn
    ·have hlt':(i:Int)<xn:=by omega
     have hlth:=zh hlt;have hi':i<xs.length:=by have:=hxn.o;omega
     obtain⟨b,o',rfl,hcell⟩:=(Rd.fr hRd hF (by simp [Off])).2 (by omega);have hcs:∀j v,(xs[i]'hi').arr[j]? =some v→wr.cell? ⟨b,o'+i*10+j,none⟩=some v:=fun j v hv=>by rw [Nat.add_assoc];exact hcell _ _ (callCells_at hi' (by unfold KA.cells;rw [Array.getElem?_toList];exact hv))
     have htk:=zh (List.take_succ_eq_append_getElem hi');have hfk:=zh (fun h=>find_k (q:=sq) hi' h hpreh.o);have hea:=zh (hcin.o.each _ (List.getElem_mem hi'));have hsc:=zh (hek.o.each _ (List.mem_map.2 ⟨_,List.getElem_mem hi',rfl⟩));clear hcell hF;obtain⟨y,hy⟩:∃z,Hid (xs[i]'hi'=z):=⟨_,zh rfl⟩
     rw [hy.o]at hcs htk hfk hea hsc;go_upto_region 11 with(first | (refine wpList_load_cells rfl 131 _ rfl rfl hcs uCall rfl (infoCall _) ?_) | (refine wpList_store_row rfl 131 _ _ rfl wr.heap.size y.arr rfl rfl 131 _ (Blk.new _ _ _) (infoCall _) (by kernel_rfl) y.one ?_))
     refine wp_gen (fun W4=>Blk W4 wr.heap.size 131 y.arr∧Fr [] wr W4) ⟨Blk.setRow (Blk.new _ _ _) _,((Fr.refl [] wr).alloc _).setRow (.inr (Nat.le_refl _)) _⟩ ?_;rintro W4 ⟨hY4,F4⟩;obtain⟨gy,HGY⟩:∃z,Hid (wr.heap.size=z):=⟨_,zh rfl⟩
     rw [HGY.o]at hY4⊢;have FF:=zh (hFh.o.trans F4);have q1:=call_seq hY4;have hgy:=hY4.lt;have q2:=(hB3.o.fr FF.o (by simp)).cell 1;unfold opV at q2;simp only [zG,zH,zI]at q2;rw [hsq.o]at q2;have hgc:=(hB3.o.fr FF.o (by simp)).lt;obtain⟨ys,hys⟩:∃z,Hid (y.k.seq=z):=⟨_,zh rfl⟩
     rw [hys.o]at q1;clear hcs F4;by_cases he:ys=sq
     ·subst he;have haa:∀j v,y.aa.cells[j]? =some v→W4.cell? ⟨gy,2+j,none⟩=some v:=fun j v h=>by rw [hY4.cell];exact y.aa_at j v h
      have hown:=bown_t W4 y.aa (hea.o.1.fr (FW3.o.trans FF.o) (by simp [Off])) (by have:=(setM_sizes hsc.o.2.2.2.2).1;show y.k.ans.scope.length≤_;omega);have hR4:=hR3.o.fr FF.o (by simp);have hR4h:=zh hR4;clear hR4;go_wp2_with (refine wpList_load_cells rfl 67 _ rfl rfl haa uAns rfl (infoAA _) ?_)
      refine Calls.mono (show Calls Tryz.prog 79 _ _ _ from hown) ?_;rintro e W5 ⟨z,rfl,hz,hzA,F5⟩;have hR5:=hR4h.o.fr F5 (by simp);have hR5h:=zh hR5;have hbk5:=zh (hbk3.o.more (Y:=rowOf z.slice) (FF.o.trans F5) (fun g hg=>by
       refine⟨?_,hzA.1.lt g hg⟩;obtain⟨ad,e,rfl⟩:=rowOf_mem.1 hg;have:=hzA.2 ad e;have:=FF.o.size;omega))
      have hzAh:=zh hzA;have hzh2:=zh hz;have F5h:=zh (FW3.o.trans (FF.o.trans F5));have hs4:=zh (show gr<W4.heap.size∧w.heap.size≤W4.heap.size from⟨hR4h.o.lt,(FW3.o.trans FF.o).size⟩);clear hown hzA hz F5 haa hR5;go_wp2_with (refine wpList_store_row rfl 67 _ _ rfl gr z.cells rfl rfl 67 zs hR5h.o (infoAA z) (by rw [hz];rfl) z.all1 ?_)
      refine bodyPost_ret (results_cell_row rfl _ _ gr 67 _ (0,0) _ rfl (Blk.setRow hR5h.o _) uAns rfl (infoAA z)) rfl ?_;have hres:=bookDo_c (room:=room) (s:=s) (c:=y.k) hmm.o (by rw [hsq.o];exact h0h.o) (by rw [hed.o,hsq.o,heeh.o];exact hfk.o hys.o);have FS:Fr [gr] W5 (W5.setRow gr z.cells):=(Fr.refl _ _).setRow (.inl (by simp)) _;have hrw:∀g∈rowOf z.slice,g∉ [gr]:=fun g hg hm=>by obtain⟨ad,e,rfl⟩:=rowOf_mem.1 hg;have h1:=hzAh.o.2 ad e;have h2:=hs4.o.1;have:=List.mem_singleton.1 hm;omega
      refine⟨z,rfl,?_,⟨hzAh.o.1.fr FS hrw,hzAh.o.2.mono hs4.o.2⟩,?_,(F5h.o.setRow (.inr hgr.o) _).nil⟩
      ·rw [hres];exact hzh2.o
      ·rw [hres];exact bk_out (hbk5.o.fr FS (fun g hg=> .inl (List.mem_append.2 (.inl (List.mem_append.2 (.inr hg))))) (hh.o.new hgr.o)) hh.o
     ·have heh:=zh he;go_wp2_with fail
      go_roundg (xn - i)
      case measure=>omega
      case rel=>
       refine⟨i+1,by go_num,by have:=hlth.o;omega,by have:=hlth.o;omega,?_,FF.o⟩;rw [htk.o];intro z hz;rcases List.mem_append.1 hz with h |h
       ·exact hpreh.o z h
       ·simp at h;rw [h,hys.o];exact heh.o
    ·have hin:i=xn:=by omega
     subst hin;have hall:=zh (find_n (l:=xs) (q:=sq) (fun y hy=>hpreh.o y (by rw [List.take_of_length_le (by rw [hxn.o];exact Nat.le_refl _)];exact hy)));have hnew:=zh (show∀y∈xs,y.k.seq≠sq from fun y hy=>hpreh.o y (by rw [List.take_of_length_le (by rw [hxn.o];exact Nat.le_refl _)];exact hy));have hge:¬(i:Int)<i:=by omega
     have q0:=(hX3h.o.fr hFh.o (by simp)).cell 0;have q1:=(hX3h.o.fr hFh.o (by simp)).cell 1;have gxl:=(hX3h.o.fr hFh.o (by simp)).lt;have r1:=(hB3.o.fr hFh.o (by simp)).cell 1;have r2:=(hB3.o.fr hFh.o (by simp)).cell 2;have gcl:=(hB3.o.fr hFh.o (by simp)).lt;unfold opV at r1 r2;simp only [zG,zH,zI]at q0 q1 r1 r2;rw [hsq.o]at r1;rw [hlo.o]at r2;rw [hxn.o]at q1;have hR4:=hR3.o.fr hFh.o (by simp);have hR4h:=zh hR4;have hbn:=bookDo_n (room:=room) (s:=s) hmm.o (by rw [hsq.o];exact h0h.o) (by rw [hed.o,hsq.o,heeh.o];exact hall.o);rw [hed.o,hsq.o,hlo.o,heeh.o]at hbn;have hbnh:=zh hbn;clear hbn hF hlt hi hk hRd k1 hgx;by_cases hlow:sq<xlow
     ·have hlowh:=zh hlow;go_wp2_with (refine wpList_store_row rfl 67 _ _ rfl gr _ rfl rfl 67 zs hR4h.o infoAns (by rw [hz];rfl) (by kernel_rfl) ?_)
      refine bodyPost_ret (results_cell_row rfl _ _ gr 67 _ (0,0) _ rfl (Blk.setRow hR4h.o _) uAns rfl infoAns) rfl ?_;exact bdo_no hh.o ((FW3.o.trans hFh.o).setRow (.inr hgr.o) _) (by rw [hbnh.o];exact if_pos hlowh.o)
     ·have hlowh:=zh hlow;clear hR4;go_upto_region 17 with(fail)
      refine wp_gen (fun V=>Blk V wr.heap.size 3 #[.int .i64 (max xlow lo)]∧Fr [] wr V) ⟨Blk.new _ _ _,(Fr.refl [] wr).alloc _⟩ ?_;rintro V ⟨hL,fV⟩;obtain⟨gl,HGL⟩:∃z,Hid (wr.heap.size=z):=⟨_,zh rfl⟩
      rw [HGL.o]at hL⊢;have FV:=zh (FW3.o.trans (hFh.o.trans fV));have hcl:=cloneC_t V xA i xc (callCells xs) (by have:=hcin.o.row.1.fr FV.o (by simp [Off]);rwa [hxn.o]at this) (callCells_one xs) (by omega);unfold ClonePost at hcl;have w1:=cell_fr fV q1;have gxl2:gx<V.heap.size:=Nat.lt_of_lt_of_le gxl fV.size;have hLh:=zh hL;obtain⟨mx,hmx⟩:∃z,Hid (max xlow lo=z):=⟨_,zh rfl⟩
      rw [hmx.o]at hL hLh;have hRV:=zh (hR4h.o.fr fV (by simp));have fVh:=zh (hFh.o.trans fV);have hglr:=zh (show gl≠gr∧w.heap.size≤gl by have:=hR4h.o.lt;have:=HGL.o;have:=(FW3.o.trans hFh.o).size;omega);clear q0 q1 r1 r2 gcl fV gxl hL;go_wp2_with fail
      refine Calls.mono (show Calls Tryz.prog 81 _ _ _ from hcl) ?_;rintro e V2 ⟨A2,c2,rfl,hO2,hA2,F2⟩;have eg:∀args w,(callFunc 82 args).run Tryz.prog w= .ok (.enter 82 args) w:=enters_of Tryz.func82 (by kernel_rfl) rfl;have hL2:=hLh.o.fr F2 (by simp);have hgl2:gl∉rowOf (.slice A2 i c2):=fun hm=>by obtain⟨ad,e,h⟩:=rowOf_mem.1 hm;have h1:=hA2 ad e;have h2:=hLh.o.lt;omega
      have hdel:=delC_t V2 82 gl mx (doA_p gl mx) eg (hL2.cell 0) (.slice A2 i c2) i xs hO2 hxn.o (by omega) hgl2;have FV2:=zh (FV.o.trans F2);have fV2h:=zh (fVh.o.trans F2);have hA2h:=zh (hA2.mono FV.o.size);have hA2v:=zh hA2;have hR2:=zh (hRV.o.fr F2 (by simp));have hL2h:=zh hL2;clear hcl F2 hO2 hA2 w1 gxl2 hL2 eg;go_wp2_with fail
      refine Calls.mono (show Calls Tryz.prog 80 _ _ _ from hdel) ?_;rintro e V3 ⟨v3,rfl,hO3,hrow3,F3⟩;have hfre:∀g∈rowOf (.slice A2 i c2),W3.heap.size≤g:=fun g hg=>by obtain⟨ad,e,rfl⟩:=rowOf_mem.1 hg;have h1:=hA2v.o ad e;have h2:=fVh.o.size;omega
      have fV3:Fr [] W3 V3:=((fV2h.o.nil (S:=rowOf (.slice A2 i c2))).trans F3).mono' (fun g hg=> .inr (hfre g hg));have hR5:=zh (hR3.o.fr fV3 (by simp));have hB5:=zh (hB3.o.fr fV3 (by simp));have FV3:=zh (FW3.o.trans fV3);have hL3:=zh (hL2h.o.fr F3 hgl2);have hgl3:=zh (show gl∉rowOf v3 by rw [hrow3];exact hgl2);have hlo3:=zh (show∀g∈rowOf v3,W3.heap.size≤g by rw [hrow3];exact hfre);have hkm:=zh (delK_calls mx xs);obtain⟨ks,hks⟩:∃z,Hid (delK mx xs=z):=⟨_,zh rfl⟩
      rw [hks.o]at hO3 hkm;obtain⟨kn,hkn⟩:∃z,Hid (ks.length=z):=⟨_,zh rfl⟩
      rw [hkn.o]at hO3;obtain⟨A3,c3,rfl,_⟩:=hO3.form;have hO3h:=zh hO3;have hkl:kn≤i:=by have h1:=delK_map mx xs;rw [hks.o,hkn.o,hxn.o]at h1;omega
      have hbn2:=hbnh.o;rw [if_neg (Int.not_lt.2 hlowh.o),hmx.o,←hkm.o,List.length_map,hkn.o]at hbn2;have hbn2h:=zh hbn2;clear hdel F3 hfre hrow3 hO3 hgl2 hbn2;by_cases h8:8≤kn
      ·have h8i:(8:Int)≤kn:=by omega
       have h8h:=zh h8;go_wp2_with (refine wpList_store_row rfl 67 _ _ rfl gr _ rfl rfl 67 zs hR5.o infoAns (by rw [hz];rfl) (by kernel_rfl) ?_)
       refine bodyPost_ret (results_cell_row rfl _ _ gr 67 _ (0,0) _ rfl (Blk.setRow hR5.o _) uAns rfl infoAns) rfl ?_;exact bdo_no hh.o (FV3.o.setRow (.inr hgr.o) _) (by rw [hbn2h.o];exact if_pos h8h.o)
      ·have h8i:¬(8:Int)≤kn:=by omega
       have h8h:=zh h8;have hBk:=hh.o.more (Y:=gr::rowOf (.slice A3 kn c3)) FV3.o (fun g hg=>by
        rcases List.mem_cons.1 hg with rfl |hg
        ·exact⟨hgr.o,hR5.o.lt⟩
        ·exact⟨Nat.le_trans FW3.o.size (hlo3.o g hg),hO3h.o.lt g hg⟩)
       have hdo:=does_t V3 pb p mb t me room _ s o.c A n d hBk (hch.o.fr FV3.o (by simp [Off]));unfold DoesPost at hdo;have hB5c:=hB5.o;have hcc:∀j v,(cmdV o.c A n d)[j]? =some v→V3.cell? ⟨gc,3+j,none⟩=some v:=fun j v h=>by rw [hB5c.cell];exact opV_cmd o A n d j v h
       have hgc:=hB5c.lt;clear hB5c hBk;go_upto_region 21 with(first | (refine wpList_load_cells rfl 70 _ rfl rfl hcc uCmd rfl infoCmd ?_) | (go_at_call 78;refine hdo.mono ?_;rintro e W5 ⟨y,rfl,hy,hyA,hbk,F5⟩) | (refine wpList_store_row rfl 67 _ _ rfl W5.heap.size y.cells rfl rfl 67 _ (Blk.new _ _ _) (infoAA y) (by kernel_rfl) y.all1 ?_))
       refine wp_gen (fun V5=>Blk V5 W5.heap.size 67 y.cells∧Fr [] W5 V5) ⟨Blk.setRow (Blk.new _ _ _) _,((Fr.refl [] W5).alloc _).setRow (.inr (Nat.le_refl _)) _⟩ ?_;rintro V5 ⟨hY5,f5⟩;obtain⟨ga,HGA⟩:∃z,Hid (W5.heap.size=z):=⟨_,zh rfl⟩
       rw [HGA.o]at hY5⊢;have hlow:=zh hh.o.low;have hlo5:=zh (show∀g∈rowOf (.slice A3 kn c3),w.heap.size≤g from fun g hg=>Nat.le_trans FW3.o.size (hlo3.o g hg));have hmt:∀g∈ [mb,t],g<w.heap.size:=fun g hg=>by
        simp only [List.mem_cons,List.not_mem_nil,or_false]at hg;rcases hg with rfl |rfl
        ·exact hlow.o _ (by simp)
        ·exact hlow.o _ (by simp)
       have hnm:∀{g},w.heap.size≤g→g∉ [mb,t]:=fun hg hm=>by have:=hmt _ hm;omega
       have hgcw:w.heap.size≤gc:=Nat.le_of_eq HGC.o;have hO5:=zh ((hO3h.o.fr F5 (fun g hg=>hnm (hlo5.o g hg))).fr f5 (by simp));have hC5:=(hB5.o.fr F5 (hnm hgcw)).fr f5 (by simp);have hR6:=zh ((hR5.o.fr F5 (hnm hgr.o)).fr f5 (by simp));have hL5:=zh ((hL3.o.fr F5 (hnm hglr.o.2)).fr f5 (by simp));have hC5h:=zh hC5;have hY5h:=zh hY5;have hga:V3.heap.size≤ga:=by have:=HGA.o;have:=F5.size;omega
       have hgah:=zh hga;have hrr:=zh (show gc∉rowOf (.slice A3 kn c3)∧ga∉rowOf (.slice A3 kn c3)∧gr∉rowOf (.slice A3 kn c3)from⟨fun hm=>by have:=hlo3.o _ hm;have:=hB3.o.lt;omega,fun hm=>by have:=hO3h.o.lt _ hm;omega,fun hm=>by have:=hlo3.o _ hm;have:=hR3.o.lt;omega⟩);have hS:∀V',Blk V' gc 72 (opV o A n d)→Blk V' ga 67 y.cells→V'.cell? ⟨gc,0,none⟩=some (.int .i64 ed)∧V'.cell? ⟨gc,1,none⟩=some (.int .i64 sq)∧V'.rangeAt ga 0 y.cells.toList:=fun V' b1 b2=>⟨by rw [←hed.o];exact b1.cell 0,by rw [←hsq.o];exact b1.cell 1,range_cells' b2⟩
       have hSh:=zh hS;have hyh:=zh hy;have hyAh:=zh ((hyA.1.fr f5 (by simp)));have hyFh:=zh hyA.2;have hbkh:=zh (hbk.fr0 f5);have F5h:=zh (F5.trans f5.nil);have hown:∀V',Fr [] V5 V'→Calls Tryz.prog 79 #[y.val] V' (AOwn V' y.a):=fun V' hV'=>bown_t V' y (hyAh.o.rd.fr hV' (by simp [Off])) (by
        have h1:=(setM_sizes (do_set (room:=room) (c:=o.c) hh.o.ok.g)).1;rw [hyh.o];omega)
       have hownh:=zh hown;have hone:=zh (fun x=>callCells_one [x]);have hs0:=hS V5 hC5 hY5;have hgcl:=hC5.lt;clear hdo hcc hy hyA hbk F5 f5 hown hC5 hY5 hS hmt hnm hga hgc;refine wp_region_z (fun w'=>w'.cell? ⟨gc,0,none⟩=some (.int .i64 ed)∧w'.cell? ⟨gc,1,none⟩=some (.int .i64 sq)∧w'.rangeAt ga 0 y.cells.toList) [10] (by kernel_rfl) hs0 ?_;intro hHeld;refine wpZ_tk (i:=0) (v:= ?_) hHeld ?_ ?_;rotate_left
       ·(intro w hSw;go_simp<;>with_reducible rfl)
       try simp only [zA,zC,Act.put,zD,zE,zF]
       refine wpZ_tk (i:=1) (v:= ?_) hHeld ?_ ?_;rotate_left
       ·(intro w hSw;go_simp<;>with_reducible rfl)
       try simp only [zA,zB,zC,Act.put,zD,zE,zF]
       refine wpZ_tk (i:=2) (v:= ?_) hHeld ?_ ?_;rotate_left
       ·(intro w hSw;go_simp<;>with_reducible rfl)
       try simp only [zA,zB,zC,Act.put,zD,zE,zF]
       refine wpZ_tk (i:=3) (v:= ?_) hHeld ?_ ?_;rotate_left
       ·(intro w hSw;go_simp<;>with_reducible rfl)
       try simp only [zA,zB,zC,Act.put,zD,zE,zF]
       refine wpZ_tk (i:=4) (v:= ?_) hHeld ?_ ?_;rotate_left
       ·(intro w hSw;go_simp<;>with_reducible rfl)
       try simp only [zA,zB,zC,Act.put,zD,zE,zF]
       refine wpZ_take (i:=5) rfl (by kernel_rfl) (by kernel_rfl) (by kernel_rfl) (by kernel_rfl) (fun _ _ _ h=>h) (yieldsIf_load_mid (by kernel_rfl) 67 _ rfl ga 0 rfl (y.cells.toList) _ (fun w h=>h.2.2) uAns rfl (infoAAL y)) hHeld ?_;try simp only [zA,zB,zC,Act.put,zD,zE,zF]
       refine wpZ_one (i:=6) (by kernel_rfl) rfl (fun K hK=> ?_);go_simp;refine Calls.mono (show Calls Tryz.prog 79 _ _ _ from hownh.o V5.drew (Fr.refl [] V5).drew) ?_;rintro e V6 ⟨z,rfl,hz,hzA,f6⟩;have f6:Fr [] V5 V6:=f6.of_drew;have bc6:=hC5h.o.fr f6 (by simp);have by6:=hY5h.o.fr f6 (by simp);obtain⟨za,zA,zc⟩:=z;have hz:za=y.a:=hz;subst hz;unfold AA.val AA.cells;try dsimp only
       refine hK.out _ _ (hSh.o V6 bc6 by6) (fun hHeld=> ?_);clear hK K;try simp only [zA,zB,zC,Act.put,zD,zE,zF]
       refine wpZ_tk (i:=7) (v:= ?_) hHeld ?_ ?_;rotate_left
       ·(intro w hSw;go_simp<;>with_reducible rfl)
       try simp only [zA,zB,zC,Act.put,zD,zE,zF]
       refine wpZ_one (i:=8) (by kernel_rfl) rfl (fun K hK=> ?_);go_simp;refine hK.out _ _ (hSh.o _ (bc6.alloc _) (by6.alloc _)) (fun hHeld=> ?_);clear hK K;try simp only [zA,zB,zC,Act.put,zD,zE,zF]
       refine wpZ_one (i:=9) (by kernel_rfl) rfl (fun K hK=> ?_);refine own_append_op (P:=Tryz.prog) (xs:=callCells ks) (news:=callCells [⟨⟨ed,sq,y.a⟩,zA,zc⟩]) tCalls ((hO5.o.fr f6 (by simp)).fr ((Fr.refl [] V6).alloc _) (by simp)) (m:=1) (c:=1) (A:=some ⟨V6.heap.size,0,none⟩) (call_new V6 ⟨⟨ed,sq,y.a⟩,zA,zc⟩ 131) (hone.o _) (by simp) (by unfold maxLen;omega) (by omega) rfl rfl rfl rfl (fun v4 V7 g1 g2 g3=> ?_);obtain⟨A4,c4,rfl,_⟩:=g1.form;have bc7:=(bc6.alloc _).fr g2 hrr.o.1;have by7:=(by6.alloc _).fr g2 hrr.o.2.1;try dsimp only
       refine hK.out _ _ (hSh.o _ bc7 by7) (fun hHeld=> ?_);clear hK K;try simp only [zA,zB,zC,Act.put,zD,zE,zF]
       refine wpZ_end (i:=10) (by kernel_rfl) rfl rfl (fun K hK=> ?_);go_simp;refine hK.out _ _ ?_;clear hK K;try simp only [zA,zB,zC,Act.put,zD,zE,zF]
       refine wpZ_done (by kernel_rfl) ?_ _;go_upto_region 22 with(fail)
       have hr4:∀g∈rowOf (.slice A4 (kn+1) c4),g∈rowOf (.slice A3 kn c3)∨V5.heap.size≤g:=fun g hg=>(g3 g hg).imp id fun e=>by have:=f6.size;rw [World.size_alloc]at e;omega
       have hr4x:=zh (show∀g∈rowOf (.slice A4 (kn+1) c4),g∈rowOf (.slice A3 kn c3)∨V6.heap.size≤g from fun g hg=>(g3 g hg).imp id fun e=>by rw [World.size_alloc]at e;omega);have hO7:Own V7 131 10 (.slice A4 (ks.length+1) c4) (ks.length+1) (callCells (ks++ [⟨⟨ed,sq,y.a⟩,zA,zc⟩])):=by rw [callCells_append,hkn.o];exact g1
       have hkx:∀y∈ks,y∈xs:=fun y hy=>by rw [←hks.o]at hy;exact(List.mem_filter.1 hy).1
       have hkxh:=zh hkx;have hkr:(ks.map (·.k)).Pairwise fun a b=>a.seq<b.seq:=by rw [hkm.o];exact hek.o.rise.filter _
       have hsm:∀y'∈ks++ [(⟨⟨ed,sq,y.a⟩,zA,zc⟩:KA)],0≤y'.k.seq∧y'.k.seq≤1099511627776:=fun y' hy'=>by
        rcases List.mem_append.1 hy' with hy' |hy'
        ·have:=hek.o.each _ (List.mem_map.2 ⟨_,hkx _ hy',rfl⟩);exact⟨by omega,this.2.2.1⟩
        ·obtain rfl:=List.mem_singleton.1 hy';have h1:=opMay_ok hmm.o;rw [hsq.o]at h1;exact⟨h1.2.2.1,h1.2.2.2.1⟩
       have hsort:=sortI_t V7 (.slice A4 (ks.length+1) c4) ks ⟨⟨ed,sq,y.a⟩,zA,zc⟩ hO7 (by rw [hkn.o];omega) hsm hkr (fun y' hy'=>hnew.o y' (hkx y' hy'));rw [hkn.o]at hsort;have F57:Fr (rowOf (.slice A3 kn c3)) V5 V7:=(f6.alloc _).nil.trans g2;have F57h:=zh F57;have hr4h:=zh hr4;have hzh:=zh (show Rd V6 1 zA y.a.scope.length (strCells y.a.scope)∧From V5.heap.size zA∧Fr [] V5 V6∧(∀ad,zA=some ad→ad.block<V6.heap.size)from⟨hzA.1.rd,hzA.2,f6,fun ad e=>hzA.1.lt ad.block (rowOf_mem.2 ⟨ad,e,rfl⟩)⟩);have g2h:=zh ((((Fr.refl [] V6).alloc (.cells (KA.arr ⟨⟨ed,sq,y.a⟩,zA,zc⟩) 131)).nil (S:=rowOf (.slice A3 kn c3))).trans g2);clear hHeld hs0 bc6 by6 bc7 by7 g1 g2 g3 hzA f6 hr4 hO7 hkx hkr hsm F57 hgcl;go_wp2_with fail
       refine Calls.mono (show Calls Tryz.prog 83 _ _ _ from hsort) ?_;rintro e V8 ⟨rfl,ls,hperm,hmap,hO8,F8⟩;have F78:Fr (rowOf (.slice A3 kn c3)) V5 V8:=((F57h.o.mono (S':=rowOf (.slice A3 kn c3)++rowOf (.slice A4 (kn+1) c4)) (fun g hg=>List.mem_append.2 (.inl hg))).trans (F8.mono (fun g hg=>List.mem_append.2 (.inr hg)))).mono' (fun g hg=>(List.mem_append.1 hg).elim .inl (fun hg=>hr4h.o g hg));have hwS:Fr [mb,t] w V8:=(((FV3.o.nil.trans F5h.o).mono (S':= [mb,t]++rowOf (.slice A3 kn c3)) (fun g hg=>List.mem_append.2 (.inl hg))).trans (F78.mono (fun g hg=>List.mem_append.2 (.inr hg)))).mono' (fun g hg=>(List.mem_append.1 hg).elim .inl (fun hg=> .inr (hlo5.o g hg)));have hnd:=hh.o.nd;simp only [List.nodup_cons,List.mem_cons,List.not_mem_nil,or_false,not_or]at hnd;obtain⟨⟨a1,a2,a3,a4⟩,⟨b1,b2,b3⟩,⟨d1,d2⟩,d3,_⟩:=hnd;have hp8:=hh.o.hp.fr hwS (by simp;exact⟨a2,a3⟩);have hM8:=hl1h.o.fr hwS (by simp;exact⟨fun e=>d2 e.symm,fun e=>d3 e.symm⟩);have hC8:=hC5h.o.fr F78 hrr.o.1;have hL8:=hL5.o.fr F78 hgl3.o;have hR8:=zh (hR6.o.fr F78 hrr.o.2.2);have hY8:=zh (hY5h.o.fr F78 hrr.o.2.1);have hlsn:ls.length=kn+1:=by rw [hperm.length_eq,List.length_append,hkn.o];rfl
       have hlsh:=zh hlsn;have hpmh:=zh hperm;have hmaph:=zh hmap;have hO8h:=zh hO8;have F78h:=zh F78;have hwSh:=zh hwS;have F8h:=zh F8;have hdis:=zh (show pb≠me∧p≠me∧mb≠me∧t≠me from⟨a4,b3,d2,d3⟩);clear hsort hperm hmap hO8 F8 F78 hwS hlsn a1 a2 a3 a4 b1 b2 b3 d1 d2 d3;go_upto_region 23 with(fail)
       refine wp_tail_gen 9 (fun w1=>Blk w1 gc 72 (opV o A n d)∧Blk w1 pb 124 #[.pointer (some ⟨p,0,none⟩),.pointer (some ⟨t,0,none⟩),.map (some me)]∧Blk w1 gl 3 #[.int .i64 mx]∧IsMap w1 me (Value.int .i64) EA.val l∧Fr [] V8 w1) ⟨hC8.fr ((Fr.refl [] V8).drew) (by simp),hp8.fr ((Fr.refl [] V8).drew) (by simp),hL8.fr ((Fr.refl [] V8).drew) (by simp),hM8.fr ((Fr.refl [] V8).drew) (by simp),(Fr.refl [] V8).drew⟩ (by kernel_rfl) (by kernel_rfl) ?_;clear hC8 hp8 hL8 hM8;rintro w1 ⟨h1,h2,h3,h4,f9⟩;have s0:=h1.cell 0;have s2:=h2.cell 2;have s3:=h3.cell 0;unfold opV at s0;simp only [zG,zH,zI]at s0 s2 s3;rw [hed.o]at s0;have t1:=h1.lt;have t2:=h2.lt;have t3:=h3.lt;clear h1 h2 h3;simp only [List.take_succ_cons,List.take_zero,List.drop_succ_cons,List.drop_zero];repeat still_step
       refine wpStill_nil ?_;refine wpList_map_set h4 kInt uMie ed (EA.mk mx A4 c4 ls) rfl rfl rfl rfl ?_ ?_
       ·unfold EA.val;simp only;rw [hlsh.o];rfl
       intro w2 hm2 ht2;have F9:Fr [me] w1 w2:=ht2.fr;have hmw:me<w.heap.size:=hlow.o _ (by simp);have hgaw:w.heap.size≤ga:=Nat.le_trans FV3.o.size hgah.o;have hY9:=(hY8.o.fr f9 (by simp)).fr F9 (by simp;omega);have hR9:=(hR8.o.fr f9 (by simp)).fr F9 (by have:=hgr.o;simp;omega);have hR9h:=zh hR9;have f9h:=zh f9;have F9h:=zh F9;have hm2h:=zh hm2;clear hR9 f9 F9 hm2 ht2 h4 s0 s2 s3 t1 t2 t3;have hzz:zs.size=y.cells.size:=by rw [hz8.o];rfl
       dsimp only [Act.put];go_wp2_with (first | (refine wpList_load_at rfl 67 _ rfl rfl hY9 (sub_self _) uAns rfl (by rw [Array.length_toList];exact infoAA y) ?_;rw [Array.toArray_toList]) | (refine wpList_store_row rfl 67 _ _ rfl gr y.cells rfl rfl 67 zs hR9h.o (infoAA y) hzz y.all1 ?_))
       (try simp only [Exit.inBlock,Exit.then]);refine bodyPost_ret (results_cell_row rfl _ _ gr 67 _ (0,0) _ rfl (Blk.setRow hR9h.o _) uAns rfl (infoAA y)) rfl ?_
       have hres:=hbn2h.o;have hmap2:ls.map (·.k)=insC ⟨ed,sq,y.a⟩ (ks.map (·.k)):=hmaph.o;rw [if_neg (by have:=h8h.o;omega),←hyh.o,←hmap2]at hres;have hgrw:=hgr.o;have hya:∀g∈rowOf y.slice,V3.heap.size≤g:=fun g hg=>by obtain⟨ad,e,rfl⟩:=rowOf_mem.1 hg;exact hyFh.o ad e
       have hr3:∀g∈rowOf (.slice A3 kn c3),w.heap.size≤g∧g<V3.heap.size:=fun g hg=>⟨hlo5.o g hg,hO3h.o.lt g hg⟩
       have hgr3:gr<V3.heap.size:=hR5.o.lt;have hw3:=FV3.o.size;have hv5:V3.heap.size≤V5.heap.size:=F5h.o.size;have FT:Fr (gr::me::rowOf (.slice A3 kn c3)) V5 (w2.setRow gr y.cells):=((F78h.o.mono (fun g hg=>List.mem_cons.2 (.inr (List.mem_cons.2 (.inr hg))))).trans (f9h.o.nil.trans (F9h.o.mono (fun g hg=>by rw [List.mem_singleton.1 hg];simp)))).setRow (.inl (by simp)) _;have FW:Fr [mb,t,me] w (w2.setRow gr y.cells):=((hwSh.o.mono two_three).trans (f9h.o.nil.trans (F9h.o.mono (fun g hg=>by rw [List.mem_singleton.1 hg];simp)))).setRow (.inr hgrw) _;have F8T:Fr [gr,me] V8 (w2.setRow gr y.cells):=(f9h.o.nil.trans (F9h.o.mono (fun g hg=>by rw [List.mem_singleton.1 hg];simp))).setRow (.inl (by simp)) _;have hTS:∀g∈gr::me::rowOf (.slice A3 kn c3),g∈(X++(gr::rowOf (.slice A3 kn c3)))++rowOf y.slice∨V5.heap.size≤g:=fun g hg=> .inl (List.mem_append.2 (.inl (by
        rcases List.mem_cons.1 hg with rfl |hg
        ·exact List.mem_append.2 (.inr (List.mem_cons.2 (.inl rfl)))
        rcases List.mem_cons.1 hg with rfl |hg
        ·exact List.mem_append.2 (.inl hh.o.mX)
        ·exact List.mem_append.2 (.inr (List.mem_cons.2 (.inr hg))))))
       have hTn:∀g,g<w.heap.size→g≠me→g∉gr::me::rowOf (.slice A3 kn c3):=fun g h1 h2 hm=>by
        rcases List.mem_cons.1 hm with e |hm
        ·omega
        rcases List.mem_cons.1 hm with e |hm
        ·exact h2 e
        ·have:=(hr3 g hm).1;omega
       have hsub:∀g∈X++rowOf y.slice,g∈(X++(gr::rowOf (.slice A3 kn c3)))++rowOf y.slice:=fun g hg=>(List.mem_append.1 hg).elim (fun hg=>List.mem_append.2 (.inl (List.mem_append.2 (.inl hg)))) (fun hg=>List.mem_append.2 (.inr hg));have hXw:∀g∈X,g<w.heap.size:=hh.o.hg.hX;have hyl:∀g∈rowOf y.slice,g<V5.heap.size:=fun g hg=>hyAh.o.lt g hg;have hXX:∀g∈X++rowOf y.slice,g∈X∨w.heap.size≤g:=fun g hg=>(List.mem_append.1 hg).imp id fun hg=>by have:=hya g hg;omega
       have hSX:∀g∈ [mb,t,me],g∈X∨w.heap.size≤g:=fun g hg=>by
        simp only [List.mem_cons,List.not_mem_nil,or_false]at hg;rcases hg with rfl |rfl |rfl
        ·exact .inl hh.o.hg.hmb
        ·exact .inl hh.o.tX
        ·exact .inl hh.o.mX
       have hok:=bookDo_ok (o:=o) hh.o.ok;rw [hres]at hok;have hdd:=hdis.o;refine⟨y,rfl,by rw [hres],⟨hyAh.o.fr FT (fun g hg hm=> ?_),hyFh.o.mono hw3⟩,?_,FW⟩
       ·have h1:=hya g hg;rcases List.mem_cons.1 hm with e |hm
        ·omega
        rcases List.mem_cons.1 hm with e |hm
        ·omega
        ·have:=(hr3 g hm).2;omega
       rw [hres];refine⟨hbkh.o.hp.fr FT (hTn _ (hlow.o _ (by simp)) hdd.1),(hbkh.o.hg.fr FT hTS (hTn _ (hlow.o _ (by simp)) hdd.2.2.1) (hTn _ (hlow.o _ (by simp)) hdd.2.1)).mono hsub (List.mem_append.2 (.inl hh.o.hg.hmb)),TrieIn.to hbkh.o.ht FT hTS (fun g hg=> .inl (hsub g hg)) (hTn _ (hlow.o _ (by simp)) hdd.2.2.2) (fun g hg=>Nat.lt_of_lt_of_le (hbkh.o.hg.hX g (hsub g hg)) FT.size) (List.mem_append.2 (.inl hh.o.tX)),?_,hok,hh.o.hr,List.mem_append.2 (.inl hh.o.mX),hh.o.nd⟩;refine⟨aset ed ⟨mx,A4,c4,ls⟩ l,hm2h.o.fr ((Fr.refl [gr] w2).setRow (.inl (by simp)) _) (by simp;omega),?_,fun q hq=> ?_⟩
       ·rw [aset_ea,hl2h.o];rfl
       ·rcases mem_of_aset hq with rfl |hq
        ·refine⟨⟨?_,fun _=> ?_⟩,fun y' hy'=> ?_⟩
         ·show Rd _ 10 A4 ls.length (callCells ls);rw [hlsh.o];exact hO8h.o.rd.fr F8T (fun _=>fun ad e hm=>by
           have h1:=hr4h.o ad.block (rowOf_mem.2 ⟨ad,e,rfl⟩);simp only [List.mem_cons,List.not_mem_nil,or_false]at hm;rcases h1 with h1 |h1
           ·have:=hr3 _ h1;rcases hm with e2 |e2
            ·exact hrr.o.2.2 (e2▸h1)
            ·omega
           ·omega)
         ·show Off (X++rowOf y.slice) A4;intro ad e hm;have h1:=hr4h.o ad.block (rowOf_mem.2 ⟨ad,e,rfl⟩);rcases List.mem_append.1 hm with hm |hm
          ·have:=hXw _ hm;rcases h1 with h1 |h1
           ·have:=hr3 _ h1;omega
           ·omega
          ·have h2:=hya _ hm;have h3:=hyl _ hm;rcases h1 with h1 |h1
           ·have:=hr3 _ h1;omega
           ·omega
         ·have hy2:y'∈ks++ [(⟨⟨ed,sq,y.a⟩,zA,zc⟩:KA)]:=hpmh.o.mem_iff.1 hy';rcases List.mem_append.1 hy2 with hy2 |hy2
          ·exact((hcin.o.each _ (hkxh.o _ hy2)).to (by decide) (FW.mono' hSX) hXX)
          ·obtain rfl:=List.mem_singleton.1 hy2;obtain⟨z1,z2,z3,z4⟩:=hzh.o;refine⟨?_,fun _ ad e hm=> ?_⟩
           ·refine((z1.fr g2h.o (fun _ ad e hm=> ?_)).fr F8h.o (fun _ ad e hm=> ?_)).fr F8T (fun _ ad e hm=> ?_)
            ·have:=z2 ad e;have:=hr3 _ hm;omega
            ·have:=z2 ad e;have:=z4 ad e;rcases hr4x.o _ hm with hm |hm
             ·have:=hr3 _ hm;omega
             ·omega
            ·have:=z2 ad e;simp only [List.mem_cons,List.not_mem_nil,or_false]at hm;omega
           ·have:=z2 ad e;rcases List.mem_append.1 hm with hm |hm
            ·have:=hXw _ hm;omega
            ·have:=hyl _ hm;omega
        ·exact(hl3h.o q hq).to (FW.mono' hSX) hXX
end Go.Proofs.YtpmgepijkhaonaaGreat
namespace Go.Proofs.YtpmgepijkhaonaaGreat
open Go.RowKit Go.Sig
theorem bgrants_t {w:World}{pb p mb t me:Nat}{room:Int}{X:List Nat}{s:BkS}(h:BkAt w pb p mb t me room X s):Calls Tryz.prog 76 #[.pointer (some ⟨pb,0,none⟩)] w fun e w'=>e= .returned (.pointer (some ⟨p,0,none⟩))∧w=w':=by
 have c:=h.hp.cell 0;have l:=h.hp.lt;simp only [zG,zH]at c;clear h;go_enter Tryz.func76,Tryz.ntmps76;go_wp2_with fail
 go_ret;exact⟨rfl,rfl⟩
theorem brows_t {w:World}{pb p mb t me:Nat}{room:Int}{X:List Nat}{s:BkS}(h:BkAt w pb p mb t me room X s):Calls Tryz.prog 85 #[.pointer (some ⟨pb,0,none⟩)] w fun e w'=>e= .returned (.pointer (some ⟨t,0,none⟩))∧w=w':=by
 have c:=h.hp.cell 1;have l:=h.hp.lt;simp only [zG,zH,zI]at c;clear h;go_enter Tryz.func85,Tryz.ntmps85;go_wp2_with fail
 go_ret;exact⟨rfl,rfl⟩
theorem bcount_t {w:World}{pb p mb t me:Nat}{room:Int}{X:List Nat}{s:BkS}(h:BkAt w pb p mb t me room X s):Calls Tryz.prog 29 #[.pointer (some ⟨pb,0,none⟩)] w fun e w'=>e= .returned (.int .i64 (s.g.length:Nat))∧w=w':=by
 have hgr:=bgrants_t h;have hct:=gcount_t w p mb room X s.g h.hg;clear h;go_enter Tryz.func29,Tryz.ntmps29;go_wp2_with fail
 refine Calls.mono (show Calls Tryz.prog 76 _ _ _ from hgr) ?_;rintro e V ⟨rfl,rfl⟩;go_wp2_with fail
 refine Calls.mono (show Calls Tryz.prog 90 _ _ _ from hct) ?_;rintro e V ⟨rfl,rfl⟩;go_wp2_with fail
 go_ret;exact⟨rfl,rfl⟩
set_option maxRecDepth 100000 in
theorem blow_t {w:World}{pb p mb t me:Nat}{room:Int}{X:List Nat}{s:BkS}(k:Int) (h:BkAt w pb p mb t me room X s):Calls Tryz.prog 30 #[.pointer (some ⟨pb,0,none⟩),.int .i64 k] w fun e w'=>e= .returned (.int .i64 (edgeOf k s).low)∧w=w':=by
 have c:=h.hp.cell 2;have l:=h.hp.lt;simp only [zG,zH,zI]at c;obtain⟨ls,hl1,hl2,hl3⟩:=h.he;have hla:=(edge_at (ed:=k) hl2 hl3).1;obtain⟨⟨x0,xA,xc,xs⟩,hx⟩:∃z,Hid ((aget k ls).getD zeroEA=z):=⟨_,zh rfl⟩
 rw [hx.o]at hla;have hlook:(Instr.lookup 122 (.map (some me)) (.int .i64 k) false).run Tryz.prog w= .ok (.agg #[.int .i64 x0,.slice xA xs.length xc]) w:=by
  have h:=hl1.run_lookup kInt (z:=zeroEA.val) uMie (fun w=>by kernel_rfl) k;rw [h];have e:(Option.map EA.val (aget k ls)).getD zeroEA.val=((aget k ls).getD zeroEA).val:=by cases aget k ls<;>rfl
  rw [e,hx.o];rfl
 have hr:=zh (show(edgeOf k s).low=x0 by rw [←hla];rfl);clear h hl1 hl2 hl3 hla;have hfd:(Instr.field 128 (.agg #[.int .i64 x0,.slice xA xs.length xc]) 0).run Tryz.prog w= .ok (.int .i64 x0) w:=by kernel_rfl
 go_enter Tryz.func30,Tryz.ntmps30;go_wp2_with fail
 go_ret;exact⟨by rw [hr.o];rfl,rfl⟩
set_option maxRecDepth 100000 in
theorem bfamily_t {w:World}{pb p mb t me:Nat}{room:Int}{X:List Nat}{s:BkS}(id:ByteArray) (h:BkAt w pb p mb t me room X s):Calls Tryz.prog 28 #[.pointer (some ⟨pb,0,none⟩),.string id] w (FamPost w s.g id):=by
 have hh:=zh h;clear h;have hzs:∃zs:Array Value,zs.size=11∧Hid (zs=zeroFA.cells):=⟨_,rfl,zh rfl⟩
 obtain⟨zs,hz,hzh⟩:=hzs;have hz11:=zh hz;go_enter Tryz.func28,Tryz.ntmps28;go_upto_region 1 with(fail)
 refine wp_gen (fun W=>Blk W w.heap.size 26 zs∧Fr [] w W) ⟨by rw [hzh.o];exact Blk.new _ _ _,(Fr.refl _ _).alloc _⟩ ?_;rintro W ⟨hR,fW⟩;obtain⟨gr,HGR⟩:∃z,Hid (w.heap.size=z):=⟨_,zh rfl⟩
 rw [HGR.o]at hR⊢;have hgr:=bgrants_t (hh.o.fr0 fW);have hfm:=family_t W p mb room X s.g id (hh.o.fr0 fW).hg;unfold FamPost at hfm;obtain⟨is,his⟩:∃z,Hid ((aget id s.g).isSome=z):=⟨_,zh rfl⟩
 rw [his.o]at hfm;have fWh:=zh fW;have hRh:=zh hR;clear fW hR;go_wp2_with fail
 refine Calls.mono (show Calls Tryz.prog 76 _ _ _ from hgr) ?_;rintro e V ⟨rfl,rfl⟩;clear hgr;go_wp2_with fail
 refine Calls.mono (show Calls Tryz.prog 89 _ _ _ from hfm) ?_;rintro e V ⟨y,rfl,hy,hyW,fV⟩;have hRV:=zh (hRh.o.fr fV (by simp));have hyh:=zh hy;have hyWh:=zh hyW;have FV:=zh (fWh.o.trans fV);have hgrl:=zh (show gr<W.heap.size from hRh.o.lt);clear hfm hy hyW fV;go_wp2_with (refine wpList_store_row rfl 26 _ _ rfl gr y.cells rfl rfl 26 zs hRV.o (infoFamA y) (by rw [hz11.o];rfl) y.all1 ?_)
 refine bodyPost_ret (results_ct rfl _ _ gr 26 _ (0,0) _ rfl (Blk.setRow hRV.o _) uFam rfl (infoFamA y) rfl) rfl ?_;rw [←his.o];exact⟨y,rfl,hyh.o,(hyWh.o.fr (S:= [gr]) ((Fr.refl [gr] V).setRow (.inl (by simp)) y.cells) (fun g hg=>by rw [List.mem_singleton.1 hg];exact hgrl.o)).below fWh.o.size,FV.o.setRow (.inr (Nat.le_of_eq HGR.o)) _⟩
set_option maxRecDepth 100000 in
theorem broot_t {w:World}{pb p mb t me:Nat}{room:Int}{X:List Nat}{s:BkS}(h:BkAt w pb p mb t me room X s):Calls Tryz.prog 21 #[.pointer (some ⟨pb,0,none⟩)] w fun e w'=>e= .returned (.agg (digCells (T.nodeD (tabM s.g) [])))∧Fr [] w w':=by
 have hh:=zh h;clear h;have hD:(T.nodeD (tabM s.g) []).length=32:=T.nodeD_length _ _;obtain⟨D,hDD⟩:∃z,Hid (T.nodeD (tabM s.g) []=z):=⟨_,zh rfl⟩
 have hn:∀V,Fr [] w V→Calls Tryz.prog 86 #[.pointer (some ⟨t,0,none⟩),.slice none 0 0] V fun e w'=>e= .returned (.tuple #[.agg (digCells D),.int .i64 (T.nodeE [])])∧Fr [] V w':=fun V hV=>by rw [←hDD.o];exact T.node_t V X t (tabM s.g) (hh.o.ht.fr0 hV) (tab_good hh.o.ok hh.o.hr.2).small none 0 0 [] (Rd.nil _ _ _) rfl (by omega)
 rw [hDD.o]at hD⊢;have hnh:=zh hn;clear hn;go_enter Tryz.func21,Tryz.ntmps21;go_upto_region 1 with(fail)
 have hzs:∃zs:Array Value,zs.size=32∧Hid (zs=digCells T.zeroDig):=⟨_,rfl,zh rfl⟩
 obtain⟨zs,hz,hzh⟩:=hzs;have hz32:=zh hz;refine wp_gen (fun W=>Blk W w.heap.size 74 zs∧Fr [] w W) ⟨by rw [hzh.o];exact Blk.new _ _ _,(Fr.refl _ _).alloc _⟩ ?_;rintro W ⟨hR,fW⟩;obtain⟨gr,HGR⟩:∃z,Hid (w.heap.size=z):=⟨_,zh rfl⟩
 rw [HGR.o]at hR⊢;have hrw:=brows_t (hh.o.fr0 fW);have hnd:=hnh.o W fW;have fWh:=zh fW;have hRh:=zh hR;clear fW hR hz;go_upto_region 2 with(first | (go_at_call 85;refine hrw.mono ?_;rintro e V ⟨rfl,rfl⟩) | (go_at_call 86;refine hnd.mono ?_;rintro e W1 ⟨rfl,F1⟩) | (refine wpList_store_row rfl 74 _ _ rfl W1.heap.size (digCells D) rfl rfl 74 _ (Blk.new W1 74 _) (infoDigA hD) (by rw [digCells_size hD];rfl) (digCells_one D) ?_))
 refine wp_gen (fun W3=>Blk W3 W1.heap.size 74 (digCells D)∧Fr [] W1 W3) ⟨Blk.setRow (Blk.new _ _ _) _,((Fr.refl [] W1).alloc _).setRow (.inr (Nat.le_refl _)) _⟩ ?_;rintro W3 ⟨hB3,F3⟩;obtain⟨gd,HGD⟩:∃z,Hid (W1.heap.size=z):=⟨_,zh rfl⟩
 rw [HGD.o]at hB3⊢;have hR3:=zh (hRh.o.fr (F1.trans F3) (by simp));have FF:=zh (fWh.o.trans (F1.trans F3));clear F1 F3 hnd;go_wp2_with (first | (refine wpList_load_at rfl 74 _ rfl rfl hB3 (sub_self _) uDig rfl (by rw [Array.length_toList];exact infoDigA hD) ?_;rw [Array.toArray_toList]) | (refine wpList_store_row rfl 74 _ _ rfl gr _ rfl rfl 74 zs hR3.o (infoDigA hD) (by rw [digCells_size hD];exact hz32.o) (digCells_one D) ?_))
 refine bodyPost_ret (results_cell_row rfl _ _ gr 74 _ (0,0) _ rfl (Blk.setRow hR3.o _) uDig rfl (infoDigA hD)) rfl ?_;exact⟨rfl,FF.o.setRow (.inr (Nat.le_of_eq HGR.o)) _⟩
end Go.Proofs.YtpmgepijkhaonaaGreat
namespace Go.Proofs.YtpmgepijkhaonaaGreat
open Go.RowKit Go.Sig
def BNewPost (w:World) (room:Int) (e:Ending) (w':World):Prop:=∃pb p mb t me,e= .returned (.tuple #[.pointer (some ⟨pb,0,none⟩),.int .i64 0])∧BkAt w' pb p mb t me room [mb,t,me] ⟨[],[]⟩∧(∀g∈ [pb,p,mb,t,me],w.heap.size≤g)∧Fr [] w w'
theorem bnew_ok {w W1 W2:World}{p mb t:Nat}{room:Int}(h1:1≤room) (h2:room≤256) (hb:BookAt W1 p mb room [mb] []) (hp:w.heap.size≤p) (hm:w.heap.size≤mb) (F1:Fr [] w W1) (ht:W1.heap.size≤t) (hT:T.TrieIn W2 [t,mb] t []) (F2:Fr [] W1 W2):
  BNewPost w room (.returned (.tuple #[.pointer (some ⟨W2.heap.size+1,0,none⟩),.int .i64 0])) ((W2.alloc (.map #[] 0)).alloc (.cells #[.pointer (some ⟨p,0,none⟩),.pointer (some ⟨t,0,none⟩),.map (some W2.heap.size)] 124)):=by
 have f3:Fr [] W2 ((W2.alloc (.map #[] 0)).alloc (.cells #[.pointer (some ⟨p,0,none⟩),.pointer (some ⟨t,0,none⟩),.map (some W2.heap.size)] 124)):=((Fr.refl [] _).alloc _).alloc _;have hs:W2.heap.size+1<((W2.alloc (.map #[] 0)).alloc (.cells #[.pointer (some ⟨p,0,none⟩),.pointer (some ⟨t,0,none⟩),.map (some W2.heap.size)] 124)).heap.size:=by rw [World.size_alloc,World.size_alloc];omega
 have hpb:Blk ((W2.alloc (.map #[] 0)).alloc (.cells #[.pointer (some ⟨p,0,none⟩),.pointer (some ⟨t,0,none⟩),.map (some W2.heap.size)] 124)) (W2.heap.size+1) 124 #[.pointer (some ⟨p,0,none⟩),.pointer (some ⟨t,0,none⟩),.map (some W2.heap.size)]:=by have:=Blk.new (W2.alloc (.map #[] 0)) 124 #[.pointer (some ⟨p,0,none⟩),.pointer (some ⟨t,0,none⟩),.map (some W2.heap.size)];rwa [World.size_alloc]at this
 have hM:=(IsMap.new W2 (Value.int .i64) EA.val).alloc (.cells #[.pointer (some ⟨p,0,none⟩),.pointer (some ⟨t,0,none⟩),.map (some W2.heap.size)] 124);generalize(W2.alloc (.map #[] 0)).alloc (.cells #[.pointer (some ⟨p,0,none⟩),.pointer (some ⟨t,0,none⟩),.map (some W2.heap.size)] 124)=W3 at*
 have htl:t<W2.heap.size:=by obtain⟨_,_,_,h3,h4⟩:=hT;exact h4 _ h3
 have hpl:=hb.hp.lt;have hml:=hb.hb.lt;have hs1:=F1.size;have hs2:=F2.size;have F23:=F2.trans f3;have hY:∀g∈ [t,W2.heap.size],W1.heap.size≤g∧g<W3.heap.size:=fun g hg=>by simp only [List.mem_cons,List.not_mem_nil,or_false]at hg;rcases hg with rfl |rfl<;>omega
 refine⟨_,p,mb,t,W2.heap.size,rfl,⟨hpb,hb.more F23 hY,?_,⟨[],hM,rfl,fun q hq=>by cases hq⟩,⟨bkOk_nil,by show((0:Nat):Int)≤room;omega,List.nodup_nil,fun k e h=>by cases h⟩,⟨h1,h2⟩,by simp,?_⟩,fun g hg=> ?_,F1.trans F23⟩
 ·refine TrieIn.to hT f3 (by simp) (fun g hg=> ?_) (by simp) (fun g hg=> ?_) (by simp)
  ·simp only [List.mem_cons,List.not_mem_nil,or_false]at hg⊢;rcases hg with rfl |rfl |rfl
   ·exact .inl (.inr rfl)
   ·exact .inl (.inl rfl)
   ·exact .inr (Nat.le_refl _)
  ·simp only [List.mem_cons,List.not_mem_nil,or_false]at hg;rcases hg with rfl |rfl |rfl<;>omega
 ·have:=hb.hne;simp only [List.nodup_cons,List.mem_cons,List.not_mem_nil,or_false,not_or,List.nodup_nil,and_true,not_false_eq_true];omega
 ·simp only [List.mem_cons,List.not_mem_nil,or_false]at hg;rcases hg with rfl |rfl |rfl |rfl |rfl<;>omega
theorem bnew_t (w:World) (room:Int) (h1:1≤room) (h2:room≤256):Calls Tryz.prog 18 #[.int .i64 room] w (BNewPost w room):=by
 have hmm:= @run_makeMap Tryz.prog;have hgn:=gnew_t w room h1 h2;unfold NewPost at hgn;have h1h:=zh h1;have h2h:=zh h2;clear h1 h2;go_enter Tryz.func18,Tryz.ntmps18;go_wp2_with fail
 refine Calls.mono (show Calls Tryz.prog 73 _ _ _ from hgn) ?_;rintro e W1 ⟨p,mb,rfl,hb,hp,hm,F1⟩;have hbl:=hb.hb.lt;have hbh:=zh hb;have F1h:=zh F1;have hph:=zh hp;have hmh:=zh hm;have htn:=T.new_t W1 [mb] (fun g hg=>by rw [List.mem_singleton.1 hg];exact hbl) none 0 0 [] (Rd.nil _ _ _) rfl (by omega) (fun y hy=>by cases hy);unfold T.NewPost at htn;clear hgn hb hp hm F1 hbl;go_wp2_with fail
 refine Calls.mono (show Calls Tryz.prog 74 _ _ _ from htn) ?_;rintro e W2 ⟨F2,hc⟩;rcases hc with⟨hr,t,rfl,ht,hT,_⟩ | ⟨hr,_⟩
 ·have hT':T.TrieIn W2 [t,mb] t []:=hT;have hfin:=zh (bnew_ok h1h.o h2h.o hbh.o hph.o hmh.o F1h.o ht hT' F2);clear htn hr hT hT' F2 ht;go_wp2_with fail
  go_ret2;exact hfin.o
 ·exact absurd rfl hr
end Go.Proofs.YtpmgepijkhaonaaGreat
namespace Go.Proofs.YtpmgepijkhaonaaGreat
open Go.RowKit Go.Sig
def kC:GCmd:=⟨4,⟨#[102,49]⟩,0,0,⟨#[97]⟩,⟨#[]⟩,[],⟨#[]⟩,⟨#[]⟩,⟨#[]⟩,⟨#[]⟩,false,0⟩
def kO1:GOp:=⟨1,5,5,kC⟩
def kO2:GOp:=⟨1,4,0,kC⟩
def kS0:BkS:=⟨[],[]⟩
def kS1:BkS:=(bookDo 4 kO1 kS0).1
theorem kx1:(bookDo 4 kO1 kS0).2.access=1:=by decide+kernel
theorem kx2:(bookDo 4 kO1 kS1).2.access=1:=by decide+kernel
theorem kx3:(bookDo 4 kO2 (bookDo 4 kO1 kS1).1).2.why=1:=by decide+kernel
theorem kx4:(bookDo 4 kO2 (bookDo 4 kO1 kS1).1).1.g.length=1:=by decide+kernel
theorem kx5:(edgeOf 1 (bookDo 4 kO2 (bookDo 4 kO1 kS1).1).1).low=5:=by decide+kernel
theorem kx6:(aget ⟨#[102,49]⟩ (bookDo 4 kO2 (bookDo 4 kO1 kS1).1).1.g).isSome=true:=by decide+kernel
theorem kx7:T.nodeD (tabM (bookDo 4 kO2 (bookDo 4 kO1 kS1).1).1.g) []≠T.zeroDig:=by decide+kernel
theorem kx8:8<(famText ((aget ⟨#[102,49]⟩ (bookDo 4 kO2 (bookDo 4 kO1 kS1).1).1.g).getD zeroF)).size:=by decide+kernel
def kS2:BkS:=(bookDo 4 kO1 kS1).1
def kS3:BkS:=(bookDo 4 kO2 kS2).1
theorem opV_one (o:GOp) (A:Option Addr) (n d:Nat):(opV o A n d).all (·.oneCell')=true:=by unfold opV;kernel_rfl
theorem op_in (w:World):CmdIn w kC none 0:=nil_cmd w kC rfl (by decide)
theorem neq_dig (x y:List UInt8) (hx:x.length=32) (hy:y.length=32) (w:World):(binOp .neq 74 (.agg (digCells x)) (.agg (digCells y))).run Tryz.prog w= .ok (.bool (!(x==y))) w:=by
 unfold digCells;have h:(Op.equalIn 10000 74 (.agg (x.map bv).toArray) (.agg (y.map bv).toArray)).run Tryz.prog w= .ok (x==y) w:=run_equalIn_bytes w 9998 74 5 32 uDig (by kernel_rfl) (fun w=>by kernel_rfl) x y hx hy;rw [run_neq_struct,h];rfl
set_option maxRecDepth 100000 in
set_option maxHeartbeats 4000000 in
theorem bknown_t (w:World):Calls Tryz.prog 7 #[] w fun e w'=>e= .returned (.bool true)∧Fr [] w w':=by
 have hnew:=bnew_t w 4 (by omega) (by omega);unfold BNewPost at hnew;go_enter Tryz.func7,Tryz.ntmps7;go_wp2_with fail
 refine Calls.mono (show Calls Tryz.prog 18 _ _ _ from hnew) ?_;rintro e W0 ⟨pb,p,mb,t,me,rfl,hb,hlo,F0⟩;have hbh:=zh hb;have hloh:=zh hlo;have F0h:=zh F0;clear hnew hb hlo F0;go_upto_region 5 with(refine wpList_store_row rfl 72 _ _ rfl W0.heap.size (opV kO1 none 0 0) rfl rfl 72 _ (Blk.new _ _ _) (infoOp kO1 none 0 0) (by kernel_rfl) (opV_one _ _ _ _) ?_)
 refine wp_gen (fun V=>Blk V W0.heap.size 72 (opV kO1 none 0 0)∧Fr [] W0 V) ⟨Blk.setRow (Blk.new _ _ _) _,((Fr.refl [] W0).alloc _).setRow (.inr (Nat.le_refl _)) _⟩ ?_;rintro W1 ⟨hO,F1⟩;obtain⟨go,HGO⟩:∃z,Hid (W0.heap.size=z):=⟨_,zh rfl⟩
 rw [HGO.o]at hO⊢;have hb1:=hbh.o.more (Y:= [go]) F1 (fun g hg=>by
  rw [List.mem_singleton.1 hg];exact⟨Nat.le_of_eq HGO.o,hO.lt⟩)
 have hlow:=zh hbh.o.low;have hgo:=zh (show∀g∈ [mb,t,me],g≠go from fun g hg=>by
  have h1:g<W0.heap.size:=hbh.o.low g (by
   simp only [List.mem_cons,List.not_mem_nil,or_false]at hg;rcases hg with rfl |rfl |rfl<;>simp)
  have:=HGO.o;omega)
 have hnO:=zh (show go∉ [mb,t,me]from fun hm=>hgo.o _ hm rfl);have hO1:=hO;have hOl:=zh (show W0.heap.size≤go from Nat.le_of_eq HGO.o);have FF1:=zh F1;clear hO F1;have hd1:=bop_t W1 pb p mb t me 4 _ kS0 kO1 none 0 0 hb1 (op_in W1);unfold BDoPost at hd1;go_upto_region 6 with(first | (refine wpList_load_at rfl 72 _ rfl rfl hO1 (sub_self _) uOp rfl (by rw [Array.length_toList];exact infoOp _ _ _ _) ?_;rw [Array.toArray_toList]) | (go_at_call 20;refine hd1.mono ?_;rintro e V1 ⟨y1,rfl,hy1,hA1,hk1,G1⟩) | (refine wpList_store_row rfl 67 _ _ rfl V1.heap.size y1.cells rfl rfl 67 _ (Blk.new _ _ _) (infoAA y1) (by kernel_rfl) y1.all1 ?_))
 refine wp_gen (fun V=>Blk V V1.heap.size 67 y1.cells∧Fr [] V1 V) ⟨Blk.setRow (Blk.new _ _ _) _,((Fr.refl [] V1).alloc _).setRow (.inr (Nat.le_refl _)) _⟩ ?_;rintro W2 ⟨hY1,f1⟩;obtain⟨g1,HG1⟩:∃z,Hid (V1.heap.size=z):=⟨_,zh rfl⟩
 rw [HG1.o]at hY1⊢;have hn1:=zh (show g1∉ [mb,t,me]∧g1≠go from⟨fun hm=>by
  have h1:g1<W0.heap.size:=hlow.o _ (by
   simp only [List.mem_cons,List.not_mem_nil,or_false]at hm;rcases hm with rfl |rfl |rfl<;>simp)
  have:=hOl.o;have:=HGO.o;have:=HG1.o;have:=FF1.o.size;have:=G1.size;omega,by have:=HG1.o;have:=G1.size;have:=hO1.lt;omega⟩)
 have hO2:=(hO1.fr G1 hnO.o).fr f1 (by simp);have hb2:BkAt W2 pb p mb t me 4 _ kS1:=hk1.fr0 f1;have ha1:=zh hy1;have FF2:=zh ((FF1.o.nil (S:= [mb,t,me])).trans (G1.trans f1.nil));clear hd1 hO1 hb1 hk1 G1 f1 hA1 hy1;have hd2:=bop_t W2 pb p mb t me 4 _ kS1 kO1 none 0 0 hb2 (op_in W2);unfold BDoPost at hd2;go_upto_region 7 with(first | (refine wpList_load_at rfl 72 _ rfl rfl hO2 (sub_self _) uOp rfl (by rw [Array.length_toList];exact infoOp _ _ _ _) ?_;rw [Array.toArray_toList]) | (go_at_call 20;refine hd2.mono ?_;rintro e V2 ⟨y2,rfl,hy2,hA2,hk2,G2⟩) | (refine wpList_store_row rfl 67 _ _ rfl V2.heap.size y2.cells rfl rfl 67 _ (Blk.new _ _ _) (infoAA y2) (by kernel_rfl) y2.all1 ?_))
 refine wp_gen (fun V=>Blk V V2.heap.size 67 y2.cells∧Fr [] V2 V) ⟨Blk.setRow (Blk.new _ _ _) _,((Fr.refl [] V2).alloc _).setRow (.inr (Nat.le_refl _)) _⟩ ?_;rintro W3 ⟨hY2,f2⟩;obtain⟨g2,HG2⟩:∃z,Hid (V2.heap.size=z):=⟨_,zh rfl⟩
 rw [HG2.o]at hY2⊢;have hn2:=zh (show g2∉ [mb,t,me]∧g2≠go from⟨fun hm=>by
  have h1:g2<W0.heap.size:=hlow.o _ (by
   simp only [List.mem_cons,List.not_mem_nil,or_false]at hm;rcases hm with rfl |rfl |rfl<;>simp)
  have:=hOl.o;have:=HGO.o;have:=HG2.o;have:=FF2.o.size;have:=G2.size;omega,by have:=HG2.o;have:=G2.size;have:=hO2.lt;omega⟩)
 have hO3:=(hO2.fr G2 hnO.o).fr f2 (by simp);have hb3:BkAt W3 pb p mb t me 4 _ kS2:=hk2.fr0 f2;have ha2:=zh hy2;have FF3:=zh (FF2.o.trans (G2.trans f2.nil));have hY1b:=(hY1.fr G2 hn1.o.1).fr f2 (by simp);clear hd2 hO2 hb2 hk2 G2 f2 hA2 hy2 hY1;have c1:=hO3.cell 1;have c2:=hO3.cell 2;have z1:=hO3.frozen 1;have z2:=hO3.frozen 2;unfold opV at c1 c2;simp only [zG,zH,zI]at c1 c2;have hol:=hO3.lt;go_upto_region 8 with(fail)
 refine wp_gen (fun V=>Blk V go 72 (opV kO2 none 0 0)∧Fr [go] W3 V) ⟨(hO3.set 1 _).set 2 _,((Fr.refl [go] W3).setCell (p:=⟨go,1,none⟩) (.inl (by simp)) _).setCell (p:=⟨go,2,none⟩) (.inl (by simp)) _⟩ ?_;clear c1 c2 z1 z2 hol;rintro W4 ⟨hO4,F4⟩;have hb4:=hb3.fr F4 (fun g hg=> .inl (List.mem_append.2 (.inl (List.mem_append.2 (.inl (List.mem_append.2 (.inr hg))))))) (hbh.o.new hOl.o);have hY1c:=hY1b.fr F4 (by simpa using hn1.o.2);have hY2c:=hY2.fr F4 (by simpa using hn2.o.2);have FF4:=zh (show Fr [mb,t,me] W0 W4 from((FF3.o.mono (S':=go:: [mb,t,me]) (fun g hg=>List.mem_cons.2 (.inr hg))).trans (F4.mono (fun g hg=>by rw [List.mem_singleton.1 hg];simp))).mono' (fun g hg=>(List.mem_cons.1 hg).elim (fun e=> .inr (by rw [e];exact hOl.o)) .inl));clear hb3 hO3 F4 hY1b hY2;have hd3:=bop_t W4 pb p mb t me 4 _ kS2 kO2 none 0 0 hb4 (op_in W4);unfold BDoPost at hd3;go_upto_region 9 with(first | (refine wpList_load_at rfl 72 _ rfl rfl hO4 (sub_self _) uOp rfl (by rw [Array.length_toList];exact infoOp _ _ _ _) ?_;rw [Array.toArray_toList]) | (go_at_call 20;refine hd3.mono ?_;rintro e V3 ⟨y3,rfl,hy3,hA3,hk3,G3⟩) | (refine wpList_store_row rfl 67 _ _ rfl V3.heap.size y3.cells rfl rfl 67 _ (Blk.new _ _ _) (infoAA y3) (by kernel_rfl) y3.all1 ?_))
 refine wp_gen (fun V=>Blk V V3.heap.size 67 y3.cells∧Fr [] V3 V) ⟨Blk.setRow (Blk.new _ _ _) _,((Fr.refl [] V3).alloc _).setRow (.inr (Nat.le_refl _)) _⟩ ?_;rintro W5 ⟨hY3,f3⟩;obtain⟨g3,HG3⟩:∃z,Hid (V3.heap.size=z):=⟨_,zh rfl⟩
 rw [HG3.o]at hY3⊢;have hn3:=zh (show g3∉ [mb,t,me]∧g3≠go from⟨fun hm=>by
  have h1:g3<W0.heap.size:=hlow.o _ (by
   simp only [List.mem_cons,List.not_mem_nil,or_false]at hm;rcases hm with rfl |rfl |rfl<;>simp)
  have:=hOl.o;have:=HGO.o;have:=HG3.o;have:=FF4.o.size;have:=G3.size;omega,by have:=HG3.o;have:=G3.size;have:=hO4.lt;omega⟩)
 have hb5:BkAt W5 pb p mb t me 4 _ kS3:=hk3.fr0 f3;have ha3:=zh hy3;have FF5:=zh (FF4.o.trans (G3.trans f3.nil));have hY1d:=zh ((hY1c.fr G3 hn1.o.1).fr f3 (by simp));have hY2d:=zh ((hY2c.fr G3 hn2.o.1).fr f3 (by simp));have hY3d:=zh hY3;have hb5h:=zh hb5;clear hd3 hO4 hb4 hk3 G3 f3 hA3 hy3 hY1c hY2c hY3;have hfm:=bfamily_t ⟨#[102,49]⟩ hb5;unfold FamPost at hfm;rw [show(aget (⟨#[102,49]⟩:ByteArray) kS3.g).isSome=true from kx6]at hfm;clear hb5;go_upto_region 10 with(first | (go_at_call 28;refine hfm.mono ?_;rintro e V4 ⟨x,rfl,hx,hxW,G4⟩) | (refine wpList_store_row rfl 26 _ _ rfl V4.heap.size x.cells rfl rfl 26 _ (Blk.new _ _ _) (infoFamA x) (by kernel_rfl) x.all1 ?_))
 refine wp_gen (fun V=>Blk V V4.heap.size 26 x.cells∧Fr [] V4 V) ⟨Blk.setRow (Blk.new _ _ _) _,((Fr.refl [] V4).alloc _).setRow (.inr (Nat.le_refl _)) _⟩ ?_;rintro W6 ⟨hX6,f4⟩;obtain⟨gf,HGF⟩:∃z,Hid (V4.heap.size=z):=⟨_,zh rfl⟩
 rw [HGF.o]at hX6⊢;have hxf:x.f=(aget (⟨#[102,49]⟩:ByteArray) kS3.g).getD zeroF:=hx;have hfok:FamOk x.f:=by
  rw [hxf];cases hag:aget (⟨#[102,49]⟩:ByteArray) kS3.g with
  |none=>exact absurd kx6 (by rw [show(aget (⟨#[102,49]⟩:ByteArray) (bookDo 4 kO2 (bookDo 4 kO1 kS1).1).1.g)=none from hag];decide)
  |some f=>exact(hb5h.o.hg.ok.2 _ _ hag).2
 have htx:Calls Tryz.prog 8 #[.agg x.cells] W6 fun e w'=>e= .returned (.tuple #[.string (famText x.f),.int .i64 0])∧Fr [] W6 w':=btext_t W6 x ((hxW.fam (X:= []) (by simp)).fr f4) hfok;have hszx:Hid (8<(famText x.f).size):=by rw [hxf];exact zh kx8
 have FF6:=zh (FF5.o.trans (G4.trans f4).nil);have h56:=zh (G4.trans f4);have hX6h:=zh hX6;clear hfm hx hxW G4 f4 hfok hxf;go_upto_region 11 with(first | (refine wpList_load_at rfl 26 _ rfl rfl hX6h.o (sub_self _) uFam rfl (infoFamL _) ?_;rw [Array.toArray_toList]) | (go_at_call 8;refine htx.mono ?_;rintro e V5 ⟨rfl,G5⟩))
 refine wp_gen (fun V=>Fr [] W6 V) G5 ?_;rintro W7 F7;have F57:=zh (h56.o.trans F7);have FF7:=zh (FF6.o.trans F7.nil);have b1:=hY1d.o.fr F57.o (by simp);have b2:=hY2d.o.fr F57.o (by simp);have b3:=hY3d.o.fr F57.o (by simp);have e1:=b1.cell 1;have e2:=b2.cell 1;have e3:=b3.cell 0;have l1:=b1.lt;have l2:=b2.lt;have l3:=b3.lt;unfold AA.cells at e1 e2 e3;simp only [zG,zH,zI]at e1 e2 e3;rw [show y1.a.access=1 from by rw [ha1.o];exact kx1]at e1;rw [show y2.a.access=1 from by rw [ha2.o];exact kx2]at e2;rw [show y3.a.why=1 from by rw [ha3.o];exact kx3]at e3;have hb7:=hb5h.o.fr0 F57.o;have hct:Calls Tryz.prog 29 #[.pointer (some ⟨pb,0,none⟩)] W7 fun e w'=>e= .returned (.int .i64 1)∧W7=w':=by have h:=bcount_t hb7;rw [show kS3.g.length=1 from kx4]at h;exact h
 have hlw:Calls Tryz.prog 30 #[.pointer (some ⟨pb,0,none⟩),.int .i64 1] W7 fun e w'=>e= .returned (.int .i64 5)∧W7=w':=by have h:=blow_t 1 hb7;rw [show(edgeOf 1 kS3).low=5 from kx5]at h;exact h
 have hrt:=broot_t hb7;obtain⟨D,HD⟩:∃z,Hid (T.nodeD (tabM kS3.g) []=z):=⟨_,zh rfl⟩
 have hDl:D.length=32:=by rw [←HD.o];exact T.nodeD_length _ _
 have hDn:(D==T.zeroDig)=false:=by rw [beq_eq_false_iff_ne,←HD.o];exact kx7
 rw [HD.o]at hrt;have hneq:∀w,(binOp .neq 74 (.agg (digCells D)) (.agg #[.int .u8 0,.int .u8 0,.int .u8 0,.int .u8 0,.int .u8 0,.int .u8 0,.int .u8 0,.int .u8 0,.int .u8 0,.int .u8 0,.int .u8 0,.int .u8 0,.int .u8 0,.int .u8 0,.int .u8 0,.int .u8 0,.int .u8 0,.int .u8 0,.int .u8 0,.int .u8 0,.int .u8 0,.int .u8 0,.int .u8 0,.int .u8 0,.int .u8 0,.int .u8 0,.int .u8 0,.int .u8 0,.int .u8 0,.int .u8 0,.int .u8 0,.int .u8 0])).run Tryz.prog w= .ok (.bool true) w:=fun w=>by have h:=neq_dig D T.zeroDig hDl rfl w;rw [hDn]at h;exact h
 have hsz:decide (8<((famText x.f).size:Int))=true:=decide_eq_true (by
  have h:8<(famText x.f).size:=hszx.o;omega)
 clear hDl hDn b1 b2 b3 hb7 F7 htx G5;go_wp2_with (first | (go_at_call 29;refine hct.mono ?_;rintro e V6 ⟨rfl,rfl⟩) | (go_at_call 30;refine hlw.mono ?_;rintro e V6 ⟨rfl,rfl⟩) | (go_at_call 21;refine hrt.mono ?_;rintro e V6 ⟨rfl,G6⟩;have G6h:=zh G6;clear G6))
 go_ret;exact⟨rfl,F0h.o.andThen (FF7.o.trans G6h.o.nil) (fun g hg=> .inr (hloh.o g (List.mem_cons_of_mem _ (List.mem_cons_of_mem _ hg))))⟩
end Go.Proofs.YtpmgepijkhaonaaGreat
