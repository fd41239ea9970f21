/- Walks of a book's commands: what they begin with; a family goes. Conditions: each theorem's own. -/
import Derived.Test.YtpmgepijkhaonaaGreatGw
import Derived.Test.YtpmgepijkhaonaaGreatGn
namespace Go.Proofs.YtpmgepijkhaonaaGreat
open Go.RowKit Go.Sig
def AnsPost (w0:World) (mb:Nat) (X:List Nat) (res:GBk×GAns) (e:Ending) (w':World):Prop:=
 ∃y:AA,e= .returned y.val∧y.a=res.2∧AnsIn w' w0.heap.size y∧BkIn w' mb (X++rowOf y.slice) res.1∧Fr [mb] w0 w'
structure Br (w0 w:World) (p mb:Nat) (room:Int) (X:List Nat) (b:GBk) (c:GCmd) (A:Option Addr) (n d:Nat) (x:FA) (is:Bool):Prop where
 hp:Blk w0 p 183 #[.map (some mb),.int .i64 room]
 hb:BkIn w0 mb X b
 ok:BkOk b
 F0:Fr [] w0 w
 fam:FamW w w0.heap.size x
 get:aget c.family b=if is=true then some x.f else none
 zero:is=false→x.f=zeroF
 hX:∀g∈X,g<w0.heap.size
 hmb:mb∈X
 hS:Rd w0 1 A n (strCells c.scope)
 hn:c.scope.length=n
 hn32:n≤1000
 may:MayOk c
theorem FamW.famO {w:World}{B:Nat}{x:FA}{X:List Nat}(h:FamW w B x) (hX:FOff x X):FamIn w X x:=
 ⟨h.ts,⟨h.scope.rd,fun _=>hX.s⟩,⟨h.toks.rd,fun _=>hX.t⟩,⟨h.leases.rd,fun _=>hX.l⟩,fun t ht=>⟨(h.each t ht).rd,fun _=>hX.e t ht⟩⟩
theorem foff_from {w:World}{B:Nat}{x:FA}{X:List Nat}(h:FamW w B x) (hX:∀g∈X,g<B):FOff x X:=⟨h.fs.off hX,h.ft.off hX,h.fl.off hX,fun t ht=>(h.fe t ht).off hX⟩
theorem foff_many {w:World}{B:Nat}{x:FA}{Y:List Nat}(h:FamW w B x) (hY:∀g∈Y,w.heap.size≤g):FOff x Y:=by
 have off:∀{A':Option Addr}{n' c' e size m:Nat}{xs:List Value},Own w e size (.slice A' n' c') m xs→Off Y A':=fun h1 ad e hm=>by have:=h1.lt ad.block (rowOf_mem.2 ⟨ad,e,rfl⟩);have:=hY _ hm;omega
 exact⟨off h.scope,off h.toks,off h.leases,fun t ht=>off (h.each t ht)⟩
theorem br_pre {w0 w W:World}{p mb:Nat}{room:Int}{X:List Nat}{b:GBk}{c:GCmd}{A:Option Addr}{n d:Nat}{x:FA}{is:Bool}(h:Br w0 w p mb room X b c A n d x is) (fW:Fr [] w W) (Y:List Nat) (hY:∀g∈Y,w.heap.size≤g):
  FOff x Y∧BkIn W mb (X++Y) b∧FamIn W (X++Y) x∧FamW W w0.heap.size x∧Blk W p 183 #[.map (some mb),.int .i64 room]∧Fr [] w0 W:=by
 have hFO:=foff_many h.fam hY;have hW:=h.fam.fr0 fW;have hw:=h.F0.size;exact⟨hFO,bk_same h.hb (h.F0.trans fW) (fun g hg=>by have:=hY g hg;omega),hW.famO ((foff_from hW h.hX).app hFO),hW,h.hp.fr (h.F0.trans fW) (by simp),h.F0.trans fW⟩
theorem Br.famOk {w0 w:World}{p mb:Nat}{room:Int}{X:List Nat}{b:GBk}{c:GCmd}{A:Option Addr}{n d:Nat}{x:FA}(h:Br w0 w p mb room X b c A n d x true):FamOk x.f∧x.f.id=c.family:=by
 have hg:=h.get;rw [if_pos rfl]at hg;exact⟨(h.ok.2 _ _ hg).2,(h.ok.2 _ _ hg).1⟩
theorem ans_no {w0 W1 W2:World}{mb:Nat}{X Y S:List Nat}{b1:GBk}(hb:BkIn W1 mb (X++Y) b1) (hF:Fr [mb] w0 W1) (hF2:Fr S W1 W2) (hS:∀g∈S,g∈Y∧w0.heap.size≤g) (hmw:mb<w0.heap.size) {a:GAns}(ha:a.scope= []) {res:GBk×GAns}(hr:res=(b1,a)):
  AnsPost w0 mb X res (.returned (AA.mk a none 0).val) W2:=by
 subst hr;have hm:mb∉S:=fun hm=>by have:=(hS mb hm).2;omega
 refine⟨⟨a,none,0⟩,rfl,rfl,⟨?_,fun ad e=>by cases e⟩,?_,hF.andThen hF2 (fun i hi=> .inr (hS i hi).2)⟩
 ·unfold AA.slice;rw [ha];exact Own.nil _ _ _
 ·have hbk:=hb.fr hF2 (fun g hg=> .inl (List.mem_append.2 (.inr (hS g hg).1))) hm;exact hbk.mono (fun g hg=>(List.mem_append.1 hg).elim (fun hg=>List.mem_append.2 (.inl hg)) (fun hg=>by simp [AA.slice,rowOf,Value.ownBlock]at hg))
theorem ans_fr {w w':World}{B:Nat}{y:AA}{S:List Nat}(h:AnsIn w B y) (hF:Fr S w w') (hS:∀g∈rowOf y.slice,g∉S):AnsIn w' B y:=⟨h.1.fr hF hS,h.2⟩
theorem AA.blk {w:World}{g:Nat}{t:TypeId}{y:AA}(h:Blk w g t y.cells):
  w.cell? ⟨g,0,none⟩=some (.int .i64 y.a.why)∧w.cell? ⟨g,1,none⟩=some (.int .i64 y.a.access)∧w.cell? ⟨g,2,none⟩=some (.int .i64 y.a.refresh)∧w.cell? ⟨g,3,none⟩=some (.slice y.A y.a.scope.length y.c)∧
  w.cell? ⟨g,4,none⟩=some (.string y.a.client)∧w.cell? ⟨g,5,none⟩=some (.string y.a.user)∧w.cell? ⟨g,6,none⟩=some (.bool y.a.active)∧w.cell? ⟨g,7,none⟩=some (.bool y.a.wait)∧(∀i,w.frozen? ⟨g,i,none⟩=false):=h.c8
theorem infoAnsY (y:AA):(Tryz.prog.info? 67).map (·.size)=some y.cells.size:=by unfold AA.cells;exact infoAns
theorem AA.size8 (y:AA):y.cells.size=8:=rfl
theorem AA.one (y:AA):y.cells.all (·.oneCell')=true:=by unfold AA.cells;kernel_rfl
theorem ans_yes {w0 W1 W2:World}{mb:Nat}{X Y S:List Nat}{b1:GBk}(hb:BkIn W1 mb (X++Y) b1) (hF:Fr [mb] w0 W1) (hF2:Fr S W1 W2) (hS:∀g∈S,g∈Y∧w0.heap.size≤g) (hmw:mb<w0.heap.size) (y:AA) (hy:AnsIn W1 w0.heap.size y)
  (hyY:∀g∈rowOf y.slice,g∈Y) (hyS:∀g∈rowOf y.slice,g∉S) {res:GBk×GAns}(hr:res=(b1,y.a)):AnsPost w0 mb X res (.returned y.val) W2:=by
 subst hr;have hm:mb∉S:=fun hm=>by have:=(hS mb hm).2;omega
 refine⟨y,rfl,rfl,ans_fr hy hF2 hyS,?_,hF.andThen hF2 (fun i hi=> .inr (hS i hi).2)⟩;exact(hb.fr hF2 (fun g hg=> .inl (List.mem_append.2 (.inr (hS g hg).1))) hm).mono (fun g hg=>(List.mem_append.1 hg).elim (fun hg=>List.mem_append.2 (.inl hg)) (fun hg=>List.mem_append.2 (.inr (hyY g hg))))
theorem bk_adel {w w':World}{mb:Nat}{X:List Nat}{b:GBk}{k:ByteArray}(l:List (ByteArray×FA)) (hl:l.map (fun p=>(p.1,p.2.f))=b) (hm:IsMap w' mb Value.string FA.val (adel k l)) (h3:∀p∈l,FamIn w X p.2) (F:Fr [mb] w w') (hmb:mb∈X):BkIn w' mb X (adel k b):=
 ⟨adel k l,hm,by rw [adel_fa,hl],fun p hp=>(h3 p (mem_adel hp)).fr (F.mono (fun i hi=>by simp at hi;rw [hi];exact hmb))⟩
set_option maxRecDepth 100000 in
set_option maxHeartbeats 4000000 in
theorem done_t {w0 w:World}{p mb:Nat}{room:Int}{X:List Nat}{b:GBk}{c:GCmd}{A:Option Addr}{n d:Nat}{x:FA}{is:Bool}(h:Br w0 w p mb room X b c A n d x is):
  Calls Tryz.prog 132 #[.pointer (some ⟨p,0,none⟩),.agg (cmdV c A n d),x.val,.bool is] w (AnsPost w0 mb X (doneM c b)):=by
 have hh:=zh h;clear h;unfold cmdV FA.val FA.cells;have hzs:∃zs:Array Value,zs.size=8∧Hid (zs=(AA.mk (noA 0) none 0).cells):=⟨_,rfl,zh rfl⟩
 obtain⟨zs,hz,hzh⟩:=hzs;go_enter Tryz.func132,Tryz.ntmps132;go_upto_region 1 with(fail)
 refine wp_gen (fun W=>Blk W w.heap.size 70 (cmdV c A n d)∧Blk W (w.heap.size+1) 26 x.cells∧Blk W (w.heap.size+1+1) 67 zs∧Fr [] w W) ⟨((Blk.new _ _ _).alloc _).alloc _,(Blk.new' _ _ (by simp)).alloc _,by rw [hzh.o];exact Blk.new' _ _ (by simp),(((Fr.refl _ _).alloc _).alloc _).alloc _⟩ ?_;rintro W ⟨hC,hB,hR,fW⟩;obtain⟨gc,HGC⟩:∃z,Hid (w.heap.size=z):=⟨_,zh rfl⟩
 have hgw:w.heap.size≤gc:=by have:=HGC.o;omega
 rw [HGC.o]at hC hB hR⊢;obtain⟨gf,HGF⟩:∃z,Hid (gc+1=z):=⟨_,zh rfl⟩
 rw [HGF.o]at hB hR⊢;obtain⟨gr,HGR⟩:∃z,Hid (gf+1=z):=⟨_,zh rfl⟩
 rw [HGR.o]at hR⊢;have hfr:gf≠gr:=by have:=HGF.o;have:=HGR.o;omega
 have hcr:gc≠gr:=by have:=HGF.o;have:=HGR.o;omega
 have hcf:gc≠gf:=by have:=HGF.o;omega
 have hgf:w.heap.size≤gf:=by have:=HGF.o;omega
 have hgr:w.heap.size≤gr:=by have:=HGF.o;have:=HGR.o;omega
 have hYw:∀g∈ [gc,gf,gr],w.heap.size≤g:=fun g hg=>by simp only [List.mem_cons,List.not_mem_nil,or_false]at hg;omega
 obtain⟨hFO,hbY,hxY,hW,hP,F0⟩:=br_pre hh.o fW [gc,gf,gr] hYw;have hmw:mb<w0.heap.size:=hh.o.hb.lt;have hw0w:w0.heap.size≤w.heap.size:=hh.o.F0.size;have hgr0:w0.heap.size≤gr:=by omega
 have hCh:=zh hC;have hBh:=zh hB;have hRh:=zh hR;have hFOh:=zh hFO;have hbYh:=zh hbY;have hxYh:=zh hxY;have hWh:=zh hW;have hPh:=zh hP;have F0h:=zh F0;have fWh:=zh fW;have hrl:=hR.lt;have hYwh:=zh hYw;clear hC hR hFO hbY hxY hW hP F0 fW hYw;have c9:=hB.cell 9;have hfl:=hB.lt;unfold FA.cells at c9;simp only [zG,zH,zI]at c9;clear hB;obtain⟨rv,hrv⟩:∃z,Hid (x.f.revoked=z):=⟨_,zh rfl⟩
 rw [hrv.o]at c9;have hget:=zh hh.o.get;cases is with
 |false=>
  have hres:=zh (show doneM c b=(b,noA 0) by unfold doneM;rw [hget.o];rfl);go_wp2_with (refine wpList_store_row rfl 67 _ _ rfl gr _ rfl rfl 67 zs hRh.o infoAns (by rw [hz];rfl) (by kernel_rfl) ?_)
  refine bodyPost_ret (results_cell_row rfl _ _ gr 67 _ (0,0) _ rfl (Blk.setRow hRh.o _) uAns rfl infoAns) rfl ?_;exact ans_no (a:=noA 0) hbYh.o F0h.o.nil ((Fr.refl [gr] W).setRow (.inl (by simp)) _) (fun g hg=>by simp at hg;rw [hg];exact⟨by simp,hgr0⟩) hmw rfl hres.o
 |true=>
  have hg:aget c.family b=some x.f:=by rw [hget.o,if_pos rfl]
  cases rv with
  |false=>
   have hres:=zh (show doneM c b=(b,noA 0) by unfold doneM;rw [hg];simp only;rw [if_neg (by rw [hrv.o];decide)]);clear hg;go_wp2_with (refine wpList_store_row rfl 67 _ _ rfl gr _ rfl rfl 67 zs hRh.o infoAns (by rw [hz];rfl) (by kernel_rfl) ?_)
   refine bodyPost_ret (results_cell_row rfl _ _ gr 67 _ (0,0) _ rfl (Blk.setRow hRh.o _) uAns rfl infoAns) rfl ?_;exact ans_no (a:=noA 0) hbYh.o F0h.o.nil ((Fr.refl [gr] W).setRow (.inl (by simp)) _) (fun g hg=>by simp at hg;rw [hg];exact⟨by simp,hgr0⟩) hmw rfl hres.o
  |true=>
   have hres:=zh (show doneM c b=(adel x.f.id b,noA 0) by unfold doneM;rw [hg];simp only;rw [if_pos hrv.o]);clear hg;go_upto_region 2 with(fail)
   obtain⟨l,hl1,hl2,hl3⟩:=hbYh.o;have hl3h:=zh hl3;have hl2h:=zh hl2;clear c9 hfl hl3 hl2;refine wp_tail_gen 6 (fun w1=>Blk w1 gf 26 x.cells∧Blk w1 p 183 #[.map (some mb),.int .i64 room]∧IsMap w1 mb Value.string FA.val l∧Fr [] W w1) ⟨hBh.o.drew,hPh.o.drew,hl1.fr ((Fr.refl [] W).drew) (by simp),(Fr.refl [] W).drew⟩ (by kernel_rfl) (by kernel_rfl) ?_;clear hl1;rintro w1 ⟨h1,h2,h3,f1⟩;obtain⟨c0,c1,c2,c3,c4,c5,c6,c7,c8,c9,c10,hgl⟩:=fam_cells h1;have e0:=h2.cell 0;simp only [zG,zH]at e0;have hp1:=h2.lt;simp only [List.take_succ_cons,List.take_zero,List.drop_succ_cons,List.drop_zero];repeat still_step
   refine wpStill_nil ?_;refine wpList_map_del h3 kStr uMsf x.f.id rfl rfl rfl rfl ?_;intro w2 hm ht;have F2:Fr [mb] w1 w2:=ht.fr;have hbk:=zh (bk_adel l hl2h.o hm (fun p hp=>(hl3h.o p hp).fr f1.nil) F2 (List.mem_append.2 (.inl hh.o.hmb)));have hR2:=(hRh.o.fr f1 (by simp)).fr F2 (by simp;omega);have FT:=zh ((F0h.o.nil.trans f1.nil).trans F2);have hrl2:=hR2.lt;clear h1 h2 h3 hm ht c0 c1 c2 c3 c4 c5 c6 c7 c8 c9 c10 hgl e0 hp1 hrl;go_wp2_with (refine wpList_store_row rfl 67 _ _ rfl gr _ rfl rfl 67 zs hR2 infoAns (by rw [hz];rfl) (by kernel_rfl) ?_)
   refine bodyPost_ret (results_cell_row rfl _ _ gr 67 _ (0,0) _ rfl (Blk.setRow hR2 _) uAns rfl infoAns) rfl ?_;exact ans_no (a:=noA 0) hbk.o FT.o ((Fr.refl [gr] w2).setRow (.inl (by simp)) _) (fun g hg=>by simp at hg;rw [hg];exact⟨by simp,hgr0⟩) hmw rfl hres.o
end Go.Proofs.YtpmgepijkhaonaaGreat
