/- A roll of clients in memory; the client of an Id. Conditions: each theorem's own. -/
import Derived.Test.YtopfcgpeaaehgaaGreatDoorAj
import Derived.Test.YtopfcgpeaaehgaaGreatDoorGn
namespace Go.Proofs.YtopfcgpeaaehgaaGreatDoor
open Go.RowKit Go.Sig
structure CV where
 c:GCli
 rA:Option Addr
 rc:Nat
 sA:Option Addr
 sc:Nat
 gA:Option Addr
 gc:Nat
def CV.cells (x:CV):Array Value:=#[.string x.c.id,.string x.c.secret,.bool x.c.pub,.slice x.rA x.c.reds.length x.rc,.slice x.sA x.c.scopes.length x.sc,.slice x.gA x.c.grants.length x.gc]
def CV.val (x:CV):Value:= .agg x.cells
def zeroC:GCli:=⟨nilB,nilB,false,[],[],[]⟩
def zeroCV:CV:=⟨zeroC,none,0,none,0,none,0⟩
structure CliIn (w:World) (x:CV):Prop where
 r:Rd w 1 x.rA x.c.reds.length (strCells x.c.reds)
 s:Rd w 1 x.sA x.c.scopes.length (strCells x.c.scopes)
 g:Rd w 1 x.gA x.c.grants.length (strCells x.c.grants)
theorem off_nil (A:Option Addr):Off [] A:=fun _ _=>by simp
theorem CliIn.fr0 {w w':World}{x:CV}(h:CliIn w x) (hF:Fr [] w w'):CliIn w' x:=⟨h.r.fr hF fun _=>off_nil _,h.s.fr hF fun _=>off_nil _,h.g.fr hF fun _=>off_nil _⟩
theorem CliIn.zero (w:World):CliIn w zeroCV:=⟨Rd.nil _ _ _,Rd.nil _ _ _,Rd.nil _ _ _⟩
def RollAt (w:World) (r:Nat) (l:List GCli):Prop:=
 ∃(mb:Nat) (L:List (ByteArray×CV)),Blk w r 70 #[.map (some mb)]∧IsMap w mb Value.string CV.val L∧L.map (fun p=>(p.1,p.2.c))=l.map (fun c=>(c.id,c))∧∀p∈L,CliIn w p.2
theorem RollAt.fr0 {w w':World}{r:Nat}{l:List GCli}(h:RollAt w r l) (hF:Fr [] w w'):RollAt w' r l:=by
 obtain⟨mb,L,h1,h2,h3,h4⟩:=h;exact⟨mb,L,h1.fr hF (by simp),h2.fr hF (by simp),h3,fun p hp=>(h4 p hp).fr0 hF⟩
theorem roll_find {L:List (ByteArray×CV)}{id:ByteArray}:∀{l:List GCli},L.map (fun p=>(p.1,p.2.c))=l.map (fun c=>(c.id,c))→
  (∃x,aget id L=some x∧cfind l id=some x.c∧(id,x)∈L)∨(aget id L=none∧cfind l id=none):=by
 induction L with
 |nil=>
  intro l h;cases l with
  |nil=>exact .inr ⟨rfl,rfl⟩
  |cons c l=>simp at h
 |cons p L ih=>
  intro l h;cases l with
  |nil=>simp at h
  |cons c l=>
   rw [List.map_cons,List.map_cons,List.cons.injEq]at h;obtain⟨h1,h2⟩:=h;obtain⟨k,x⟩:=p;simp only [Prod.mk.injEq]at h1;obtain⟨rfl,h1⟩:=h1;unfold aget cfind;rw [List.find?_cons];by_cases hk:c.id=id
   ·subst hk;rw [if_pos rfl];simp only [decide_true];exact .inl ⟨x,rfl,by rw [h1],List.mem_cons_self⟩
   ·rw [if_neg hk];simp only [hk,decide_false];rcases ih h2 with⟨y,a,b,cc⟩ | ⟨a,b⟩
    ·exact .inl ⟨y,a,b,List.mem_cons_of_mem _ cc⟩
    ·exact .inr ⟨a,b⟩
theorem results_ct {P:Program}{fn:Func}{p q:Tmp}{ty:TypeId}(h:fn.results=#[.cell p ty,.tmp q]) (tmps:Array Value) (w:World) (g:Nat) (t:TypeId) (cs:Array Value) (fr:Nat×Nat) (d:TypeDesc)
  (hp:tmps.getD p undef= .pointer (some ⟨g,0,none⟩)) (hg:w.heap[g]? =some (.cells cs t fr))
  (hu:P.underlying ty=some d) (hd:(match d with | .struct _ | .array _ _=>true |_=>false)=true) (hi:(P.info? ty).map (·.size)=some cs.size) {v:Value}(hv:tmps.getD q undef=v):
  (results fn tmps).run P w= .ok (.tuple #[.agg cs,v]) w:=by
 subst hv;have hp':tmps[p]?.getD undef= .pointer (some ⟨g,0,none⟩):=by simpa using hp
 simp [results,h,hp',asAddr,run_loadVar_row w g t ty cs fr d hg hu hd hi]
theorem uRcli:Tryz.prog.underlying 72=some (.struct (Tryz.prog.fieldsOf 72)):=by kernel_rfl
theorem uCli:Tryz.prog.underlying 65=some (.struct (Tryz.prog.fieldsOf 65)):=by kernel_rfl
theorem uMcli:Tryz.prog.underlying 68=some (.map 9 72):=by kernel_rfl
theorem infoRcli (x:CV):(Tryz.prog.info? 72).map (·.size)=some x.cells.size:=by kernel_rfl
theorem infoRcliL (x:CV):(Tryz.prog.info? 72).map (·.size)=some x.cells.toList.length:=by kernel_rfl
theorem infoCli (x:CV):(Tryz.prog.info? 65).map (·.size)=some x.cells.size:=by kernel_rfl
theorem infoCliL (x:CV):(Tryz.prog.info? 65).map (·.size)=some x.cells.toList.length:=by kernel_rfl
theorem CV.all1 (x:CV):x.cells.all (·.oneCell')=true:=by simp [CV.cells,Value.oneCell']
def RGetPost (w:World) (l:List GCli) (id:ByteArray) (e:Ending) (w':World):Prop:=
 ∃(x:CV) (b:Bool),e= .returned (.tuple #[.agg x.cells,.bool b])∧CliIn w' x∧((b=true∧cfind l id=some x.c)∨(b=false∧cfind l id=none∧x.c=zeroC))∧Fr [] w w'
set_option maxRecDepth 100000 in
set_option maxHeartbeats 2000000 in
theorem rget_t (w:World) (r:Nat) (l:List GCli) (id:ByteArray) (h:RollAt w r l):Calls Tryz.prog 44 #[.pointer (some ⟨r,0,none⟩),.string id] w (RGetPost w l id):=by
 obtain⟨mb,L,hB,hM,hL,hC⟩:=h;obtain⟨x,b,hx,hb,hfin⟩:∃(x:CV) (b:Bool),((aget id L).map CV.val).getD zeroCV.val=x.val∧(aget id L).isSome=b∧(CliIn w x∧((b=true∧cfind l id=some x.c)∨(b=false∧cfind l id=none∧x.c=zeroC))):=by
  rcases roll_find (id:=id) hL with⟨x,h1,h2,h3⟩ | ⟨h1,h2⟩
  ·exact⟨x,true,by rw [h1];rfl,by rw [h1];rfl,hC _ h3,.inl ⟨rfl,h2⟩⟩
  ·exact⟨zeroCV,false,by rw [h1];rfl,by rw [h1];rfl,CliIn.zero w,.inr ⟨rfl,h2,rfl⟩⟩
 have hfinh:=zh hfin;have hMh:=zh hM;have hBh:=zh hB;have hzs:∃zs:Array Value,zs.size=6∧Hid (zs=zeroCV.cells):=⟨_,rfl,zh rfl⟩
 obtain⟨zs,hz,hzh⟩:=hzs;clear hL hC hfin hM hB;go_enter Tryz.func44,Tryz.ntmps44;go_upto_region 1 with(fail)
 refine wp_gen (fun W=>Blk W w.heap.size 72 zs∧Fr [] w W) ⟨by rw [hzh.o];exact Blk.new _ _ _,(Fr.refl _ _).alloc _⟩ ?_;rintro W ⟨hR,fW⟩;obtain⟨gr,HGR⟩:∃z,Hid (w.heap.size=z):=⟨_,zh rfl⟩
 rw [HGR.o]at hR⊢;have hP:=hBh.o.fr fW (by simp);have hM:=hMh.o.fr fW (by simp);have e0:=hP.cell 0;simp only [zG,zH]at e0;have hpl:=hP.lt;have hlk:=hM.run_lookup_ok kStr (z:=zeroCV.val) uMcli (fun w=>by kernel_rfl) id;rw [hx,hb,show x.val= .agg x.cells from rfl]at hlk;have hrl:=hR.lt;have hRh:=zh hR;have fWh:=zh fW;have hgr:w.heap.size≤gr:=by have:=HGR.o;omega
 clear hR fW hP hM hx hb;go_upto_region 4 with(refine wpList_store_row rfl 72 _ _ rfl W.heap.size x.cells rfl rfl 72 _ (Blk.new _ _ _) (infoRcli x) (by rfl) (CV.all1 x) ?_)
 refine wp_gen (fun W2=>Blk W2 W.heap.size 72 x.cells∧Fr [] W W2) ⟨Blk.setRow (Blk.new _ _ _) _,((Fr.refl [] W).alloc _).setRow (.inr (Nat.le_refl _)) _⟩ ?_;rintro W2 ⟨hB2,F2⟩;obtain⟨g6,HG6⟩:∃z,Hid (W.heap.size=z):=⟨_,zh rfl⟩
 rw [HG6.o]at hB2⊢;have f2:=zh (fWh.o.trans F2);have hR2:=hRh.o.fr F2 (by simp);clear hlk e0 hpl F2 hrl;go_wp2_with (first
  | (refine wpList_load_at rfl 72 _ rfl rfl hB2 (sub_self _) uRcli rfl (infoRcliL _) ?_;rw [Array.toArray_toList])
  | (refine wpList_store_row rfl 72 _ _ rfl gr x.cells rfl rfl 72 zs hR2 (infoRcli x) (by rw [hz];rfl) (CV.all1 x) ?_))
 refine bodyPost_ret (v:= .tuple #[.agg x.cells,.bool b]) (results_ct (p:=4) (q:=5) rfl _ _ gr 72 x.cells (0,0) _ rfl (Blk.setRow hR2 _) uRcli rfl (infoRcli x) rfl) rfl ?_;have F:=f2.o.setRow (g:=gr) (.inr hgr) x.cells;exact⟨x,b,rfl,hfinh.o.1.fr0 F,hfinh.o.2,F⟩
end Go.Proofs.YtopfcgpeaaehgaaGreatDoor
