/- Ops in memory; from arguments that can be read as data to what the walks ask: ops. Conditions: none. -/
import Derived.Test.YtacljejoedbnkaaGreatMem
import Derived.ProofKit
import Derived.OpenShut
import Derived.ShutString
import Derived.ChangeOld
import Derived.Below
import Derived.Deep.Slices
import Derived.SizedLaws
import Derived.Test.YtacljejoedbnkaaGreatHm
import Derived.Test.YtacljejoedbnkaaGreatLx
namespace Go.Sig
open Go.RowKit Go.ChangeShapes Go.WideShapes
section
variable {H:Type}{enc:TypeId×Value→H}{P:Program}{w:World}{base:Nat}{spare:Nat→Bool}{held:Bool}
theorem field_at {fs:Array Field}{n:Nat}{cs:List Value}{xs:List (DataW H×List MemPlace)}
  (h:∀(i:Nat) (f:Field),fs[i]? =some f→DataW.trod enc P w base spare held n f.type ((cs.drop f.offset).take (P.cellsOf f.type))=xs[i]?) (hx:xs.length=fs.size)
  {i:Nat}{t o c:Nat}(hk:(fs[i]?).map (fun f=>(f.type,f.offset))=some (t,o)) (hc:P.cellsOf t=c):∃y,xs[i]? =some y∧DataW.trod enc P w base spare held n t ((cs.drop o).take c)=some y:=by
 obtain⟨f,hf,he⟩:=Option.map_eq_some_iff.1 hk;simp only [Prod.mk.injEq]at he;have h1:=h i f hf;rw [he.1,he.2,hc]at h1;have hi:i<xs.length:=by rw [hx];exact(Array.getElem?_eq_some_iff.1 hf).1
 rw [List.getElem?_eq_getElem hi]at h1;exact⟨_,List.getElem?_eq_getElem hi,h1⟩
theorem weights_all {e:TypeId}:∀{ds:List (DataW H)}{d:DataW H},d∈ds→∀m∈d.weights P e,m∈DataW.weightsAll P e ds
 |d0::ds,d,hd,m,hm=>by
  simp only [DataW.weightsAll,List.mem_append];rcases List.mem_cons.1 hd with rfl |hd
  ·exact .inl hm
  ·exact .inr (weights_all hd m hm)
theorem weights_field {e t o i:Nat}{fs:Array Field}{xs:List (DataW H×List MemPlace)}{y:DataW H×List MemPlace}(ht:P.underlying e=some (.struct fs)) (hk:(fs[i]?).map (fun f=>(f.type,f.offset))=some (t,o)) (hy:xs[i]? =some y):
  ∀m∈y.1.weights P t,m∈(DataW.agg (xs.map (·.1))).weights P e:=by
 intro m hm;obtain⟨f,hf,he⟩:=Option.map_eq_some_iff.1 hk;simp only [Prod.mk.injEq]at he;simp only [DataW.weights,ht];refine DataW.weights_mem_each (j:=i) (t:=t) (d:=y.1) ?_ ?_ m hm
 ·rw [List.getElem?_map,Array.getElem?_toList,hf,←he.1];rfl
 ·rw [List.getElem?_map,hy];rfl
theorem flat_len (f:Nat→List Value) (k:Nat) (hf:∀i,(f i).length=k):∀n,((List.range n).flatMap f).length=n*k
 | 0=>by simp
 |n+1=>by rw [List.range_succ,List.flatMap_append,List.length_append,flat_len f k hf n];simp [hf,Nat.add_mul]
theorem flat_range (f:Nat→List Value) (k:Nat) (hf:∀i,(f i).length=k) (Q:Nat→Value→Prop) (n:Nat) (h:∀i,i<n→∀j v,(f i)[j]? =some v→Q (i*k+j) v):
  ∀q v,((List.range n).flatMap f)[q]? =some v→Q q v:=by
 induction n with
 |zero=>intro q v hq;simp at hq
 |succ n ih=>
  intro q v hq;have hlen:=flat_len f k hf n;rw [List.range_succ,List.flatMap_append]at hq;rcases Nat.lt_or_ge q (n*k)with hlt |hge
  ·rw [List.getElem?_append_left (by omega)]at hq;exact ih (fun i hi=>h i (by omega)) q v hq
  ·rw [List.getElem?_append_right (by omega),hlen]at hq;have:=h n (by omega) (q - n*k) v (by simpa using hq);rwa [show n*k+(q - n*k)=q by omega]at this
theorem open_rows {t e k:Nat}(ht:P.underlying t=some (.slice e)) (hk:P.cellsOf e=k) (hk0:0<k) {α:Type}(cells:α→List Value) (hcl:∀a,(cells a).length=k) (Ok:α→DataW H→Prop)
  (hopen:∀(fuel:Nat) (cs:List Value) (x:DataW H×List MemPlace),DataW.trod enc P w base spare held fuel e cs=some x→∃a,cs=cells a∧Ok a x.1)
  {fuel:Nat}{v:Value}{x:DataW H×List MemPlace}(h:DataW.trod enc P w base spare held fuel t [v]=some x):
  ∃A n c,∃l:List α,v= .slice A n c∧Rd w k A n (l.flatMap cells)∧l.length=n∧(A=none→n=0)∧n≤c∧c≤maxLen∧(∀a∈l,∃d,Ok a d∧∀m∈d.weights P e,m∈x.1.weights P t)∧
   (0<n→∃m∈x.1.weights P t,n*P.bytesOf e≤m):=by
 rcases Deep.open_slice ht h with⟨hcs,hx⟩ | ⟨a,len,cap,m,n,D,Pl,hcs,_,hl,hm,hmm,hx,hi⟩
 ·simp only [List.cons.injEq,and_true]at hcs;exact⟨none,0,0,[],hcs,Rd.nil _ _ _,rfl,fun _=>rfl,by omega,by decide,(fun a ha=>by cases ha),fun h0=>by omega⟩
 ·simp only [List.cons.injEq,and_true]at hcs;have hlm:len≤m:=by rw [hmm];split<;>omega
  subst hx;rcases Nat.eq_zero_or_pos len with h0 |h0
  ·subst h0;exact⟨some a,0,cap,[],hcs,Rd.nil _ _ _,rfl,fun _=>rfl,hl,hm,(fun a ha=>by cases ha),fun h0=>by omega⟩
  have hs:∀i,i<len→∃s:α,Ok s (D i)∧∀j u,(cells s)[j]? =some u→w.cell? ((a.add (i*k)).add j)=some u:=by intro i hil;obtain⟨cs',h1,h2⟩:=hi i (by omega);rw [hk]at h1;obtain⟨s,rfl,hok⟩:=hopen _ _ _ h2;obtain⟨_,hcl',hat⟩:=World.cells?_some h1;refine⟨s,hok,fun j u hu=> ?_⟩;rw [hat j (by have:=(List.getElem?_eq_some_iff.1 hu).1;rw [hcl]at this;exact this)];exact hu
  obtain⟨s0,_⟩:=hs 0 h0;obtain⟨f,hf⟩:∃f:Nat→α,∀i,i<len→Ok (f i) (D i)∧∀j u,(cells (f i))[j]? =some u→w.cell? ((a.add (i*k)).add j)=some u:=
   ⟨fun i=>if h:i<len then Classical.choose (hs i h)else s0,fun i hi=>by simp only [hi,dif_pos];exact Classical.choose_spec (hs i hi)⟩
  have hcell0:∃u,(cells (f 0))[0]? =some u:=⟨_,List.getElem?_eq_getElem (by rw [hcl];omega)⟩
  obtain⟨u0,hu0⟩:=hcell0;have hc0:=(hf 0 h0).2 0 _ hu0;obtain⟨b,o,spot⟩:=a;have hspot:spot=none:=by simpa [Addr.add]using World.cell?_spot hc0
  subst hspot;refine⟨some ⟨b,o,none⟩,len,cap,(List.range len).map f,hcs,⟨?_,fun hn=>⟨b,o,rfl,?_⟩⟩,by simp,(fun h=>by cases h),hl,hm,?_,fun _=> ?_⟩
  ·rw [List.flatMap_map];exact flat_len _ k (fun _=>hcl _) len
  ·rw [List.flatMap_map];refine flat_range (fun i=>cells (f i)) k (fun _=>hcl _) (fun q v=>w.cell? ⟨b,o+q,none⟩=some v) len (fun i hi j u hu=> ?_);have:=(hf i hi).2 j u hu;rw [Addr.add_lit,Addr.add_lit]at this;rw [←Nat.add_assoc];exact this
  ·intro s hs;obtain⟨i,hi,rfl⟩:=List.mem_map.1 hs;refine⟨D i,(hf i (List.mem_range.1 hi)).1,fun m hm=> ?_⟩;simp only [DataW.weights,ht,List.mem_cons,List.mem_append];exact .inr (.inl (weights_all (List.mem_map.2 ⟨i,hi,rfl⟩) m hm))
  ·refine⟨_,by simp only [DataW.weights,ht];exact List.mem_cons_self,?_⟩;exact Nat.mul_le_mul_right _ (by simp)
theorem open_nums {t e:Nat}{q:IntKind}(ht:P.underlying t=some (.slice e)) (he:P.underlying e=some (.int q)) (hk:P.cellsOf e=1) {fuel:Nat}{v:Value}{x:DataW H×List MemPlace}(h:DataW.trod enc P w base spare held fuel t [v]=some x):
  ∃A n c,∃l:List Int,v= .slice A n c∧Rd w 1 A n (l.map (Value.int q))∧l.length=n∧(A=none→n=0)∧n≤c∧c≤maxLen∧(∀a∈l,(Lit.int q a).wf=true)∧(0<n→∃m∈x.1.weights P t,n*P.bytesOf e≤m):=by
 obtain⟨A,n,c,l,h1,h2,h3,h4,h5,h6,h7,h8⟩:=open_rows ht hk (by decide) (fun a:Int=> [Value.int q a]) (fun _=>rfl) (fun a _=>(Lit.int q a).wf=true) (fun fuel cs x hx=>by
  obtain⟨a,hcs,_,hw⟩:=DataW.trod_int he hx;exact⟨a,hcs,hw⟩) h
 refine⟨A,n,c,l,h1,?_,h3,h4,h5,h6,fun a ha=>(h7 a ha).choose_spec.1,h8⟩;have e:∀l:List Int,l.flatMap (fun a=> [Value.int q a])=l.map (Value.int q):=fun l=>by
  induction l with
  |nil=>rfl
  |cons a l ih=>rw [List.flatMap_cons,ih];rfl
 rw [←e];exact h2
theorem reach_each {ts:List TypeId}{ds:List (DataW H)}(h:(DataW.weightsEach P ts ds).all (·≤reachBytes)=true) {j:Nat}{t:TypeId}{d:DataW H}(ht:ts[j]? =some t) (hd:ds[j]? =some d):∀m∈d.weights P t,m≤140737488351232:=fun m hm=>by
 have:=List.all_eq_true.1 h _ (DataW.weights_mem_each ht hd m hm);have h2:m≤reachBytes:=of_decide_eq_true this;exact h2
end
end Go.Sig
namespace Go.Proofs.YtacljejoedbnkaaGreat
open Go.RowKit Go.Sig Go.ChangeShapes Go.WideShapes
theorem uuStr:Tryz.prog.underlying 9=some .string:=by kernel_rfl
theorem uuBool:Tryz.prog.underlying 4=some .bool:=by kernel_rfl
theorem uuInt:Tryz.prog.underlying 3=some (.int .i64):=by kernel_rfl
theorem uuStrs:Tryz.prog.underlying 22=some (.slice 9):=by kernel_rfl
theorem uuCmd:Tryz.prog.underlying 24=some (.struct (Tryz.prog.fieldsOf 24)):=by kernel_rfl
theorem ccStr:Tryz.prog.cellsOf 9=1:=by kernel_rfl
theorem ccInt:Tryz.prog.cellsOf 3=1:=by kernel_rfl
theorem ccBool:Tryz.prog.cellsOf 4=1:=by kernel_rfl
theorem ccStrs:Tryz.prog.cellsOf 22=1:=by kernel_rfl
theorem ccCmd:Tryz.prog.cellsOf 24=13:=by kernel_rfl
theorem bbStr:Tryz.prog.bytesOf 9=16:=by kernel_rfl
theorem bbCmd:1≤Tryz.prog.bytesOf 24:=by decide+kernel
theorem strCells_flat:∀l:List ByteArray,l.flatMap (fun s=> [Value.string s])=strCells l
 | []=>rfl
 |s::l=>by rw [List.flatMap_cons,strCells_flat l];rfl
section
variable {H:Type}{enc:TypeId×Value→H}{w:World}{base:Nat}{spare:Nat→Bool}{held:Bool}
theorem open_str1 {fuel:Nat}{cs:List Value}{x:DataW H×List MemPlace}(h:DataW.trod enc Tryz.prog w base spare held fuel 9 cs=some x):∃s:ByteArray,cs= [.string s]∧s.size∈x.1.weights Tryz.prog 9:=by
 obtain⟨s,e,d,_⟩:=DataW.trod_string uuStr h;exact⟨s,e,by rw [d];simp [DataW.weights,Array.length_toList]⟩
structure CmdRead (w:World) (x:CA) (d:DataW H):Prop where
 scope:Rd w 1 x.A x.c.scope.length (strCells x.c.scope)
 many:0<x.c.scope.length→∃m∈d.weights Tryz.prog 24,x.c.scope.length*16≤m
 each:∀s∈x.c.scope,s.size∈d.weights Tryz.prog 24
 family:x.c.family.size∈d.weights Tryz.prog 24
theorem CmdRead.cmd {x:CA}{d:DataW H}(h:CmdRead w x d) (hw:∀m∈d.weights Tryz.prog 24,m≤140737488351232):CmdIn w x.c x.A x.c.scope.length:=by
 refine⟨h.scope,rfl,?_,fun s hs=>Nat.le_trans (hw _ (h.each s hs)) (by decide),Nat.le_trans (hw _ h.family) (by decide)⟩;rcases Nat.eq_zero_or_pos x.c.scope.length with h0 |h0
 ·omega
 ·obtain⟨m,hm,hb⟩:=h.many h0;have:=hw m hm;omega
set_option maxRecDepth 100000 in
set_option maxHeartbeats 1000000 in
theorem open_cmd {fuel:Nat}{cs:List Value}{x:DataW H×List MemPlace}(h:DataW.trod enc Tryz.prog w base spare held fuel 24 cs=some x):∃y:CA,cs=y.cells.toList∧CmdRead w y x.1:=by
 obtain⟨xs,n,_,hx,hlen,hxl,hf⟩:=DataW.trod_struct uuCmd h;rw [ccCmd]at hlen;match cs,hlen with
 | [v0,v1,v2,v3,v4,v5,v6,v7,v8,v9,v10,v11,v12],_=>
  obtain⟨y0,i0,g0⟩:=field_at hf hxl (i:=0) (t:=3) (o:=0) (by kernel_rfl) ccInt;obtain⟨y1,i1,g1⟩:=field_at hf hxl (i:=1) (t:=9) (o:=1) (by kernel_rfl) ccStr;obtain⟨y2,i2,g2⟩:=field_at hf hxl (i:=2) (t:=3) (o:=2) (by kernel_rfl) ccInt;obtain⟨y3,i3,g3⟩:=field_at hf hxl (i:=3) (t:=3) (o:=3) (by kernel_rfl) ccInt;obtain⟨y4,i4,g4⟩:=field_at hf hxl (i:=4) (t:=9) (o:=4) (by kernel_rfl) ccStr;obtain⟨y5,i5,g5⟩:=field_at hf hxl (i:=5) (t:=9) (o:=5) (by kernel_rfl) ccStr;obtain⟨y6,i6,g6⟩:=field_at hf hxl (i:=6) (t:=22) (o:=6) (by kernel_rfl) ccStrs;obtain⟨y7,i7,g7⟩:=field_at hf hxl (i:=7) (t:=9) (o:=7) (by kernel_rfl) ccStr;obtain⟨y8,i8,g8⟩:=field_at hf hxl (i:=8) (t:=9) (o:=8) (by kernel_rfl) ccStr;obtain⟨y9,i9,g9⟩:=field_at hf hxl (i:=9) (t:=9) (o:=9) (by kernel_rfl) ccStr;obtain⟨y10,i10,g10⟩:=field_at hf hxl (i:=10) (t:=9) (o:=10) (by kernel_rfl) ccStr;obtain⟨y11,i11,g11⟩:=field_at hf hxl (i:=11) (t:=4) (o:=11) (by kernel_rfl) ccBool;obtain⟨y12,i12,g12⟩:=field_at hf hxl (i:=12) (t:=3) (o:=12) (by kernel_rfl) ccInt;simp only [List.drop_succ_cons,List.drop_zero,List.take_succ_cons,List.take_zero]at g0 g1 g2 g3 g4 g5 g6 g7 g8 g9 g10 g11 g12;obtain⟨n0,e0,_,_⟩:=DataW.trod_int uuInt g0;obtain⟨s1,e1,d1,_⟩:=DataW.trod_string uuStr g1;obtain⟨n2,e2,_,_⟩:=DataW.trod_int uuInt g2;obtain⟨n3,e3,_,_⟩:=DataW.trod_int uuInt g3;obtain⟨s4,e4,d4,_⟩:=DataW.trod_string uuStr g4;obtain⟨s5,e5,d5,_⟩:=DataW.trod_string uuStr g5;obtain⟨A,n,k,l,rfl,h2,h3,h4,h5,h6,h7,h8⟩:=open_rows uuStrs ccStr (by decide) (fun s:ByteArray=> [Value.string s]) (fun _=>rfl) (fun s d=>s.size∈d.weights Tryz.prog 9) (fun fuel cs x hx=>open_str1 hx) g6;obtain⟨s7,e7,d7,_⟩:=DataW.trod_string uuStr g7;obtain⟨s8,e8,d8,_⟩:=DataW.trod_string uuStr g8;obtain⟨s9,e9,d9,_⟩:=DataW.trod_string uuStr g9;obtain⟨s10,e10,d10,_⟩:=DataW.trod_string uuStr g10;obtain⟨b11,e11,_⟩:=DataW.trod_bool uuBool g11;obtain⟨n12,e12,_,_⟩:=DataW.trod_int uuInt g12;simp only [List.cons.injEq,and_true]at e0 e1 e2 e3 e4 e5 e7 e8 e9 e10 e11 e12;subst e0 e1 e2 e3 e4 e5 e7 e8 e9 e10 e11 e12 hx;refine⟨⟨⟨n0,s1,n2,n3,s4,s5,l,s7,s8,s9,s10,b11,n12⟩,A,k⟩,?_,?_,?_,?_,?_⟩
  ·rw [←h3];rfl
  ·rw [strCells_flat,←h3]at h2;exact h2
  ·intro h0;obtain⟨m,hm,hb⟩:=h8 (by rw [←h3];exact h0);rw [bbStr,←h3]at hb;exact⟨m,weights_field uuCmd (i:=6) (t:=22) (o:=6) (by kernel_rfl) i6 m hm,hb⟩
  ·intro s hs;obtain⟨d,hd,hm⟩:=h7 s hs;exact weights_field uuCmd (i:=6) (t:=22) (o:=6) (by kernel_rfl) i6 _ (hm _ hd)
  ·subst d1;exact weights_field uuCmd (i:=1) (t:=9) (o:=1) (by kernel_rfl) i1 _ (by simp [DataW.weights,Array.length_toList])
end
end Go.Proofs.YtacljejoedbnkaaGreat
namespace Go.Proofs.YtacljejoedbnkaaGreat
open Go.RowKit Go.Sig Go.ChangeShapes Go.WideShapes
structure OA where
 o:GOp
 A:Option Addr
 k:Nat
def OA.cells (x:OA):Array Value:=opV x.o x.A x.o.c.scope.length x.k
def OpIn (w:World) (x:OA):Prop:=CmdIn w x.o.c x.A x.o.c.scope.length
def opCells (l:List OA):List Value:=l.flatMap fun x=>x.cells.toList
theorem opCells_at {j:Nat}{v:Value}:∀{l:List OA}{i:Nat}(h:i<l.length),l[i].cells[j]? =some v→(opCells l)[i*16+j]? =some v
 |x::l,0,_,hv=>by
  have hj:j<x.cells.toList.length:=by have:=(Array.getElem?_eq_some_iff.1 hv).1;simpa using this
  rw [opCells,List.flatMap_cons,Nat.zero_mul,Nat.zero_add,List.getElem?_append_left hj,Array.getElem?_toList];exact hv
 |x::l,i+1,h,hv=>by have:=opCells_at (l:=l) (i:=i) (by simpa using h) hv;have hx:x.cells.toList.length=16:=rfl;rw [opCells,List.flatMap_cons,List.getElem?_append_right (by rw [hx];omega),hx,show(i+1)*16+j - 16=i*16+j by omega];exact this
structure OpsIn (w:World) (A:Option Addr) (n:Nat) (l:List OA):Prop where
 hR:Rd w 16 A n (opCells l)
 hn:l.length=n
 hl:n≤150000000000000
 each:∀x∈l,OpIn w x
theorem OpsIn.fr {w w':World}{A:Option Addr}{n:Nat}{l:List OA}(h:OpsIn w A n l) (hF:Fr [] w w'):OpsIn w' A n l:=
 ⟨h.hR.fr hF (by simp [Off]),h.hn,h.hl,fun x hx=>(h.each x hx).fr hF (by simp [Off])⟩
theorem OpsIn.row {w:World}{A:Option Addr}{n i:Nat}{l:List OA}(h:OpsIn w A n l) (hi:i<n):
  ∃x b o,A=some ⟨b,o,none⟩∧l[i]? =some x∧(∀j v,x.cells[j]? =some v→w.cell? ⟨b,o+i*16+j,none⟩=some v)∧OpIn w x:=by
 have hi':i<l.length:=by rw [h.hn];exact hi
 obtain⟨b,o,e,hc⟩:=h.hR.2 (by omega);refine⟨l[i],b,o,e,List.getElem?_eq_getElem hi',fun j v hv=> ?_,h.each _ (List.getElem_mem hi')⟩;rw [Nat.add_assoc];exact hc _ _ (opCells_at hi' hv)
theorem uuOp:Tryz.prog.underlying 26=some (.struct (Tryz.prog.fieldsOf 26)):=by kernel_rfl
theorem uuOps:Tryz.prog.underlying 34=some (.slice 26):=by kernel_rfl
theorem ccOp:Tryz.prog.cellsOf 26=16:=by kernel_rfl
theorem bbOp:1≤Tryz.prog.bytesOf 26:=by decide+kernel
section
variable {H:Type}{enc:TypeId×Value→H}{w:World}{base:Nat}{spare:Nat→Bool}{held:Bool}
def OpRead (w:World) (x:OA) (d:DataW H):Prop:=∃dc:DataW H,CmdRead w ⟨x.o.c,x.A,x.k⟩ dc∧∀m∈dc.weights Tryz.prog 24,m∈d.weights Tryz.prog 26
theorem OpRead.op {x:OA}{d:DataW H}(h:OpRead w x d) (hw:∀m∈d.weights Tryz.prog 26,m≤140737488351232):OpIn w x:=by
 obtain⟨dc,h1,h2⟩:=h;exact h1.cmd fun m hm=>hw m (h2 m hm)
set_option maxRecDepth 100000 in
set_option maxHeartbeats 1000000 in
theorem open_op {fuel:Nat}{cs:List Value}{x:DataW H×List MemPlace}(h:DataW.trod enc Tryz.prog w base spare held fuel 26 cs=some x):∃y:OA,cs=y.cells.toList∧OpRead w y x.1:=by
 obtain⟨xs,n,_,hx,hlen,hxl,hf⟩:=DataW.trod_struct uuOp h;rw [ccOp]at hlen;match cs,hlen with
 | [v0,v1,v2,v3,v4,v5,v6,v7,v8,v9,v10,v11,v12,v13,v14,v15],_=>obtain⟨y0,i0,g0⟩:=field_at hf hxl (i:=0) (t:=3) (o:=0) (by kernel_rfl) ccInt;obtain⟨y1,i1,g1⟩:=field_at hf hxl (i:=1) (t:=3) (o:=1) (by kernel_rfl) ccInt;obtain⟨y2,i2,g2⟩:=field_at hf hxl (i:=2) (t:=3) (o:=2) (by kernel_rfl) ccInt;obtain⟨y3,i3,g3⟩:=field_at hf hxl (i:=3) (t:=24) (o:=3) (by kernel_rfl) ccCmd;simp only [List.drop_succ_cons,List.drop_zero,List.take_succ_cons,List.take_zero]at g0 g1 g2 g3;obtain⟨n0,e0,_,_⟩:=DataW.trod_int uuInt g0;obtain⟨n1,e1,_,_⟩:=DataW.trod_int uuInt g1;obtain⟨n2,e2,_,_⟩:=DataW.trod_int uuInt g2;obtain⟨⟨c,A,k⟩,e3,h3⟩:=open_cmd g3;simp only [List.cons.injEq,and_true]at e0 e1 e2;subst e0 e1 e2 hx;refine⟨⟨⟨n0,n1,n2,c⟩,A,k⟩,?_,_,h3,fun m hm=>weights_field uuOp (i:=3) (t:=24) (o:=3) (by kernel_rfl) i3 m hm⟩;rw [show(OA.cells ⟨⟨n0,n1,n2,c⟩,A,k⟩).toList= .int .i64 n0:: .int .i64 n1:: .int .i64 n2::(CA.cells ⟨c,A,k⟩).toList from rfl,←e3]
theorem open_ops {fuel:Nat}{v:Value}{x:DataW H×List MemPlace}(h:DataW.trod enc Tryz.prog w base spare held fuel 34 [v]=some x) (hw:∀m∈x.1.weights Tryz.prog 34,m≤140737488351232):
  ∃A n c,∃l:List OA,v= .slice A n c∧OpsIn w A n l:=by
 obtain⟨A,n,c,l,h1,h2,h3,h4,h5,h6,h7,h8⟩:=open_rows uuOps ccOp (by decide) (fun y:OA=>y.cells.toList) (fun _=>rfl) (fun y d=>OpRead w y d) (fun fuel cs x hx=>open_op hx) h;refine⟨A,n,c,l,h1,h2,h3,?_,fun s hs=> ?_⟩
 ·rcases Nat.eq_zero_or_pos n with h0 |h0
  ·omega
  ·obtain⟨m,hm,hb⟩:=h8 h0;have:=hw m hm;have:=Nat.le_trans (Nat.le_mul_of_pos_right n bbOp) hb;omega
 ·obtain⟨d,hd,hm⟩:=h7 s hs;exact hd.op fun m hm2=>hw m (hm m hm2)
end
end Go.Proofs.YtacljejoedbnkaaGreat
