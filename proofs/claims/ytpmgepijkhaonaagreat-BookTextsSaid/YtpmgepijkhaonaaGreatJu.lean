/- From an argument that can be read as data to what the walks ask: a family. Conditions: none. -/
import Derived.Test.YtpmgepijkhaonaaGreatMem
import Derived.ProofKit
import Derived.OpenShut
import Derived.ShutString
import Derived.ChangeOld
import Derived.Below
import Derived.Deep.Slices
import Derived.SizedLaws
import Derived.Test.YtpmgepijkhaonaaGreatHm
import Derived.Test.YtpmgepijkhaonaaGreatIb
namespace Go.Sig
open Go.RowKit Go.ChangeShapes Go.WideShapes
section
variable {H:Type}{enc:TypeId×Value→H}{P:Program}{w:World}{base:Nat}{spare:Nat→Bool}{held:Bool}
theorem field_at {fs:Array Field}{n:Nat}{cs:List Value}{xs:List (DataW H×List MemPlace)}
  (h:∀(i:Nat) (f:Field),fs[i]? =some f→DataW.trod enc P w base spare held n f.type ((cs.drop f.offset).take (P.cellsOf f.type))=xs[i]?) (hx:xs.length=fs.size)
  {i:Nat}{t o c:Nat}(hk:(fs[i]?).map (fun f=>(f.type,f.offset))=some (t,o)) (hc:P.cellsOf t=c):∃y,xs[i]? =some y∧DataW.trod enc P w base spare held n t ((cs.drop o).take c)=some y:=by
 obtain⟨f,hf,he⟩:=Option.map_eq_some_iff.1 hk;simp only [Prod.mk.injEq]at he;have h1:=h i f hf;rw [he.1,he.2,hc]at h1;have hi:i<xs.length:=by rw [hx];exact(Array.getElem?_eq_some_iff.1 hf).1
 rw [List.getElem?_eq_getElem hi]at h1;exact⟨_,List.getElem?_eq_getElem hi,h1⟩
theorem weights_all {e:TypeId}:∀{ds:List (DataW H)}{d:DataW H},d∈ds→∀m∈d.weights P e,m∈DataW.weightsAll P e ds
 |d0::ds,d,hd,m,hm=>by
  simp only [DataW.weightsAll,List.mem_append];rcases List.mem_cons.1 hd with rfl |hd
  ·exact .inl hm
  ·exact .inr (weights_all hd m hm)
theorem weights_field {e t o i:Nat}{fs:Array Field}{xs:List (DataW H×List MemPlace)}{y:DataW H×List MemPlace}(ht:P.underlying e=some (.struct fs)) (hk:(fs[i]?).map (fun f=>(f.type,f.offset))=some (t,o)) (hy:xs[i]? =some y):
  ∀m∈y.1.weights P t,m∈(DataW.agg (xs.map (·.1))).weights P e:=by
 intro m hm;obtain⟨f,hf,he⟩:=Option.map_eq_some_iff.1 hk;simp only [Prod.mk.injEq]at he;simp only [DataW.weights,ht];refine DataW.weights_mem_each (j:=i) (t:=t) (d:=y.1) ?_ ?_ m hm
 ·rw [List.getElem?_map,Array.getElem?_toList,hf,←he.1];rfl
 ·rw [List.getElem?_map,hy];rfl
theorem flat_len (f:Nat→List Value) (k:Nat) (hf:∀i,(f i).length=k):∀n,((List.range n).flatMap f).length=n*k
 | 0=>by simp
 |n+1=>by rw [List.range_succ,List.flatMap_append,List.length_append,flat_len f k hf n];simp [hf,Nat.add_mul]
theorem flat_range (f:Nat→List Value) (k:Nat) (hf:∀i,(f i).length=k) (Q:Nat→Value→Prop) (n:Nat) (h:∀i,i<n→∀j v,(f i)[j]? =some v→Q (i*k+j) v):
  ∀q v,((List.range n).flatMap f)[q]? =some v→Q q v:=by
 induction n with
 |zero=>intro q v hq;simp at hq
 |succ n ih=>
  intro q v hq;have hlen:=flat_len f k hf n;rw [List.range_succ,List.flatMap_append]at hq;rcases Nat.lt_or_ge q (n*k)with hlt |hge
  ·rw [List.getElem?_append_left (by omega)]at hq;exact ih (fun i hi=>h i (by omega)) q v hq
  ·rw [List.getElem?_append_right (by omega),hlen]at hq;have:=h n (by omega) (q - n*k) v (by simpa using hq);rwa [show n*k+(q - n*k)=q by omega]at this
theorem open_rows {t e k:Nat}(ht:P.underlying t=some (.slice e)) (hk:P.cellsOf e=k) (hk0:0<k) {α:Type}(cells:α→List Value) (hcl:∀a,(cells a).length=k) (Ok:α→DataW H→Prop)
  (hopen:∀(fuel:Nat) (cs:List Value) (x:DataW H×List MemPlace),DataW.trod enc P w base spare held fuel e cs=some x→∃a,cs=cells a∧Ok a x.1)
  {fuel:Nat}{v:Value}{x:DataW H×List MemPlace}(h:DataW.trod enc P w base spare held fuel t [v]=some x):
  ∃A n c,∃l:List α,v= .slice A n c∧Rd w k A n (l.flatMap cells)∧l.length=n∧(A=none→n=0)∧n≤c∧c≤maxLen∧(∀a∈l,∃d,Ok a d∧∀m∈d.weights P e,m∈x.1.weights P t)∧
   (0<n→∃m∈x.1.weights P t,n*P.bytesOf e≤m):=by
 rcases Deep.open_slice ht h with⟨hcs,hx⟩ | ⟨a,len,cap,m,n,D,Pl,hcs,_,hl,hm,hmm,hx,hi⟩
 ·simp only [List.cons.injEq,and_true]at hcs;exact⟨none,0,0,[],hcs,Rd.nil _ _ _,rfl,fun _=>rfl,by omega,by decide,(fun a ha=>by cases ha),fun h0=>by omega⟩
 ·simp only [List.cons.injEq,and_true]at hcs;have hlm:len≤m:=by rw [hmm];split<;>omega
  subst hx;rcases Nat.eq_zero_or_pos len with h0 |h0
  ·subst h0;exact⟨some a,0,cap,[],hcs,Rd.nil _ _ _,rfl,fun _=>rfl,hl,hm,(fun a ha=>by cases ha),fun h0=>by omega⟩
  have hs:∀i,i<len→∃s:α,Ok s (D i)∧∀j u,(cells s)[j]? =some u→w.cell? ((a.add (i*k)).add j)=some u:=by intro i hil;obtain⟨cs',h1,h2⟩:=hi i (by omega);rw [hk]at h1;obtain⟨s,rfl,hok⟩:=hopen _ _ _ h2;obtain⟨_,hcl',hat⟩:=World.cells?_some h1;refine⟨s,hok,fun j u hu=> ?_⟩;rw [hat j (by have:=(List.getElem?_eq_some_iff.1 hu).1;rw [hcl]at this;exact this)];exact hu
  obtain⟨s0,_⟩:=hs 0 h0;obtain⟨f,hf⟩:∃f:Nat→α,∀i,i<len→Ok (f i) (D i)∧∀j u,(cells (f i))[j]? =some u→w.cell? ((a.add (i*k)).add j)=some u:=
   ⟨fun i=>if h:i<len then Classical.choose (hs i h)else s0,fun i hi=>by simp only [hi,dif_pos];exact Classical.choose_spec (hs i hi)⟩
  have hcell0:∃u,(cells (f 0))[0]? =some u:=⟨_,List.getElem?_eq_getElem (by rw [hcl];omega)⟩
  obtain⟨u0,hu0⟩:=hcell0;have hc0:=(hf 0 h0).2 0 _ hu0;obtain⟨b,o,spot⟩:=a;have hspot:spot=none:=by simpa [Addr.add]using World.cell?_spot hc0
  subst hspot;refine⟨some ⟨b,o,none⟩,len,cap,(List.range len).map f,hcs,⟨?_,fun hn=>⟨b,o,rfl,?_⟩⟩,by simp,(fun h=>by cases h),hl,hm,?_,fun _=> ?_⟩
  ·rw [List.flatMap_map];exact flat_len _ k (fun _=>hcl _) len
  ·rw [List.flatMap_map];refine flat_range (fun i=>cells (f i)) k (fun _=>hcl _) (fun q v=>w.cell? ⟨b,o+q,none⟩=some v) len (fun i hi j u hu=> ?_);have:=(hf i hi).2 j u hu;rw [Addr.add_lit,Addr.add_lit]at this;rw [←Nat.add_assoc];exact this
  ·intro s hs;obtain⟨i,hi,rfl⟩:=List.mem_map.1 hs;refine⟨D i,(hf i (List.mem_range.1 hi)).1,fun m hm=> ?_⟩;simp only [DataW.weights,ht,List.mem_cons,List.mem_append];exact .inr (.inl (weights_all (List.mem_map.2 ⟨i,hi,rfl⟩) m hm))
  ·refine⟨_,by simp only [DataW.weights,ht];exact List.mem_cons_self,?_⟩;exact Nat.mul_le_mul_right _ (by simp)
theorem open_nums {t e:Nat}{q:IntKind}(ht:P.underlying t=some (.slice e)) (he:P.underlying e=some (.int q)) (hk:P.cellsOf e=1) {fuel:Nat}{v:Value}{x:DataW H×List MemPlace}(h:DataW.trod enc P w base spare held fuel t [v]=some x):
  ∃A n c,∃l:List Int,v= .slice A n c∧Rd w 1 A n (l.map (Value.int q))∧l.length=n∧(A=none→n=0)∧n≤c∧c≤maxLen∧(∀a∈l,(Lit.int q a).wf=true)∧(0<n→∃m∈x.1.weights P t,n*P.bytesOf e≤m):=by
 obtain⟨A,n,c,l,h1,h2,h3,h4,h5,h6,h7,h8⟩:=open_rows ht hk (by decide) (fun a:Int=> [Value.int q a]) (fun _=>rfl) (fun a _=>(Lit.int q a).wf=true) (fun fuel cs x hx=>by
  obtain⟨a,hcs,_,hw⟩:=DataW.trod_int he hx;exact⟨a,hcs,hw⟩) h
 refine⟨A,n,c,l,h1,?_,h3,h4,h5,h6,fun a ha=>(h7 a ha).choose_spec.1,h8⟩;have e:∀l:List Int,l.flatMap (fun a=> [Value.int q a])=l.map (Value.int q):=fun l=>by
  induction l with
  |nil=>rfl
  |cons a l ih=>rw [List.flatMap_cons,ih];rfl
 rw [←e];exact h2
theorem reach_each {ts:List TypeId}{ds:List (DataW H)}(h:(DataW.weightsEach P ts ds).all (·≤reachBytes)=true) {j:Nat}{t:TypeId}{d:DataW H}(ht:ts[j]? =some t) (hd:ds[j]? =some d):∀m∈d.weights P t,m≤140737488351232:=fun m hm=>by
 have:=List.all_eq_true.1 h _ (DataW.weights_mem_each ht hd m hm);have h2:m≤reachBytes:=of_decide_eq_true this;exact h2
end
end Go.Sig
namespace Go.Proofs.YtpmgepijkhaonaaGreat
open Go.RowKit Go.Sig Go.ChangeShapes Go.WideShapes
theorem uuStr:Tryz.prog.underlying 9=some .string:=by kernel_rfl
theorem uuBool:Tryz.prog.underlying 4=some .bool:=by kernel_rfl
theorem uuInt:Tryz.prog.underlying 3=some (.int .i64):=by kernel_rfl
theorem uuStrs:Tryz.prog.underlying 22=some (.slice 9):=by kernel_rfl
theorem ccStr:Tryz.prog.cellsOf 9=1:=by kernel_rfl
theorem ccInt:Tryz.prog.cellsOf 3=1:=by kernel_rfl
theorem ccBool:Tryz.prog.cellsOf 4=1:=by kernel_rfl
theorem ccStrs:Tryz.prog.cellsOf 22=1:=by kernel_rfl
theorem bbStr:Tryz.prog.bytesOf 9=16:=by kernel_rfl
theorem strCells_flat:∀l:List ByteArray,l.flatMap (fun s=> [Value.string s])=strCells l
 | []=>rfl
 |s::l=>by rw [List.flatMap_cons,strCells_flat l];rfl
section
variable {H:Type}{enc:TypeId×Value→H}{w:World}{base:Nat}{spare:Nat→Bool}{held:Bool}
theorem open_str1 {fuel:Nat}{cs:List Value}{x:DataW H×List MemPlace}(h:DataW.trod enc Tryz.prog w base spare held fuel 9 cs=some x):∃s:ByteArray,cs= [.string s]∧s.size∈x.1.weights Tryz.prog 9:=by
 obtain⟨s,e,d,_⟩:=DataW.trod_string uuStr h;exact⟨s,e,by rw [d];simp [DataW.weights,Array.length_toList]⟩
end
end Go.Proofs.YtpmgepijkhaonaaGreat
namespace Go.Proofs.YtpmgepijkhaonaaGreat
open Go.RowKit Go.Sig Go.ChangeShapes Go.WideShapes
theorem uuIss:Tryz.prog.underlying 29=some (.struct (Tryz.prog.fieldsOf 29)):=by kernel_rfl
theorem uuIsss:Tryz.prog.underlying 23=some (.slice 29):=by kernel_rfl
theorem uuInts:Tryz.prog.underlying 24=some (.slice 3):=by kernel_rfl
theorem uuFam:Tryz.prog.underlying 26=some (.struct (Tryz.prog.fieldsOf 26)):=by kernel_rfl
theorem ccIss:Tryz.prog.cellsOf 29=3:=by kernel_rfl
theorem ccIsss:Tryz.prog.cellsOf 23=1:=by kernel_rfl
theorem ccInts:Tryz.prog.cellsOf 24=1:=by kernel_rfl
theorem ccFam:Tryz.prog.cellsOf 26=11:=by kernel_rfl
theorem bbIss:1≤Tryz.prog.bytesOf 29:=by decide+kernel
theorem bbInt:1≤Tryz.prog.bytesOf 3:=by decide+kernel
section
variable {H:Type}{enc:TypeId×Value→H}{w:World}{base:Nat}{spare:Nat→Bool}{held:Bool}
structure TokRead (w:World) (t:TA) (d:DataW H):Prop where
 scope:Rd w 1 t.A t.tok.scope.length (strCells t.tok.scope)
 many:0<t.tok.scope.length→∃m∈d.weights Tryz.prog 29,t.tok.scope.length*16≤m
 each:∀s∈t.tok.scope,s.size∈d.weights Tryz.prog 29
set_option maxRecDepth 100000 in
theorem open_tok {fuel:Nat}{cs:List Value}{x:DataW H×List MemPlace}(h:DataW.trod enc Tryz.prog w base spare held fuel 29 cs=some x):∃t:TA,cs=t.cells∧TokRead w t x.1:=by
 obtain⟨xs,n,_,hx,hlen,hxl,hf⟩:=DataW.trod_struct uuIss h;rw [ccIss]at hlen;match cs,hlen with
 | [v0,v1,v2],_=>
  obtain⟨y0,i0,g0⟩:=field_at hf hxl (i:=0) (t:=3) (o:=0) (by kernel_rfl) ccInt;obtain⟨y1,i1,g1⟩:=field_at hf hxl (i:=1) (t:=22) (o:=1) (by kernel_rfl) ccStrs;obtain⟨y2,i2,g2⟩:=field_at hf hxl (i:=2) (t:=4) (o:=2) (by kernel_rfl) ccBool;simp only [List.drop_succ_cons,List.drop_zero,List.take_succ_cons,List.take_zero]at g0 g1 g2;obtain⟨n0,e0,_,_⟩:=DataW.trod_int uuInt g0;obtain⟨A,n,k,l,rfl,h2,h3,h4,h5,h6,h7,h8⟩:=open_rows uuStrs ccStr (by decide) (fun s:ByteArray=> [Value.string s]) (fun _=>rfl) (fun s d=>s.size∈d.weights Tryz.prog 9) (fun fuel cs x hx=>open_str1 hx) g1;obtain⟨b2,e2,_⟩:=DataW.trod_bool uuBool g2;simp only [List.cons.injEq,and_true]at e0 e2;subst e0 e2 hx;refine⟨⟨⟨n0,l,b2⟩,A,k⟩,by rw [←h3];rfl,?_,?_,?_⟩
  ·rw [strCells_flat,←h3]at h2;exact h2
  ·intro h0;obtain⟨m,hm,hb⟩:=h8 (by rw [←h3];exact h0);rw [bbStr,←h3]at hb;exact⟨m,weights_field uuIss (i:=1) (t:=22) (o:=1) (by kernel_rfl) i1 m hm,hb⟩
  ·intro s hs;obtain⟨d,hd,hm⟩:=h7 s hs;exact weights_field uuIss (i:=1) (t:=22) (o:=1) (by kernel_rfl) i1 _ (hm _ hd)
set_option maxRecDepth 100000 in
set_option maxHeartbeats 2000000 in
theorem open_fam {fuel:Nat}{cs:List Value}{x:DataW H×List MemPlace}(h:DataW.trod enc Tryz.prog w base spare held fuel 26 cs=some x) (hw:∀m∈x.1.weights Tryz.prog 26,m≤140737488351232):∃y:FA,cs=y.cells.toList∧FamIn w [] y∧FamSz y:=by
 obtain⟨xs,n,_,hx,hlen,hxl,hf⟩:=DataW.trod_struct uuFam h;rw [ccFam]at hlen;match cs,hlen with
 | [v0,v1,v2,v3,v4,v5,v6,v7,v8,v9,v10],_=>
  obtain⟨y0,i0,g0⟩:=field_at hf hxl (i:=0) (t:=9) (o:=0) (by kernel_rfl) ccStr;obtain⟨y1,i1,g1⟩:=field_at hf hxl (i:=1) (t:=9) (o:=1) (by kernel_rfl) ccStr;obtain⟨y2,i2,g2⟩:=field_at hf hxl (i:=2) (t:=9) (o:=2) (by kernel_rfl) ccStr;obtain⟨y3,i3,g3⟩:=field_at hf hxl (i:=3) (t:=22) (o:=3) (by kernel_rfl) ccStrs;obtain⟨y4,i4,g4⟩:=field_at hf hxl (i:=4) (t:=9) (o:=4) (by kernel_rfl) ccStr;obtain⟨y5,i5,g5⟩:=field_at hf hxl (i:=5) (t:=9) (o:=5) (by kernel_rfl) ccStr;obtain⟨y6,i6,g6⟩:=field_at hf hxl (i:=6) (t:=9) (o:=6) (by kernel_rfl) ccStr;obtain⟨y7,i7,g7⟩:=field_at hf hxl (i:=7) (t:=3) (o:=7) (by kernel_rfl) ccInt;obtain⟨y8,i8,g8⟩:=field_at hf hxl (i:=8) (t:=23) (o:=8) (by kernel_rfl) ccIsss;obtain⟨y9,i9,g9⟩:=field_at hf hxl (i:=9) (t:=4) (o:=9) (by kernel_rfl) ccBool;obtain⟨y10,i10,g10⟩:=field_at hf hxl (i:=10) (t:=24) (o:=10) (by kernel_rfl) ccInts;simp only [List.drop_succ_cons,List.drop_zero,List.take_succ_cons,List.take_zero]at g0 g1 g2 g3 g4 g5 g6 g7 g8 g9 g10;obtain⟨s0,e0,d0,_⟩:=DataW.trod_string uuStr g0;obtain⟨s1,e1,d1,_⟩:=DataW.trod_string uuStr g1;obtain⟨s2,e2,d2,_⟩:=DataW.trod_string uuStr g2;obtain⟨A,n,k,l,rfl,h2,h3,h4,h5,h6,h7,h8⟩:=open_rows uuStrs ccStr (by decide) (fun s:ByteArray=> [Value.string s]) (fun _=>rfl) (fun s d=>s.size∈d.weights Tryz.prog 9) (fun fuel cs x hx=>open_str1 hx) g3;obtain⟨s4,e4,d4,_⟩:=DataW.trod_string uuStr g4;obtain⟨s5,e5,d5,_⟩:=DataW.trod_string uuStr g5;obtain⟨s6,e6,d6,_⟩:=DataW.trod_string uuStr g6;obtain⟨n7,e7,_,_⟩:=DataW.trod_int uuInt g7;obtain⟨B,bn,bk,bl,rfl,p2,p3,p4,p5,p6,p7,p8⟩:=open_rows uuIsss ccIss (by decide) (fun t:TA=>t.cells) (fun _=>rfl) (fun t d=>TokRead w t d) (fun fuel cs x hx=>open_tok hx) g8;obtain⟨b9,e9,_⟩:=DataW.trod_bool uuBool g9;obtain⟨C,cn,ck,cl,rfl,q2,q3,q4,q5,q6,q7,q8⟩:=open_nums uuInts uuInt ccInt g10;simp only [List.cons.injEq,and_true]at e0 e1 e2 e4 e5 e6 e7 e9;subst e0 e1 e2 e4 e5 e6 e7 e9 hx;have w3:=fun m hm=>hw m (weights_field uuFam (i:=3) (t:=22) (o:=3) (by kernel_rfl) i3 m hm);have w8:=fun m hm=>hw m (weights_field uuFam (i:=8) (t:=23) (o:=8) (by kernel_rfl) i8 m hm);have w10:=fun m hm=>hw m (weights_field uuFam (i:=10) (t:=24) (o:=10) (by kernel_rfl) i10 m hm);refine⟨⟨⟨s0,s1,s2,l,s4,s5,s6,n7,bl.map (·.tok),b9,cl⟩,A,k,B,bk,bl,C,ck⟩,by rw [←h3,←p3,←q3];rfl,⟨rfl,⟨by rw [strCells_flat,←h3]at h2;exact h2,fun _=>by simp [Off]⟩,⟨by rw [←p3]at p2;exact p2,fun _=>by simp [Off]⟩,⟨by rw [←q3]at q2;exact q2,fun _=>by simp [Off]⟩,fun t ht=> ?_⟩,⟨?_,?_,?_,?_,?_,?_⟩⟩
  ·obtain⟨d,hd,hm⟩:=p7 t ht;exact⟨hd.scope,fun _=>by simp [Off]⟩
  ·refine Nat.le_trans (hw _ (weights_field uuFam (i:=0) (t:=9) (o:=0) (by kernel_rfl) i0 _ ?_)) (by decide);subst d0;simp [DataW.weights,Array.length_toList]
  ·simp only;rcases Nat.eq_zero_or_pos n with h0 |h0
   ·omega
   ·obtain⟨m,hm,hb⟩:=h8 h0;rw [bbStr]at hb;have:=w3 m hm;omega
  ·intro s hs;obtain⟨d,hd,hm⟩:=h7 s hs;exact Nat.le_trans (w3 _ (hm _ hd)) (by decide)
  ·simp only;rcases Nat.eq_zero_or_pos bn with h0 |h0
   ·omega
   ·obtain⟨m,hm,hb⟩:=p8 h0;have:=w8 m hm;have:=Nat.le_trans (Nat.le_mul_of_pos_right bn bbIss) hb;omega
  ·intro t ht;obtain⟨d,hd,hm⟩:=p7 t ht;refine⟨?_,fun s hs=>Nat.le_trans (w8 _ (hm _ (hd.each s hs))) (by decide)⟩;rcases Nat.eq_zero_or_pos t.tok.scope.length with h0 |h0
   ·omega
   ·obtain⟨m,hm2,hb⟩:=hd.many h0;have:=w8 m (hm m hm2);omega
  ·simp only;rcases Nat.eq_zero_or_pos cn with h0 |h0
   ·omega
   ·obtain⟨m,hm,hb⟩:=q8 h0;have:=w10 m hm;have:=Nat.le_trans (Nat.le_mul_of_pos_right cn bbInt) hb;omega
end
end Go.Proofs.YtpmgepijkhaonaaGreat
