/- From an argument that can be read as data to lists in memory: a slice of structs, of numbers, of strings; how much is read. Conditions: none. -/
import Derived.Test.YtdeoinjjphdbmaaGreatMem
import Derived.ProofKit
import Derived.OpenShut
import Derived.ShutString
import Derived.ChangeOld
import Derived.Below
import Derived.Deep.Slices
import Derived.SizedLaws
namespace Go.Sig
open Go.RowKit Go.ChangeShapes Go.WideShapes
section
variable {H:Type}{enc:TypeId×Value→H}{P:Program}{w:World}{base:Nat}{spare:Nat→Bool}{held:Bool}
theorem field_at {fs:Array Field}{n:Nat}{cs:List Value}{xs:List (DataW H×List MemPlace)}
  (h:∀(i:Nat) (f:Field),fs[i]? =some f→DataW.trod enc P w base spare held n f.type ((cs.drop f.offset).take (P.cellsOf f.type))=xs[i]?) (hx:xs.length=fs.size)
  {i:Nat}{t o c:Nat}(hk:(fs[i]?).map (fun f=>(f.type,f.offset))=some (t,o)) (hc:P.cellsOf t=c):∃y,xs[i]? =some y∧DataW.trod enc P w base spare held n t ((cs.drop o).take c)=some y:=by
 obtain⟨f,hf,he⟩:=Option.map_eq_some_iff.1 hk
 simp only [Prod.mk.injEq]at he
 have h1:=h i f hf
 rw [he.1,he.2,hc]at h1
 have hi:i<xs.length:=by rw [hx];exact(Array.getElem?_eq_some_iff.1 hf).1
 rw [List.getElem?_eq_getElem hi]at h1
 exact⟨_,List.getElem?_eq_getElem hi,h1⟩
theorem weights_all {e:TypeId}:∀{ds:List (DataW H)}{d:DataW H},d∈ds→∀m∈d.weights P e,m∈DataW.weightsAll P e ds
 |d0::ds,d,hd,m,hm=>by
  simp only [DataW.weightsAll,List.mem_append]
  rcases List.mem_cons.1 hd with rfl |hd
  ·exact .inl hm
  ·exact .inr (weights_all hd m hm)
theorem weights_field {e t o i:Nat}{fs:Array Field}{xs:List (DataW H×List MemPlace)}{y:DataW H×List MemPlace}(ht:P.underlying e=some (.struct fs)) (hk:(fs[i]?).map (fun f=>(f.type,f.offset))=some (t,o)) (hy:xs[i]? =some y):
  ∀m∈y.1.weights P t,m∈(DataW.agg (xs.map (·.1))).weights P e:=by
 intro m hm
 obtain⟨f,hf,he⟩:=Option.map_eq_some_iff.1 hk
 simp only [Prod.mk.injEq]at he
 simp only [DataW.weights,ht]
 refine DataW.weights_mem_each (j:=i) (t:=t) (d:=y.1) ?_ ?_ m hm
 ·rw [List.getElem?_map,Array.getElem?_toList,hf,←he.1]
  rfl
 ·rw [List.getElem?_map,hy]
  rfl
theorem flat_len (f:Nat→List Value) (k:Nat) (hf:∀i,(f i).length=k):∀n,((List.range n).flatMap f).length=n*k
 | 0=>by simp
 |n+1=>by rw [List.range_succ,List.flatMap_append,List.length_append,flat_len f k hf n];simp [hf,Nat.add_mul]
theorem flat_range (f:Nat→List Value) (k:Nat) (hf:∀i,(f i).length=k) (Q:Nat→Value→Prop) (n:Nat) (h:∀i,i<n→∀j v,(f i)[j]? =some v→Q (i*k+j) v):
  ∀q v,((List.range n).flatMap f)[q]? =some v→Q q v:=by
 induction n with
 |zero=>intro q v hq;simp at hq
 |succ n ih=>
  intro q v hq
  have hlen:=flat_len f k hf n
  rw [List.range_succ,List.flatMap_append]at hq
  rcases Nat.lt_or_ge q (n*k)with hlt |hge
  ·rw [List.getElem?_append_left (by omega)]at hq
   exact ih (fun i hi=>h i (by omega)) q v hq
  ·rw [List.getElem?_append_right (by omega),hlen]at hq
   have:=h n (by omega) (q - n*k) v (by simpa using hq)
   rwa [show n*k+(q - n*k)=q by omega]at this
theorem open_rows {t e k:Nat}(ht:P.underlying t=some (.slice e)) (hk:P.cellsOf e=k) (hk0:0<k) {α:Type}(cells:α→List Value) (hcl:∀a,(cells a).length=k) (Ok:α→DataW H→Prop)
  (hopen:∀(fuel:Nat) (cs:List Value) (x:DataW H×List MemPlace),DataW.trod enc P w base spare held fuel e cs=some x→∃a,cs=cells a∧Ok a x.1)
  {fuel:Nat}{v:Value}{x:DataW H×List MemPlace}(h:DataW.trod enc P w base spare held fuel t [v]=some x):
  ∃A n c,∃l:List α,v= .slice A n c∧Rd w k A n (l.flatMap cells)∧l.length=n∧(A=none→n=0)∧n≤c∧c≤maxLen∧(∀a∈l,∃d,Ok a d∧∀m∈d.weights P e,m∈x.1.weights P t)∧
   (0<n→∃m∈x.1.weights P t,n*P.bytesOf e≤m):=by
 rcases Deep.open_slice ht h with⟨hcs,hx⟩ | ⟨a,len,cap,m,n,D,Pl,hcs,_,hl,hm,hmm,hx,hi⟩
 ·simp only [List.cons.injEq,and_true]at hcs
  exact⟨none,0,0,[],hcs,Rd.nil _ _ _,rfl,fun _=>rfl,by omega,by decide,(fun a ha=>by cases ha),fun h0=>by omega⟩
 ·simp only [List.cons.injEq,and_true]at hcs
  have hlm:len≤m:=by rw [hmm];split<;>omega
  subst hx
  rcases Nat.eq_zero_or_pos len with h0 |h0
  ·subst h0
   exact⟨some a,0,cap,[],hcs,Rd.nil _ _ _,rfl,fun _=>rfl,hl,hm,(fun a ha=>by cases ha),fun h0=>by omega⟩
  have hs:∀i,i<len→∃s:α,Ok s (D i)∧∀j u,(cells s)[j]? =some u→w.cell? ((a.add (i*k)).add j)=some u:=by
   intro i hil
   obtain⟨cs',h1,h2⟩:=hi i (by omega)
   rw [hk]at h1
   obtain⟨s,rfl,hok⟩:=hopen _ _ _ h2
   obtain⟨_,hcl',hat⟩:=World.cells?_some h1
   refine⟨s,hok,fun j u hu=> ?_⟩
   rw [hat j (by have:=(List.getElem?_eq_some_iff.1 hu).1;rw [hcl]at this;exact this)]
   exact hu
  obtain⟨s0,_⟩:=hs 0 h0
  obtain⟨f,hf⟩:∃f:Nat→α,∀i,i<len→Ok (f i) (D i)∧∀j u,(cells (f i))[j]? =some u→w.cell? ((a.add (i*k)).add j)=some u:=
   ⟨fun i=>if h:i<len then Classical.choose (hs i h)else s0,fun i hi=>by simp only [hi,dif_pos];exact Classical.choose_spec (hs i hi)⟩
  have hcell0:∃u,(cells (f 0))[0]? =some u:=⟨_,List.getElem?_eq_getElem (by rw [hcl];omega)⟩
  obtain⟨u0,hu0⟩:=hcell0
  have hc0:=(hf 0 h0).2 0 _ hu0
  obtain⟨b,o,spot⟩:=a
  have hspot:spot=none:=by simpa [Addr.add]using World.cell?_spot hc0
  subst hspot
  refine⟨some ⟨b,o,none⟩,len,cap,(List.range len).map f,hcs,⟨?_,fun hn=>⟨b,o,rfl,?_⟩⟩,by simp,(fun h=>by cases h),hl,hm,?_,fun _=> ?_⟩
  ·rw [List.flatMap_map]
   exact flat_len _ k (fun _=>hcl _) len
  ·rw [List.flatMap_map]
   refine flat_range (fun i=>cells (f i)) k (fun _=>hcl _) (fun q v=>w.cell? ⟨b,o+q,none⟩=some v) len (fun i hi j u hu=> ?_)
   have:=(hf i hi).2 j u hu
   rw [Addr.add_lit,Addr.add_lit]at this
   rw [←Nat.add_assoc]
   exact this
  ·intro s hs
   obtain⟨i,hi,rfl⟩:=List.mem_map.1 hs
   refine⟨D i,(hf i (List.mem_range.1 hi)).1,fun m hm=> ?_⟩
   simp only [DataW.weights,ht,List.mem_cons,List.mem_append]
   exact .inr (.inl (weights_all (List.mem_map.2 ⟨i,hi,rfl⟩) m hm))
  ·refine⟨_,by simp only [DataW.weights,ht];exact List.mem_cons_self,?_⟩
   exact Nat.mul_le_mul_right _ (by simp)
theorem open_nums {t e:Nat}{q:IntKind}(ht:P.underlying t=some (.slice e)) (he:P.underlying e=some (.int q)) (hk:P.cellsOf e=1) {fuel:Nat}{v:Value}{x:DataW H×List MemPlace}(h:DataW.trod enc P w base spare held fuel t [v]=some x):
  ∃A n c,∃l:List Int,v= .slice A n c∧Rd w 1 A n (l.map (Value.int q))∧l.length=n∧(A=none→n=0)∧n≤c∧c≤maxLen∧(∀a∈l,(Lit.int q a).wf=true)∧(0<n→∃m∈x.1.weights P t,n*P.bytesOf e≤m):=by
 obtain⟨A,n,c,l,h1,h2,h3,h4,h5,h6,h7,h8⟩:=open_rows ht hk (by decide) (fun a:Int=> [Value.int q a]) (fun _=>rfl) (fun a _=>(Lit.int q a).wf=true) (fun fuel cs x hx=>by
  obtain⟨a,hcs,_,hw⟩:=DataW.trod_int he hx
  exact⟨a,hcs,hw⟩) h
 refine⟨A,n,c,l,h1,?_,h3,h4,h5,h6,fun a ha=>(h7 a ha).choose_spec.1,h8⟩
 have e:∀l:List Int,l.flatMap (fun a=> [Value.int q a])=l.map (Value.int q):=fun l=>by
  induction l with
  |nil=>rfl
  |cons a l ih=>rw [List.flatMap_cons,ih];rfl
 rw [←e]
 exact h2
theorem reach_each {ts:List TypeId}{ds:List (DataW H)}(h:(DataW.weightsEach P ts ds).all (·≤reachBytes)=true) {j:Nat}{t:TypeId}{d:DataW H}(ht:ts[j]? =some t) (hd:ds[j]? =some d):∀m∈d.weights P t,m≤140737488351232:=fun m hm=>by
 have:=List.all_eq_true.1 h _ (DataW.weights_mem_each ht hd m hm)
 have h2:m≤reachBytes:=of_decide_eq_true this
 exact h2
end
end Go.Sig
