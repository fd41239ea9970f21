/- Words for arrays that lie within a block: loads and stores of many cells at once, at any place of the block. Conditions: none. -/
import Derived.Test.YtopfcgpeaaehgaaGreatDoorMem
import Derived.OrdersHeld
import Derived.Deep.RegionHeld
namespace Go.Sig
open Go.RowKit
def Sub (cs:Array Value) (o:Nat) (ys:List Value):Prop:=∀j v,ys[j]? =some v→cs[o+j]? =some v
def laid (cs:Array Value) (o:Nat) (ys:List Value):Array Value:=(cs.toList.take o++(ys++cs.toList.drop (o+ys.length))).toArray
theorem laid_size {cs:Array Value}{o:Nat}{ys:List Value}(h:o+ys.length≤cs.size):(laid cs o ys).size=cs.size:=by
 simp [laid];omega
theorem laid_get {cs:Array Value}{o:Nat}{ys:List Value}(h:o+ys.length≤cs.size) (j:Nat):(laid cs o ys)[j]? =if o≤j∧j<o+ys.length then ys[j - o]? else cs[j]? :=by
 have ht:(cs.toList.take o).length=o:=by simp;omega
 simp only [laid,zG,List.getElem?_append,ht];by_cases h1:j<o
 ·rw [if_pos h1,if_neg (by omega),List.getElem?_take_of_lt h1,Array.getElem?_toList]
 ·rw [if_neg h1];by_cases h2:j - o<ys.length
  ·rw [if_pos h2,if_pos ⟨by omega,by omega⟩]
  ·rw [if_neg h2,if_neg (by omega),List.getElem?_drop,Array.getElem?_toList];congr 1;omega
theorem laid_far {cs:Array Value}{o:Nat}{ys:List Value}(h:o+ys.length≤cs.size) {j:Nat}(hj:j<o∨o+ys.length≤j):(laid cs o ys)[j]? =cs[j]? :=by
 rw [laid_get h,if_neg (by omega)]
section
variable {P:Program}
theorem run_loadVar_at {w:World}{g o:Nat}{ty:TypeId}{ys:List Value}{d:TypeDesc}(hc:∀j v,ys[j]? =some v→w.cell? ⟨g,o+j,none⟩=some v)
  (hu:P.underlying ty=some d) (hd:(match d with | .struct _ | .array _ _=>true |_=>false)=true) (hi:(P.info? ty).map (·.size)=some ys.length):
  (loadVar ty ⟨g,o,none⟩).run P w= .ok (.agg ys.toArray) w:=by
 have hl:(loadCells ⟨g,o,none⟩ ys.length).run P w= .ok ys.toArray w:=
  run_loadCells_list (P:=P) w ⟨g,o,none⟩ ys (fun j v hv=>by rw [Addr.add_lit];exact hc j v hv)
 cases hq:P.info? ty with
 |none=>simp [hq]at hi
 |some i=>
  have hs:i.size=ys.length:=by simpa [hq]using hi
  have hagg:(isAgg ty).run P w= .ok true w:=by unfold isAgg;rw [Sem.run_bind,run_underlying hu w];cases d<;>simp_all
  simp [loadVar,Sem.run_bind,hagg,sizeOf,typeInfo,hq,hs,hl]
theorem Blk.run_load {w:World}{g o:Nat}{t ty:TypeId}{cs:Array Value}{ys:List Value}{d:TypeDesc}(h:Blk w g t cs) (hs:Sub cs o ys)
  (hu:P.underlying ty=some d) (hd:(match d with | .struct _ | .array _ _=>true |_=>false)=true) (hi:(P.info? ty).map (·.size)=some ys.length):
  (loadVar ty ⟨g,o,none⟩).run P w= .ok (.agg ys.toArray) w:=
 run_loadVar_at (fun j v hv=>by rw [h.cell];exact hs j v hv) hu hd hi
theorem run_storeCells_at (g o:Nat) (t:TypeId):∀(vs:List Value) (i:Nat) (cur:Array Value) (w:World),w.heap[g]? =some (.cells cur t (0,0))→o+i+vs.length≤cur.size→(∀v∈vs,v.oneCell'=true)→
  (storeCells ⟨g,o,none⟩ vs i).run P w= .ok () (w.setRow g (laid cur (o+i) vs))
 | [],i,cur,w,hg,hl,_=>by
  have e:laid cur (o+i) []=cur:=by simp [laid]
  rw [e];have hlt:g<w.heap.size:=(Array.getElem?_eq_some_iff.1 hg).1;have hv:w.heap[g]= .cells cur t (0,0):=(Array.getElem?_eq_some_iff.1 hg).2;simp only [storeCells];show Result.ok () w=_;congr 1;unfold World.setRow;cases w with
  |mk heap tape drawn os output=>
   congr 1;apply Array.ext
   ·simp
   ·intro k h1 h2;simp only [Array.getElem_modify];split
    ·rename_i hk;subst hk;simp at hv;simp [hv]
    ·rfl
 |v::rest,i,cur,w,hg,hl,h1=>by
  have hi:o+i<cur.size:=by simp at hl;omega
  have hadd:(⟨g,o,none⟩:Addr).add i=⟨g,o+i,none⟩:=Addr.add_lit ..
  have hcell:w.cell? ⟨g,o+i,none⟩=some cur[o+i]:=by simp [World.cell?,hg,hi]
  have hfro:w.frozen? ⟨g,o+i,none⟩=false:=by simp [World.frozen?,hg]
  have hst:(store ((⟨g,o,none⟩:Addr).add i) v).run P w= .ok () (w.setRow g (cur.setIfInBounds (o+i) v)):=by rw [hadd,run_store P w _ v _ (h1 v (by simp)),hcell];simp [hfro,setCell_eq_setRow w g (o+i) cur t (0,0) v hg]
  have hsz:(cur.setIfInBounds (o+i) v).size=cur.size:=by simp
  have ih:=run_storeCells_at g o t rest (i+1) (cur.setIfInBounds (o+i) v) (w.setRow g (cur.setIfInBounds (o+i) v)) (setRow_heap w g cur _ t _ hg) (by rw [hsz];simp at hl;omega) (fun x hx=>h1 x (by simp [hx]));simp only [storeCells,Sem.run_bind,hst,Result.andThen_ok,ih,setRow_setRow];congr 2;apply Array.ext_getElem?;intro k;rw [laid_get (by rw [hsz];simp at hl;omega),laid_get (by simpa using hl)];simp only [List.length_cons,Array.getElem?_setIfInBounds];by_cases hk:k=o+i
  ·subst hk;rw [if_neg (by omega),if_pos rfl,if_pos (by omega),if_pos (by omega),Nat.sub_self];rfl
  ·by_cases hk2:o+i≤k∧k<o+i+(rest.length+1)
   ·rw [if_pos (by omega),if_pos hk2,show k - (o+i)=(k - (o+(i+1)))+1 by omega];rfl
   ·rw [if_neg (by omega),if_neg hk2,if_neg (by omega)]
theorem Blk.run_store {w:World}{g o:Nat}{t ty:TypeId}{cs ys:Array Value}(h:Blk w g t cs) (hi:(P.info? ty).map (·.size)=some ys.size) (ho:o+ys.size≤cs.size) (h1:∀v∈ys.toList,v.oneCell'=true):
  (storeVar ty ⟨g,o,none⟩ (.agg ys)).run P w= .ok () (w.setRow g (laid cs o ys.toList)):=by
 have:=run_storeCells_at (P:=P) g o t ys.toList 0 cs w h (by simpa using ho) h1;cases hq:P.info? ty with
 |none=>simp [hq]at hi
 |some i=>
  have hs:ys.size=i.size:=by simp [hq]at hi;omega
  simp only [Nat.add_zero]at this;simp [storeVar,sizeOf,typeInfo,hq,Value.cells,hs,this]
theorem Blk.setRow {w:World}{g:Nat}{t:TypeId}{cs:Array Value}(h:Blk w g t cs) (ds:Array Value):Blk (w.setRow g ds) g t ds:=setRow_heap w g cs ds t (0,0) h
theorem Fr.setRow {S:List Nat}{a w:World}(h:Fr S a w) {g:Nat}(hg:g∈S∨a.heap.size≤g) (cs:Array Value):Fr S a (w.setRow g cs):=
 ⟨h.os,h.tape,h.output,by simpa using h.size,fun i hi hn=>(setRow_other w g i cs (by rintro rfl;exact hg.elim hn (by omega))).trans (h.block i hi hn)⟩
theorem Blk.farRow {w:World}{g k:Nat}{t:TypeId}{cs:Array Value}(h:Blk w g t cs) (hk:g≠k) (ds:Array Value):Blk (w.setRow k ds) g t cs:=(setRow_other w k g ds hk).trans h
variable {ops:Array Oper}{rest:List Oper}{o:Oper}{a:Act}{w:World}{Q:Exit→Act→World→Prop}{K:Act→World→Prop}
theorem wp_load_at (ty:TypeId) (x:Operand) (ho:o.op= .load ty x) {g off:Nat}(hx:a.eval x= .pointer (some ⟨g,off,none⟩)) {t:TypeId}{cs:Array Value}{ys:List Value}{d:TypeDesc}(hg:Blk w g t cs) (hs:Sub cs off ys)
  (hu:P.underlying ty=some d) (hd:(match d with | .struct _ | .array _ _=>true |_=>false)=true) (hi:(P.info? ty).map (·.size)=some ys.length)
  (h:K (a.put o.dst (.agg ys.toArray)) w):o.wp P a w K Q:=by
 unfold Oper.wp execOp;simp only [ho,hx,Instr.loadAt,Instr.sureAddr,Sem.run_bind,Sem.run_pure,Result.andThen_ok,hg.run_load hs hu hd hi];exact h
theorem wpList_load_at (hgd:o.guard=none) (ty:TypeId) (x:Operand) (ho:o.op= .load ty x) {g off:Nat}(hx:a.eval x= .pointer (some ⟨g,off,none⟩)) {t:TypeId}{cs:Array Value}{ys:List Value}{d:TypeDesc}(hg:Blk w g t cs) (hs:Sub cs off ys)
  (hu:P.underlying ty=some d) (hd:(match d with | .struct _ | .array _ _=>true |_=>false)=true) (hi:(P.info? ty).map (·.size)=some ys.length)
  (h:wpList P ops Q rest (a.put o.dst (.agg ys.toArray)) w):wpList P ops Q (o::rest) a w:=
 wpList_plain hgd fun _ hK=>wp_load_at ty x ho hx hg hs hu hd hi (hK _ _ h)
theorem wpList_build_k (hg:o.guard=none) (t:TypeId) (parts:Array (Nat×Operand)) (ho:o.op= .build t parts) {cells:Array Value}
  (hf:P.built t (parts.map fun(i,x)=>(i,a.eval x)).toList=some cells) (h:wpList P ops Q rest (a.put o.dst (.agg cells)) w):wpList P ops Q (o::rest) a w:=
 wpList_build hg t parts ho (by rw [hf];rfl) (by rw [hf];exact h)
end
end Go.Sig
namespace Go.Sig
open Go
section
variable {P:Program}{ops:Array Oper}{Q:Exit→Act→World→Prop}{md:Region.Mode}{S:World→Prop}{Z:List Nat}
def wpZ (P:Program) (md:Region.Mode) (ops:Array Oper) (Q:Exit→Act→World→Prop) (S:World→Prop) (Z:List Nat):Nat→Array Bool→Act→World→Prop
 | 0,listed,a,w=>Region.ready md ops listed= []∧Q .normal a w
 |fuel+1,listed,a,w=>
  (Region.ready md ops listed= []→Q .normal a w)∧
  ∀i∈Region.ready md ops listed,wpOp P ops Q i (fun a' w'=>(Z.contains i=true∨S w')∧wpZ P md ops Q S Z fuel (listed.setIfInBounds i true) a' w') a w
theorem wpZ_any:∀(fuel:Nat) (listed:Array Bool) (a:Act) (w:World),wpZ P md ops Q S Z fuel listed a w→wpAny P md ops Q fuel listed a w
 | 0,_,_,_,h=>h
 |fuel+1,_,_,_,h=>⟨h.1,fun i hi=>wpOp_mono (fun a' w' k=>wpZ_any fuel _ a' w' k.2) (h.2 i hi)⟩
def waits (md:Region.Mode) (ops:Array Oper) (Z:List Nat) (i:Nat):Bool:=Z.all fun z=>match ops[z]? with |none=>true |some o=>o.after.any fun e=>Region.binds md e&&e.on==i
theorem waits_spec {i:Nat}(h:waits md ops Z i=true) {j:Nat}{oj:Oper}(hj:ops[j]? =some oj) (hno:∀e∈oj.after,Region.binds md e=true→e.on≠i):Z.contains j=false:=by
 rw [Bool.eq_false_iff];intro hz;have h1:=List.all_eq_true.1 h j (by simpa using hz);rw [hj]at h1;obtain⟨e,he,h2⟩:=Array.any_eq_true'.1 h1;rw [Bool.and_eq_true,beq_iff_eq]at h2;exact hno e he h2.1 h2.2
theorem wpZ_first {i:Nat}{oi:Oper}{v:Value}(hi:ops[i]? =some oi) (hsel:∀(j:Nat) (o:Oper) cs b,ops[j]? =some o→o.op≠ .select cs b)
  (hQ:∀c a w,Q (.panic c) (a.put oi.dst v) w→Q (.panic c) a w) (hZ:waits md ops Z i=true):
  ∀(fuel:Nat) (listed:Array Bool) (a:Act) (w:World),
   (∀j oj,ops[j]? =some oj→j≠i→listed.getD j true=false→(∀e∈oj.after,Region.binds md e=true→e.on≠i)→oi.apart ops oj=true)→
   i∈Region.ready md ops listed→YieldsIf P ops S oi v a→S w→
   wpZ P md ops Q S Z fuel (listed.setIfInBounds i true) (a.put oi.dst v) w→wpZ P md ops Q S Z (fuel+1) listed a w
 | 0,listed,a,w,_,hr,hy,hS,H=>by
  refine⟨fun h=>absurd hr (by rw [h];exact List.not_mem_nil),fun j hj=> ?_⟩;rcases Decidable.em (j=i)with e |e
  ·subst e;exact hy.wpOp hi hS ⟨.inr hS,H⟩
  ·have hm:=ready_mono hj e;rw [H.1]at hm;exact absurd hm List.not_mem_nil
 |fuel+1,listed,a,w,hfree,hr,hy,hS,H=>by
  refine⟨fun h=>absurd hr (by rw [h];exact List.not_mem_nil),fun j hj=> ?_⟩;rcases Decidable.em (j=i)with e |e
  ·subst e;exact hy.wpOp hi hS ⟨.inr hS,H⟩
  obtain⟨hun,oj,hoj,hall⟩:=mem_ready.1 hj;have hil:=(mem_ready.1 hr).1;have hnot:∀x∈oj.after,Region.binds md x=true→x.on≠i:=fun x hx hb hxi=>by
   have h1:=hall x hx hb;rw [hxi]at h1;rcases Nat.lt_or_ge i listed.size with hl |hl
   ·simp [hl]at hil h1;rw [hil]at h1;cases h1
   ·simp [Array.getElem?_eq_none hl]at h1
  have hzj:=waits_spec hZ hoj hnot;have hstep:=wpOp_putIf hoj (hfree j oj hoj e hun hnot) (fun cs b=>hsel i oi cs b hi) (fun cs b=>hsel j oj cs b hoj) hQ hy (H.2 j (ready_mono hj e));have hfree2:∀k ok,ops[k]? =some ok→k≠i→(listed.setIfInBounds j true).getD k true=false→(∀x∈ok.after,Region.binds md x=true→x.on≠i)→oi.apart ops ok=true:=fun k ok hk hki hu hno=>by
   refine hfree k ok hk hki ?_ hno;rcases Decidable.em (j=k)with q |q
   ·subst q;exact hun
   ·rwa [getD_set_ne true q]at hu
  refine wpOp_mono (fun a' w' k=> ?_) hstep;obtain⟨k1,k2,k3⟩:=k;have hS':S w':=k2.resolve_left (by rw [hzj];decide);refine⟨.inr hS',wpZ_first hi hsel hQ hZ fuel _ a' w' hfree2 (ready_mono hr (Ne.symm e)) k1 hS' ?_⟩;rw [Array.setIfInBounds_comm _ _ e];exact k3
theorem wpZ_take {i:Nat}{oi:Oper}{v:Value}{fuel:Nat}{listed:Array Bool}{a:Act}{w:World}(hi:ops[i]? =some oi)
  (hs:Region.noSelect ops=true) (hf:Region.free md ops listed i=true) (hr:(Region.ready md ops listed).contains i=true) (hZ:waits md ops Z i=true)
  (hQ:∀c a w,Q (.panic c) (a.put oi.dst v) w→Q (.panic c) a w) (hy:YieldsIf P ops S oi v a) (hS:S w)
  (h:wpZ P md ops Q S Z fuel (listed.setIfInBounds i true) (a.put oi.dst v) w):wpZ P md ops Q S Z (fuel+1) listed a w:=
 wpZ_first hi (Region.noSelect_spec hs) hQ hZ fuel listed a w (Region.free_spec hi hf) (by simpa using hr) hy hS h
theorem wpZ_tk {i:Nat}{oi:Oper}{v:Value}{fuel:Nat}{listed:Array Bool}{a:Act}{w:World}(hS:S w) (hy:∀w,S w→(execOp a.eval oi).run P w= .ok (.value v) w) (h:wpZ P md ops Q S Z fuel (listed.setIfInBounds i true) (a.put oi.dst v) w)
  (hi:ops[i]? =some oi:=by rfl) (hs:Region.noSelect ops=true:=by kernel_rfl) (hf:Region.free md ops listed i=true:=by kernel_rfl) (hr:(Region.ready md ops listed).contains i=true:=by kernel_rfl) (hZ:waits md ops Z i=true:=by kernel_rfl)
  (hw:Region.wanted oi (yielded ops a.tmps)=true:=by rfl) (hQ:∀c a w,Q (.panic c) (a.put oi.dst v) w→Q (.panic c) a w:=by exact fun _ _ _ h=>h):wpZ P md ops Q S Z (fuel+1) listed a w:=
 wpZ_take hi hs hf hr hZ hQ (.inl ⟨hw,hy⟩) hS h
theorem wpZ_one {i:Nat}{o:Oper}{fuel:Nat}{listed:Array Bool}{a:Act}{w:World}(hr:Region.ready md ops listed= [i]) (ho:ops[i]? =some o)
  (h:∀K':Act→World→Prop,Shut (∀a w,S w→(S w→wpZ P md ops Q S Z fuel (listed.setIfInBounds i true) a w)→K' a w)→if Region.wanted o (yielded ops a.tmps)=true then Oper.wp P o a w K' Q else K' (a.put o.dst undef) w):
  wpZ P md ops Q S Z (fuel+1) listed a w:=by
 refine⟨fun h0=>by(rw [hr]at h0;cases h0),fun j hj=> ?_⟩;rw [hr,List.mem_singleton]at hj;subst hj;exact wpOp_step ho (fun K' hK=>h K' (fun a w hS hW=>hK a w ⟨.inr hS,hW hS⟩))
theorem wpZ_end {i:Nat}{o:Oper}{fuel:Nat}{listed:Array Bool}{a:Act}{w:World}(hr:Region.ready md ops listed= [i]) (ho:ops[i]? =some o) (hz:Z.contains i=true)
  (h:∀K':Act→World→Prop,Shut (∀a w,wpZ P md ops Q S Z fuel (listed.setIfInBounds i true) a w→K' a w)→if Region.wanted o (yielded ops a.tmps)=true then Oper.wp P o a w K' Q else K' (a.put o.dst undef) w):
  wpZ P md ops Q S Z (fuel+1) listed a w:=by
 refine⟨fun h0=>by(rw [hr]at h0;cases h0),fun j hj=> ?_⟩;rw [hr,List.mem_singleton]at hj;subst hj;exact wpOp_step ho (fun K' hK=>h K' (fun a w hW=>hK a w ⟨.inl hz,hW⟩))
theorem wpZ_done {listed:Array Bool}{a:Act}{w:World}(hr:Region.ready md ops listed= []) (h:Q .normal a w):∀fuel,wpZ P md ops Q S Z fuel listed a w
 | 0=>⟨hr,h⟩
 |_+1=>⟨fun _=>h,by rw [hr];simp⟩
theorem wp_region_z {id:Nat}{a:Act}{w:World}(S:World→Prop) (Z:List Nat) (hm:P.follows .mixedOrders=true) (hS:S w.drew)
  (h:S w.drew→wpZ P .any ops Q S Z ops.size (Array.replicate ops.size false) a w.drew):(Code.region id ops true).wp P Q a w:=
 wp_region_any hm (wpZ_any _ _ _ _ (h hS))
end
end Go.Sig
namespace Go.Sig
open Go
section
variable {P:Program}{ops:Array Oper}{Q:Exit→Act→World→Prop}{a:Act}{w:World}{rest:List Oper}
theorem wanted_none {o:Oper}{y:Nat→Option Bool}(h:o.guard=none):Region.wanted o y=true:=by simp [Region.wanted,h]
end
end Go.Sig
