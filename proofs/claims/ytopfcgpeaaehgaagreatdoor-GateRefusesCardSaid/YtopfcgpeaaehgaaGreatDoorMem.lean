/- Words for memory that the proofs of this set share: what a call leaves alone, blocks that are known whole, maps as association lists, and the laws of the operations on them. Conditions: none. -/
import Derived.WalkKit
import Derived.WalkSpells
import Derived.WalkLawsBesides
import Derived.StillTailTactics
import Derived.BigQuiet
import Derived.Deep.QuietTactic
import Derived.Lib.Hide
import Derived.Maps.RangeRun
import Derived.Maps.AppendAt
import Derived.Deep.LoopGhost
namespace Go.Sig
open Go.RowKit
structure Fr (S:List Nat) (w w':World):Prop where
 os:w'.os=w.os
 tape:w'.tape=w.tape
 output:w'.output=w.output
 size:w.heap.size≤w'.heap.size
 block:∀i,i<w.heap.size→i∉S→w'.heap[i]? =w.heap[i]?
theorem Fr.refl (S:List Nat) (w:World):Fr S w w:=⟨rfl,rfl,rfl,Nat.le_refl _,fun _ _ _=>rfl⟩
theorem Fr.trans {S:List Nat}{a b c:World}(h:Fr S a b) (k:Fr S b c):Fr S a c:=
 ⟨k.os.trans h.os,k.tape.trans h.tape,k.output.trans h.output,Nat.le_trans h.size k.size,
  fun i hi hn=>(k.block i (Nat.lt_of_lt_of_le hi h.size) hn).trans (h.block i hi hn)⟩
theorem Fr.mono {S S':List Nat}{a b:World}(h:Fr S a b) (hS:∀i,i∈S→i∈S'):Fr S' a b:=
 ⟨h.os,h.tape,h.output,h.size,fun i hi hn=>h.block i hi fun hh=>hn (hS i hh)⟩
theorem Fr.mono' {S S':List Nat}{a b:World}(h:Fr S a b) (hS:∀i,i∈S→i∈S'∨a.heap.size≤i):Fr S' a b:=
 ⟨h.os,h.tape,h.output,h.size,fun i hi hn=>h.block i hi fun hh=>(hS i hh).elim hn fun hge=>absurd hi (by omega)⟩
theorem Fr.nil {S:List Nat}{a b:World}(h:Fr [] a b):Fr S a b:=h.mono fun _ hi=>by cases hi
theorem Fr.andThen {S T:List Nat}{a b c:World}(h:Fr S a b) (k:Fr T b c) (hT:∀i,i∈T→i∈S∨a.heap.size≤i):Fr S a c:=
 ⟨k.os.trans h.os,k.tape.trans h.tape,k.output.trans h.output,Nat.le_trans h.size k.size,
  fun i hi hn=>(k.block i (Nat.lt_of_lt_of_le hi h.size) fun hh=>(hT i hh).elim hn fun hge=>absurd hi (by omega)).trans (h.block i hi hn)⟩
theorem Fr.drew {S:List Nat}{a w:World}(h:Fr S a w):Fr S a w.drew:=⟨h.os,h.tape,h.output,h.size,h.block⟩
theorem Fr.drewN {S:List Nat}{a w:World}(h:Fr S a w) (n:Nat):Fr S a (w.drewN n):=⟨h.os,h.tape,h.output,h.size,h.block⟩
theorem Fr.of_drew {S:List Nat}{a w:World}(h:Fr S a.drew w):Fr S a w:=⟨h.os,h.tape,h.output,h.size,h.block⟩
theorem Fr.alloc {S:List Nat}{a w:World}(h:Fr S a w) (o:Obj):Fr S a (w.alloc o):=
 ⟨h.os,h.tape,h.output,Nat.le_trans h.size (by simp),fun i hi hn=>(Below.heap_alloc w o i (Nat.lt_of_lt_of_le hi h.size)).trans (h.block i hi hn)⟩
theorem Fr.setCell {S:List Nat}{a w:World}(h:Fr S a w) {p:Addr}(hp:p.block∈S∨a.heap.size≤p.block) (u:Value):Fr S a (w.setCell p u):=
 ⟨h.os,h.tape,h.output,by simpa [World.setCell]using h.size,fun i hi hn=>(Below.heap_setCell w p u i (by
  rintro rfl;rcases hp with hp |hp
  ·exact hn hp
  ·omega)).trans (h.block i hi hn)⟩
theorem Fr.below {S:List Nat}{a w:World}{B:Nat}(h:Fr S a w) (hB:B≤a.heap.size) (hS:∀i,i∈S→B≤i):Below B a w:=
 ⟨h.os,h.tape,h.output,h.size,fun i hi=>h.block i (by omega) fun hh=>by have:=hS i hh;omega⟩
theorem Fr.of_below {S:List Nat}{a w:World}(h:Below a.heap.size a w):Fr S a w:=⟨h.os,h.tape,h.output,h.size,fun i hi _=>h.block i hi⟩
theorem Fr.grown {a w w':World}{S:List Nat}{row:Option Nat}(h:Fr S a w) (hg:w.grownBy w' row) (hr:∀k,row=some k→k∈S∨a.heap.size≤k):Fr S a w':=
 ⟨hg.os.trans h.os,hg.tape.trans h.tape,hg.output.trans h.output,Nat.le_trans h.size hg.size,
  fun i hi hn=>(hg.block i (Nat.lt_of_lt_of_le hi h.size) fun e=>by
   rcases hr i e.symm with h1 |h1
   ·exact hn h1
   ·omega).trans (h.block i hi hn)⟩
theorem Fr.cell {S:List Nat}{a w:World}(h:Fr S a w) {p:Addr}(hp:p.block<a.heap.size) (hn:p.block∉S):w.cell? p=a.cell? p:=World.cell?_of_block (h.block _ hp hn)
def Blk (w:World) (g:Nat) (t:TypeId) (cs:Array Value):Prop:=w.heap[g]? =some (.cells cs t (0,0))
section
variable {w w':World}{g:Nat}{t:TypeId}{cs:Array Value}
theorem lt_of_heap {w:World}{g:Nat}{o:Obj}(h:w.heap[g]? =some o):g<w.heap.size:=(Array.getElem?_eq_some_iff.1 h).1
theorem Blk.lt (h:Blk w g t cs):g<w.heap.size:=lt_of_heap h
theorem Blk.cell (h:Blk w g t cs) (i:Nat):w.cell? ⟨g,i,none⟩=cs[i]? :=cell_of_row w g i cs t (0,0) h
theorem Blk.c3 {v0 v1 v2:Value}(h:Blk w g t #[v0,v1,v2]):w.cell? ⟨g,0,none⟩=some v0∧w.cell? ⟨g,1,none⟩=some v1∧w.cell? ⟨g,2,none⟩=some v2:=
 ⟨by rw [h.cell];rfl,by rw [h.cell];rfl,by rw [h.cell];rfl⟩
theorem Blk.c8 {v0 v1 v2 v3 v4 v5 v6 v7:Value}(h:Blk w g t #[v0,v1,v2,v3,v4,v5,v6,v7]):w.cell? ⟨g,0,none⟩=some v0∧w.cell? ⟨g,1,none⟩=some v1∧w.cell? ⟨g,2,none⟩=some v2∧w.cell? ⟨g,3,none⟩=some v3∧
  w.cell? ⟨g,4,none⟩=some v4∧w.cell? ⟨g,5,none⟩=some v5∧w.cell? ⟨g,6,none⟩=some v6∧w.cell? ⟨g,7,none⟩=some v7∧(∀i,w.frozen? ⟨g,i,none⟩=false):=
 ⟨by rw [h.cell];rfl,by rw [h.cell];rfl,by rw [h.cell];rfl,by rw [h.cell];rfl,by rw [h.cell];rfl,by rw [h.cell];rfl,by rw [h.cell];rfl,by rw [h.cell];rfl,fun i=>by unfold Blk at h;simp [World.frozen?,h]⟩
theorem Blk.frozen (h:Blk w g t cs) (i:Nat):w.frozen? ⟨g,i,none⟩=false:=by
 unfold Blk at h;simp [World.frozen?,h]
theorem Blk.new (w:World) (t:TypeId) (cs:Array Value):Blk (w.alloc (.cells cs t)) w.heap.size t cs:=heap_alloc_new w _
theorem Blk.new' {w:World}{g:Nat}(t:TypeId) (cs:Array Value) (hg:g=w.heap.size):Blk (w.alloc (.cells cs t)) g t cs:=by subst hg;exact Blk.new w t cs
theorem Blk.drew (h:Blk w g t cs):Blk w.drew g t cs:=h
theorem Blk.drewN (h:Blk w g t cs) (n:Nat):Blk (w.drewN n) g t cs:=h
theorem Blk.alloc (h:Blk w g t cs) (o:Obj):Blk (w.alloc o) g t cs:=(Below.heap_alloc w o g h.lt).trans h
theorem Blk.set (h:Blk w g t cs) (i:Nat) (u:Value):Blk (w.setCell ⟨g,i,none⟩ u) g t (cs.setIfInBounds i u):=by
 unfold Blk at h⊢;simp [World.setCell,Array.getElem?_modify,h]
theorem Blk.set8 {u0 u1 u2 u3 u4 u5 u6 u7:Value}(h:Blk w g t #[u0,u1,u2,u3,u4,u5,u6,u7]) (v0 v1 v2 v3 v4 v5 v6 v7:Value):
  Blk ((((((((w.setCell ⟨g,0,none⟩ v0).setCell ⟨g,1,none⟩ v1).setCell ⟨g,2,none⟩ v2).setCell ⟨g,3,none⟩ v3).setCell ⟨g,4,none⟩ v4).setCell ⟨g,5,none⟩ v5).setCell ⟨g,6,none⟩ v6).setCell ⟨g,7,none⟩ v7) g t #[v0,v1,v2,v3,v4,v5,v6,v7]:=by
 simpa using (((((((h.set 0 v0).set 1 v1).set 2 v2).set 3 v3).set 4 v4).set 5 v5).set 6 v6).set 7 v7
theorem Blk.far (h:Blk w g t cs) {p:Addr}(hp:g≠p.block) (u:Value):Blk (w.setCell p u) g t cs:=(Below.heap_setCell w p u g hp).trans h
theorem Blk.fr {S:List Nat}(h:Blk w g t cs) (hf:Fr S w w') (hg:g∉S):Blk w' g t cs:=(hf.block g h.lt hg).trans h
end
theorem wp_gen {P:Program}{c:Code}{Q:Exit→Act→World→Prop}{a:Act}{W:World}(F:World→Prop) (hF:F W) (h:∀w,F w→c.wp P Q a w):c.wp P Q a W:=h W hF
theorem wp_tail {P:Program}{id:Nat}{Q:Exit→Act→World→Prop}{a:Act}{W:World}{l:List Oper}(n:Nat) (hm:P.follows .mixedOrders=true) (hB:Region.lexTailB .any l.toArray n=true)
  (h:wpStill P l.toArray W.drew (fun a'=>wpList P l.toArray Q (l.drop n) a' W.drew) (l.take n) a):(Code.region id l.toArray true).wp P Q a W:=
 wp_region_still_tail n hm hB h
theorem quiet_left {P:Program}{f:FuncId}{args:Array Value}{w:World}{n:Nat}{v:Value}
  (h:Calls P f args (w.drewN n) fun e w'=>e= .returned v∧w.drewN n=w'):Calls P f args (w.drewN n) fun e w''=>e= .returned v∧∃m,w''=w.drewN m:=
 h.mono fun _ _ ⟨he,hm⟩=>⟨he,n,hm.symm⟩
theorem still_left {P:Program}{f:FuncId}{args:Array Value}{w:World}{v:Value}
  (h:Calls P f args w fun e w'=>e= .returned v∧w=w'):Calls P f args w fun e w''=>e= .returned v∧w''=w:=
 h.mono fun _ _ ⟨he,hm⟩=>⟨he,hm.symm⟩
theorem quiet_add_left {P:Program}{f:FuncId}{args:Array Value}{w:World}{a n:Nat}{v:Value}
  (h:Calls P f args (w.drewN (a+n)) fun e w'=>e= .returned v∧w.drewN (a+n)=w'):Calls P f args (w.drewN (a+n)) fun e w''=>e= .returned v∧∃m,w''=w.drewN (a+m):=
 h.mono fun _ _ ⟨he,hm⟩=>⟨he,n,hm.symm⟩
section
variable {κ ν:Type} [DecidableEq κ]
def aget (k:κ):List (κ×ν)→Option ν
 | []=>none
 | (a,v)::l=>if a=k then some v else aget k l
def aset (k:κ) (v:ν):List (κ×ν)→List (κ×ν)
 | []=> [(k,v)]
 | (a,x)::l=>if a=k then(k,v)::l else(a,x)::aset k v l
def adel (k:κ):List (κ×ν)→List (κ×ν)
 | []=> []
 | (a,x)::l=>if a=k then l else(a,x)::adel k l
theorem aget_of_mem {k:κ}{v:ν}:∀{l:List (κ×ν)},(l.map (·.1)).Nodup→(k,v)∈l→aget k l=some v
 | [],_,h=>by cases h
 | (a,x)::l,hn,h=>by
  simp only [List.map_cons,List.nodup_cons]at hn;unfold aget;rcases List.mem_cons.1 h with h1 |h1
  ·cases h1;simp
  ·have:a≠k:=fun e=>hn.1 (e▸List.mem_map.2 ⟨_,h1,rfl⟩);rw [if_neg this];exact aget_of_mem hn.2 h1
theorem aget_none_iff {k:κ}:∀{l:List (κ×ν)},aget k l=none↔k∉l.map (·.1)
 | []=>by simp [aget]
 | (a,x)::l=>by
  unfold aget;by_cases h:a=k
  ·simp [h]
  ·simp [h,aget_none_iff (l:=l),Ne.symm h]
theorem mem_aset {k:κ}{v:ν}{p:κ×ν}:∀{l:List (κ×ν)},p∈aset k v l→p=(k,v)∨p∈l
 | [],h=>by simp [aset]at h;exact .inl h
 | (a,x)::l,h=>by
  unfold aset at h;split at h
  ·rcases List.mem_cons.1 h with h1 |h1
   ·exact .inl h1
   ·exact .inr (List.mem_cons_of_mem _ h1)
  ·rcases List.mem_cons.1 h with h1 |h1
   ·exact .inr (h1▸List.mem_cons_self)
   ·exact(mem_aset h1).imp id (List.mem_cons_of_mem _)
theorem keys_aset {k:κ}{v:ν}:∀{l:List (κ×ν)},(aset k v l).map (·.1)=if k∈l.map (·.1)then l.map (·.1)else l.map (·.1)++ [k]
 | []=>by simp [aset]
 | (a,x)::l=>by
  unfold aset;by_cases h:a=k
  ·simp [h]
  ·simp only [h,if_false,List.map_cons,List.mem_cons,Ne.symm h,false_or,keys_aset (l:=l)];split<;>simp
theorem nodup_aset {k:κ}{v:ν}{l:List (κ×ν)}(h:(l.map (·.1)).Nodup):((aset k v l).map (·.1)).Nodup:=by
 rw [keys_aset];split
 ·exact h
 ·rename_i hk;rw [List.nodup_append];exact⟨h,by simp,by simp;intro a b hab e;subst e;exact hk (by simpa using ⟨b,hab⟩)⟩
end
def fnd {κ:Type} [DecidableEq κ] (k:κ):List κ→List MapEntry→Nat→Option (Nat×Value)
 |a::l,e::es,i=>if a=k then some (i,e.val)else fnd k l es (i+1)
 |_,_,_=>none
structure KeyOk {κ:Type} [DecidableEq κ] (P:Program) (kt:TypeId) (ek:κ→Value):Prop where
 check:∀e k w,(Instr.checkKey e 10000 kt (ek k)).run P w= .ok () w
 find:∀(k:κ) (ks:List κ) (es:List MapEntry) w,es.map (·.key)=ks.map ek→(Instr.findKey kt (ek k) es).run P w= .ok (fnd k ks es 0) w
 same:∀k,Instr.sameBits 10000 (ek k) (ek k)=true
theorem bytes_beq (a b:ByteArray):(a==b)=decide (a=b):=by
 obtain⟨a⟩:=a;obtain⟨b⟩:=b;show(a==b)=_;by_cases h:a=b
 ·subst h;simp
 ·simp [h]
theorem findNow_string (s:ByteArray):∀(ks:List ByteArray) (es:List MapEntry) (i:Nat),es.map (·.key)=ks.map Value.string→Instr.findNow .string (.string s) es i=some (fnd s ks es i)
 | [],[],i,_=>rfl
 | [],_::_,_,h=>by simp at h
 |_::_,[],_,h=>by simp at h
 |a::ks,e::es,i,h=>by
  simp only [List.map_cons,List.cons.injEq]at h;simp only [Instr.findNow,h.1,Instr.sameNow,fnd];by_cases e1:a=s
  ·subst e1;simp [bytes_beq]
  ·have:(s==a)=false:=by simp [bytes_beq,Ne.symm e1]
   simp only [this,e1,if_false];exact findNow_string s ks es (i+1) h.2
theorem keyOk_string {P:Program}{kt:TypeId}(h:P.underlying kt=some .string):KeyOk P kt (fun s:ByteArray=>Value.string s) where
 check e k w:=by rw [Instr.checkKey];simp only [Sem.run_bind,run_underlying h,Result.andThen_ok];rfl
 find k ks es w he:=by simp [Instr.findKey,run_underlying h,findNow_string k ks es 0 he]
 same k:=by simp [Instr.sameBits,bytes_beq]
def IsMap {κ ν:Type}(w:World) (b:Nat) (ek:κ→Value) (ev:ν→Value) (l:List (κ×ν)):Prop:=
 ∃es clock,w.heap[b]? =some (.map es clock)∧es.toList.map (·.key)=l.map (fun p=>ek p.1)∧es.toList.map (·.val)=l.map (fun p=>ev p.2)∧
  (es.toList.map (·.born)).Pairwise (·< ·)∧(∀e∈es.toList,e.born<clock)∧(l.map (·.1)).Nodup
section
variable {κ ν:Type}{P:Program}{kt:TypeId}{ek:κ→Value}{ev:ν→Value}{w w':World}{b:Nat}{l:List (κ×ν)}
theorem IsMap.lt (h:IsMap w b ek ev l):b<w.heap.size:=by obtain⟨_,_,h,_⟩:=h;exact lt_of_heap h
theorem IsMap.nodup (h:IsMap w b ek ev l):(l.map (·.1)).Nodup:=by obtain⟨_,_,_,_,_,_,_,h⟩:=h;exact h
theorem IsMap.of_block (h:IsMap w b ek ev l) (hb:w'.heap[b]? =w.heap[b]?):IsMap w' b ek ev l:=by
 obtain⟨es,c,h1,h2⟩:=h;exact⟨es,c,hb.trans h1,h2⟩
theorem IsMap.fr {S:List Nat}(h:IsMap w b ek ev l) (hf:Fr S w w') (hb:b∉S):IsMap w' b ek ev l:=h.of_block (hf.block b h.lt hb)
theorem IsMap.new (w:World) (ek:κ→Value) (ev:ν→Value):IsMap (w.alloc (.map #[] 0)) w.heap.size ek ev []:=
 ⟨#[],0,heap_alloc_new w _,rfl,rfl,List.Pairwise.nil,fun _ h=>by simp at h,List.nodup_nil⟩
theorem IsMap.new' {w:World}{g:Nat}(ek:κ→Value) (ev:ν→Value) (hg:g=w.heap.size):IsMap (w.alloc (.map #[] 0)) g ek ev []:=by subst hg;exact IsMap.new w ek ev
theorem IsMap.alloc (h:IsMap w b ek ev l) (o:Obj):IsMap (w.alloc o) b ek ev l:=h.of_block (Below.heap_alloc w o b h.lt)
theorem IsMap.setCell (h:IsMap w b ek ev l) {p:Addr}(hp:b≠p.block) (u:Value):IsMap (w.setCell p u) b ek ev l:=h.of_block (Below.heap_setCell w p u b hp)
theorem IsMap.size (h:IsMap w b ek ev l):∃es c,w.heap[b]? =some (.map es c)∧es.size=l.length:=by
 obtain⟨es,c,hb,hk,_⟩:=h;exact⟨es,c,hb,by have:=congrArg List.length hk;simpa using this⟩
variable [DecidableEq κ]
theorem fnd_shift (k:κ):∀(ks:List κ) (es:List MapEntry) (i:Nat),fnd k ks es i=(fnd k ks es 0).map fun p=>(p.1+i,p.2)
 | [],es,i=>by simp [fnd]
 |a::ks,[],i=>by simp [fnd]
 |a::ks,e::es,i=>by
  simp only [fnd];split
  ·simp
  ·rw [fnd_shift k ks es (i+1),fnd_shift k ks es 1];cases fnd k ks es 0<;>simp [Nat.add_comm,Nat.add_left_comm]
theorem fnd_get (k:κ):∀(l:List (κ×ν)) (es:List MapEntry) (i:Nat),es.map (·.val)=l.map (fun p=>ev p.2)→(fnd k (l.map (·.1)) es i).map (·.2)=(aget k l).map ev
 | [],es,i,_=>by simp [fnd,aget]
 | (a,v)::l,[],i,h=>by simp at h
 | (a,v)::l,e::es,i,h=>by
  simp only [List.map_cons,List.cons.injEq]at h;simp only [List.map_cons,fnd,aget];split
  ·simp [h.1]
  ·exact fnd_get k l es (i+1) h.2
theorem fnd_set (k:κ) (v:ν):∀(l:List (κ×ν)) (es:List MapEntry),es.map (·.key)=l.map (fun p=>ek p.1)→es.map (·.val)=l.map (fun p=>ev p.2)→
  match fnd k (l.map (·.1)) es 0 with
  |some (i,_)=>∃e,es[i]? =some e∧e.key=ek k∧k∈l.map (·.1)∧(es.modify i fun e=>{e with key:=ek k,val:=ev v}).map (·.key)=(aset k v l).map (fun p=>ek p.1)∧
    (es.modify i fun e=>{e with key:=ek k,val:=ev v}).map (·.val)=(aset k v l).map (fun p=>ev p.2)∧
    (es.eraseIdx i).map (·.key)=(adel k l).map (fun p=>ek p.1)∧(es.eraseIdx i).map (·.val)=(adel k l).map (fun p=>ev p.2)
  |none=>k∉l.map (·.1)∧aset k v l=l++ [(k,v)]∧adel k l=l
 | [],es,h,_=>by simp [fnd,aset,adel]
 | (a,x)::l,[],h,_=>by simp at h
 | (a,x)::l,e::es,h1,h2=>by
  simp only [List.map_cons,List.cons.injEq]at h1 h2;simp only [List.map_cons,fnd];by_cases hk:a=k
  ·subst hk;simp [aset,adel,h1.1,h1.2,h2.2]
  ·have ih:=fnd_set k v l es h1.2 h2.2;simp only [hk,if_false];rw [fnd_shift k (l.map (·.1)) es (0+1)];cases hf:fnd k (l.map (·.1)) es 0 with
   |none=>rw [hf]at ih;simp only at ih;simp [Ne.symm hk,aset,adel,hk,ih.1,ih.2.1,ih.2.2]
   |some p=>obtain⟨i,u⟩:=p;rw [hf]at ih;simp only at ih;obtain⟨e',g1,g2,g3,g4,g5,g6,g7⟩:=ih;simp only [Option.map_some,Nat.zero_add];refine⟨e',by simpa using g1,g2,by simp [g3],?_,?_,?_,?_⟩<;>simp [aset,adel,hk,h1.1,h2.1,g4,g5,g6,g7]
theorem IsMap.run_lookup (h:IsMap w b ek ev l) (K:KeyOk P kt ek) {mt et:TypeId}{z:Value}(hmt:P.underlying mt=some (.map kt et)) (hz:∀w,(zeroValue et).run P w= .ok z w) (k:κ):
  (Instr.lookup mt (.map (some b)) (ek k) false).run P w= .ok (((aget k l).map ev).getD z) w:=by
 obtain⟨es,c,hb,hk,hv,_⟩:=h;have hk':es.toList.map (·.key)=(l.map (·.1)).map ek:=by rw [hk,List.map_map];rfl
 have hg:=fnd_get (ev:=ev) k l es.toList 0 hv;simp only [Instr.lookup,run_underlying hmt,Sem.run_bind,getObj,Sem.run,hb,Sem.run_pure,Result.andThen,K.check,K.find k _ _ w hk'];cases hf:fnd k (l.map (·.1)) es.toList 0 with
 |none=>rw [hf]at hg;simp only [Option.map_none]at hg;rw [←hg];simp [hz]
 |some p=>rw [hf]at hg;simp only [Option.map_some]at hg;rw [←hg];simp
theorem IsMap.run_lookup_ok (h:IsMap w b ek ev l) (K:KeyOk P kt ek) {mt et:TypeId}{z:Value}(hmt:P.underlying mt=some (.map kt et)) (hz:∀w,(zeroValue et).run P w= .ok z w) (k:κ):
  (Instr.lookup mt (.map (some b)) (ek k) true).run P w= .ok (.tuple #[((aget k l).map ev).getD z,.bool (aget k l).isSome]) w:=by
 obtain⟨es,c,hb,hk,hv,_⟩:=h;have hk':es.toList.map (·.key)=(l.map (·.1)).map ek:=by rw [hk,List.map_map];rfl
 have hg:=fnd_get (ev:=ev) k l es.toList 0 hv;have hs:(aget k l).isSome=(fnd k (l.map (·.1)) es.toList 0).isSome:=by have:=congrArg Option.isSome hg;simpa using this.symm
 simp only [Instr.lookup,run_underlying hmt,Sem.run_bind,getObj,Sem.run,hb,Sem.run_pure,Result.andThen,K.check,K.find k _ _ w hk'];rw [hs];cases hf:fnd k (l.map (·.1)) es.toList 0 with
 |none=>rw [hf]at hg;simp only [Option.map_none]at hg;rw [←hg];simp [hz]
 |some p=>rw [hf]at hg;simp only [Option.map_some]at hg;rw [←hg];simp
structure Turned (b:Nat) (w w':World):Prop where
 fr:Fr [b] w w'
 same:w'.heap.size=w.heap.size
theorem turned_set (w:World) (b:Nat) (o:Obj):Turned b w {w with heap:=w.heap.setIfInBounds b o}:=
 ⟨⟨rfl,rfl,rfl,by simp,fun i _ hn=>by
  have:b≠i:=fun e=>hn (by simp [e]);simp [this]⟩,by simp⟩
theorem IsMap.run_update (h:IsMap w b ek ev l) (K:KeyOk P kt ek) {mt et:TypeId}(hmt:P.underlying mt=some (.map kt et)) (k:κ) (v:ν):
  ∃w',(Instr.mapUpdate mt (.map (some b)) (ek k) (ev v)).run P w= .ok () w'∧IsMap w' b ek ev (aset k v l)∧Turned b w w':=by
 obtain⟨es,c,hb,hk,hv,hp,hc,hn⟩:=h;have hlt:=lt_of_heap hb;have hk':es.toList.map (·.key)=(l.map (·.1)).map ek:=by rw [hk,List.map_map];rfl
 have hs:=fnd_set (ek:=ek) (ev:=ev) k v l es.toList hk hv;have hrun:(Instr.mapUpdate mt (.map (some b)) (ek k) (ev v)).run P w=(match fnd k (l.map (·.1)) es.toList 0 with
   |some (i,_)=>do
    let key←Instr.keyThatStays (((es[i]?).map (·.key)).getD (ek k)) (ek k)
    setObj b (.map (es.modify i fun e=>{e with key,val:=ev v}) c)
   |none=>setObj b (.map (es.push {key:=ek k,val:=ev v,born:=c}) (c+1)):Sem Unit).run P w:=by
  simp only [Instr.mapUpdate,run_underlying hmt,Sem.run_bind,getObj,Sem.run,hb,Result.andThen,K.check,K.find k _ _ w hk'];cases fnd k (l.map (·.1)) es.toList 0<;>simp
 rw [hrun];cases hf:fnd k (l.map (·.1)) es.toList 0 with
 |none=>
  rw [hf]at hs;simp only at hs;refine⟨{w with heap:=w.heap.setIfInBounds b (.map (es.push {key:=ek k,val:=ev v,born:=c}) (c+1))},by simp [setObj,Sem.run,hb],⟨es.push {key:=ek k,val:=ev v,born:=c},c+1,by simp [hlt],?_,?_,?_,?_,nodup_aset hn⟩,turned_set _ _ _⟩
  ·rw [hs.2.1];simp [hk]
  ·rw [hs.2.1];simp [hv]
  ·simp only [Array.toList_push,List.map_append,List.map_cons,List.map_nil,List.pairwise_append];refine⟨hp,by simp,?_⟩;intro x hx y hy;obtain⟨e,he,rfl⟩:=List.mem_map.1 hx;simp only [List.mem_singleton]at hy;subst hy;exact hc e he
  ·intro e he;simp only [Array.toList_push,List.mem_append,List.mem_singleton]at he;rcases he with he |he
   ·have:=hc e he;omega
   ·subst he;simp
 |some p=>
  obtain⟨i,u⟩:=p;rw [hf]at hs;simp only at hs;obtain⟨e,g1,g2,g3,g4,g5,_⟩:=hs;have g1':es[i]? =some e:=by simpa using g1
  have hstay:∀W:World,(Instr.keyThatStays (((es[i]?).map (·.key)).getD (ek k)) (ek k)).run P W= .ok (ek k) W:=by intro W;simp [g1',g2,Instr.keyThatStays,K.same]
  have hborn:((es.modify i fun e=>{e with key:=ek k,val:=ev v}).toList.map (·.born))=es.toList.map (·.born):=by
   apply List.ext_getElem?;intro j;simp only [Array.toList_modify,List.getElem?_map,List.getElem?_modify];cases es.toList[j]? <;>simp
   split<;>simp
  refine⟨{w with heap:=w.heap.setIfInBounds b (.map (es.modify i fun e=>{e with key:=ek k,val:=ev v}) c)},by simp [hstay,setObj,Sem.run,hb],⟨_,c,by simp [hlt];rfl,?_,?_,?_,?_,nodup_aset hn⟩,turned_set _ _ _⟩
  ·simpa using g4
  ·simpa using g5
  ·rw [hborn];exact hp
  ·intro e' he';have:e'.born∈(es.modify i fun e=>{e with key:=ek k,val:=ev v}).toList.map (·.born):=List.mem_map.2 ⟨e',he',rfl⟩;rw [hborn]at this;obtain⟨e0,h0,h1⟩:=List.mem_map.1 this;have:=hc e0 h0;omega
end
def mkE {κ ν:Type}(ek:κ→Value) (ev:ν→Value) (x:κ×ν×Nat):MapEntry:=⟨ek x.1,ev x.2.1,x.2.2⟩
structure IsMapB {κ ν:Type}(w:World) (b:Nat) (ek:κ→Value) (ev:ν→Value) (lb:List (κ×ν×Nat)) (clock:Nat):Prop where
 heap:w.heap[b]? =some (.map (lb.map (mkE ek ev)).toArray clock)
 inc:(lb.map (·.2.2)).Pairwise (·< ·)
 old:∀x∈lb,x.2.2<clock
 nodup:(lb.map (·.1)).Nodup
def It (w:World) (r b clock:Nat) (seen:Array Nat):Prop:=w.heap[r]? =some (.mapIter (some b) clock seen clock)
def todo {κ ν:Type}(lb:List (κ×ν×Nat)) (seen:Array Nat):List (κ×ν×Nat):=lb.filter fun x=> !seen.contains x.2.2
section
variable {κ ν:Type}{P:Program}{ek:κ→Value}{ev:ν→Value}{w w':World}{b r clock:Nat}{lb:List (κ×ν×Nat)}{seen:Array Nat}
theorem zip_entries:∀(l:List (κ×ν)) (es:List MapEntry),es.map (·.key)=l.map (fun p=>ek p.1)→es.map (·.val)=l.map (fun p=>ev p.2)→
  ∃lb:List (κ×ν×Nat),es=lb.map (mkE ek ev)∧lb.map (fun x=>(x.1,x.2.1))=l
 | [],[],_,_=>⟨[],rfl,rfl⟩
 | [],_::_,h,_=>by simp at h
 |_::_,[],h,_=>by simp at h
 |p::l,e::es,h1,h2=>by simp only [List.map_cons,List.cons.injEq]at h1 h2;obtain⟨lb,g1,g2⟩:=zip_entries l es h1.2 h2.2;refine⟨(p.1,p.2,e.born)::lb,?_,by simp [g2]⟩;obtain⟨k,v,n⟩:=e;simp only at h1 h2;simp [g1,mkE,h1.1,h2.1]
theorem IsMap.stamps {l:List (κ×ν)}(h:IsMap w b ek ev l):∃lb clock,IsMapB w b ek ev lb clock∧lb.map (fun x=>(x.1,x.2.1))=l:=by
 obtain⟨es,c,hb,hk,hv,hp,hc,hn⟩:=h;obtain⟨lb,g1,g2⟩:=zip_entries l es.toList hk hv;have he:es=(lb.map (mkE ek ev)).toArray:=by rw [←g1]
 refine⟨lb,c,⟨by rw [hb,he],?_,?_,?_⟩,g2⟩
 ·rw [g1]at hp;simpa [mkE,Function.comp_def]using hp
 ·intro x hx;have:mkE ek ev x∈es.toList:=by rw [g1];exact List.mem_map.2 ⟨x,hx,rfl⟩
  exact hc _ this
 ·rw [←g2]at hn;simpa [Function.comp_def]using hn
theorem IsMapB.lt (h:IsMapB w b ek ev lb clock):b<w.heap.size:=lt_of_heap h.heap
theorem It.lt (h:It w r b clock seen):r<w.heap.size:=lt_of_heap h
theorem IsMapB.fr {S:List Nat}(h:IsMapB w b ek ev lb clock) (hf:Fr S w w') (hb:b∉S):IsMapB w' b ek ev lb clock:=⟨(hf.block b h.lt hb).trans h.heap,h.inc,h.old,h.nodup⟩
theorem It.fr {S:List Nat}(h:It w r b clock seen) (hf:Fr S w w') (hr:r∉S):It w' r b clock seen:=(hf.block r h.lt hr).trans h
theorem It.ne (h:It w r b clock seen) (hm:IsMapB w b ek ev lb clock):r≠b:=by
 rintro rfl;unfold It at h;rw [hm.heap]at h;cases h
theorem IsMapB.run_range (h:IsMapB w b ek ev lb clock) {mt kt et:TypeId}(hmt:P.underlying mt=some (.map kt et)):
  (Instr.range mt (.map (some b))).run P w= .ok (.pointer (some ⟨w.heap.size,0,none⟩)) (w.alloc (.mapIter (some b) clock #[] clock)):=by
 simp [Instr.range,run_underlying hmt,getObj,Sem.run,h.heap]
theorem It.new (w:World) (b clock:Nat):It (w.alloc (.mapIter (some b) clock #[] clock)) w.heap.size b clock #[]:=heap_alloc_new w _
theorem IsMapB.run_next (h:IsMapB w b ek ev lb clock) (hi:It w r b clock seen) (ty:TypeId):
  (todo lb seen= []∧(Instr.next (.pointer (some ⟨r,0,none⟩)) false ty).run P w= .ok (.tuple #[.bool false]) w)∨
  ∃x∈todo lb seen,∃w',(Instr.next (.pointer (some ⟨r,0,none⟩)) false ty).run P w= .ok (.tuple #[.bool true,ek x.1,ev x.2.1]) w'∧
   It w' r b clock (seen.push x.2.2)∧IsMapB w' b ek ev lb clock∧Turned r w w':=by
 have hl:(leftOf (lb.map (mkE ek ev)).toArray seen).toList=(todo lb seen).map (mkE ek ev):=by simp only [leftOf,todo,Array.toList_filter];rw [List.filter_map];rfl
 rcases run_next_at (P:=P) w ty r b clock clock seen _ clock hi h.heap (by
  intro x hx;simp only [List.mem_map]at hx;obtain⟨y,hy,rfl⟩:=hx;exact h.old y hy) (Nat.le_refl _)with⟨h0,hrun⟩ | ⟨e,he,w1,hw,hrun⟩
 ·refine .inl ⟨?_,hrun⟩;have:(leftOf (lb.map (mkE ek ev)).toArray seen).toList.length=0:=by simpa using h0
  rw [hl,List.length_map]at this;exact List.eq_nil_of_length_eq_zero this
 ·rw [hl]at he;obtain⟨x,hx,rfl⟩:=List.mem_map.1 he;refine .inr ⟨x,hx,_,hrun,?_,?_,?_⟩
  ·have:r<w1.heap.size:=by rcases hw with rfl |rfl<;>exact hi.lt
   simp [It,ChangeMaps.setBlock,this,mkE]
  ·have hne:=hi.ne h;refine⟨?_,h.inc,h.old,h.nodup⟩;rw [←h.heap];rcases hw with rfl |rfl<;>(simp [ChangeMaps.setBlock,hne]<;>rfl)
  ·rcases hw with rfl |rfl
   ·exact turned_set _ _ _
   ·have:=turned_set w.drew r (.mapIter (some b) clock (seen.push (mkE ek ev x).born) clock);exact⟨this.fr.of_drew,this.same⟩
theorem IsMapB.run_entry (h:IsMapB w b ek ev lb clock) {x:κ×ν×Nat}(hi:It w r b clock (seen.push x.2.2)) (hx:x∈lb):
  (Instr.entry (.pointer (some ⟨r,0,none⟩))).run P w= .ok (.tuple #[ek x.1,ev x.2.1]) w:=
 run_entry_at (P:=P) w r b clock seen _ clock (mkE ek ev x) hi h.heap (List.mem_map.2 ⟨x,hx,rfl⟩) (by
  have:(lb.map (·.2.2)).Nodup:=h.inc.imp (fun h e=>by omega);simpa [mkE,Function.comp_def]using this)
variable [DecidableEq κ] {kt:TypeId}
end
theorem inj_of_nodup {α β:Type}{f:α→β}:∀{l:List α},(l.map f).Nodup→∀{x y:α},x∈l→y∈l→f x=f y→x=y
 | [],_,_,_,hx,_,_=>by cases hx
 |a::l,hn,x,y,hx,hy,e=>by
  simp only [List.map_cons,List.nodup_cons]at hn;rcases List.mem_cons.1 hx with hx1 |hx1
  ·rcases List.mem_cons.1 hy with hy1 |hy1
   ·rw [hx1,hy1]
   ·exact(hn.1 (List.mem_map.2 ⟨y,hy1,by rw [←e,hx1]⟩)).elim
  ·rcases List.mem_cons.1 hy with hy1 |hy1
   ·exact(hn.1 (List.mem_map.2 ⟨x,hx1,by rw [e,hy1]⟩)).elim
   ·exact inj_of_nodup hn.2 hx1 hy1 e
section
variable {κ ν:Type}{lb:List (κ×ν×Nat)}{seen:Array Nat}(pd:κ×ν×Nat→Bool)
theorem todo_lt {x:κ×ν×Nat}(hx:x∈todo lb seen):(todo lb (seen.push x.2.2)).length<(todo lb seen).length:=by
 have hsub:todo lb (seen.push x.2.2)=(todo lb seen).filter (fun y=> !decide (y.2.2=x.2.2)):=by simp only [todo,List.filter_filter];apply List.filter_congr;intro y _;rw [Bool.eq_iff_iff];simp;exact⟨fun⟨a,b⟩=>⟨b,a⟩,fun⟨a,b⟩=>⟨b,a⟩⟩
 rw [hsub];have hle:=List.length_filter_le (fun y:κ×ν×Nat=> !decide (y.2.2=x.2.2)) (todo lb seen);rcases Nat.lt_or_eq_of_le hle with h |h
 ·exact h
 ·have:=(List.length_filter_eq_length_iff.1 h) x hx;simp at this
theorem mem_todo {x:κ×ν×Nat}(hx:x∈todo lb seen):x∈lb:=(List.mem_filter.1 hx).1
end
theorem bytesLess_irrefl:∀x:List UInt8,Op.bytesLess x x=false
 | []=>rfl
 |a::x=>by simp [Op.bytesLess,bytesLess_irrefl x]
theorem bytesLess_trans:∀x y z:List UInt8,Op.bytesLess x y=true→Op.bytesLess y z=true→Op.bytesLess x z=true
 |_,[],_,h,_=>by cases‹List UInt8›<;>simp [Op.bytesLess]at h
 |_,_::_,[],_,h=>by simp [Op.bytesLess]at h
 | [],_::_,_::_,_,_=>rfl
 |a::x,b::y,c::z,h1,h2=>by
  simp only [Op.bytesLess,Bool.or_eq_true,Bool.and_eq_true,decide_eq_true_eq,beq_iff_eq]at h1 h2⊢;rcases h1 with h1 | ⟨rfl,h1⟩
  ·rcases h2 with h2 | ⟨rfl,h2⟩
   ·exact .inl (UInt8.lt_trans h1 h2)
   ·exact .inl h1
  ·rcases h2 with h2 | ⟨rfl,h2⟩
   ·exact .inl h2
   ·exact .inr ⟨rfl,bytesLess_trans x y z h1 h2⟩
theorem bytesLess_total:∀x y:List UInt8,x≠y→Op.bytesLess x y=true∨Op.bytesLess y x=true
 | [],[],h=>absurd rfl h
 | [],_::_,_=> .inl rfl
 |_::_,[],_=> .inr rfl
 |a::x,b::y,h=>by
  simp only [Op.bytesLess,Bool.or_eq_true,Bool.and_eq_true,decide_eq_true_eq,beq_iff_eq];by_cases hab:a=b
  ·subst hab;have:x≠y:=fun e=>h (by rw [e]);rcases bytesLess_total x y this with h1 |h1
   ·exact .inl (.inr ⟨rfl,h1⟩)
   ·exact .inr (.inr ⟨rfl,h1⟩)
  ·rcases UInt8.lt_or_lt_of_ne hab with h1 |h1
   ·exact .inl (.inl h1)
   ·exact .inr (.inl h1)
theorem toList_inj {a b:ByteArray}(h:a.toList=b.toList):a=b:=by
 have:=beq_toListBytes a b;rw [bytes_beq,h]at this;simpa using this
def bl (a b:ByteArray):Bool:=Op.bytesLess a.toList b.toList
theorem bl_irrefl (a:ByteArray):bl a a=false:=bytesLess_irrefl _
theorem bl_trans {a b c:ByteArray}(h:bl a b=true) (k:bl b c=true):bl a c=true:=bytesLess_trans _ _ _ h k
theorem bl_total {a b:ByteArray}(h:a≠b):bl a b=true∨bl b a=true:=bytesLess_total _ _ fun e=>h (toList_inj e)
theorem toList_beq (a b:ByteArray):(a.toList==b.toList)=decide (a=b):=by rw [←beq_toListBytes,bytes_beq]
def Rd (w:World) (size:Nat) (A:Option Addr) (n:Nat) (xs:List Value):Prop:=
 xs.length=n*size∧(0<n→∃b o,A=some ⟨b,o,none⟩∧∀j u,xs[j]? =some u→w.cell? ⟨b,o+j,none⟩=some u)
def Off (S:List Nat) (A:Option Addr):Prop:=∀ad,A=some ad→ad.block∉S
section
variable {w w':World}{size n:Nat}{A:Option Addr}{xs:List Value}{S:List Nat}
theorem Rd.nil (w:World) (size:Nat) (A:Option Addr):Rd w size A 0 []:=⟨by simp,fun h=>absurd h (by omega)⟩
theorem Rd.at (h:Rd w size A n xs) (hn:0<n):∃b o,A=some ⟨b,o,none⟩∧∀j u,xs[j]? =some u→w.cell? ⟨b,o+j,none⟩=some u:=h.2 hn
theorem Rd.fr (h:Rd w size A n xs) (hf:Fr S w w') (hS:0<n→Off S A):Rd w' size A n xs:=by
 refine⟨h.1,fun hn=> ?_⟩;obtain⟨b,o,hA,hc⟩:=h.2 hn;refine⟨b,o,hA,fun j u hu=> ?_⟩;have:=hc j u hu;rw [←this];exact hf.cell (p:=⟨b,o+j,none⟩) (block_lt_of_cell this) (hS hn ⟨b,o,none⟩ hA)
theorem Rd.drew (h:Rd w size A n xs):Rd w.drew size A n xs:=h
theorem Rd.lt (h:Rd w size A n xs) (hs:0<size) (hn:0<n):∀ad,A=some ad→ad.block<w.heap.size:=by
 obtain⟨b,o,hA,hc⟩:=h.2 hn;intro ad hx;rw [hA]at hx;cases hx
 have:0<xs.length:=by rw [h.1];exact Nat.mul_pos hn hs
 exact block_lt_of_cell (a:=⟨b,o+0,none⟩) (hc 0 xs[0] (by simp [this]))
def rowOf (v:Value):List Nat:=v.ownBlock.toList
def Own (w:World) (e size:Nat) (v:Value) (n:Nat) (xs:List Value):Prop:=w.ownsRow 0 e size v n xs
variable {e:TypeId}{v:Value}
theorem Own.nil (w:World) (e size:Nat):Own w e size (.slice none 0 0) 0 []:=w.ownsRow_nil 0 e size
theorem Own.made (w:World) (cur:Array Value) (e size n cap:Nat) (hn:n≤cap) (hm:cap≤maxLen) (hs:cur.size=cap*size):
  Own (w.alloc (.cells cur e)) e size (.slice (some ⟨w.heap.size,0,none⟩) n cap) n (cur.toList.take (n*size)):=by
 refine⟨?_,.inr ⟨w.heap.size,cap,cur,rfl,Nat.zero_le _,heap_alloc_new w _,hn,hm,hs,rfl⟩⟩;rw [List.length_take,Array.length_toList,hs];exact Nat.min_eq_left (Nat.mul_le_mul_right _ hn)
theorem Own.length (h:Own w e size v n xs):xs.length=n*size:=h.1
theorem Own.form (h:Own w e size v n xs):∃A c,v= .slice A n c∧(A=none∨∃g,A=some ⟨g,0,none⟩∧g<w.heap.size):=by
 rcases h.2 with⟨rfl,rfl⟩ | ⟨g,cap,cur,rfl,_,hh,_⟩
 ·exact⟨none,0,rfl,.inl rfl⟩
 ·exact⟨_,cap,rfl,.inr ⟨g,rfl,lt_of_heap hh⟩⟩
theorem Own.rd {A:Option Addr}{c:Nat}(h:Own w e size (.slice A n c) n xs):Rd w size A n xs:=by
 refine⟨h.1,fun hn=> ?_⟩;rcases h.2 with⟨hv,h0⟩ | ⟨g,cap,cur,hv,_,hh,h1,h2,h3,h4⟩
 ·omega
 ·injection hv with hv _ _
  refine⟨g,0,hv,fun j u hu=> ?_⟩;have hx:xs[j]? =(cur.toList.take (n*size))[j]? :=by rw [h4]
  rw [hu]at hx;have hj:j<n*size:=by have:=(List.getElem?_eq_some_iff.1 hu).1;rw [h.1]at this;exact this
  rw [List.getElem?_take_of_lt hj]at hx;rw [Nat.zero_add,cell_of_row w g j cur e (0,0) hh,←Array.getElem?_toList];exact hx.symm
theorem Own.fr (h:Own w e size v n xs) (hf:Fr S w w') (hS:∀g,g∈rowOf v→g∉S):Own w' e size v n xs:=by
 obtain⟨h1,h2⟩:=h;refine⟨h1,?_⟩;rcases h2 with h2 | ⟨g,cap,cur,rfl,hg,hh,r⟩
 ·exact .inl h2
 ·exact .inr ⟨g,cap,cur,rfl,hg,(hf.block g (lt_of_heap hh) (hS g (by simp [rowOf,Value.ownBlock]))).trans hh,r⟩
theorem Own.lt (h:Own w e size v n xs):∀g,g∈rowOf v→g<w.heap.size:=by
 intro g hg;have:v.ownBlock=some g:=by simpa [rowOf]using hg
 exact(World.ownsRow.lt h g this).2
structure SliceTy (P:Program) (t e:TypeId) (size bytes:Nat) (z:Value):Prop where
 ty:P.underlying t=some (.slice e)
 info:(P.info? e).map (fun i=>(i.zero,i.size,i.bytes))=some (some z,size,bytes)
 zs:z.cells.size=size
 pos:0<size
theorem Own.run_append {P:Program}{t ty:TypeId}{bytes:Nat}{z:Value}(T:SliceTy P t e size bytes z) (h:Own w e size v n xs) {A:Option Addr}{m c:Nat}{news:List Value}(hr:Rd w size A m news)
  (h1:∀u∈news,u.oneCell'=true) (hm:A=none→m=0) (h63:n+m≤maxLen) (hb:(n+m)*bytes≤140737488355328):
  ∃v' w',(Builtin.append_ #[t,t] ty #[v,.slice A m c]).run P w= .ok v' w'∧Own w' e size v' (n+m) (xs++news)∧Fr (rowOf v) w w'∧(∀g,g∈rowOf v'→g∈rowOf v∨g=w.heap.size):=by
 obtain⟨i,hi,hz,hs,hby⟩:=info_parts T.info;rcases A with _ |ad
 ·have hm0:=hm rfl;subst hm0;have hn:news= []:=List.eq_nil_of_length_eq_zero (by simpa using hr.1);subst hn;refine⟨v,w,?_,by simpa using h,Fr.refl _ _,fun g hg=> .inl hg⟩;rcases h.2 with⟨rfl,rfl⟩ | ⟨g,cap,cur,rfl,_,_,hnc,_⟩
  ·simp [Builtin.append_,run_underlying T.ty,sizeOf,typeInfo,hi,Builtin.lenOf,Builtin.firstCells]
  ·simp [Builtin.append_,run_underlying T.ty,sizeOf,typeInfo,hi,Builtin.lenOf,Builtin.firstCells,hnc,storeCells]
 ·have hcells:∀j u,news[j]? =some u→w.cell? (ad.add j)=some u:=by
   intro j u hu;rcases Nat.eq_zero_or_pos m with h0 |h0
   ·subst h0;have hn:news= []:=List.eq_nil_of_length_eq_zero (by simpa using hr.1);subst hn;simp at hu
   ·obtain⟨b,o,hA,hc⟩:=hr.2 h0;injection hA with hA
    subst hA;rw [Addr.add_lit];exact hc j u hu
  obtain⟨v',w',hrun,g2,g3,_,g5⟩:=run_append_own_at (P:=P) w 0 t ty e i z size bytes T.ty hi hz hs hby T.zs T.pos v n xs h ad m c news hr.1 hcells h1 h63 hb (Nat.zero_le _);refine⟨v',w',hrun,g2,(Fr.refl _ _).grown g3 (fun k hk=> .inl (by simp [rowOf,hk])),fun g hg=> ?_⟩;have hg':v'.ownBlock=some g:=by simpa [rowOf]using hg
  rcases g5 with g5 |g5
  ·exact .inl (by rw [rowOf,←g5,hg'];simp)
  ·rw [g5]at hg';cases hg';exact .inr rfl
end
theorem wpList_own_append {P:Program}{w:World}{e size n m c:Nat}{v z:Value}{xs news:List Value}{t:TypeId}{bytes:Nat}{A:Option Addr}
  {ops:Array Oper}{rest:List Oper}{o:Oper}{a:Act}{Q:Exit→Act→World→Prop}(T:SliceTy P t e size bytes z) (h:Own w e size v n xs) (hr:Rd w size A m news)
  (h1:∀u∈news,u.oneCell'=true) (hm:A=none→m=0) (h63:n+m≤maxLen) (hb:(n+m)*bytes≤140737488355328)
  (hg:o.guard=none) {s x:Operand}(hop:o.op= .call {callee:= .builtin .append,args:=#[s,x],argTypes:=#[t,t]}) (hs:a.eval s=v) (hx:a.eval x= .slice A m c)
  (hK:∀v' w',Own w' e size v' (n+m) (xs++news)→Fr (rowOf v) w w'→(∀g,g∈rowOf v'→g∈rowOf v∨g=w.heap.size)→wpList P ops Q rest (a.put o.dst v') w'):wpList P ops Q (o::rest) a w:=by
 refine wpList_plain hg fun K' hK'=> ?_;obtain⟨v',w',hrun,r1,r2,r3⟩:=h.run_append (ty:=o.type) (c:=c) T hr h1 hm h63 hb;unfold Oper.wp;simp [execOp,hop,resolve,invoke,builtin,hs,hx,hrun,Result.andThen];exact hK' _ _ (hK v' w' r1 r2 r3)
def Strs (w:World) (A:Option Addr) (n:Nat) (l:List ByteArray):Prop:=Rd w 1 A n (l.map Value.string)
theorem Strs.length {w:World}{A:Option Addr}{n:Nat}{l:List ByteArray}(h:Strs w A n l):l.length=n:=by have:=h.1;simpa using this
theorem strings_one (l:List ByteArray):∀u∈l.map Value.string,u.oneCell'=true:=by
 intro u hu;obtain⟨_,_,rfl⟩:=List.mem_map.1 hu;rfl
theorem Strs.at {w:World}{A:Option Addr}{n k:Nat}{l:List ByteArray}(h:Strs w A n l) (hk:k<n):
  ∃b o,A=some ⟨b,o,none⟩∧w.cell? ⟨b,o+k,none⟩=some (.string (l.getD k default)):=by
 obtain⟨b,o,hA,hc⟩:=h.2 (by omega);have hl:=h.length;exact⟨b,o,hA,hc k _ (by simp [List.getD,show k<l.length by omega])⟩
section
variable {κ ν:Type} [DecidableEq κ] {P:Program}{kt et mt:TypeId}{ek:κ→Value}{ev:ν→Value}{w:World}{b:Nat}{l:List (κ×ν)}
 {ops:Array Oper}{rest:List Oper}{o:Oper}{a:Act}{Q:Exit→Act→World→Prop}
theorem wpList_map_set (h:IsMap w b ek ev l) (K:KeyOk P kt ek) (hmt:P.underlying mt=some (.map kt et)) (k:κ) (v:ν) (hg:o.guard=none) {xm xk xv:Operand}(hop:o.op= .mapUpdate mt xm xk xv)
  (hm:a.eval xm= .map (some b)) (hk:a.eval xk=ek k) (hv:a.eval xv=ev v) (hK:∀w',IsMap w' b ek ev (aset k v l)→Turned b w w'→wpList P ops Q rest (a.put o.dst undef) w'):wpList P ops Q (o::rest) a w:=by
 refine wpList_plain hg fun K' hK'=> ?_;obtain⟨w',hrun,r1,r2⟩:=h.run_update K hmt k v;unfold Oper.wp;simp [execOp,hop,hm,hk,hv,hrun,Result.andThen];exact hK' _ _ (hK w' r1 r2)
theorem wpList_map_get (h:IsMap w b ek ev l) (K:KeyOk P kt ek) (hmt:P.underlying mt=some (.map kt et)) {z:Value}(hz:∀w,(zeroValue et).run P w= .ok z w) (k:κ) (hg:o.guard=none) {xm xk:Operand}(hop:o.op= .lookup mt xm xk false)
  (hm:a.eval xm= .map (some b)) (hk:a.eval xk=ek k) (hK:wpList P ops Q rest (a.put o.dst (((aget k l).map ev).getD z)) w):wpList P ops Q (o::rest) a w:=by
 refine wpList_plain hg fun K' hK'=> ?_;have hrun:=h.run_lookup K hmt hz k;unfold Oper.wp;simp [execOp,hop,hm,hk,hrun,Result.andThen];exact hK' _ _ hK
omit [DecidableEq κ]in
theorem wpList_map_entry {lb:List (κ×ν×Nat)}{clock r:Nat}{seen:Array Nat}(h:IsMapB w b ek ev lb clock) {y:κ×ν×Nat}(hi:It w r b clock (seen.push y.2.2)) (hy:y∈lb) (hg:o.guard=none) {x:Operand}(hop:o.op= .entry x)
  (hx:a.eval x= .pointer (some ⟨r,0,none⟩)) (hK:wpList P ops Q rest (a.put o.dst (.tuple #[ek y.1,ev y.2.1])) w):wpList P ops Q (o::rest) a w:=by
 refine wpList_plain hg fun K' hK'=> ?_;have hrun:=h.run_entry (P:=P) hi hy;unfold Oper.wp;simp [execOp,hop,hx,hrun,Result.andThen];exact hK' _ _ hK
omit [DecidableEq κ]in
theorem wpList_map_next {lb:List (κ×ν×Nat)}{clock r:Nat}{seen:Array Nat}(h:IsMapB w b ek ev lb clock) (hi:It w r b clock seen) (hg:o.guard=none) {x:Operand}(hop:o.op= .next x false)
  (hx:a.eval x= .pointer (some ⟨r,0,none⟩)) (h0:todo lb seen= []→wpList P ops Q rest (a.put o.dst (.tuple #[.bool false])) w)
  (hK:∀x w',x∈todo lb seen→It w' r b clock (seen.push x.2.2)→IsMapB w' b ek ev lb clock→Turned r w w'→wpList P ops Q rest (a.put o.dst (.tuple #[.bool true,ek x.1,ev x.2.1])) w'):wpList P ops Q (o::rest) a w:=by
 refine wpList_plain hg fun K' hK'=> ?_;rcases h.run_next (P:=P) hi o.type with⟨h1,hrun⟩ | ⟨x',hx',w',hrun,r1,r2,r3⟩
 ·unfold Oper.wp;simp [execOp,hop,hx,hrun,Result.andThen];exact hK' _ _ (h0 h1)
 ·unfold Oper.wp;simp [execOp,hop,hx,hrun,Result.andThen];exact hK' _ _ (hK x' w' hx' r1 r2 r3)
end
end Go.Sig
namespace Go.Sig
open Go
theorem _root_.Go.RowKit.Hid.o {p:Prop}(h:Go.RowKit.Hid p):p:=h
theorem zh {p:Prop}(h:p):Go.RowKit.Hid p:=Lib.hid h
theorem zA {α:Type _}{xs:List α}{i:Nat}(h:i<xs.toArray.size):xs.toArray[i]=xs[i]'(by simpa using h):=List.getElem_toArray h
theorem zB {α:Type _}(a:α) (l:List α) (i:Nat) (h:i+1<(a::l).length):(a::l)[i+1]=l[i]'(Nat.lt_of_succ_lt_succ h):=rfl
theorem zC {α:Type _}(a:α) (l:List α) (h:0<(a::l).length):(a::l)[0]=a:=rfl
theorem zD {α:Type _}(l:List α) (i:Nat) (a:α):l.toArray.setIfInBounds i a=(l.set i a).toArray:=List.setIfInBounds_toArray l i a
theorem zE {α:Type _}{x:α}{xs:List α}{a:α}:(x::xs).set 0 a=a::xs:=rfl
theorem zF {α:Type _}{x:α}{xs:List α}{i:Nat}{a:α}:(x::xs).set (i+1) a=x::xs.set i a:=rfl
theorem zG {α:Type _}{xs:List α}{i:Nat}:xs.toArray[i]? =xs[i]? :=List.getElem?_toArray
theorem zH {α:Type _}{a:α}{l:List α}:(a::l)[0]? =some a:=rfl
theorem zI {α:Type _}{a:α}{i:Nat}{l:List α}:(a::l)[i+1]? =l[i]? :=rfl
end Go.Sig
