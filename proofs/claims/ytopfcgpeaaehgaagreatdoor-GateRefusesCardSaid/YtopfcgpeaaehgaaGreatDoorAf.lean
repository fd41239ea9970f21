/- A range over a function whose iterator writes blocks of its own between two rounds. Conditions: each theorem's own. -/
import Derived.Test.YtopfcgpeaaehgaaGreatDoorAe
import Derived.RangeFuncNested
import Derived.RangeFuncCalls
import Derived.RangeFuncLeaves
import Derived.OwnWalkIn
import Derived.TacticsInMore
import Derived.LoopNIn
import Derived.LoopIn
import Derived.Deep.LoopGhost
namespace Go.Sig
open Go.RowKit
theorem Fr.putObj {S:List Nat}{a w:World}(h:Fr S a w) {l:Nat}(hl:l∈S∨a.heap.size≤l) (o:Obj):Fr S a (w.putObj l o):=
 ⟨h.os,h.tape,h.output,by simpa using h.size,fun i hi hn=>(World.putObj_heap_other (by rintro rfl;exact hl.elim hn fun h=>by omega)).trans (h.block i hi hn)⟩
theorem wide_call {n m:Nat}{P:Program}{f:FuncId}{args:Array Value}{w:World}{R R':Ending→World→Prop}(h:Calls P f args w R') (hm:∀e w',R' e w'→R e w'):Fence.wide.fn f∧(Fence.wide.depth.isSome=true→1≤n)∧CallsIn Fence.wide m P f args w R:=⟨trivial,fun h=>(by cases h),(callsIn_wide.2 h).mono hm⟩
theorem wide_call2 {m:Nat}{P:Program}{f:FuncId}{args:Array Value}{w:World}{R R':Ending→World→Prop}(h:Calls P f args w R') (hm:∀e w',R' e w'→R e w'):Fence.wide.fn f∧CallsIn Fence.wide m P f args w R:=⟨trivial,(callsIn_wide.2 h).mono hm⟩
theorem round_call2 {m l:Nat}{P:Program}{f:FuncId}{args:Array Value}{w:World}{R R':Ending→World→Prop}(h:Calls P f args w R') (hm:∀e w',R' e w'→R e w'):(Fence.wide.inRound l).fn f∧CallsIn (Fence.wide.inRound l) m P f args w R:=⟨trivial,((callsIn_wide.2 h).mono hm).inRound l⟩
theorem wpIn_gen {F:Fence}{n:Nat}{P:Program}{c:Code}{Q:Exit→Act→World→Prop}{a:Act}{W:World}(G:World→Prop) (hG:G W) (h:∀w,G w→c.wpIn F n P Q a w):c.wpIn F n P Q a W:=h W hG
def chPost {α:Type}(K:List Nat) (I:List α→World→Prop) (Ix:Code→List α→World→Prop) (xs:List α) (W:World):Exit→Act→World→Prop
 | .normal,_,W'=>(∀b∈K,W'.heap[b]? =W.heap[b]?)∧I xs W'
 | .ret,_,W'=>(∀b∈K,W'.heap[b]? =W.heap[b]?)∧Ix .ret xs W'
 | .exit id,_,W'=>(∀b∈K,W'.heap[b]? =W.heap[b]?)∧Ix (.exit id) xs W'
 | .goto t,_,W'=>(∀b∈K,W'.heap[b]? =W.heap[b]?)∧Ix (.goto t) xs W'
 | .panic _,_,_=>False
 | .outgrown,_,_=>False
def SeqCh {α:Type}(F:Fence) (n:Nat) (P:Program) (g:Nat) (lb:Array Value) (enc:α→Value) (Ch:List Nat) (S Sp:List α→Prop) (Ok:α→Prop) (w:World):Prop:=
 ∀(l:Nat) (J Jx:List α→World→Prop) (W:World),Fr [] w W→(∀pre A B,J pre A→Fr Ch A B→J pre B)→
  (∀pre x W1,J pre W1→Ok x→YieldAt F (n - 1) P l #[enc x] W1 fun e W'=>(e= .returned (.bool true)∧J (pre++ [x]) W'∧∀b∈Ch,W'.heap[b]? =W1.heap[b]?)∨(e= .returned (.bool false)∧Jx (pre++ [x]) W'))→
  J [] W→CallsIn F n P g (#[.func (.yield l) #[] #[]]++lb) W fun e W'=>(∃v,e= .returned v)∧((∃xs,S xs∧J xs W')∨(∃pre,Sp pre∧Jx pre W'))
variable {F:Fence}{n:Nat}{P:Program}
theorem wpIn_rangeFunc_ch {α:Type}{g:Operand}{ps:Array Tmp}{assign body:Code}{Q:Exit→Act→World→Prop}{a:Act}{w:World}
  (hro:F.round=none) (h1:1≤n) {gf:Nat}{lb:Array Value}(hg:a.eval g= .func (.func gf) #[] lb) (hFg:F.fn gf) (eg:∀args w,(callFunc gf args).run P w= .ok (.enter gf args) w)
  {enc:α→Value}{Ch:List Nat}{S Sp:List α→Prop}{Ok:α→Prop}(hCh:∀b∈Ch,b<w.heap.size) (hseq:SeqCh F (n - 1) P gf lb enc Ch S Sp Ok w) (hps:ps.size=1)
  (I:List α→World→Prop) (Ix:Code→List α→World→Prop) (hI:∀pre A B,I pre A→Fr (w.heap.size::(w.heap.size+1)::Ch) A B→I pre B)
  (hIx:∀c pre A B,Ix c pre A→Fr [w.heap.size,w.heap.size+1] A B→Ix c pre B) (h0:I [] w) (a₁:α→Act)
  (hassign:∀(l:Nat) (x:α) (W:World) (K:Act→World→Prop),K (a₁ x) W→
    assign.wpIn (F.inRound l) (n - 1 - 1) P (Exit.then K (fun _ _ _=>False)) {tmps:=(ps.zip #[enc x]).foldl (fun t (p,v)=>t.setIfInBounds p v) a.tmps,defers:= []} W)
  (hbody:∀(l:Nat) (pre:List α) (x:α) (W:World),I pre W→Ok x→w.heap.size+2≤W.heap.size→body.wpIn (F.inRound l) (n - 1 - 1) P (chPost (w.heap.size::(w.heap.size+1)::Ch) I Ix (pre++ [x]) W) (a₁ x) W)
  (hdone:∀(xs:List α) (W:World),S xs→I xs W→W.heap[w.heap.size]? =some (.deferred (some []))→Q .normal {a with defers:={target:= .collected w.heap.size,args:=#[]}::a.defers} W)
  (hstop:∀(c:Code) (pre:List α) (W:World),Sp pre→Ix c pre W→W.heap[w.heap.size]? =some (.deferred (some []))→c.wpIn F n P Q {a with defers:={target:= .collected w.heap.size,args:=#[]}::a.defers} W):
  (Code.rangeFunc g ps assign body).wpIn F n P Q a w:=by
 refine wpIn_rangeFunc ?_;intro fn hfn;rw [hro];obtain⟨rec,hrec⟩:∃rec:LoopState→Option Code→Loop,rec=fun st pe=>{state:=st,pending:=pe,fn,tmps:=a.tmps,params:=ps,assign,body,defers:=w.heap.size}:=⟨_,rfl⟩
 obtain⟨W1,hW1⟩:∃W1,(w.alloc (.deferred (some []))).alloc (.loop (rec .ready none))=W1:=⟨_,rfl⟩
 have hL1:W1.heap[w.heap.size+1]? =some (.loop (rec .ready none)):=by rw [←hW1];have:=World.alloc_heap_new (w.alloc (.deferred (some []))) (.loop (rec .ready none));rwa [World.size_alloc]at this
 have hK1:W1.heap[w.heap.size]? =some (.deferred (some [])):=by rw [←hW1];exact(Below.heap_alloc _ _ _ (by simp)).trans (World.alloc_heap_new w _)
 have hF1:Fr [] w W1:=by rw [←hW1];exact((Fr.refl _ _).alloc _).alloc _
 have hI1:I [] W1:=hI _ _ _ h0 hF1.nil;refine⟨w.heap.size+1,[{target:= .collected w.heap.size,args:=#[]}],W1,{target:= .fn (.func gf) lb,args:=#[.func (.yield (w.heap.size+1)) #[] #[]]},W1,gf,
  #[.func (.yield (w.heap.size+1)) #[] #[]]++lb,W1,?_,?_,?_,?_,fun _=>h1,?_⟩
 ·rw [←hW1,hrec];exact run_enterLoop_outer _ _ _ _ _
 ·simp only [resolve,hg];simp [go_sem]
 ·intro f' hf';simp [Target.leads]at hf';subst hf';exact hFg
 ·simp [invoke,go_sem,eg]
 ·have hnCh:w.heap.size∉Ch∧w.heap.size+1∉Ch:=⟨fun h=>by have:=hCh _ h;omega,fun h=>by have:=hCh _ h;omega⟩
  refine(hseq (w.heap.size+1)
   (fun pre W=>I pre W∧W.heap[w.heap.size+1]? =some (.loop (rec .ready none))∧W.heap[w.heap.size]? =some (.deferred (some [])))
   (fun pre W=>∃c,Ix c pre W∧W.heap[w.heap.size+1]? =some (.loop (rec .done (some c)))∧W.heap[w.heap.size]? =some (.deferred (some [])))
   W1 hF1
   (fun pre A B hj hf=>⟨hI _ _ _ hj.1 (hf.mono fun i hi=>by simp [hi]),(hf.block _ (lt_of_heap hj.2.1) hnCh.2).trans hj.2.1,(hf.block _ (lt_of_heap hj.2.2) hnCh.1).trans hj.2.2⟩)
   ?_ ⟨hI1,hL1,hK1⟩).mono ?_
  ·rintro pre x W ⟨hi,hl,hk⟩ hox;have hlt:w.heap.size+1<W.heap.size:=lt_of_heap hl;have hy:=run_yield (P:=P) (args:=#[enc x]) hl (by rw [hrec];exact hps.symm);rw [hrec]at hy;refine⟨fn,_,assign,body,hy,roundIn_of_wpIn hfn (hassign _ x W _ ⟨_,run_beginRound hl (by rw [hrec]),?_⟩)⟩;obtain⟨W2,hW2⟩:∃W2,W.putObj (w.heap.size+1) (.loop {rec .ready none with state:= .busy})=W2:=⟨_,rfl⟩
   rw [hW2];have hl2:W2.heap[w.heap.size+1]? =some (.loop {rec .ready none with state:= .busy}):=by rw [←hW2];exact World.putObj_heap_same hlt
   have hk2:W2.heap[w.heap.size]? =some (.deferred (some [])):=by rw [←hW2];exact(World.putObj_heap_other (by omega)).trans hk
   have hc2:∀b∈Ch,W2.heap[b]? =W.heap[b]? :=fun b hb=>by rw [←hW2];exact World.putObj_heap_other (by have:=hCh b hb;omega)
   have hi2:I pre W2:=by rw [←hW2];exact hI _ _ _ hi ((Fr.refl _ _).putObj (.inl (by simp)) _)
   refine wpIn_mono (hbody _ pre x W2 hi2 hox (lt_of_heap hl2)) ?_;have fin:∀(jump:Option Code) (W3:World),(∀b∈w.heap.size::(w.heap.size+1)::Ch,W3.heap[b]? =W2.heap[b]?)→
     (Instr.endRound (w.heap.size+1) jump).run P W3= .ok (.bool jump.isNone) (W3.putObj (w.heap.size+1) (.loop (rec (if jump.isNone then .ready else .done) jump)))∧
     (W3.putObj (w.heap.size+1) (.loop (rec (if jump.isNone then .ready else .done) jump))).heap[w.heap.size+1]? =some (.loop (rec (if jump.isNone then .ready else .done) jump))∧
     (W3.putObj (w.heap.size+1) (.loop (rec (if jump.isNone then .ready else .done) jump))).heap[w.heap.size]? =some (.deferred (some []))∧
     (∀b∈Ch,(W3.putObj (w.heap.size+1) (.loop (rec (if jump.isNone then .ready else .done) jump))).heap[b]? =W.heap[b]?):=fun jump W3 hk3=>by
    have hl3:=(hk3 (w.heap.size+1) (by simp)).trans hl2;have:=run_endRound (P:=P) jump hl3;rw [hrec]at this⊢;exact⟨this,World.putObj_heap_same (lt_of_heap hl3),(World.putObj_heap_other (by omega)).trans ((hk3 w.heap.size (by simp)).trans hk2),
     fun b hb=>(World.putObj_heap_other (by have:=hCh b hb;omega)).trans ((hk3 b (by simp [hb])).trans (hc2 b hb))⟩
   rintro e a3 W3 hp;cases e with
   |normal=>obtain⟨hk3,hi3⟩:=hp;obtain⟨hr,hl4,hk4,hc4⟩:=fin none W3 hk3;exact⟨_,_,hr,.inl ⟨rfl,⟨hI _ _ _ hi3 ((Fr.refl _ _).putObj (.inl (by simp)) _),hl4,hk4⟩,hc4⟩⟩
   |ret=>obtain⟨hk3,hi3⟩:=hp;obtain⟨hr,hl4,hk4,hc4⟩:=fin (some .ret) W3 hk3;exact⟨_,_,hr,.inr ⟨rfl,.ret,hIx _ _ _ _ hi3 ((Fr.refl _ _).putObj (.inl (by simp)) _),hl4,hk4⟩⟩
   |exit id=>obtain⟨hk3,hi3⟩:=hp;obtain⟨hr,hl4,hk4,hc4⟩:=fin (some (.exit id)) W3 hk3;exact⟨_,_,hr,.inr ⟨rfl,.exit id,hIx _ _ _ _ hi3 ((Fr.refl _ _).putObj (.inl (by simp)) _),hl4,hk4⟩⟩
   |goto t=>obtain⟨hk3,hi3⟩:=hp;obtain⟨hr,hl4,hk4,hc4⟩:=fin (some (.goto t)) W3 hk3;exact⟨_,_,hr,.inr ⟨rfl,.goto t,hIx _ _ _ _ hi3 ((Fr.refl _ _).putObj (.inl (by simp)) _),hl4,hk4⟩⟩
   |panic ch=>exact hp.elim
   |outgrown=>exact hp.elim
  ·rintro e W2 ⟨⟨v,rfl⟩,(⟨xs,hS,hi,hl,hk⟩ | ⟨pre,hSp,c,hi,hl,hk⟩)⟩
   ·exact⟨none,_,by have:=run_endLoop (P:=P) hl (by rw [hrec];simp);rw [hrec]at this;exact this,hdone xs _ hS (hI _ _ _ hi ((Fr.refl _ _).putObj (.inl (by simp)) _)) ((World.putObj_heap_other (by omega)).trans hk)⟩
   ·exact⟨some c,_,by have:=run_endLoop (P:=P) hl (by rw [hrec];simp);rw [hrec]at this;exact this,hstop c pre _ hSp (hIx _ _ _ _ hi ((Fr.refl _ _).putObj (.inl (by simp)) _)) ((World.putObj_heap_other (by omega)).trans hk)⟩
theorem wpListIn_own_append {F:Fence}{N:Nat}{P:Program}{w:World}{e size n m c:Nat}{v z:Value}{xs news:List Value}{t:TypeId}{bytes:Nat}{A:Option Addr}
  {ops:Array Oper}{rest:List Oper}{o:Oper}{a:Act}{Q:Exit→Act→World→Prop}(T:SliceTy P t e size bytes z) (h:Own w e size v n xs) (hr:Rd w size A m news)
  (h1:∀u∈news,u.oneCell'=true) (hm:A=none→m=0) (h63:n+m≤maxLen) (hb:(n+m)*bytes≤140737488355328)
  (hg:o.guard=none) {s x:Operand}(hop:o.op= .call {callee:= .builtin .append,args:=#[s,x],argTypes:=#[t,t]}) (hs:a.eval s=v) (hx:a.eval x= .slice A m c)
  (hK:∀v' w',Own w' e size v' (n+m) (xs++news)→Fr (rowOf v) w w'→(∀g,g∈rowOf v'→g∈rowOf v∨g=w.heap.size)→wpListIn F N P ops Q rest (a.put o.dst v') w'):wpListIn F N P ops Q (o::rest) a w:=by
 refine wpListIn_plain hg fun K' hK'=> ?_;obtain⟨v',w',hrun,r1,r2,r3⟩:=h.run_append (ty:=o.type) (c:=c) T hr h1 hm h63 hb;unfold Oper.wpIn;refine⟨?_,?_⟩
 ·simp [Oper.about,hop,resolve,Target.leads,Sem.run_pure]
 ·rw [Oper.semAt_plain F _ _ (by rw [hop];intro c hc';cases hc')];simp [execOp,hop,resolve,invoke,builtin,hs,hx,hrun,Result.andThen];exact hK' _ _ (hK v' w' r1 r2 r3)
end Go.Sig
