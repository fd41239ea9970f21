/- Plain laws of forms. Conditions: each theorem's own. -/
import Derived.Test.YtopfcgpeaaehgaaGreatDoorAa
namespace Go.Sig
open Go.RowKit
theorem cutL_no {c:UInt8}:∀{l:List UInt8},c∉l→cutL c l=(l,[],false)
 | [],_=>rfl
 |x::l,h=>by have hx:x≠c:=fun e=>h (by simp [e]);have hl:c∉l:=fun e=>h (List.mem_cons_of_mem _ e);unfold cutL;rw [if_neg hx,cutL_no hl]
theorem cutL_eq {c:UInt8}:∀{l:List UInt8},(c∈l→l=(cutL c l).1++c::(cutL c l).2.1∧(cutL c l).2.2=true∧c∉(cutL c l).1)∧(c∉l→cutL c l=(l,[],false))
 | []=>⟨fun h=>by simp at h,fun _=>rfl⟩
 |x::l=>by
  refine⟨fun h=> ?_,cutL_no⟩;unfold cutL;by_cases hx:x=c
  ·rw [if_pos hx];simp [hx]
  ·rw [if_neg hx];have hl:c∈l:=(List.mem_cons.1 h).resolve_left fun e=>hx e.symm;obtain⟨h1,h2,h3⟩:=cutL_eq.1 hl;refine⟨by rw [List.cons_append];exact congrArg _ h1,h2,?_⟩;simp only [List.mem_cons,not_or];exact⟨fun e=>hx e.symm,h3⟩
theorem cutL_len {c:UInt8}(l:List UInt8):(cutL c l).1.length≤l.length∧(cutL c l).2.1.length≤l.length∧((cutL c l).2.2=true→(cutL c l).2.1.length<l.length):=by
 by_cases h:c∈l
 ·obtain⟨h1,h2,-⟩:=cutL_eq.1 h;have:=congrArg List.length h1;rw [List.length_append,List.length_cons]at this;omega
 ·rw [cutL_no h];simp
theorem pcs_cons (c:UInt8) (r cur:List UInt8):pcs (c::r) cur=if c=38 then(if cur= []then pcs r []else cur::pcs r [])else pcs r (cur++ [c]):=rfl
theorem cutL_cons (c x:UInt8) (r:List UInt8):cutL c (x::r)=if x=c then([],r,true)else(x::(cutL c r).1,(cutL c r).2.1,(cutL c r).2.2):=rfl
theorem fget_cons (p:ByteArray×ByteArray) (l:Prs) (k:ByteArray):fget (p::l) k=if p.1=k then(p.2,(fget l k).2+1)else fget l k:=rfl
theorem pcs_cut:∀(s cur:List UInt8),pcs s cur=if(cutL 38 s).2.2=true then(if cur++(cutL 38 s).1= []then pcs (cutL 38 s).2.1 []else(cur++(cutL 38 s).1)::pcs (cutL 38 s).2.1 [])else(if cur++s= []then []else [cur++s])
 | [],cur=>by simp [pcs,cutL]
 |c::s,cur=>by
  rw [pcs_cons,cutL_cons];by_cases hc:c=38
  ·simp [hc]
  ·rw [if_neg hc,if_neg hc,pcs_cut s];simp
theorem pcs_more {s:List UInt8}(h:(cutL 38 s).2.2=true):pcs s []=(if(cutL 38 s).1= []then []else [(cutL 38 s).1])++pcs (cutL 38 s).2.1 []:=by
 rw [pcs_cut,if_pos h];simp only [List.nil_append];split<;>simp
theorem pcs_last {s:List UInt8}(h:(cutL 38 s).2.2=false):pcs s []=if s= []then []else [s]:=by
 rw [pcs_cut,if_neg (by simp [h])];simp
theorem fget_le (l:Prs) (k:ByteArray):(fget l k).2≤l.length:=by
 induction l with
 |nil=>simp [fget]
 |cons p l ih=>unfold fget;split<;>simp<;>omega
theorem bA_lst (s:ByteArray):bA s.data.toList=s:=by cases s;simp [bA]
end Go.Sig
