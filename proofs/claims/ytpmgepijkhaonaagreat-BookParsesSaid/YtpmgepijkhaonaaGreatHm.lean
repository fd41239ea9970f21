/- A row of commands in memory; loads of a struct from a row. Conditions: each theorem's own. -/
import Derived.Test.YtpmgepijkhaonaaGreatHk
import Derived.Test.YtpmgepijkhaonaaGreatHv
namespace Go.Sig
open Go
section
variable {P:Program}{ops:Array Oper}{Q:Exit→Act→World→Prop}{a:Act}{w:World}{rest:List Oper}{o:Oper}{K:Act→World→Prop}
theorem wp_load_cells (ty:TypeId) (x:Operand) (ho:o.op= .load ty x) {g off:Nat}(hx:a.eval x= .pointer (some ⟨g,off,none⟩)) {ys:Array Value}{d:TypeDesc}(hc:∀j v,ys[j]? =some v→w.cell? ⟨g,off+j,none⟩=some v)
  (hu:P.underlying ty=some d) (hd:(match d with | .struct _ | .array _ _=>true |_=>false)=true) (hi:(P.info? ty).map (·.size)=some ys.size)
  (h:K (a.put o.dst (.agg ys)) w):o.wp P a w K Q:=by
 have hl:=run_loadVar_at (P:=P) (ys:=ys.toList) (fun j v hv=>hc j v (by rw [←Array.getElem?_toList];exact hv)) hu hd (by rw [Array.length_toList];exact hi);rw [Array.toArray_toList]at hl;unfold Oper.wp execOp;simp only [ho,hx,Instr.loadAt,Instr.sureAddr,Sem.run_bind,Sem.run_pure,Result.andThen_ok,hl];exact h
theorem wpList_load_cells (hgd:o.guard=none) (ty:TypeId) (x:Operand) (ho:o.op= .load ty x) {g off:Nat}(hx:a.eval x= .pointer (some ⟨g,off,none⟩)) {ys:Array Value}{d:TypeDesc}(hc:∀j v,ys[j]? =some v→w.cell? ⟨g,off+j,none⟩=some v)
  (hu:P.underlying ty=some d) (hd:(match d with | .struct _ | .array _ _=>true |_=>false)=true) (hi:(P.info? ty).map (·.size)=some ys.size)
  (h:wpList P ops Q rest (a.put o.dst (.agg ys)) w):wpList P ops Q (o::rest) a w:=
 wpList_plain hgd fun _ hK=>wp_load_cells ty x ho hx hc hu hd hi (hK _ _ h)
theorem wpList_load_if (hw:Region.wanted o (yielded ops a.tmps)=true) (ty:TypeId) (x:Operand) (ho:o.op= .load ty x) {g off:Nat}(hx:a.eval x= .pointer (some ⟨g,off,none⟩)) {ys:Array Value}{d:TypeDesc}(hc:∀j v,ys[j]? =some v→w.cell? ⟨g,off+j,none⟩=some v)
  (hu:P.underlying ty=some d) (hd:(match d with | .struct _ | .array _ _=>true |_=>false)=true) (hi:(P.info? ty).map (·.size)=some ys.size)
  (h:wpList P ops Q rest (a.put o.dst (.agg ys)) w):wpList P ops Q (o::rest) a w:=wpList_step fun K hK=>by
 rw [if_pos hw];exact wp_load_cells ty x ho hx hc hu hd hi (hK _ _ h)
end
end Go.Sig
namespace Go.Proofs.YtpmgepijkhaonaaGreat
open Go.RowKit Go.Sig
structure CA where
 c:GCmd
 A:Option Addr
 k:Nat
def CA.cells (x:CA):Array Value:=cmdV x.c x.A x.c.scope.length x.k
def cmdCells (l:List CA):List Value:=l.flatMap fun x=>x.cells.toList
theorem cmdCells_at {j:Nat}{v:Value}:∀{l:List CA}{i:Nat}(h:i<l.length),l[i].cells[j]? =some v→(cmdCells l)[i*13+j]? =some v
 |x::l,0,_,hv=>by
  have hj:j<x.cells.toList.length:=by have:=(Array.getElem?_eq_some_iff.1 hv).1;simpa using this
  rw [cmdCells,List.flatMap_cons,Nat.zero_mul,Nat.zero_add,List.getElem?_append_left hj,Array.getElem?_toList];exact hv
 |x::l,i+1,h,hv=>by have:=cmdCells_at (l:=l) (i:=i) (by simpa using h) hv;have hx:x.cells.toList.length=13:=rfl;rw [cmdCells,List.flatMap_cons,List.getElem?_append_right (by rw [hx];omega),hx,show(i+1)*13+j - 13=i*13+j by omega];exact this
structure CmdsIn (w:World) (A:Option Addr) (n:Nat) (l:List CA):Prop where
 hR:Rd w 13 A n (cmdCells l)
 hn:l.length=n
 hl:n≤150000000000000
 each:∀x∈l,CmdIn w x.c x.A x.c.scope.length
theorem CmdsIn.fr {w w':World}{A:Option Addr}{n:Nat}{l:List CA}(h:CmdsIn w A n l) (hF:Fr [] w w'):CmdsIn w' A n l:=
 ⟨h.hR.fr hF (by simp [Off]),h.hn,h.hl,fun x hx=>(h.each x hx).fr hF (by simp [Off])⟩
theorem CmdsIn.row {w:World}{A:Option Addr}{n i:Nat}{l:List CA}(h:CmdsIn w A n l) (hi:i<n):
  ∃x b o,A=some ⟨b,o,none⟩∧l[i]? =some x∧(∀j v,x.cells[j]? =some v→w.cell? ⟨b,o+i*13+j,none⟩=some v)∧CmdIn w x.c x.A x.c.scope.length:=by
 have hi':i<l.length:=by rw [h.hn];exact hi
 obtain⟨b,o,e,hc⟩:=h.hR.2 (by omega);refine⟨l[i],b,o,e,List.getElem?_eq_getElem hi',fun j v hv=> ?_,h.each _ (List.getElem_mem hi')⟩;rw [Nat.add_assoc];exact hc _ _ (cmdCells_at hi' hv)
end Go.Proofs.YtpmgepijkhaonaaGreat
