/- Walk: a book's command in short; the law's example. Conditions: each theorem's own. -/
import Derived.Test.YtpmgepijkhaonaaGreatHj
import Derived.Lib.Strings
namespace Go.Proofs.YtpmgepijkhaonaaGreat
open Go.RowKit Go.Sig
def DoPost (w:World) (p mb:Nat) (room:Int) (X:List Nat) (res:GBk×GAns) (e:Ending) (w':World):Prop:=
 ∃y:AA,e= .returned y.val∧y.a=res.2∧AnsIn w' w.heap.size y∧BookAt w' p mb room (X++rowOf y.slice) res.1∧Fr [mb] w w'
structure CmdIn (w:World) (c:GCmd) (A:Option Addr) (n:Nat):Prop where
 hS:Rd w 1 A n (strCells c.scope)
 hn:c.scope.length=n
 hl:n≤150000000000000
 hs:∀s∈c.scope,s.size≤150000000000000
 hf:c.family.size≤150000000000000
theorem CmdIn.fr {w w':World}{S:List Nat}{c:GCmd}{A:Option Addr}{n:Nat}(h:CmdIn w c A n) (hF:Fr S w w') (hS:0<n→Off S A):CmdIn w' c A n:=⟨h.hS.fr hF hS,h.hn,h.hl,h.hs,h.hf⟩
theorem bdo_t (w:World) (p mb:Nat) (room:Int) (X:List Nat) (b:GBk) (c:GCmd) (A:Option Addr) (n d:Nat) (h:BookAt w p mb room X b) (hc:CmdIn w c A n):
  Calls Tryz.prog 77 #[.pointer (some ⟨p,0,none⟩),.agg (cmdV c A n d)] w (DoPost w p mb room X (doM room c b)):=by
 refine(do_t ⟨h.hp,h.hb,h.ok,h.hX,h.hmb,hc.hS,hc.hn,hc.hl,hc.hs,hc.hf⟩).mono ?_;rintro e w' ⟨y,rfl,hy,hA,hb,hF⟩;refine⟨y,rfl,hy,hA,⟨h.hp.fr hF (by simpa using h.hne),hb,doM_ok h.ok,fun g hg=> ?_,List.mem_append.2 (.inl h.hmb),h.hne⟩,hF⟩;rcases List.mem_append.1 hg with hg |hg
 ·exact Nat.lt_of_lt_of_le (h.hX g hg) hF.size
 ·exact hA.1.lt g hg
theorem nil_cmd (w:World) (c:GCmd) (h:c.scope= []) (hf:c.family.size≤150000000000000):CmdIn w c none 0:=⟨by rw [h];exact Rd.nil _ _ _,by rw [h];rfl,by omega,by rw [h];simp,hf⟩
end Go.Proofs.YtpmgepijkhaonaaGreat
