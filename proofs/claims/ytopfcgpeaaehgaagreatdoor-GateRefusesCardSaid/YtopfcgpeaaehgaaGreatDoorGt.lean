/- Walks: slices copied, a family in memory of its own. Conditions: each theorem's own. -/
import Derived.Test.YtopfcgpeaaehgaaGreatDoorGm
import Derived.Test.YtopfcgpeaaehgaaGreatDoorGr
import Derived.Test.YtopfcgpeaaehgaaGreatDoorRow
namespace Go.Proofs.YtopfcgpeaaehgaaGreatDoor
open Go.RowKit Go.Sig
def RdX (w:World) (X:List Nat) (size:Nat) (A:Option Addr) (n:Nat) (xs:List Value):Prop:=Rd w size A n xs∧(0<n→Off X A)
theorem RdX.fr {w w':World}{X:List Nat}{s:Nat}{A:Option Addr}{n:Nat}{xs:List Value}(h:RdX w X s A n xs) (hF:Fr X w w'):RdX w' X s A n xs:=
 ⟨h.1.fr hF h.2,h.2⟩
theorem off_mono {X Y:List Nat}{A:Option Addr}(h:Off X A) (hS:∀g∈Y,g∈X):Off Y A:=fun ad e hg=>h ad e (hS _ hg)
theorem RdX.mono {w:World}{X Y:List Nat}{s:Nat}{A:Option Addr}{n:Nat}{xs:List Value}(h:RdX w X s A n xs) (hS:∀g∈Y,g∈X):RdX w Y s A n xs:=
 ⟨h.1,fun hn=>off_mono (h.2 hn) hS⟩
theorem RdX.nil (w:World) (X:List Nat) (s:Nat) (A:Option Addr):RdX w X s A 0 []:=⟨Rd.nil w s A,fun h=>absurd h (by omega)⟩
def intCells (l:List Int):List Value:=l.map (Value.int .i64)
structure TA where
 tok:GTok
 A:Option Addr
 c:Nat
def TA.cells (t:TA):List Value:= [.int .i64 t.tok.kind,.slice t.A t.tok.scope.length t.c,.bool t.tok.used]
def tokCells (l:List TA):List Value:=l.flatMap TA.cells
structure FA where
 f:GFam
 sA:Option Addr
 sc:Nat
 tA:Option Addr
 tc:Nat
 ts:List TA
 lA:Option Addr
 lc:Nat
def FA.cells (x:FA):Array Value:=#[.string x.f.id,.string x.f.client,.string x.f.user,.slice x.sA x.f.scope.length x.sc,.string x.f.redirect,.string x.f.challenge,.string x.f.method,.int .i64 x.f.code,.slice x.tA x.ts.length x.tc,.bool x.f.revoked,.slice x.lA x.f.leases.length x.lc]
def FA.val (x:FA):Value:= .agg x.cells
structure FamIn (w:World) (X:List Nat) (x:FA):Prop where
 ts:x.ts.map (·.tok)=x.f.tokens
 scope:RdX w X 1 x.sA x.f.scope.length (strCells x.f.scope)
 toks:RdX w X 3 x.tA x.ts.length (tokCells x.ts)
 leases:RdX w X 1 x.lA x.f.leases.length (intCells x.f.leases)
 each:∀t∈x.ts,RdX w X 1 t.A t.tok.scope.length (strCells t.tok.scope)
theorem FamIn.fr {w w':World}{X:List Nat}{x:FA}(h:FamIn w X x) (hF:Fr X w w'):FamIn w' X x:=
 ⟨h.ts,h.scope.fr hF,h.toks.fr hF,h.leases.fr hF,fun t ht=>(h.each t ht).fr hF⟩
theorem FamIn.mono {w:World}{X Y:List Nat}{x:FA}(h:FamIn w X x) (hS:∀g∈Y,g∈X):FamIn w Y x:=
 ⟨h.ts,h.scope.mono hS,h.toks.mono hS,h.leases.mono hS,fun t ht=>(h.each t ht).mono hS⟩
theorem FamIn.len {w:World}{X:List Nat}{x:FA}(h:FamIn w X x):x.ts.length=x.f.tokens.length:=by rw [←h.ts,List.length_map]
def From (B:Nat) (A:Option Addr):Prop:=∀ad,A=some ad→B≤ad.block
theorem From.off {B:Nat}{A:Option Addr}{X:List Nat}(h:From B A) (hX:∀g∈X,g<B):Off X A:=fun ad e hg=>by
 have:=h ad e;have:=hX _ hg;omega
theorem From.mono {B C:Nat}{A:Option Addr}(h:From B A) (hC:C≤B):From C A:=fun ad e=>Nat.le_trans hC (h ad e)
structure AA where
 a:GAns
 A:Option Addr
 c:Nat
def AA.cells (y:AA):Array Value:=#[.int .i64 y.a.why,.int .i64 y.a.access,.int .i64 y.a.refresh,.slice y.A y.a.scope.length y.c,.string y.a.client,.string y.a.user,.bool y.a.active,.bool y.a.wait]
def AA.val (y:AA):Value:= .agg y.cells
def AA.slice (y:AA):Value:= .slice y.A y.a.scope.length y.c
def BkIn (w:World) (mb:Nat) (X:List Nat) (b:GBk):Prop:=∃l:List (ByteArray×FA),IsMap w mb Value.string FA.val l∧l.map (fun p=>(p.1,p.2.f))=b∧∀p∈l,FamIn w X p.2
theorem BkIn.lt {w:World}{mb:Nat}{X:List Nat}{b:GBk}(h:BkIn w mb X b):mb<w.heap.size:=by
 obtain⟨l,h,_⟩:=h;exact h.lt
theorem BkIn.fr {w w':World}{mb:Nat}{X S:List Nat}{b:GBk}(h:BkIn w mb X b) (hF:Fr S w w') (hS:∀g∈S,g∈X∨w.heap.size≤g) (hm:mb∉S):BkIn w' mb X b:=by
 obtain⟨l,h1,h2,h3⟩:=h;exact⟨l,h1.fr hF hm,h2,fun p hp=>(h3 p hp).fr (hF.mono' hS)⟩
theorem BkIn.mono {w:World}{mb:Nat}{X Y:List Nat}{b:GBk}(h:BkIn w mb X b) (hS:∀g∈Y,g∈X):BkIn w mb Y b:=by
 obtain⟨l,h1,h2,h3⟩:=h;exact⟨l,h1,h2,fun p hp=>(h3 p hp).mono hS⟩
end Go.Proofs.YtopfcgpeaaehgaaGreatDoor
namespace Go.Proofs.YtopfcgpeaaehgaaGreatDoor
open Go.RowKit Go.Sig
theorem own_of_row {w:World}{B e size n:Nat}{v:Value}{xs:List Value}(h:w.ownsRow B e size v n xs):∃A c,v= .slice A n c∧Own w e size v n xs∧From B A:=by
 obtain⟨h1,h2⟩:=h;rcases h2 with⟨rfl,rfl⟩ | ⟨g,cap,cur,rfl,hg,hh,r⟩
 ·exact⟨none,0,rfl,⟨h1,.inl ⟨rfl,rfl⟩⟩,fun ad e=>by(cases e)⟩
 ·exact⟨_,cap,rfl,⟨h1,.inr ⟨g,cap,cur,rfl,Nat.zero_le _,hh,r⟩⟩,fun ad e=>by(cases e;exact hg)⟩
def ClonePost (w:World) (e size n:Nat) (xs:List Value) (en:Ending) (w':World):Prop:=∃A c,en= .returned (.slice A n c)∧Own w' e size (.slice A n c) n xs∧From w.heap.size A∧Fr [] w w'
theorem clone_of_row {w w':World}{e size n:Nat}{xs:List Value}{v:Value}{en:Ending}(he:en= .returned v) (h:w'.ownsRow w.heap.size e size v n xs) (hb:Below w.heap.size w w'):ClonePost w e size n xs en w':=by
 obtain⟨A,c,rfl,h2,h3⟩:=own_of_row h;exact⟨A,c,he,h2,h3,Fr.of_below hb⟩
theorem clone_nil (w:World) (e size:Nat):ClonePost w e size 0 [] (.returned (.slice none 0 0)) w:=⟨none,0,rfl,Own.nil _ _ _,fun ad e=>by(cases e),Fr.refl _ _⟩
theorem rd_none {w:World}{size n:Nat}{xs:List Value}(h:Rd w size none n xs):n=0:=by
 rcases Nat.eq_zero_or_pos n with h0 |h0
 ·exact h0
 ·obtain⟨b,o,e,_⟩:=h.at h0;cases e
theorem cloneS_t (w:World) (A:Option Addr) (n c:Nat) (ls:List ByteArray) (h:Rd w 1 A n (strCells ls)) (hn:ls.length=n) (hmax:n≤8000000000000):
  Calls Tryz.prog 65 #[.slice A n c] w (ClonePost w 9 1 n (strCells ls)):=by
 cases A with
 |none=>obtain rfl:=rd_none h;obtain rfl:=List.eq_nil_of_length_eq_zero hn;refine(Tryz.slices_Clone_string_nil 0 c w).mono ?_;rintro e w' ⟨rfl,rfl⟩;exact clone_nil _ _ _
 |some ad=>
  rcases Nat.eq_zero_or_pos n with h0 |h0
  ·subst h0;obtain rfl:=List.eq_nil_of_length_eq_zero hn;refine(Tryz.slices_Clone_string_zero ad c w).mono ?_;rintro e w' ⟨v,he,h1,_,h2⟩;exact clone_of_row he h1 h2
  ·obtain⟨b,o,hA,hc⟩:=h.at h0;cases hA
   refine(Tryz.slices_Clone_string b o n c ls w (by omega) (by omega) (fun j hj=> ?_)).mono ?_
   ·rw [hc j _ (strCells_at hj),List.getD,List.getElem?_eq_getElem hj];rfl
   ·rintro e w' ⟨v,he,h1,_,h2⟩;rw [List.take_of_length_le (by omega)]at h1;exact clone_of_row he h1 h2
theorem FA.one (x:FA):∀v∈x.cells.toList,v.oneCell'=true:=by
 unfold FA.cells;intro v hv;simp only [List.mem_cons,List.not_mem_nil,or_false]at hv;rcases hv with rfl |rfl |rfl |rfl |rfl |rfl |rfl |rfl |rfl |rfl |rfl<;>rfl
structure Short (x:FA):Prop where
 scope:x.f.scope.length≤1000
 toks:x.ts.length≤1000
 leases:x.f.leases.length≤1000
 each:∀t∈x.ts,t.tok.scope.length≤1000
end Go.Proofs.YtopfcgpeaaehgaaGreatDoor
