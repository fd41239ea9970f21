/- Walks: slices copied, a family in memory of its own. Conditions: each theorem's own. -/
import Derived.Test.YtpmgepijkhaonaaGreatGm
import Derived.Test.YtpmgepijkhaonaaGreatGr
import Derived.Test.YtpmgepijkhaonaaGreatRow
namespace Go.Proofs.YtpmgepijkhaonaaGreat
open Go.RowKit Go.Sig
def RdX (w:World) (X:List Nat) (size:Nat) (A:Option Addr) (n:Nat) (xs:List Value):Prop:=Rd w size A n xs∧(0<n→Off X A)
theorem RdX.fr {w w':World}{X:List Nat}{s:Nat}{A:Option Addr}{n:Nat}{xs:List Value}(h:RdX w X s A n xs) (hF:Fr X w w'):RdX w' X s A n xs:=
 ⟨h.1.fr hF h.2,h.2⟩
theorem off_mono {X Y:List Nat}{A:Option Addr}(h:Off X A) (hS:∀g∈Y,g∈X):Off Y A:=fun ad e hg=>h ad e (hS _ hg)
theorem RdX.mono {w:World}{X Y:List Nat}{s:Nat}{A:Option Addr}{n:Nat}{xs:List Value}(h:RdX w X s A n xs) (hS:∀g∈Y,g∈X):RdX w Y s A n xs:=
 ⟨h.1,fun hn=>off_mono (h.2 hn) hS⟩
theorem RdX.nil (w:World) (X:List Nat) (s:Nat) (A:Option Addr):RdX w X s A 0 []:=⟨Rd.nil w s A,fun h=>absurd h (by omega)⟩
def intCells (l:List Int):List Value:=l.map (Value.int .i64)
theorem intCells_length (l:List Int):(intCells l).length=l.length:=List.length_map _
theorem intCells_one (l:List Int):∀u∈intCells l,u.oneCell'=true:=by
 intro u hu;obtain⟨s,_,rfl⟩:=List.mem_map.1 hu;rfl
structure TA where
 tok:GTok
 A:Option Addr
 c:Nat
def TA.cells (t:TA):List Value:= [.int .i64 t.tok.kind,.slice t.A t.tok.scope.length t.c,.bool t.tok.used]
def tokCells (l:List TA):List Value:=l.flatMap TA.cells
theorem tokCells_append (a b:List TA):tokCells (a++b)=tokCells a++tokCells b:=List.flatMap_append
theorem tokCells_one (l:List TA):∀u∈tokCells l,u.oneCell'=true:=by
 intro u hu;obtain⟨t,_,hu⟩:=List.mem_flatMap.1 hu;simp only [TA.cells,List.mem_cons,List.not_mem_nil,or_false]at hu;rcases hu with rfl |rfl |rfl<;>rfl
theorem tokCells_at:∀{l:List TA}{i:Nat}(h:i<l.length),(tokCells l)[i*3]? =some (.int .i64 l[i].tok.kind)∧(tokCells l)[i*3+1]? =some (.slice l[i].A l[i].tok.scope.length l[i].c)∧(tokCells l)[i*3+2]? =some (.bool l[i].tok.used)
 |t::l,0,_=>⟨rfl,rfl,rfl⟩
 |t::l,i+1,h=>by have:=tokCells_at (l:=l) (i:=i) (by simpa using h);have e:tokCells (t::l)= .int .i64 t.tok.kind:: .slice t.A t.tok.scope.length t.c:: .bool t.tok.used::tokCells l:=rfl;rw [e,show(i+1)*3=i*3+1+1+1 by omega];simpa using this
structure FA where
 f:GFam
 sA:Option Addr
 sc:Nat
 tA:Option Addr
 tc:Nat
 ts:List TA
 lA:Option Addr
 lc:Nat
def FA.cells (x:FA):Array Value:=#[.string x.f.id,.string x.f.client,.string x.f.user,.slice x.sA x.f.scope.length x.sc,.string x.f.redirect,.string x.f.challenge,.string x.f.method,.int .i64 x.f.code,.slice x.tA x.ts.length x.tc,.bool x.f.revoked,.slice x.lA x.f.leases.length x.lc]
def FA.val (x:FA):Value:= .agg x.cells
structure FamIn (w:World) (X:List Nat) (x:FA):Prop where
 ts:x.ts.map (·.tok)=x.f.tokens
 scope:RdX w X 1 x.sA x.f.scope.length (strCells x.f.scope)
 toks:RdX w X 3 x.tA x.ts.length (tokCells x.ts)
 leases:RdX w X 1 x.lA x.f.leases.length (intCells x.f.leases)
 each:∀t∈x.ts,RdX w X 1 t.A t.tok.scope.length (strCells t.tok.scope)
theorem FamIn.fr {w w':World}{X:List Nat}{x:FA}(h:FamIn w X x) (hF:Fr X w w'):FamIn w' X x:=
 ⟨h.ts,h.scope.fr hF,h.toks.fr hF,h.leases.fr hF,fun t ht=>(h.each t ht).fr hF⟩
theorem FamIn.mono {w:World}{X Y:List Nat}{x:FA}(h:FamIn w X x) (hS:∀g∈Y,g∈X):FamIn w Y x:=
 ⟨h.ts,h.scope.mono hS,h.toks.mono hS,h.leases.mono hS,fun t ht=>(h.each t ht).mono hS⟩
theorem FamIn.len {w:World}{X:List Nat}{x:FA}(h:FamIn w X x):x.ts.length=x.f.tokens.length:=by rw [←h.ts,List.length_map]
def zeroF:GFam:=⟨nilB,nilB,nilB,[],nilB,nilB,nilB,0,[],false,[]⟩
def zeroFA:FA:=⟨zeroF,none,0,none,0,[],none,0⟩
theorem zero_in (w:World) (X:List Nat):FamIn w X zeroFA:=
 ⟨rfl,RdX.nil _ _ _ _,RdX.nil _ _ _ _,RdX.nil _ _ _ _,fun t ht=>by cases ht⟩
def From (B:Nat) (A:Option Addr):Prop:=∀ad,A=some ad→B≤ad.block
theorem From.off {B:Nat}{A:Option Addr}{X:List Nat}(h:From B A) (hX:∀g∈X,g<B):Off X A:=fun ad e hg=>by
 have:=h ad e;have:=hX _ hg;omega
theorem From.mono {B C:Nat}{A:Option Addr}(h:From B A) (hC:C≤B):From C A:=fun ad e=>Nat.le_trans hC (h ad e)
def Apart (A C:Option Addr):Prop:=∀x y,A=some x→C=some y→x.block≠y.block
structure FamW (w:World) (B:Nat) (x:FA):Prop where
 ts:x.ts.map (·.tok)=x.f.tokens
 scope:Own w 9 1 (.slice x.sA x.f.scope.length x.sc) x.f.scope.length (strCells x.f.scope)
 toks:Own w 29 3 (.slice x.tA x.ts.length x.tc) x.ts.length (tokCells x.ts)
 leases:Own w 3 1 (.slice x.lA x.f.leases.length x.lc) x.f.leases.length (intCells x.f.leases)
 each:∀t∈x.ts,Own w 9 1 (.slice t.A t.tok.scope.length t.c) t.tok.scope.length (strCells t.tok.scope)
 fs:From B x.sA
 ft:From B x.tA
 fl:From B x.lA
 fe:∀t∈x.ts,From B t.A
 ts_:Apart x.tA x.sA
 tl:Apart x.tA x.lA
 te:∀t∈x.ts,Apart x.tA t.A
 ls:Apart x.lA x.sA
 le:∀t∈x.ts,Apart x.lA t.A
theorem FamW.len {w:World}{B:Nat}{x:FA}(h:FamW w B x):x.ts.length=x.f.tokens.length:=by rw [←h.ts,List.length_map]
theorem FamW.fam {w:World}{B:Nat}{x:FA}{X:List Nat}(h:FamW w B x) (hX:∀g∈X,g<B):FamIn w X x:=
 ⟨h.ts,⟨h.scope.rd,fun _=>h.fs.off hX⟩,⟨h.toks.rd,fun _=>h.ft.off hX⟩,⟨h.leases.rd,fun _=>h.fl.off hX⟩,fun t ht=>⟨(h.each t ht).rd,fun _=>(h.fe t ht).off hX⟩⟩
theorem rowOf_mem {A:Option Addr}{n c g:Nat}:g∈rowOf (.slice A n c)↔∃ad,A=some ad∧ad.block=g:=by
 cases A with
 |none=>simp [rowOf,Value.ownBlock]
 |some ad=>simp [rowOf,Value.ownBlock,eq_comm]
theorem FamW.fr0 {w w':World}{B:Nat}{x:FA}(h:FamW w B x) (hF:Fr [] w w'):FamW w' B x:=
 ⟨h.ts,h.scope.fr hF (by simp),h.toks.fr hF (by simp),h.leases.fr hF (by simp),fun t ht=>(h.each t ht).fr hF (by simp),h.fs,h.ft,h.fl,h.fe,h.ts_,h.tl,h.te,h.ls,h.le⟩
theorem FamW.below {w:World}{B C:Nat}{x:FA}(h:FamW w B x) (hC:C≤B):FamW w C x:=
 ⟨h.ts,h.scope,h.toks,h.leases,h.each,h.fs.mono hC,h.ft.mono hC,h.fl.mono hC,fun t ht=>(h.fe t ht).mono hC,h.ts_,h.tl,h.te,h.ls,h.le⟩
theorem FamW.fr {w w':World}{B:Nat}{x:FA}{S:List Nat}(h:FamW w B x) (hF:Fr S w w') (hS:∀g∈S,g<B):FamW w' B x:=by
 have off:∀{A:Option Addr}{n c:Nat},From B A→∀g,g∈rowOf (.slice A n c)→g∉S:=fun hA g hg hs=>by obtain⟨ad,rfl,rfl⟩:=rowOf_mem.1 hg;have:=hA _ rfl;have:=hS _ hs;omega
 exact⟨h.ts,h.scope.fr hF (off h.fs),h.toks.fr hF (off h.ft),h.leases.fr hF (off h.fl),fun t ht=>(h.each t ht).fr hF (off (h.fe t ht)),h.fs,h.ft,h.fl,h.fe,h.ts_,h.tl,h.te,h.ls,h.le⟩
structure AA where
 a:GAns
 A:Option Addr
 c:Nat
def AA.cells (y:AA):Array Value:=#[.int .i64 y.a.why,.int .i64 y.a.access,.int .i64 y.a.refresh,.slice y.A y.a.scope.length y.c,.string y.a.client,.string y.a.user,.bool y.a.active,.bool y.a.wait]
def AA.val (y:AA):Value:= .agg y.cells
def AA.slice (y:AA):Value:= .slice y.A y.a.scope.length y.c
def AnsIn (w:World) (B:Nat) (y:AA):Prop:=Own w 9 1 y.slice y.a.scope.length (strCells y.a.scope)∧From B y.A
def BkIn (w:World) (mb:Nat) (X:List Nat) (b:GBk):Prop:=∃l:List (ByteArray×FA),IsMap w mb Value.string FA.val l∧l.map (fun p=>(p.1,p.2.f))=b∧∀p∈l,FamIn w X p.2
theorem BkIn.lt {w:World}{mb:Nat}{X:List Nat}{b:GBk}(h:BkIn w mb X b):mb<w.heap.size:=by
 obtain⟨l,h,_⟩:=h;exact h.lt
theorem BkIn.fr {w w':World}{mb:Nat}{X S:List Nat}{b:GBk}(h:BkIn w mb X b) (hF:Fr S w w') (hS:∀g∈S,g∈X∨w.heap.size≤g) (hm:mb∉S):BkIn w' mb X b:=by
 obtain⟨l,h1,h2,h3⟩:=h;exact⟨l,h1.fr hF hm,h2,fun p hp=>(h3 p hp).fr (hF.mono' hS)⟩
theorem BkIn.mono {w:World}{mb:Nat}{X Y:List Nat}{b:GBk}(h:BkIn w mb X b) (hS:∀g∈Y,g∈X):BkIn w mb Y b:=by
 obtain⟨l,h1,h2,h3⟩:=h;exact⟨l,h1,h2,fun p hp=>(h3 p hp).mono hS⟩
theorem aget_fa {k:ByteArray}:∀(l:List (ByteArray×FA)),aget k (l.map fun p=>(p.1,p.2.f))=(aget k l).map (·.f)
 | []=>rfl
 |p::l=>by
  simp only [List.map_cons,aget];split
  ·rfl
  ·exact aget_fa l
theorem aset_fa {k:ByteArray}{x:FA}:∀(l:List (ByteArray×FA)),(aset k x l).map (fun p=>(p.1,p.2.f))=aset k x.f (l.map fun p=>(p.1,p.2.f))
 | []=>rfl
 |p::l=>by
  simp only [List.map_cons,aset];split
  ·rfl
  ·rw [List.map_cons,aset_fa l]
theorem adel_fa {k:ByteArray}:∀(l:List (ByteArray×FA)),(adel k l).map (fun p=>(p.1,p.2.f))=adel k (l.map fun p=>(p.1,p.2.f))
 | []=>rfl
 |p::l=>by
  simp only [List.map_cons,adel];split
  ·rfl
  ·rw [List.map_cons,adel_fa l]
end Go.Proofs.YtpmgepijkhaonaaGreat
namespace Go.Proofs.YtpmgepijkhaonaaGreat
open Go.RowKit Go.Sig
theorem own_of_row {w:World}{B e size n:Nat}{v:Value}{xs:List Value}(h:w.ownsRow B e size v n xs):∃A c,v= .slice A n c∧Own w e size v n xs∧From B A:=by
 obtain⟨h1,h2⟩:=h;rcases h2 with⟨rfl,rfl⟩ | ⟨g,cap,cur,rfl,hg,hh,r⟩
 ·exact⟨none,0,rfl,⟨h1,.inl ⟨rfl,rfl⟩⟩,fun ad e=>by(cases e)⟩
 ·exact⟨_,cap,rfl,⟨h1,.inr ⟨g,cap,cur,rfl,Nat.zero_le _,hh,r⟩⟩,fun ad e=>by(cases e;exact hg)⟩
def ClonePost (w:World) (e size n:Nat) (xs:List Value) (en:Ending) (w':World):Prop:=∃A c,en= .returned (.slice A n c)∧Own w' e size (.slice A n c) n xs∧From w.heap.size A∧Fr [] w w'
theorem clone_of_row {w w':World}{e size n:Nat}{xs:List Value}{v:Value}{en:Ending}(he:en= .returned v) (h:w'.ownsRow w.heap.size e size v n xs) (hb:Below w.heap.size w w'):ClonePost w e size n xs en w':=by
 obtain⟨A,c,rfl,h2,h3⟩:=own_of_row h;exact⟨A,c,he,h2,h3,Fr.of_below hb⟩
theorem clone_nil (w:World) (e size:Nat):ClonePost w e size 0 [] (.returned (.slice none 0 0)) w:=⟨none,0,rfl,Own.nil _ _ _,fun ad e=>by(cases e),Fr.refl _ _⟩
theorem rd_none {w:World}{size n:Nat}{xs:List Value}(h:Rd w size none n xs):n=0:=by
 rcases Nat.eq_zero_or_pos n with h0 |h0
 ·exact h0
 ·obtain⟨b,o,e,_⟩:=h.at h0;cases e
theorem cloneS_t (w:World) (A:Option Addr) (n c:Nat) (ls:List ByteArray) (h:Rd w 1 A n (strCells ls)) (hn:ls.length=n) (hmax:n≤8000000000000):
  Calls Tryz.prog 134 #[.slice A n c] w (ClonePost w 9 1 n (strCells ls)):=by
 cases A with
 |none=>obtain rfl:=rd_none h;obtain rfl:=List.eq_nil_of_length_eq_zero hn;refine(Tryz.slices_Clone_string_nil 0 c w).mono ?_;rintro e w' ⟨rfl,rfl⟩;exact clone_nil _ _ _
 |some ad=>
  rcases Nat.eq_zero_or_pos n with h0 |h0
  ·subst h0;obtain rfl:=List.eq_nil_of_length_eq_zero hn;refine(Tryz.slices_Clone_string_zero ad c w).mono ?_;rintro e w' ⟨v,he,h1,_,h2⟩;exact clone_of_row he h1 h2
  ·obtain⟨b,o,hA,hc⟩:=h.at h0;cases hA
   refine(Tryz.slices_Clone_string b o n c ls w (by omega) (by omega) (fun j hj=> ?_)).mono ?_
   ·rw [hc j _ (strCells_at hj),List.getD,List.getElem?_eq_getElem hj];rfl
   ·rintro e w' ⟨v,he,h1,_,h2⟩;rw [List.take_of_length_le (by omega)]at h1;exact clone_of_row he h1 h2
theorem intCells_at {l:List Int}{i:Nat}(h:i<l.length):(intCells l)[i]? =some (.int .i64 l[i]):=by
 unfold intCells;rw [List.getElem?_map,List.getElem?_eq_getElem h];rfl
theorem cloneI_t (w:World) (A:Option Addr) (n c:Nat) (ls:List Int) (h:Rd w 1 A n (intCells ls)) (hn:ls.length=n) (hmax:n≤8000000000000):
  Calls Tryz.prog 162 #[.slice A n c] w (ClonePost w 3 1 n (intCells ls)):=by
 cases A with
 |none=>obtain rfl:=rd_none h;obtain rfl:=List.eq_nil_of_length_eq_zero hn;refine(Tryz.slices_Clone_int_nil 0 c w).mono ?_;rintro e w' ⟨rfl,rfl⟩;exact clone_nil _ _ _
 |some ad=>
  rcases Nat.eq_zero_or_pos n with h0 |h0
  ·subst h0;obtain rfl:=List.eq_nil_of_length_eq_zero hn;refine(Tryz.slices_Clone_int_zero ad c w).mono ?_;rintro e w' ⟨v,he,h1,_,h2⟩;exact clone_of_row he h1 h2
  ·obtain⟨b,o,hA,hc⟩:=h.at h0;cases hA
   refine(Tryz.slices_Clone_int b o n c ls w (by omega) (by omega) (fun j hj=> ?_)).mono ?_
   ·rw [hc j _ (intCells_at hj),List.getD,List.getElem?_eq_getElem hj];rfl
   ·rintro e w' ⟨v,he,h1,_,h2⟩;rw [List.take_of_length_le (by omega)]at h1;exact clone_of_row he h1 h2
theorem tIss:SliceTy Tryz.prog 23 29 3 40 (.agg #[.int .i64 0,.slice none 0 0,.bool false]):=⟨by kernel_rfl,by kernel_rfl,rfl,by decide⟩
theorem cloneT_t (w:World) (A:Option Addr) (n c:Nat) (xs:List Value) (h:Rd w 3 A n xs) (h1:∀u∈xs,u.oneCell'=true) (hn:n≤1048576):
  Calls Tryz.prog 163 #[.slice A n c] w (ClonePost w 29 3 n xs):=by
 cases A with
 |none=>obtain rfl:=rd_none h;obtain rfl:=List.eq_nil_of_length_eq_zero (h.1.trans (by omega));have hq:=Lib.run_eql_slice_nil (P:=Tryz.prog) w 23 29 none 0 c 0 0 tIss.ty;go_enter Tryz.func163,Tryz.ntmps163;go_wp2;go_ret;exact clone_nil _ _ _
 |some ad=>
  have hq:=fun w=>Lib.run_eql_slice_nil (P:=Tryz.prog) w 23 29 (some ad) n c 0 0 tIss.ty;go_enter Tryz.func163,Tryz.ntmps163;have hown:Own (w.alloc (.cells #[] 29)) 29 3 (.slice (some ⟨w.heap.size,0,none⟩) 0 0) 0 []:=Own.made w #[] 29 3 0 0 (by omega) (by decide) rfl;have hr:Rd (w.alloc (.cells #[] 29)) 3 (some ad) n xs:=h.fr ((Fr.refl [] w).alloc _) (fun _ _ _=>by simp);go_wp2_with (refine wpList_own_append tIss hown hr h1 (by simp) (by unfold maxLen;omega) (by omega) rfl rfl rfl rfl (fun v' w2 h1 h2 h3=> ?_))
  go_ret;have h1':Own w2 29 3 v' n xs:=by simpa using h1
  obtain⟨A',c',rfl,hA⟩:=h1'.form;refine⟨A',c',rfl,h1',fun ad e=> ?_,((Fr.refl [] w).alloc _).andThen h2 (by simp [rowOf,Value.ownBlock])⟩;subst e;have:=h3 ad.block (by simp [rowOf,Value.ownBlock]);simp [rowOf,Value.ownBlock]at this;omega
theorem uFam:Tryz.prog.underlying 26=some (.struct (Tryz.prog.fieldsOf 26)):=by kernel_rfl
theorem infoFam {a0 a1 a2 a3 a4 a5 a6 a7 a8 a9 a10:Value}:(Tryz.prog.info? 26).map (·.size)=some (#[a0,a1,a2,a3,a4,a5,a6,a7,a8,a9,a10]:Array Value).size:=by kernel_rfl
theorem infoFamL (x:FA):(Tryz.prog.info? 26).map (·.size)=some x.cells.toList.length:=by unfold FA.cells;kernel_rfl
theorem FA.one (x:FA):∀v∈x.cells.toList,v.oneCell'=true:=by
 unfold FA.cells;intro v hv;simp only [List.mem_cons,List.not_mem_nil,or_false]at hv;rcases hv with rfl |rfl |rfl |rfl |rfl |rfl |rfl |rfl |rfl |rfl |rfl<;>rfl
theorem fam_cells {w:World}{g:Nat}{ty:TypeId}{x:FA}(h:Blk w g ty x.cells):
  w.cell? ⟨g,0,none⟩=some (.string x.f.id)∧w.cell? ⟨g,1,none⟩=some (.string x.f.client)∧w.cell? ⟨g,2,none⟩=some (.string x.f.user)∧w.cell? ⟨g,3,none⟩=some (.slice x.sA x.f.scope.length x.sc)∧w.cell? ⟨g,4,none⟩=some (.string x.f.redirect)∧
  w.cell? ⟨g,5,none⟩=some (.string x.f.challenge)∧w.cell? ⟨g,6,none⟩=some (.string x.f.method)∧w.cell? ⟨g,7,none⟩=some (.int .i64 x.f.code)∧w.cell? ⟨g,8,none⟩=some (.slice x.tA x.ts.length x.tc)∧w.cell? ⟨g,9,none⟩=some (.bool x.f.revoked)∧
  w.cell? ⟨g,10,none⟩=some (.slice x.lA x.f.leases.length x.lc)∧g<w.heap.size:=
 ⟨h.cell 0,h.cell 1,h.cell 2,h.cell 3,h.cell 4,h.cell 5,h.cell 6,h.cell 7,h.cell 8,h.cell 9,h.cell 10,h.lt⟩
structure Short (x:FA):Prop where
 scope:x.f.scope.length≤1000
 toks:x.ts.length≤1000
 leases:x.f.leases.length≤1000
 each:∀t∈x.ts,t.tok.scope.length≤1000
theorem own_set {w:World}{e size n c g j:Nat}{xs:List Value}{v:Value}(h:Own w e size (.slice (some ⟨g,0,none⟩) n c) n xs) (_hj:j<n*size):Own (w.setCell ⟨g,j,none⟩ v) e size (.slice (some ⟨g,0,none⟩) n c) n (xs.set j v):=by
 rcases h.2 with⟨hv,_⟩ | ⟨g',cap,cur,hv,_,hh,hnc,hcm,hcs,htk⟩
 ·injection hv with hv _ _
  cases hv
 ·injection hv with hv1 _ hv3
  injection hv1 with hv1
  injection hv1 with hv1 _ _
  subst hv1 hv3;have hB:Blk w g e cur:=hh;have hle:n*size≤c*size:=Nat.mul_le_mul_right _ hnc;refine⟨by rw [List.length_set];exact h.1,.inr ⟨g,c,_,rfl,Nat.zero_le _,hB.set j v,hnc,hcm,by rw [Array.size_setIfInBounds];exact hcs,?_⟩⟩;rw [←htk,Array.toList_setIfInBounds,List.take_set]
theorem tokCells_set:∀{l:List TA}{i:Nat}(h:i<l.length) (A:Option Addr) (c:Nat),tokCells (l.set i ⟨l[i].tok,A,c⟩)=(tokCells l).set (i*3+1) (.slice A l[i].tok.scope.length c)
 |t::l,0,_,_,_=>rfl
 |t::l,i+1,h,A,c=>by have:=tokCells_set (l:=l) (i:=i) (by simpa using h) A c;have e:∀(t:TA) l,tokCells (t::l)= .int .i64 t.tok.kind:: .slice t.A t.tok.scope.length t.c:: .bool t.tok.used::tokCells l:=fun _ _=>rfl;rw [zF,e,e,show(i+1)*3+1=i*3+1+1+1+1 by omega];simpa using this
theorem own_cast {w:World}{e size n c k m:Nat}{A:Option Addr}{xs:List Value}(h:Own w e size (.slice A n c) n xs) (hk:k=n) (hm:m=k:=by rfl):Own w e size (.slice A k c) m xs:=by
 subst hk hm;exact h
theorem frozen_fr {w w':World}{S:List Nat}(h:Fr S w w') {g j:Nat}(hg:g<w.heap.size) (hn:g∉S):w'.frozen? ⟨g,j,none⟩=w.frozen? ⟨g,j,none⟩:=by simp [World.frozen?,h.block g hg hn]
theorem rowOf_some (g o n c:Nat):rowOf (.slice (some ⟨g,o,none⟩) n c)= [g]:=rfl
theorem rowOf_off {A:Option Addr}{n c:Nat}{X:List Nat}(h:∀ad,A=some ad→ad.block∉X):∀g,g∈rowOf (.slice A n c)→g∉X:=fun g hg=>by
 obtain⟨ad,e,rfl⟩:=rowOf_mem.1 hg;exact h ad e
def OwnPost (w:World) (f:GFam) (e:Ending) (w':World):Prop:=∃y:FA,e= .returned y.val∧y.f=f∧FamW w' w.heap.size y∧Fr [] w w'
set_option maxRecDepth 100000 in
set_option maxHeartbeats 4000000 in
theorem own_t (w:World) (x:FA) (hx:FamIn w [] x) (hs:Short x):Calls Tryz.prog 113 #[x.val] w (OwnPost w x.f):=by
 obtain⟨f,sA,sc,tA,tc,ts,lA,lc⟩:=x;obtain⟨id,client,user,scope,redirect,challenge,method,code,tokens,revoked,leases⟩:=f;obtain⟨hts,⟨hsc,_⟩,⟨htk,_⟩,⟨hle,_⟩,hea⟩:=hx;obtain⟨s1,s2,s3,s4⟩:=hs;simp only at hts hsc htk hle hea s1 s2 s3 s4;have htsh:=zh hts;have heah:=zh hea;have s4h:=zh s4;have hsch:=zh hsc;have htkh:=zh htk;have hleh:=zh hle;clear hts hea s4 hsc htk hle;unfold FA.val FA.cells;dsimp only;obtain⟨sn,hsn⟩:∃z,Hid (scope.length=z):=⟨_,zh rfl⟩
 obtain⟨tn,htn⟩:∃z,Hid (ts.length=z):=⟨_,zh rfl⟩
 obtain⟨ln,hln⟩:∃z,Hid (leases.length=z):=⟨_,zh rfl⟩
 rw [hsn.o]at hsch s1⊢;rw [htn.o]at htkh s2⊢;rw [hln.o]at hleh s3⊢;have hzs:∃zs:Array Value,zs.size=11∧Hid (zs=zeroFA.cells):=⟨_,rfl,zh rfl⟩
 obtain⟨zs,hz,hzh⟩:=hzs;go_enter Tryz.func113,Tryz.ntmps113;go_upto_region 1 with(fail)
 refine wp_gen (fun W=>Blk W w.heap.size 26 #[.string id,.string client,.string user,.slice sA sn sc,.string redirect,.string challenge,.string method,.int .i64 code,.slice tA tn tc,.bool revoked,.slice lA ln lc]∧Blk W (w.heap.size+1) 26 zs∧Fr [] w W) ⟨(Blk.new _ _ _).alloc _,by rw [hzh.o];exact Blk.new' _ _ (by simp),((Fr.refl _ _).alloc _).alloc _⟩ ?_;rintro W ⟨hB,hR,fW⟩;obtain⟨gf,HGF⟩:∃z,Hid (w.heap.size=z):=⟨_,zh rfl⟩
 rw [HGF.o]at hB hR⊢;obtain⟨gr,HGR⟩:∃z,Hid (gf+1=z):=⟨_,zh rfl⟩
 rw [HGR.o]at hR⊢;have hne:gf≠gr:=by have:=HGR.o;omega
 have hgw:w.heap.size≤gf:=by have:=HGF.o;omega
 have hgr:w.heap.size≤gr:=by have:=HGF.o;have:=HGR.o;omega
 have c3:=hB.cell 3;have c8:=hB.cell 8;have c10:=hB.cell 10;simp only [zG,zH,zI]at c3 c8 c10;have hgl:=hB.lt;refine wp_region_z (fun w'=>w'.cell? ⟨gf,3,none⟩=some (.slice sA sn sc)∧w'.cell? ⟨gf,8,none⟩=some (.slice tA tn tc)∧w'.cell? ⟨gf,10,none⟩=some (.slice lA ln lc)) [10,11,12,13,14] (by kernel_rfl) ⟨c3,c8,c10⟩ ?_;intro hHeld;refine wpZ_tk (i:=0) (v:= ?_) hHeld ?_ ?_;rotate_left
 ·(intro w hSw;go_simp<;>with_reducible rfl)
 try simp only [Act.put,zD]
 refine wpZ_tk (i:=1) (v:= ?_) hHeld ?_ ?_;rotate_left
 ·(intro w hSw;go_simp<;>with_reducible rfl)
 try simp only [Act.put]
 refine wpZ_tk (i:=3) (v:= ?_) hHeld ?_ ?_;rotate_left
 ·(intro w hSw;go_simp<;>with_reducible rfl)
 try simp only [Act.put]
 refine wpZ_tk (i:=4) (v:= ?_) hHeld ?_ ?_;rotate_left
 ·(intro w hSw;go_simp<;>with_reducible rfl)
 try simp only [Act.put]
 refine wpZ_tk (i:=6) (v:= ?_) hHeld ?_ ?_;rotate_left
 ·(intro w hSw;go_simp<;>with_reducible rfl)
 try simp only [Act.put]
 refine wpZ_tk (i:=7) (v:= ?_) hHeld ?_ ?_;rotate_left
 ·(intro w hSw;go_simp<;>with_reducible rfl)
 try simp only [Act.put]
 refine wpZ_one (i:=2) (by kernel_rfl) rfl (fun K hK=> ?_);go_simp;refine(cloneS_t W.drew sA sn sc scope (Rd.fr hsch.o fW.drew (by simp [Off])) hsn.o (by omega)).mono ?_;rintro e W2 ⟨sA2,sc2,rfl,hO2,hA2,f2⟩;have f2:Fr [] W W2:=f2.of_drew;dsimp only;refine hK.out _ _ ⟨cell_fr f2 c3,cell_fr f2 c8,cell_fr f2 c10⟩ (fun hHeld=> ?_);clear hK K;try simp only [Act.put,zD,zE,zF]
 refine wpZ_tk (i:=9) (v:= ?_) hHeld ?_ ?_;rotate_left
 ·(intro w hSw;go_simp<;>with_reducible rfl)
 try simp only [Act.put,zD]
 refine wpZ_one (i:=5) (by kernel_rfl) rfl (fun K hK=> ?_);go_simp;refine(cloneI_t W2 lA ln lc leases (Rd.fr hleh.o (fW.trans f2) (by simp [Off])) hln.o (by omega)).mono ?_;rintro e W3 ⟨lA3,lc3,rfl,hO3,hA3,f3⟩;have f23:=f2.trans f3;dsimp only;refine hK.out _ _ ⟨cell_fr f23 c3,cell_fr f23 c8,cell_fr f23 c10⟩ (fun hHeld=> ?_);clear hK K;try simp only [Act.put,zD,zE,zF]
 refine wpZ_one (i:=8) (by kernel_rfl) rfl (fun K hK=> ?_);go_simp;refine(cloneT_t W3 tA tn tc (tokCells ts) (Rd.fr htkh.o (fW.trans f23) (by simp [Off])) (tokCells_one ts) (by omega)).mono ?_;rintro e W4 ⟨tA4,tc4,rfl,hO4,hA4,f4⟩;have f24:=f23.trans f4;have hB4:=hB.fr f24 (by simp);have d3:=hB4.cell 3;have d8:=hB4.cell 8;have d10:=hB4.cell 10;simp only [zG,zH,zI]at d3 d8 d10;have q3:=hB4.frozen 3;have q8:=hB4.frozen 8;have q10:=hB4.frozen 10;have hgl4:=hB4.lt;dsimp only;refine hK.out _ _ ⟨cell_fr f24 c3,cell_fr f24 c8,cell_fr f24 c10⟩ (fun hHeld=> ?_);clear hK K;try simp only [Act.put,zD,zE,zF]
 refine wpZ_end (i:=10) (by kernel_rfl) rfl rfl (fun K hK=> ?_);go_simp;refine hK.out _ _ ?_;clear hK K;try simp only [Act.put,zD,zE,zF]
 refine wpZ_end (i:=11) (by kernel_rfl) rfl rfl (fun K hK=> ?_);go_simp;refine hK.out _ _ ?_;clear hK K;try simp only [Act.put,zD,zE,zF]
 refine wpZ_end (i:=12) (by kernel_rfl) rfl rfl (fun K hK=> ?_);go_simp;refine hK.out _ _ ?_;clear hK K;try simp only [Act.put,zD,zE,zF]
 refine wpZ_end (i:=13) (by kernel_rfl) rfl rfl (fun K hK=> ?_);go_simp;refine hK.out _ _ ?_;clear hK K;try simp only [Act.put,zD,zE,zF]
 refine wpZ_end (i:=14) (by kernel_rfl) rfl rfl (fun K hK=> ?_);go_simp;refine hK.out _ _ ?_;clear hK K;try simp only [Act.put,zD,zE,zF]
 refine wpZ_done (by kernel_rfl) ?_ _;go_upto_region 2 with(fail)
 have hB5a:=((hB4.set 3 (.slice sA2 sn sc2)).set 10 (.slice lA3 ln lc3)).set 8 (.slice tA4 tn tc4);have hR5a:=(((hR.fr f24 (by simp)).far (p:=⟨gf,3,none⟩) (Ne.symm hne) (.slice sA2 sn sc2)).far (p:=⟨gf,10,none⟩) (Ne.symm hne) (.slice lA3 ln lc3)).far (p:=⟨gf,8,none⟩) (Ne.symm hne) (.slice tA4 tn tc4);simp only [zD,zE,zF]at hB5a;have F45:Fr [gf] W4 (((W4.setCell ⟨gf,3,none⟩ (.slice sA2 sn sc2)).setCell ⟨gf,10,none⟩ (.slice lA3 ln lc3)).setCell ⟨gf,8,none⟩ (.slice tA4 tn tc4)):=
  (((Fr.refl [gf] W4).setCell (p:=⟨gf,3,none⟩) (.inl (by simp)) _).setCell (p:=⟨gf,10,none⟩) (.inl (by simp)) _).setCell (p:=⟨gf,8,none⟩) (.inl (by simp)) _
 have hW0:gf<W.heap.size:=hgl;have hW1:gr<W.heap.size:=hR.lt;have hAS:From W.heap.size sA2:=hA2;have hAL:From W.heap.size lA3:=hA3.mono f2.size;have hAT:From W.heap.size tA4:=hA4.mono f23.size;have offg:∀{A:Option Addr}{n c:Nat},From W.heap.size A→∀g,g∈rowOf (.slice A n c)→g∉ [gf]:=fun hA=>rowOf_off (fun ad e=>by have:=hA ad e;simp;omega);refine wp_gen (fun W5=>Blk W5 gf 26 #[.string id,.string client,.string user,.slice sA2 sn sc2,.string redirect,.string challenge,.string method,.int .i64 code,.slice tA4 tn tc4,.bool revoked,.slice lA3 ln lc3]∧Blk W5 gr 26 zs∧
  Own W5 9 1 (.slice sA2 sn sc2) sn (strCells scope)∧Own W5 3 1 (.slice lA3 ln lc3) ln (intCells leases)∧Own W5 29 3 (.slice tA4 tn tc4) tn (tokCells ts)∧Fr [] w W5∧W4.heap.size≤W5.heap.size)
  ⟨hB5a,hR5a,((hO2.fr (f3.trans f4) (by simp)).fr F45 (offg hAS)),((hO3.fr f4 (by simp)).fr F45 (offg hAL)),hO4.fr F45 (offg hAT),(fW.trans f24).andThen F45 (fun x hx=> .inr (by simp at hx;omega)),F45.size⟩ ?_
 rintro W5 ⟨hB5,hR5,hOS,hOL,hOT,f5,hs5⟩;have apTS:Apart tA4 sA2:=fun x y ex ey=>by have h1:=hA4 x ex;have h2:=hO2.lt y.block (rowOf_mem.2 ⟨y,ey,rfl⟩);have h3:=f3.size;omega
 have apTL:Apart tA4 lA3:=fun x y ex ey=>by have h1:=hA4 x ex;have h2:=hO3.lt y.block (rowOf_mem.2 ⟨y,ey,rfl⟩);omega
 have apLS:Apart lA3 sA2:=fun x y ex ey=>by have h1:=hA3 x ex;have h2:=hO2.lt y.block (rowOf_mem.2 ⟨y,ey,rfl⟩);omega
 have hTL:∀ad,tA4=some ad→ad.block<W5.heap.size:=fun ad e=>hOT.lt _ (rowOf_mem.2 ⟨ad,e,rfl⟩);have hLL:∀ad,lA3=some ad→ad.block<W5.heap.size:=fun ad e=>hOL.lt _ (rowOf_mem.2 ⟨ad,e,rfl⟩);have apTSh:=zh apTS;have apTLh:=zh apTL;have apLSh:=zh apLS;have hASh:=zh hAS;have hALh:=zh hAL;have hATh:=zh hAT;have hTLh:=zh hTL;have hLLh:=zh hLL;have hOSh:=zh hOS;have hOLh:=zh hOL;have f5h:=zh f5;have hWw:w.heap.size≤W.heap.size:=fW.size;have hB5s:W.heap.size≤W5.heap.size:=Nat.le_trans f24.size hs5;obtain⟨B0,hB0⟩:∃z,Hid (W.heap.size=z):=⟨_,zh rfl⟩
 rw [hB0.o]at hASh hALh hATh hWw hW0 hW1 hB5s;clear hB5a hR5a hHeld c3 c8 c10 d3 d8 d10 q3 q8 q10 hgl4 hB4 hB hR hO2 hO3 hO4 hA2 hA3 hA4 hAS hAL hAT apTS apTL apLS f2 f3 f4 f23 f24 F45 hTL hLL hOS hOL offg hgl fW f5 hs5;have c8:=hB5.cell 8;simp only [zG,zH,zI]at c8;have hgl5:=hB5.lt;have hrl5:=hR5.lt;have hOTh:=zh hOT;have hB5h:=zh hB5;have hR5h:=zh hR5;clear hOT hB5 hR5;go_wp2_with fail
 go_loopg [19] (tn+1) (fun gk s19 wr=>∃(i:Nat) (ts':List TA),s19= .int .i64 i∧i≤tn∧tn - i<gk∧ts'.length=tn∧ts'.map (·.tok)=ts.map (·.tok)∧(∀j,i≤j→ts'[j]? =ts[j]?)∧
  Own wr 29 3 (.slice tA4 tn tc4) tn (tokCells ts')∧(∀j t,j<i→ts'[j]? =some t→Own wr 9 1 (.slice t.A t.tok.scope.length t.c) t.tok.scope.length (strCells t.tok.scope)∧From W5.heap.size t.A)∧Fr (rowOf (.slice tA4 tn tc4)) W5 wr)
 case atStart=>exact⟨0,ts,rfl,Nat.zero_le _,by omega,htn.o,rfl,fun _ _=>rfl,hOTh.o,fun j t hj=>absurd hj (by omega),Fr.refl _ _⟩
 case round=>
  clear c8 hgl5 hrl5;obtain⟨i,ts',rfl,hi,hk,hl',hmp,hsm,hO,hnw,hF⟩:=hrel;have hmph:=zh hmp;have hsmh:=zh hsm;have hnwh:=zh hnw;have hOh:=zh hO;have hFh:=zh hF;have offS:∀g,g∈rowOf (.slice tA4 tn tc4)→gf≠g∧gr≠g:=fun g hg=>by obtain⟨ad,e,rfl⟩:=rowOf_mem.1 hg;have:=hATh.o ad e;omega
  have hBr:=hB5h.o.fr hF (fun hg=>(offS _ hg).1 rfl);have c8:=hBr.cell 8;simp only [zG,zH,zI]at c8;have hgl:=hBr.lt;by_cases hlt:i<tn
  ·have hlt':(i:Int)<tn:=by omega
   have hi':i<ts'.length:=by omega
   obtain⟨gt,o,hAA,hcell⟩:=hO.rd.at (by omega);have hform:∃g,tA4=some ⟨g,0,none⟩:=by
    obtain⟨A',c',e1,e2⟩:=hO.form;injection e1 with e1 _ _
    rcases e2 with e2 | ⟨g,e2,_⟩
    ·rw [e1,e2]at hAA;cases hAA
    ·exact⟨g,e1.trans e2⟩
   obtain⟨g0,rfl⟩:=hform;cases hAA
   have hcl:=hcell _ _ (tokCells_at hi').2.1;rw [Nat.zero_add]at hcl;have hget:ts[i]? =some ts'[i]:=by rw [←hsm i (Nat.le_refl _)];exact List.getElem?_eq_getElem hi'
   have hmem:ts'[i]∈ts:=List.mem_of_getElem? hget;have hsz:=s4h.o _ hmem;have hrd:Rd wr 1 ts'[i].A ts'[i].tok.scope.length (strCells ts'[i].tok.scope):=((heah.o _ hmem).1.fr f5h.o (by simp [Off])).fr (hF.mono' (fun g hg=>by
    have e:g=gt:=by simpa [rowOf,Value.ownBlock]using hg
    exact .inl (by rw [e];simp))) (S:= [gt]) (fun h0 ad e=>by
     have h1:=(heah.o _ hmem).1.lt (by omega) h0 ad e;have h2:=hATh.o _ rfl;simp at h2⊢;omega)
   have hcs:=tokCells_set hi';have hcsh:=zh hcs;have hgeth:=zh hget;clear hcs hcell hsm hmp hnw hget hmem;obtain⟨t,ht⟩:∃z,Hid (ts'[i]=z):=⟨_,zh rfl⟩
   rw [ht.o]at hcl hrd hsz;have hfz:wr.frozen? ⟨gt,i*3+1,none⟩=false:=by
    rcases hO.2 with⟨hv,_⟩ | ⟨g',cap,cur,hv,_,hh,_⟩
    ·cases hv
    ·injection hv with hv1 _ _
     injection hv1 with hv1
     injection hv1 with hv1 _ _
     subst hv1;exact(show Blk wr gt 29 cur from hh).frozen _
   have hgt:gt<wr.heap.size:=hO.lt gt (by simp [rowOf,Value.ownBlock]);have hrdh:=zh hrd;clear hO hF hrd;have hgtf:gt≠gf:=fun e=>(offS gt (by simp [rowOf,Value.ownBlock])).1 e.symm;go_upto_region 5 with(fail)
   refine wp_region_z (fun w'=>w'.cell? ⟨gf,8,none⟩=some (.slice (some ⟨gt,0,none⟩) tn tc4)∧w'.cell? ⟨gt,i*3+1,none⟩=some (.slice t.A t.tok.scope.length t.c)) [10,11,12] (by kernel_rfl) ⟨c8,hcl⟩ ?_;intro hHeld;refine wpZ_tk (i:=0) (v:= ?_) hHeld ?_ ?_;rotate_left
   ·(intro w hSw;go_simp<;>with_reducible rfl)
   try simp only [Act.put,zD]
   refine wpZ_tk (i:=1) (v:= ?_) hHeld ?_ ?_;rotate_left
   ·(intro w hSw;go_simp<;>with_reducible rfl)
   try simp only [Act.put]
   refine wpZ_tk (i:=2) (v:= ?_) hHeld ?_ ?_;rotate_left
   ·(intro w hSw;go_simp<;>with_reducible rfl)
   try simp only [Act.put]
   refine wpZ_tk (i:=3) (v:= ?_) hHeld ?_ ?_;rotate_left
   ·(intro w hSw;go_simp<;>with_reducible rfl)
   try simp only [Act.put]
   refine wpZ_tk (i:=4) (v:= ?_) hHeld ?_ ?_;rotate_left
   ·(intro w hSw;go_simp<;>with_reducible rfl)
   try simp only [Act.put]
   refine wpZ_tk (i:=5) (v:= ?_) hHeld ?_ ?_;rotate_left
   ·(intro w hSw;go_simp<;>with_reducible rfl)
   try simp only [Act.put]
   refine wpZ_tk (i:=6) (v:= ?_) hHeld ?_ ?_;rotate_left
   ·(intro w hSw;go_simp<;>with_reducible rfl)
   try simp only [Act.put]
   refine wpZ_tk (i:=7) (v:= ?_) hHeld ?_ ?_;rotate_left
   ·(intro w hSw;go_simp<;>with_reducible rfl)
   try simp only [Act.put]
   refine wpZ_tk (i:=8) (v:= ?_) hHeld ?_ ?_;rotate_left
   ·(intro w hSw;go_simp<;>with_reducible rfl)
   try simp only [Act.put]
   refine wpZ_one (i:=9) (by kernel_rfl) rfl (fun K hK=> ?_);go_simp;refine(cloneS_t wr.drew t.A _ t.c t.tok.scope hrdh.o rfl (by omega)).mono ?_;rintro e W6 ⟨A6,c6,rfl,hO6,hA6,f6⟩;have f6:Fr [] wr W6:=f6.of_drew;have hz6:W6.frozen? ⟨gt,i*3+1,none⟩=false:=(frozen_fr f6 hgt (by simp)).trans hfz;have hc6:=cell_fr f6 hcl;have hgt6:gt<W6.heap.size:=Nat.lt_of_lt_of_le hgt f6.size;dsimp only;refine hK.out _ _ ⟨cell_fr f6 c8,hc6⟩ (fun hHeld=> ?_);clear hK K;try simp only [Act.put,zD,zE,zF]
   refine wpZ_end (i:=10) (by kernel_rfl) rfl rfl (fun K hK=> ?_);go_simp;refine hK.out _ _ ?_;clear hK K;try simp only [Act.put,zD,zE,zF]
   refine wpZ_end (i:=11) (by kernel_rfl) rfl rfl (fun K hK=> ?_);go_simp;refine hK.out _ _ ?_;clear hK K;try simp only [Act.put,zD,zE,zF]
   refine wpZ_end (i:=12) (by kernel_rfl) rfl rfl (fun K hK=> ?_);go_simp;refine hK.out _ _ ?_;clear hK K;try simp only [Act.put,zD,zE,zF]
   refine wpZ_done (by kernel_rfl) ?_ _;go_wp2_with fail
   go_roundg (tn - i)
   case measure=>omega
   case rel=>
    have hOw:=own_set (j:=i*3+1) (v:= .slice A6 t.tok.scope.length c6) (hOh.o.fr f6 (by simp)) (by omega);have hFw:Fr [gt] W6 (W6.setCell ⟨gt,i*3+1,none⟩ (.slice A6 t.tok.scope.length c6)):=(Fr.refl [gt] W6).setCell (p:=⟨gt,i*3+1,none⟩) (.inl (by simp)) _;have hset:=hcsh.o A6 c6;rw [ht.o]at hset;have hnew:∀{A:Option Addr},From W5.heap.size A→∀ad,A=some ad→ad.block∉ [gt]:=fun hA ad e=>by have h1:=hA ad e;have h2:=hTLh.o _ rfl;simp at h2⊢;omega
    refine⟨i+1,ts'.set i ⟨t.tok,A6,c6⟩,by go_num,by omega,by omega,by rw [List.length_set];exact hl',?_,fun j hj=> ?_,by rw [hset];exact hOw,fun j t2 hj h2=> ?_,?_⟩
    ·rw [←hmph.o,List.map_set];apply List.ext_getElem?;intro j;rw [List.getElem?_set];split
     ·rename_i e;subst e;simp [hi',ht.o]
     ·rfl
    ·rw [List.getElem?_set,if_neg (by omega)];exact hsmh.o j (by omega)
    ·rw [List.getElem?_set]at h2;split at h2
     ·rename_i e;subst e;obtain rfl:=Option.some.inj h2;have hA6':From W5.heap.size A6:=hA6.mono hFh.o.size;exact⟨hO6.fr hFw (rowOf_off (hnew hA6')),hA6'⟩
     ·obtain⟨k1,k2⟩:=hnwh.o j t2 (by omega) h2;exact⟨(k1.fr f6 (by simp)).fr hFw (rowOf_off (hnew k2)),k2⟩
    ·exact(hFh.o.trans f6.nil).trans (by rw [rowOf_some];exact hFw)
  ·obtain rfl:i=tn:=by omega
   have hge:¬(i:Int)<i:=by omega
   have hRr:=hR5h.o.fr hF (fun hg=>(offS _ hg).2 rfl);have hrl:=hRr.lt;clear hO hF hsm hmp hnw;go_wp2_with (first | (refine wpList_load_at rfl 26 _ rfl rfl hBr (sub_self _) uFam rfl infoFam ?_) | (refine wpList_store_row rfl 26 _ _ rfl gr _ rfl rfl 26 zs hRr infoFam (by rw [hz];rfl) (by kernel_rfl) ?_))
   refine bodyPost_ret (results_cell_row rfl _ _ gr 26 _ (0,0) _ rfl (Blk.setRow hRr _) uFam rfl infoFam) rfl ?_;have hmp:=hmph.o;rw [htsh.o]at hmp;have hlast:∀t∈ts',Own wr 9 1 (.slice t.A t.tok.scope.length t.c) t.tok.scope.length (strCells t.tok.scope)∧From W5.heap.size t.A:=fun t ht=>by obtain⟨j,hj,rfl⟩:=List.mem_iff_getElem.1 ht;exact hnwh.o j _ (by omega) (List.getElem?_eq_getElem hj)
   have hFg:Fr [gr] wr (wr.setRow gr #[.string id,.string client,.string user,.slice sA2 sn sc2,.string redirect,.string challenge,.string method,.int .i64 code,.slice tA4 i tc4,.bool revoked,.slice lA3 ln lc3]):=(Fr.refl [gr] wr).setRow (.inl (by simp)) _;have offr:∀{A:Option Addr}{n c:Nat},From B0 A→∀g,g∈rowOf (.slice A n c)→g∉ [gr]:=fun hA=>rowOf_off (fun ad e=>by have:=hA ad e;have:=HGR.o;simp;omega);have offt:∀{A:Option Addr}{n c:Nat},Apart tA4 A→∀g,g∈rowOf (.slice A n c)→g∉rowOf (.slice tA4 i tc4):=fun hA=>rowOf_off (fun ad e hg=>by
    obtain⟨ad2,e2,h2⟩:=rowOf_mem.1 hg;exact hA ad2 ad e2 e h2)
   have hfr:∀{A:Option Addr},From W5.heap.size A→From B0 A:=fun hA=>hA.mono (by omega);refine⟨⟨⟨id,client,user,scope,redirect,challenge,method,code,tokens,revoked,leases⟩,sA2,sc2,tA4,tc4,ts',lA3,lc3⟩,?_,rfl,⟨hmp,?_,?_,?_,fun t ht=> ?_,?_,?_,?_,fun t ht=> ?_,apTSh.o,apTLh.o,fun t ht x y ex ey=> ?_,apLSh.o,fun t ht x y ex ey=> ?_⟩,?_⟩
   ·unfold FA.val FA.cells;dsimp only;rw [hsn.o,hl',hln.o]
   ·exact own_cast ((hOSh.o.fr hFh.o (offt apTSh.o)).fr hFg (offr hASh.o)) hsn.o
   ·exact own_cast (hOh.o.fr hFg (offr hATh.o)) hl'
   ·exact own_cast ((hOLh.o.fr hFh.o (offt apTLh.o)).fr hFg (offr hALh.o)) hln.o
   ·exact(hlast t ht).1.fr hFg (offr (hfr (hlast t ht).2))
   ·exact hASh.o.mono hWw
   ·exact hATh.o.mono hWw
   ·exact hALh.o.mono hWw
   ·exact(hfr (hlast t ht).2).mono hWw
   ·have h1:=(hlast t ht).2 y ey;have h2:=hTLh.o x ex;omega
   ·have h1:=(hlast t ht).2 y ey;have h2:=hLLh.o x ex;omega
   ·exact(f5h.o.andThen hFh.o (fun g hg=>by
     obtain⟨ad,e,rfl⟩:=rowOf_mem.1 hg;have:=hATh.o ad e;exact .inr (by omega))).andThen hFg (fun g hg=> .inr (by simp at hg;omega))
end Go.Proofs.YtpmgepijkhaonaaGreat
