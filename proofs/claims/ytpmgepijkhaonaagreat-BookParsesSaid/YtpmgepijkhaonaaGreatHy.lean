/- Walk: the document's Without: families without one of an Id. Conditions: each theorem's own. -/
import Derived.Test.YtpmgepijkhaonaaGreatHq
import Derived.Test.YtpmgepijkhaonaaGreatHv
import Derived.Test.YtpmgepijkhaonaaGreatHm
namespace Go.Proofs.YtpmgepijkhaonaaGreat
open Go.RowKit Go.Sig
def famCells (l:List FA):List Value:=l.flatMap fun x=>x.cells.toList
theorem famCells_append (a b:List FA):famCells (a++b)=famCells a++famCells b:=List.flatMap_append
theorem famCells_at {j:Nat}{v:Value}:∀{l:List FA}{i:Nat}(h:i<l.length),l[i].cells[j]? =some v→(famCells l)[i*11+j]? =some v
 |x::l,0,_,hv=>by
  have hj:j<x.cells.toList.length:=by have:=(Array.getElem?_eq_some_iff.1 hv).1;simpa using this
  rw [famCells,List.flatMap_cons,Nat.zero_mul,Nat.zero_add,List.getElem?_append_left hj,Array.getElem?_toList];exact hv
 |x::l,i+1,h,hv=>by have:=famCells_at (l:=l) (i:=i) (by simpa using h) hv;have hx:x.cells.toList.length=11:=rfl;rw [famCells,List.flatMap_cons,List.getElem?_append_right (by rw [hx];omega),hx,show(i+1)*11+j - 11=i*11+j by omega];exact this
def famsM (b:GBk):List GFam:=(idsM b).map fun k=>(aget k b).getD zeroF
structure FamsAt (w0 w:World) (A:Option Addr) (c:Nat) (l:List FA):Prop where
 row:Own w 26 11 (.slice A l.length c) l.length (famCells l)
 each:∀x∈l,FamIn w (rowOf (.slice A l.length c)++List.range w0.heap.size) x
 fresh:∀g∈rowOf (.slice A l.length c),w0.heap.size≤g
theorem RdX.to {w w':World}{X Y:List Nat}{s:Nat}{A:Option Addr}{n:Nat}{xs:List Value}(h:RdX w X s A n xs) (hs:0<s) (hF:Fr X w w') (hY:∀g∈Y,g∈X∨w.heap.size≤g):RdX w' Y s A n xs:=
 ⟨h.1.fr hF h.2,fun hn ad e hg=>by
  rcases hY _ hg with h1 |h1
  ·exact h.2 hn ad e h1
  ·have:=h.1.lt hs hn ad e;omega⟩
theorem FamIn.to {w w':World}{X Y:List Nat}{x:FA}(h:FamIn w X x) (hF:Fr X w w') (hY:∀g∈Y,g∈X∨w.heap.size≤g):FamIn w' Y x:=
 ⟨h.ts,h.scope.to (by decide) hF hY,h.toks.to (by decide) hF hY,h.leases.to (by decide) hF hY,fun t ht=>(h.each t ht).to (by decide) hF hY⟩
theorem FamsAt.nil (w0 w:World):FamsAt w0 w none 0 []:=⟨Own.nil _ _ _,fun x hx=>(by cases hx),by simp [rowOf,Value.ownBlock]⟩
theorem FamsAt.base {w0 w1 w:World}{A:Option Addr}{c:Nat}{l:List FA}(h:FamsAt w1 w A c l) (hs:w0.heap.size≤w1.heap.size):FamsAt w0 w A c l:=⟨h.row,fun x hx=>(h.each x hx).mono (fun g hg=>by
  rcases List.mem_append.1 hg with hg |hg
  ·exact List.mem_append.2 (.inl hg)
  ·exact List.mem_append.2 (.inr (List.mem_range.2 (Nat.lt_of_lt_of_le (List.mem_range.1 hg) hs)))),fun g hg=>Nat.le_trans hs (h.fresh g hg)⟩
theorem FamsAt.push {w0 w w1 w2 w3:World}{A A3:Option Addr}{c c3 i:Nat}{l:List FA}{y:FA}(h:FamsAt w0 w A c l) (hi:l.length=i) (hw:FamW w1 w.heap.size y) (F1:Fr [] w w1) (F2:Fr [] w1 w2) (p1:Own w3 26 11 (.slice A3 (i+1) c3) (i+1) (famCells l++famCells [y]))
  (p2:Fr (rowOf (.slice A i c)) w2 w3) (p3:∀g∈rowOf (.slice A3 (i+1) c3),g∈rowOf (.slice A i c)∨g=w2.heap.size) (h0:w0.heap.size≤w.heap.size):FamsAt w0 w3 A3 c3 (l++ [y]):=by
 have hl:(l++ [y]).length=i+1:=by rw [List.length_append,hi];rfl
 have hlt:=h.row.lt;obtain⟨hr,he,hf⟩:=h;rw [hi]at hr he hf hlt;have F12:=F1.trans F2;have hsz:=F12.size;have hsub:∀z,z∈rowOf (.slice A i c)→z∈rowOf (.slice A i c)++List.range w0.heap.size:=fun z hz=>List.mem_append.2 (.inl hz);have hX:∀z,z∈rowOf (.slice A i c)++List.range w0.heap.size→z<w.heap.size:=fun z hz=>by
  rcases List.mem_append.1 hz with hz |hz
  ·exact hlt z hz
  ·exact Nat.lt_of_lt_of_le (List.mem_range.1 hz) h0
 have hY:∀(v:World),v.heap.size≤w2.heap.size→∀g∈rowOf (.slice A3 (i+1) c3)++List.range w0.heap.size,g∈rowOf (.slice A i c)++List.range w0.heap.size∨v.heap.size≤g:=fun v hv g hg=>by
  rcases List.mem_append.1 hg with hg |hg
  ·rcases p3 g hg with e |e
   ·exact .inl (hsub _ e)
   ·exact .inr (by omega)
  ·exact .inl (List.mem_append.2 (.inr hg))
 refine⟨by rw [hl,famCells_append];exact p1,?_,?_⟩
 ·rw [hl];intro x hx;rcases List.mem_append.1 hx with hx |hx
  ·exact(he x hx).to (F12.nil.trans (p2.mono hsub)) (hY w hsz)
  ·obtain rfl:x=y:=by simpa using hx
   have h1:=hw.fam (X:=rowOf (.slice A i c)++List.range w0.heap.size) hX;exact h1.to (F2.nil.trans (p2.mono hsub)) (hY w1 F2.size)
 ·rw [hl];intro g hg;rcases p3 g hg with e |e
  ·exact hf g e
  ·have:=F12.size;omega
theorem FamsAt.fr0 {w0 w w':World}{A:Option Addr}{c:Nat}{l:List FA}(h:FamsAt w0 w A c l) (hF:Fr [] w w'):FamsAt w0 w' A c l:=
 ⟨h.row.fr hF (by simp),fun x hx=>(h.each x hx).fr hF.nil,h.fresh⟩
end Go.Proofs.YtpmgepijkhaonaaGreat
namespace Go.Proofs.YtpmgepijkhaonaaGreat
open Go.RowKit Go.Sig
structure FamsIn (w:World) (X:List Nat) (A:Option Addr) (n:Nat) (l:List FA):Prop where
 hR:RdX w X 11 A n (famCells l)
 hn:l.length=n
 each:∀x∈l,FamIn w X x
 short:∀x∈l,Short x
theorem FamsIn.fr {w w':World}{X:List Nat}{A:Option Addr}{n:Nat}{l:List FA}(h:FamsIn w X A n l) (hF:Fr X w w'):FamsIn w' X A n l:=
 ⟨h.hR.fr hF,h.hn,fun x hx=>(h.each x hx).fr hF,h.short⟩
theorem FamsIn.mono {w:World}{X Y:List Nat}{A:Option Addr}{n:Nat}{l:List FA}(h:FamsIn w X A n l) (hS:∀g∈Y,g∈X):FamsIn w Y A n l:=
 ⟨h.hR.mono hS,h.hn,fun x hx=>(h.each x hx).mono hS,h.short⟩
theorem FamsIn.row {w:World}{A:Option Addr}{n i:Nat}{l:List FA}(h:FamsIn w [] A n l) (hi:i<n):
  ∃x b o,A=some ⟨b,o,none⟩∧l[i]? =some x∧w.rangeAt b (o+i*11) x.cells.toList∧FamIn w [] x∧Short x:=by
 have hi':i<l.length:=by rw [h.hn];exact hi
 obtain⟨b,o,e,hc⟩:=h.hR.1.2 (by omega);refine⟨l[i],b,o,e,List.getElem?_eq_getElem hi',fun j v hv=> ?_,h.each _ (List.getElem_mem hi'),h.short _ (List.getElem_mem hi')⟩;rw [Nat.add_assoc];exact hc _ _ (famCells_at hi' (by rw [←Array.getElem?_toList];exact hv))
end Go.Proofs.YtpmgepijkhaonaaGreat
namespace Go.Sig
open Go.RowKit
theorem do_local {room:Int}{c:GCmd}{b d:GBk}(hb:BkOk b) (hd:BkOk d) (h:aget c.family b=aget c.family d) (h1:(b.length:Int)<room) (h2:(d.length:Int)<room):
  (doM room c b).2=(doM room c d).2∧aget c.family (doM room c b).1=aget c.family (doM room c d).1:=by
 have hbi:=fun f hf=>(hb.2 c.family f hf).1;have hdi:=fun f hf=>(hd.2 c.family f hf).1;unfold doM;split
 ·exact⟨rfl,h⟩
 ·split
  ·unfold beginM;rw [h,if_neg (show¬room≤(b.length:Int) by omega),if_neg (show¬room≤(d.length:Int) by omega)];split
   ·exact⟨rfl,h⟩
   ·split
    ·exact⟨rfl,by rw [aget_aset_same,aget_aset_same]⟩
    ·exact⟨rfl,by rw [aget_aset_same,aget_aset_same]⟩
  ·cases hg:aget c.family d with
   |none=>
    rw [hg]at h;unfold redeemM refreshM revokeM lookM doneM;rw [hg,h];simp only;split
    ·exact⟨rfl,h.trans hg.symm⟩
    ·split
     ·exact⟨rfl,h.trans hg.symm⟩
     ·split
      ·exact⟨rfl,h.trans hg.symm⟩
      ·split
       ·exact⟨rfl,h.trans hg.symm⟩
       ·exact⟨rfl,h.trans hg.symm⟩
   |some f=>
    rw [hg]at h;have hi:=hdi f hg;have hx:∀g:GFam,g.id=f.id→aget c.family (aset g.id g b)=aget c.family (aset g.id g d):=fun g e=>by rw [e,hi,aget_aset_same,aget_aset_same]
    have hx2:∀g:GFam,aget c.family (aset f.id g b)=aget c.family (aset f.id g d):=fun g=>by rw [hi,aget_aset_same,aget_aset_same]
    have hx3:aget c.family (adel f.id b)=aget c.family (adel f.id d):=by rw [hi,aget_adel_same hb.1,aget_adel_same hd.1]
    have hs:aget c.family b=aget c.family d:=h.trans hg.symm;unfold redeemM refreshM revokeM lookM doneM;rw [hg,h];simp only;split
    ·split
     ·exact⟨rfl,hs⟩
     ·split
      ·exact⟨rfl,hx2 _⟩
      ·split
       ·exact⟨rfl,hs⟩
       ·exact⟨rfl,hx2 _⟩
    ·split
     ·cases tokM f 3 c.serial with
      |none=>exact⟨rfl,hs⟩
      |some t=>
       simp only;split
       ·exact⟨rfl,hs⟩
       ·split
        ·exact⟨rfl,hx2 _⟩
        ·split
         ·exact⟨rfl,hs⟩
         ·split
          ·exact⟨rfl,hs⟩
          ·exact⟨rfl,hx2 _⟩
     ·split
      ·split
       ·exact⟨rfl,hs⟩
       ·split
        ·exact⟨rfl,hx2 _⟩
        ·exact⟨rfl,hs⟩
      ·split
       ·cases tokM f c.token c.serial with
        |none=>exact⟨rfl,hs⟩
        |some t=>
         simp only;split
         ·exact⟨rfl,hs⟩
         ·exact⟨rfl,hx2 _⟩
       ·split
        ·exact⟨rfl,hx3⟩
        ·exact⟨rfl,hs⟩
theorem do_set {room:Int}{c:GCmd}{b:GBk}(hb:BkOk b):setM (doM room c b).2.scope=true:=by
 have h0:setM []=true:=by decide+kernel
 unfold doM;split
 ·exact h0
 ·rename_i hm;have hmo:=mayM_ok (by simpa using hm);split
  ·unfold beginM;split
   ·exact h0
   ·split
    ·exact h0
    ·split
     ·exact hmo.set
     ·exact hmo.set
  ·unfold redeemM refreshM revokeM lookM doneM;cases hg:aget c.family b with
   |none=>
    simp only
    (repeat' split)<;>exact h0
   |some f=>
    have hf:=(hb.2 _ _ hg).2;simp only;split
    ·split
     ·exact h0
     ·split
      ·exact h0
      ·split
       ·exact h0
       ·unfold issueM;split<;>exact hf.set
    ·split
     ·cases tokM f 3 c.serial with
      |none=>exact h0
      |some t=>
       simp only;split
       ·exact h0
       ·split
        ·exact h0
        ·split
         ·exact h0
         ·split
          ·exact h0
          ·unfold issueM;simp only [if_true];split
           ·exact hf.set
           ·exact hmo.set
     ·split
      ·split
       ·exact h0
       ·split<;>exact h0
      ·split
       ·cases ht:tokM f c.token c.serial with
        |none=>exact h0
        |some t=>
         simp only;split
         ·exact h0
         ·exact(hf.each t (List.mem_of_getElem? (tokM_some ht).2.2.1)).set
       ·split<;>exact h0
end Go.Sig
namespace Go.Proofs.YtpmgepijkhaonaaGreat
open Go.RowKit Go.Sig
theorem idsM_length (b:GBk) (hb:BkOk b):(idsM b).length=b.length:=by
 have:=(sortN_perm hb.1).length_eq;rw [List.length_map]at this;exact this.symm
theorem famsM_short (b:GBk) (hb:BkOk b) {w:World}{x:FA}(hx:FamIn w [] x) (hm:x.f∈famsM b):Short x:=by
 refine fam_short hx ?_;unfold famsM at hm;obtain⟨k,_,e⟩:=List.mem_map.1 hm;cases h:aget k b with
 |none=>right;rw [←e,h];rfl
 |some f=>left;rw [←e,h];exact(hb.2 _ _ h).2
theorem FamsAt.read {w0 w:World}{A:Option Addr}{c:Nat}{l:List FA}{b:GBk}{X:List Nat}(h:FamsAt w0 w A c l) (hb:BkOk b) (hl:l.map (·.f)=famsM b) (hX:∀g∈X,g<w0.heap.size):FamsIn w X A l.length l:=
 ⟨⟨h.row.rd,fun _ ad e hg=>by
  have h1:=h.fresh ad.block (rowOf_mem.2 ⟨ad,e,rfl⟩);have h2:=hX _ hg;omega⟩,rfl,fun x hx=>(h.each x hx).mono (fun g hg=>List.mem_append.2 (.inr (List.mem_range.2 (hX g hg)))),fun x hx=>famsM_short b hb ((h.each x hx).mono (by simp)) (by rw [←hl];exact List.mem_map_of_mem hx)⟩
theorem CmdsIn.cell {w:World}{b o n i:Nat}{l:List CA}{x:CA}(h:CmdsIn w (some ⟨b,o,none⟩) n l) (hi:i<n) (hx:l[i]? =some x) {j:Nat}{v:Value}(hv:x.cells[j]? =some v):w.cell? ⟨b,o+i*13+j,none⟩=some v:=by
 obtain⟨y,b2,o2,e,hy,hc,_⟩:=h.row hi;rw [hx]at hy;obtain rfl:=Option.some.inj hy;injection e with e
 injection e with e1 e2 e3
 subst e1 e2;exact hc _ _ hv
theorem mem_idsM {b:GBk}{k:ByteArray}:k∈idsM b↔(aget k b).isSome=true:=by
 unfold idsM;rw [mem_sortN,←Bool.not_eq_false,Option.isSome_eq_false_iff,Option.isNone_iff_eq_none,aget_none_iff,Classical.not_not]
structure OthI (b d:GBk) (id:ByteArray) (i:Nat):Prop where
 same:aget id b=aget id d
 lb:b.length≤i
 ld:d.length≤i
theorem OthI.new (id:ByteArray):OthI [] [] id 0:=⟨rfl,Nat.le_refl _,Nat.le_refl _⟩
theorem do_more {room:Int}{c:GCmd}{b:GBk}{i:Nat}(hb:BkOk b) (h:b.length≤i):(doM room c b).1.length≤i+1:=by
 rcases do_len (room:=room) (c:=c) hb with h1 | ⟨_,h1,_⟩<;>omega
theorem OthI.other {b d:GBk}{id:ByteArray}{i:Nat}{c:GCmd}{room:Int}(h:OthI b d id i) (hb:BkOk b) (hc:c.family≠id):OthI (doM room c b).1 d id (i+1):=
 ⟨(do_other hb (.inl hc)).trans h.same,do_more hb h.lb,by have:=h.ld;omega⟩
theorem FamsIn.to {w w':World}{X Y:List Nat}{A:Option Addr}{n:Nat}{l:List FA}(h:FamsIn w X A n l) (hF:Fr X w w') (hY:∀g∈Y,g∈X∨w.heap.size≤g):FamsIn w' Y A n l:=
 ⟨h.hR.to (by decide) hF hY,h.hn,fun x hx=>(h.each x hx).to hF hY,h.short⟩
theorem OthI.own {b d:GBk}{i:Nat}{id:ByteArray}{c:GCmd}{room:Int}(h:OthI b d id i) (hc:c.family=id) (hb:BkOk b) (hd:BkOk d) (hi:(i:Int)<room):OthI (doM room c b).1 (doM room c d).1 id (i+1):=by
 subst hc;exact⟨(do_local hb hd h.same (by have:=h.lb;omega) (by have:=h.ld;omega)).2,do_more hb h.lb,do_more hd h.ld⟩
end Go.Proofs.YtpmgepijkhaonaaGreat
namespace Go.Proofs.YtpmgepijkhaonaaGreat
open Go.RowKit Go.Sig
theorem FamsIn.row' {w:World}{X:List Nat}{A:Option Addr}{n i:Nat}{l:List FA}(h:FamsIn w X A n l) (hi:i<n):
  ∃x b o,A=some ⟨b,o,none⟩∧l[i]? =some x∧w.rangeAt b (o+i*11) x.cells.toList:=by
 have hi':i<l.length:=by rw [h.hn];exact hi
 obtain⟨b,o,e,hc⟩:=h.hR.1.2 (by omega);refine⟨l[i],b,o,e,List.getElem?_eq_getElem hi',fun j v hv=> ?_⟩;rw [Nat.add_assoc];exact hc _ _ (famCells_at hi' (by rw [←Array.getElem?_toList];exact hv))
theorem FamsIn.of {w w':World}{X:List Nat}{A A':Option Addr}{n c':Nat}{l l':List FA}(h:FamsIn w X A n l) (hX:∀g∈X,g<w.heap.size) (hF:Fr [] w w') (hs:∀x∈l',x∈l)
  (hO:Own w' 26 11 (.slice A' l'.length c') l'.length (famCells l')) (hf:∀g∈rowOf (.slice A' l'.length c'),w.heap.size≤g):FamsIn w' X A' l'.length l':=
 ⟨⟨hO.rd,fun _ ad e hg=>by
  have h1:=hf ad.block (rowOf_mem.2 ⟨ad,e,rfl⟩);have h2:=hX _ hg;omega⟩,rfl,fun x hx=>(h.each x (hs x hx)).fr hF.nil,fun x hx=>h.short x (hs x hx)⟩
end Go.Proofs.YtpmgepijkhaonaaGreat
