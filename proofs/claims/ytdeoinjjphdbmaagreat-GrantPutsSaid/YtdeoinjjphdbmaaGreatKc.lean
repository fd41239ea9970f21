/- Walk: the document's Own: a family in memory of its own. Conditions: each theorem's own. -/
import Derived.Test.YtdeoinjjphdbmaaGreatKb
import Derived.Test.YtdeoinjjphdbmaaGreatJf
namespace Go.Proofs.YtdeoinjjphdbmaaGreat
open Go.RowKit Go.Sig
theorem tInts:SliceTy Tryz.prog 37 3 1 8 (.int .i64 0):=⟨by kernel_rfl,by kernel_rfl,rfl,by decide⟩
theorem made_new {W W2:World}{o:Obj}{e size:Nat}{A:Option Addr}{c j:Nat}{xs:List Value}(p1:Own W2 e size (.slice A (0+j) c) (0+j) (List.take (0*size) (#[]:Array Value).toList++xs)) (p2:Fr (rowOf (.slice (some ⟨W.heap.size,0,none⟩) 0 0)) (W.alloc o) W2)
  (p3:∀g,g∈rowOf (.slice A (0+j) c)→g∈rowOf (.slice (some ⟨W.heap.size,0,none⟩) 0 0)∨g=(W.alloc o).heap.size):Own W2 e size (.slice A j c) j xs∧Fr [] W W2∧∀g∈rowOf (.slice A j c),W.heap.size≤g:=by
 rw [Nat.zero_add]at p1 p3
 have hr:∀g∈rowOf (.slice (some ⟨W.heap.size,0,none⟩) 0 0),g=W.heap.size:=fun g hg=>by
  obtain⟨ad,e,rfl⟩:=rowOf_mem.1 hg
  injection e with e
  rw [←e]
 refine⟨by simpa using p1,((Fr.refl [] W).alloc o).andThen p2 (fun g hg=> .inr (Nat.le_of_eq (hr g hg).symm)),fun g hg=> ?_⟩
 rcases p3 g hg with h |h
 ·exact Nat.le_of_eq (hr g h).symm
 ·rw [h]
  simp
structure FamT (w:World) (X:List Nat) (x:FA):Prop where
 ts:x.ts.map (·.tok)=x.f.tokens
 toks:Own w 55 3 (.slice x.tA x.ts.length x.tc) x.ts.length (tokCells x.ts)
 ft:∀g∈rowOf (.slice x.tA x.ts.length x.tc),g∉X
 scope:RdX w (X++rowOf (.slice x.tA x.ts.length x.tc)) 1 x.sA x.f.scope.length (strCells x.f.scope)
 leases:RdX w (X++rowOf (.slice x.tA x.ts.length x.tc)) 1 x.lA x.f.leases.length (intCells x.f.leases)
 each:∀t∈x.ts,RdX w (X++rowOf (.slice x.tA x.ts.length x.tc)) 1 t.A t.tok.scope.length (strCells t.tok.scope)
theorem FamT.fam {w:World}{X:List Nat}{x:FA}(h:FamT w X x):FamIn w X x:=
 ⟨h.ts,h.scope.mono (by simp+contextual),⟨h.toks.rd,fun _ ad e=>h.ft _ (rowOf_mem.2 ⟨ad,e,rfl⟩)⟩,h.leases.mono (by simp+contextual),fun t ht=>(h.each t ht).mono (by simp+contextual)⟩
theorem FamT.fr0 {w w':World}{X:List Nat}{x:FA}(h:FamT w X x) (hF:Fr [] w w'):FamT w' X x:=
 ⟨h.ts,h.toks.fr hF (by simp),h.ft,h.scope.fr hF.nil,h.leases.fr hF.nil,fun t ht=>(h.each t ht).fr hF.nil⟩
structure TokAt (w0:World) (X:List Nat) (w:World) (A:Option Addr) (c:Nat) (l:List TA):Prop where
 row:Own w 55 3 (.slice A l.length c) l.length (tokCells l)
 fresh:∀g∈rowOf (.slice A l.length c),w0.heap.size≤g
 each:∀t∈l,RdX w (X++rowOf (.slice A l.length c)) 1 t.A t.tok.scope.length (strCells t.tok.scope)
theorem TokAt.nil (w0:World) (X:List Nat) (w:World):TokAt w0 X w none 0 []:=⟨Own.nil _ _ _,by simp [rowOf,Value.ownBlock],fun t ht=>by cases ht⟩
theorem TokAt.fr0 {w0 w w':World}{X:List Nat}{A:Option Addr}{c:Nat}{l:List TA}(h:TokAt w0 X w A c l) (hF:Fr [] w w'):TokAt w0 X w' A c l:=
 ⟨h.row.fr hF (by simp),h.fresh,fun t ht=>(h.each t ht).fr hF.nil⟩
theorem TokAt.push {w0 w2 w3:World}{X:List Nat}{A A3:Option Addr}{c c3 i:Nat}{l:List TA}{y:TA}(h:TokAt w0 X w2 A c l) (hi:l.length=i) (hy:RdX w2 (X++rowOf (.slice A i c)) 1 y.A y.tok.scope.length (strCells y.tok.scope))
  (_hX:∀g∈X,g<w2.heap.size) (h0:w0.heap.size≤w2.heap.size) (p1:Own w3 55 3 (.slice A3 (i+1) c3) (i+1) (tokCells l++y.cells)) (p2:Fr (rowOf (.slice A i c)) w2 w3) (p3:∀g∈rowOf (.slice A3 (i+1) c3),g∈rowOf (.slice A i c)∨g=w2.heap.size):
  TokAt w0 X w3 A3 c3 (l++ [y]):=by
 have hl:(l++ [y]).length=i+1:=by rw [List.length_append,hi];rfl
 obtain⟨hr,hf,he⟩:=h
 rw [hi]at hr he hf
 have hY:∀g∈X++rowOf (.slice A3 (i+1) c3),g∈X++rowOf (.slice A i c)∨w2.heap.size≤g:=fun g hg=>by
  rcases List.mem_append.1 hg with hg |hg
  ·exact .inl (List.mem_append.2 (.inl hg))
  ·rcases p3 g hg with e |e
   ·exact .inl (List.mem_append.2 (.inr e))
   ·exact .inr (by omega)
 have hF:Fr (X++rowOf (.slice A i c)) w2 w3:=p2.mono (fun g hg=>List.mem_append.2 (.inr hg))
 refine⟨by rw [hl,tokCells_append];simpa [tokCells]using p1,?_,?_⟩
 ·rw [hl]
  intro g hg
  rcases p3 g hg with e |e
  ·exact hf g e
  ·omega
 ·rw [hl]
  intro t ht
  rcases List.mem_append.1 ht with ht |ht
  ·exact(he t ht).to (by decide) hF hY
  ·obtain rfl:t=y:=by simpa using ht
   exact hy.to (by decide) hF hY
theorem tok_newT (w:World) (y:TA) (ty:TypeId):Rd (w.alloc (.cells y.cells.toArray ty)) 3 (some ⟨w.heap.size,0,none⟩) 1 y.cells:=by
 refine⟨rfl,fun _=>⟨_,0,rfl,fun j u hu=> ?_⟩⟩
 rw [(Blk.new w ty y.cells.toArray).cell,Nat.zero_add,zG]
 exact hu
theorem TA.one (y:TA):∀u∈y.cells,u.oneCell'=true:=by
 intro u hu
 simp only [TA.cells,List.mem_cons,List.not_mem_nil,or_false]at hu
 rcases hu with rfl |rfl |rfl<;>rfl
def ROwnPost (w:World) (X:List Nat) (f:GFam) (e:Ending) (w':World):Prop:=∃y:FA,e= .returned y.val∧y.f=f∧FamT w' X y∧(∀g∈rowOf (.slice y.tA y.ts.length y.tc),w.heap.size≤g)∧Fr [] w w'
theorem rdx_new {W w:World}{X:List Nat}{e size n c:Nat}{A:Option Addr}{xs:List Value}(h:Own w e size (.slice A n c) n xs) (hf:∀g∈rowOf (.slice A n c),W.heap.size≤g) (hX:∀g∈X,g<W.heap.size):RdX w X size A n xs:=
 ⟨h.rd,fun _ ad e hg=>by
  have h1:=hf ad.block (rowOf_mem.2 ⟨ad,e,rfl⟩)
  have h2:=hX _ hg
  omega⟩
theorem own_row_lt {w:World}{e size n c:Nat}{A:Option Addr}{xs:List Value}(h:Own w e size (.slice A n c) n xs):∀g∈rowOf (.slice A n c),g<w.heap.size:=fun g hg=>h.lt g hg
def TA.arr (t:TA):Array Value:=#[.int .i64 t.tok.kind,.slice t.A t.tok.scope.length t.c,.bool t.tok.used]
theorem tok_new' (w:World) (k:Int) (A:Option Addr) (n c:Nat) (u:Bool) (y:TA) (h1:y.tok.kind=k) (h2:y.A=A) (h3:y.tok.scope.length=n) (h4:y.c=c) (h5:y.tok.used=u):
  Rd (w.alloc (.cells #[.int .i64 k,.slice A n c,.bool u] 55)) 3 (some ⟨w.heap.size,0,none⟩) 1 y.cells:=by
 subst h1 h2 h3 h4 h5
 exact tok_newT w y 55
set_option maxRecDepth 100000 in
set_option maxHeartbeats 8000000 in
theorem rown_t (w:World) (X:List Nat) (hX:∀g∈X,g<w.heap.size) (x:FA) (hx:FamIn w [] x) (hs:Short x):Calls Tryz.prog 87 #[x.val] w (ROwnPost w X x.f):=by
 obtain⟨f,sA,sc,tA,tc,ts,lA,lc⟩:=x
 obtain⟨id,client,user,scope,redirect,challenge,method,code,tokens,revoked,leases⟩:=f
 obtain⟨hts,⟨hsc,_⟩,⟨htk,_⟩,⟨hle,_⟩,hea⟩:=hx
 obtain⟨s1,s2,s3,s4⟩:=hs
 simp only at hts hsc htk hle hea s1 s2 s3 s4
 have htsh:=zh hts
 have heah:=zh hea
 have s4h:=zh s4
 have hXh:=zh hX
 have hzs:∃zs:Array Value,zs.size=11∧Hid (zs=zeroFA.cells):=⟨_,rfl,zh rfl⟩
 obtain⟨zs,hz,hzh⟩:=hzs
 obtain⟨n,hn⟩:∃z,Hid (scope.length=z):=⟨_,zh rfl⟩
 obtain⟨m,hm⟩:∃z,Hid (leases.length=z):=⟨_,zh rfl⟩
 obtain⟨tn,htn⟩:∃z,Hid (ts.length=z):=⟨_,zh rfl⟩
 rw [hn.o]at hsc s1
 rw [hm.o]at hle s3
 rw [htn.o]at htk s2
 have hnS:sA=none→n=0:=fun e=>by subst e;exact rd_none hsc
 have hnL:lA=none→m=0:=fun e=>by subst e;exact rd_none hle
 have hnSh:=zh hnS
 have hnLh:=zh hnL
 have hsch:=zh hsc
 have htkh:=zh htk
 have hleh:=zh hle
 clear hts hea s4 hX hsc htk hle hnS hnL
 unfold FA.val FA.cells
 dsimp only
 rw [hn.o,hm.o,htn.o]
 go_enter Tryz.func87,Tryz.ntmps87
 go_upto_region 1 with(fail)
 refine wp_gen (fun W=>Blk W w.heap.size 39 #[.string id,.string client,.string user,.slice sA n sc,.string redirect,.string challenge,.string method,.int .i64 code,.slice tA tn tc,.bool revoked,.slice lA m lc]∧Blk W (w.heap.size+1) 39 zs∧Fr [] w W) ⟨(Blk.new _ _ _).alloc _,by rw [hzh.o];exact Blk.new' _ _ (by simp),((Fr.refl _ _).alloc _).alloc _⟩ ?_
 rintro W ⟨hB,hR,fW⟩
 obtain⟨gf,HGF⟩:∃z,Hid (w.heap.size=z):=⟨_,zh rfl⟩
 rw [HGF.o]at hB hR⊢
 obtain⟨gr,HGR⟩:∃z,Hid (gf+1=z):=⟨_,zh rfl⟩
 rw [HGR.o]at hR⊢
 have hgf:w.heap.size≤gf:=by have:=HGF.o;omega
 have hgr:w.heap.size≤gr:=by have:=HGR.o;omega
 have hfr:gf≠gr:=by have:=HGR.o;omega
 have k0:=hB.cell 3
 have hgl:=hB.lt
 simp only [zG,zH,zI]at k0
 have hBh:=zh hB
 have hRh:=zh hR
 have fWh:=zh fW
 have hr1:=zh ((hsch.o.fr fW (by simp [Off])).fr ((Fr.refl [] W).alloc (.cells #[] 9)) (by simp [Off]))
 clear hB hR fW
 go_upto_region 2 with(refine wpList_own_append tStrs (Own.made W #[] 9 1 0 0 (by omega) (by decide) rfl) hr1.o (strCells_one _) hnSh.o (by unfold maxLen;omega) (by omega) rfl rfl rfl rfl (fun v2 w2 p1 p2 p3=> ?_);obtain⟨A3,c3,rfl,hA3⟩:=p1.form;obtain⟨q1,q2,q3⟩:=made_new p1 p2 p3;have hz3:=(hBh.o.fr q2 (by simp)).frozen 3;have hl3:=(hBh.o.fr q2 (by simp)).lt;have k3:=(hBh.o.fr q2 (by simp)).cell 3;simp only [zG,zH,zI]at k3;clear p1 p2 p3 hA3 k0 hgl)
 have hgW:gf<W.heap.size:=hBh.o.lt
 have hgW2:gr<W.heap.size:=hRh.o.lt
 have hB3:=(hBh.o.fr q2 (by simp)).set 3 (.slice A3 n c3)
 simp only [zD,zE,zF]at hB3
 have F3:Fr [gf] w2 (w2.setCell ⟨gf,3,none⟩ (.slice A3 n c3)):=(Fr.refl [gf] w2).setCell (p:=⟨gf,3,none⟩) (.inl (by simp)) _
 refine wp_gen (fun V=>Blk V gf 39 #[.string id,.string client,.string user,.slice A3 n c3,.string redirect,.string challenge,.string method,.int .i64 code,.slice tA tn tc,.bool revoked,.slice lA m lc]∧Fr [gf] w2 V) ⟨hB3,F3⟩ ?_
 clear hB3 F3 hz3 hl3 k3
 rintro V ⟨hB,F3⟩
 have q1V:=zh (q1.fr F3 (fun g hg hh=>by have:=q3 g hg;simp at hh;omega))
 have fV:=zh ((fWh.o.trans q2).andThen F3 (fun g hg=> .inr (by simp at hg;omega)))
 have hRV:=zh ((hRh.o.fr q2 (by simp)).fr F3 (by simp;exact fun h=>hfr h.symm))
 have q3h:=zh q3
 have hBh:=zh hB
 have hWV:W.heap.size≤V.heap.size:=Nat.le_trans q2.size F3.size
 have k0:=hB.cell 10
 have hgl:=hB.lt
 simp only [zG,zH,zI]at k0
 have hr1:=zh ((hleh.o.fr fV.o (by simp [Off])).fr ((Fr.refl [] V).alloc (.cells #[] 3)) (by simp [Off]))
 clear hB q1 q2 q3 F3
 go_upto_region 3 with(refine wpList_own_append tInts (Own.made V #[] 3 1 0 0 (by omega) (by decide) rfl) hr1.o (intCells_one _) hnLh.o (by unfold maxLen;omega) (by omega) rfl rfl rfl rfl (fun v2 w3 p1 p2 p3=> ?_);obtain⟨A4,c4,rfl,hA3⟩:=p1.form;obtain⟨q1,q2,q3⟩:=made_new p1 p2 p3;have hz3:=(hBh.o.fr q2 (by simp)).frozen 10;have hl3:=(hBh.o.fr q2 (by simp)).lt;have k3:=(hBh.o.fr q2 (by simp)).cell 10;simp only [zG,zH,zI]at k3;clear p1 p2 p3 hA3 k0 hgl)
 have hB3:=(hBh.o.fr q2 (by simp)).set 10 (.slice A4 m c4)
 simp only [zD,zE,zF]at hB3
 have F3:Fr [gf] w3 (w3.setCell ⟨gf,10,none⟩ (.slice A4 m c4)):=(Fr.refl [gf] w3).setCell (p:=⟨gf,10,none⟩) (.inl (by simp)) _
 refine wp_gen (fun U=>Blk U gf 39 #[.string id,.string client,.string user,.slice A3 n c3,.string redirect,.string challenge,.string method,.int .i64 code,.slice tA tn tc,.bool revoked,.slice A4 m c4]∧Fr [gf] w3 U) ⟨hB3,F3⟩ ?_
 clear hB3 F3 hz3 hl3 k3
 rintro U ⟨hB,F3⟩
 have q1U:=zh (q1.fr F3 (fun g hg hh=>by have:=q3 g hg;simp at hh;omega))
 have fU:=zh ((fV.o.trans q2).andThen F3 (fun g hg=> .inr (by simp at hg;omega)))
 have q1VU:=zh ((q1V.o.fr q2 (by simp)).fr F3 (fun g hg hh=>by have:=q3h.o g hg;simp at hh;omega))
 have hRU:=zh ((hRV.o.fr q2 (by simp)).fr F3 (by simp;exact fun h=>hfr h.symm))
 have q4h:=zh q3
 have hBh:=zh hB
 have hWU:W.heap.size≤U.heap.size:=Nat.le_trans hWV (Nat.le_trans q2.size F3.size)
 clear hB q1 q2 q3 F3 hr1
 have hXU:∀g∈ [gf,gr]++X,g<U.heap.size:=fun g hg=>by
  rcases List.mem_append.1 hg with hg |hg
  ·have:=hBh.o.lt
   have:=hRU.o.lt
   simp at hg
   omega
  ·exact Nat.lt_of_lt_of_le (hXh.o g hg) fU.o.size
 have hXUh:=zh hXU
 clear hXU
 go_wp2_with fail
 go_loopg [3,4] (tn+1) (fun gk s3 s4 wr=>∃(i d:Nat) (l:List TA) (B:Option Addr),s4= .int .i64 i∧s3= .slice B i d∧i≤tn∧tn - i<gk∧l.length=i∧l.map (·.tok)=(ts.take i).map (·.tok)∧TokAt U ([gf,gr]++X) wr B d l∧Fr [] U wr)
 case atStart=>exact⟨0,0,[],none,rfl,rfl,by omega,by omega,rfl,rfl,TokAt.nil _ _ _,Fr.refl _ _⟩
 case round=>
  obtain⟨i,d,l,B,rfl,rfl,hi,hk,hli,hmap,hTA,hF⟩:=hrel
  have hFh:=zh hF
  have hTAh:=zh hTA
  have hmaph:=zh hmap
  have hlih:=zh hli
  have hBw:=hBh.o.fr hF (by simp)
  have k8:=hBw.cell 8
  have hgl:=hBw.lt
  simp only [zG,zH,zI]at k8
  clear hF hTA hmap hli hBw
  by_cases hlt:i<tn
  ·have hlt':(i:Int)<tn:=by omega
   have hlth:=zh hlt
   obtain⟨t,b0,o0,rfl,hti,htr⟩:=tok_at (htkh.o.fr (fU.o.trans hFh.o) (by simp [Off])) htn.o hlt
   have htm:=List.mem_of_getElem? hti
   have h4:=s4h.o t htm
   have htk:=zh (show(ts.take (i+1)).map (·.tok)=(ts.take i).map (·.tok)++ [t.tok] by
    have hil:i<ts.length:=by rw [htn.o];exact hlt
    rw [List.getElem?_eq_getElem hil]at hti
    obtain rfl:=Option.some.inj hti
    rw [List.take_succ_eq_append_getElem hil,List.map_append]
    rfl)
   have hxc:∀j v,(TA.arr t)[j]? =some v→wr.cell? ⟨b0,o0+i*3+j,none⟩=some v:=fun j v hv=>htr j v (by rw [←Array.getElem?_toList]at hv;exact hv)
   have htR:=(heah.o t htm).1
   have hnT:t.A=none→t.tok.scope.length=0:=fun e=>by rw [e]at htR;exact rd_none htR
   have htRh:=zh htR
   obtain⟨⟨tk,tsc,tu⟩,tA1,tc1⟩:=t
   simp only [TA.arr]at hxc htRh hnT h4 htk
   obtain⟨tl,htl⟩:∃z,Hid (tsc.length=z):=⟨_,zh rfl⟩
   rw [htl.o]at hxc htRh hnT h4
   have hnTh:=zh hnT
   clear hti htr htm htR hnT hlt
   go_upto_region 8 with(first
    | (refine wpList_load_cells rfl 55 _ rfl rfl hxc uIss rfl infoIss ?_)
    | (refine wpList_store_row rfl 55 _ _ rfl wr.heap.size #[.int .i64 tk,.slice tA1 tl tc1,.bool tu] rfl rfl 55 _ (Blk.new _ _ _) infoIss (by rfl) (by kernel_rfl) ?_))
   refine wp_gen (fun V=>Blk V wr.heap.size 55 #[.int .i64 tk,.slice tA1 tl tc1,.bool tu]∧Fr [] wr V) ⟨Blk.setRow (Blk.new _ _ _) _,((Fr.refl [] wr).alloc _).setRow (.inr (Nat.le_refl _)) _⟩ ?_
   clear hxc k8 hgl
   rintro V2 ⟨hB5,F5⟩
   obtain⟨g5,HG5⟩:∃z,Hid (wr.heap.size=z):=⟨_,zh rfl⟩
   rw [HG5.o]at hB5⊢
   have k1:=hB5.cell 1
   have hgl:=hB5.lt
   simp only [zG,zH,zI]at k1
   have hB5h:=zh hB5
   have F5h:=zh F5
   have hr1:=zh ((htRh.o.fr ((fU.o.trans hFh.o).trans F5) (by simp [Off])).fr ((Fr.refl [] V2).alloc (.cells #[] 9)) (by simp [Off]))
   clear hB5 F5
   go_upto_region 9 with(refine wpList_own_append tStrs (Own.made V2 #[] 9 1 0 0 (by omega) (by decide) rfl) hr1.o (strCells_one _) hnTh.o (by unfold maxLen;omega) (by omega) rfl rfl rfl rfl (fun v2 w5 p1 p2 p3=> ?_);obtain⟨A5,c5,rfl,hA3⟩:=p1.form;obtain⟨q1,q2,q3⟩:=made_new p1 p2 p3;have hz3:=(hB5h.o.fr q2 (by simp)).frozen 1;have hl3:=(hB5h.o.fr q2 (by simp)).lt;have k3:=(hB5h.o.fr q2 (by simp)).cell 1;simp only [zG,zH,zI]at k3;clear p1 p2 p3 hA3 k1 hgl)
   have hgV:g5<V2.heap.size:=hB5h.o.lt
   have hB6:=(hB5h.o.fr q2 (by simp)).set 1 (.slice A5 tl c5)
   simp only [zD,zE,zF]at hB6
   have F6:Fr [g5] w5 (w5.setCell ⟨g5,1,none⟩ (.slice A5 tl c5)):=(Fr.refl [g5] w5).setCell (p:=⟨g5,1,none⟩) (.inl (by simp)) _
   refine wp_gen (fun V=>Blk V g5 55 #[.int .i64 tk,.slice A5 tl c5,.bool tu]∧Fr [g5] w5 V) ⟨hB6,F6⟩ ?_
   clear hB6 F6 hz3 hl3 k3
   rintro V3 ⟨hB6,F6⟩
   have hr5:wr.heap.size≤V2.heap.size:=F5h.o.size
   have q1h:=zh (q1.fr F6 (fun g hg hh=>by have:=q3 g hg;simp at hh;omega))
   have F7:=zh ((F5h.o.trans q2).andThen F6 (fun g hg=> .inr (by simp at hg;have:=HG5.o;omega)))
   have q3h5:=zh q3
   clear q1 q2 q3 F6 hr1
   have hrow:=hTAh.o.row
   rw [hlih.o]at hrow
   have hrowh:=zh (hrow.fr F7.o (by simp))
   clear hrow
   go_wp2_with (first
    | (refine wpList_load_at rfl 55 _ rfl rfl hB6 (sub_self _) uIss rfl (by exact infoIss) ?_;rw [Array.toArray_toList])
    | (refine wpList_own_append tIss (hrowh.o.fr ((Fr.refl [] _).alloc _) (by simp)) (tok_new' V3 tk A5 tl c5 tu ⟨⟨tk,tsc,tu⟩,A5,c5⟩ rfl rfl htl.o rfl rfl) (TA.one _) (by simp) (by unfold maxLen;omega) (by omega) rfl rfl rfl rfl (fun v2 w2 p1 p2 p3=> ?_);obtain⟨A6,c6,rfl,hA6⟩:=p1.form))
   go_roundg (tn - i)
   case measure=>have:=hlth.o;omega
   case rel=>
    have F8:=F7.o.alloc (.cells #[.int .i64 tk,.slice A5 tl c5,.bool tu] 55)
    have hTA3:=(hTAh.o.fr0 F8)
    have hsl:U.heap.size≤wr.heap.size:=hFh.o.size
    have hs7:=F7.o.size
    have hrowlt:=own_row_lt (hTAh.o.row)
    rw [hlih.o]at hrowlt
    refine⟨i+1,c6,l++ [⟨⟨tk,tsc,tu⟩,A5,c5⟩],A6,by go_num,rfl,by have:=hlth.o;omega,by have:=hlth.o;omega,by rw [List.length_append,hlih.o];rfl,?_,hTA3.push hlih.o ?_ (fun g hg=>Nat.lt_of_lt_of_le (hXUh.o g hg) (Nat.le_trans hsl F8.size)) (Nat.le_trans hsl F8.size) p1 p2 p3,?_⟩
    ·rw [List.map_append,hmaph.o,htk.o]
     rfl
    ·have hO8:=q1h.o.fr ((Fr.refl [] V3).alloc (.cells #[.int .i64 tk,.slice A5 tl c5,.bool tu] 55)) (by simp)
     have:=rdx_new (W:=V2) (X:= [gf,gr]++X++rowOf (.slice B i d)) hO8 q3h5.o (fun g hg=>by
      rcases List.mem_append.1 hg with hg |hg
      ·have:=hXUh.o g hg
       omega
      ·have:=hrowlt g hg
       omega)
     simpa [htl.o]using this
    ·refine(hFh.o.trans F8).andThen p2 (fun g hg=> .inr ?_)
     have:=hTAh.o.fresh
     rw [hlih.o]at this
     exact this g hg
  ·have hin:i=tn:=by omega
   have hge:¬(i:Int)<tn:=by omega
   subst hin
   have hmap2:=zh (show l.map (·.tok)=tokens by rw [hmaph.o,←htn.o,List.take_length,htsh.o])
   clear hlt hk
   have hz8:=(hBh.o.fr hFh.o (by simp)).frozen 8
   go_upto_region 11 with(fail)
   have hB9:=(hBh.o.fr hFh.o (by simp)).set 8 (.slice B i d)
   simp only [zD,zE,zF]at hB9
   have F9:Fr [gf] wr (wr.setCell ⟨gf,8,none⟩ (.slice B i d)):=(Fr.refl [gf] wr).setCell (p:=⟨gf,8,none⟩) (.inl (by simp)) _
   refine wp_gen (fun V=>Blk V gf 39 (FA.mk ⟨id,client,user,scope,redirect,challenge,method,code,tokens,revoked,leases⟩ A3 c3 B d l A4 c4).cells∧Fr [gf] wr V) ⟨by rw [FA.cells_def];simp only [hn.o,hm.o,hlih.o];exact hB9,F9⟩ ?_
   clear hB9 F9 k8 hgl hz8
   rintro V9 ⟨hB9,F9⟩
   have hgUr:gr<U.heap.size:=hRU.o.lt
   have hR9:=(hRU.o.fr hFh.o (by simp)).fr F9 (by simp;exact fun h=>hfr h.symm)
   have hgU:gf<U.heap.size:=hBh.o.lt
   have hrl:=hR9.lt
   obtain⟨y,hy⟩:∃y,Hid (FA.mk ⟨id,client,user,scope,redirect,challenge,method,code,tokens,revoked,leases⟩ A3 c3 B d l A4 c4=y):=⟨_,zh rfl⟩
   rw [hy.o]at hB9
   go_wp2_with (first
    | (refine wpList_load_at rfl 39 _ rfl rfl hB9 (sub_self _) uFam rfl (infoFamL _) ?_;rw [Array.toArray_toList])
    | (refine wpList_store_row rfl 39 _ _ rfl gr y.cells rfl rfl 39 zs hR9 (infoFamA y) (hz.trans (FA.size11 y).symm) (FA.all1 y) ?_))
   refine bodyPost_ret (results_cell_row rfl _ _ gr 39 _ (0,0) _ rfl (Blk.setRow hR9 _) uFam rfl (infoFamA y)) rfl ?_
   have FA1:Fr [gf,gr] wr (V9.setRow gr y.cells):=(F9.mono (by simp)).setRow (.inl (by simp)) _
   have FB:Fr [] w (V9.setRow gr y.cells):=(fU.o.trans hFh.o).andThen FA1 (fun g hg=> .inr (by simp at hg;omega))
   refine⟨y,rfl,by rw [←hy.o],?_,by rw [←hy.o];exact fun g hg=>Nat.le_trans fU.o.size (hTAh.o.fresh g hg),FB⟩
   have hfrT:=hTAh.o.fresh
   have hxr:∀{g:Nat},U.heap.size≤g→g∉ [gf,gr]:=fun{g} hg hh=>by simp at hh;omega
   have hxw:∀{g:Nat},W.heap.size≤g→g∉ [gf,gr]:=fun{g} hg hh=>by simp at hh;omega
   generalize V9.setRow gr y.cells=V10 at FA1 FB⊢
   rw [←hy.o]
   refine⟨hmap2.o,?_,?_,?_,?_,?_⟩
   ·exact hTAh.o.row.fr FA1 (fun g hg=>hxr (hfrT g hg))
   ·intro g hg hgX
    have:=hfrT g hg
    have:=hXUh.o g (List.mem_append.2 (.inr hgX))
    omega
   ·have h1:=(q1VU.o.fr hFh.o (by simp)).fr FA1 (fun g hg=>hxw (q3h.o g hg))
    simp only [hn.o]
    refine⟨h1.rd,fun _ ad e hg=> ?_⟩
    have e1:=q3h.o ad.block (rowOf_mem.2 ⟨ad,e,rfl⟩)
    have e2:=own_row_lt q1VU.o ad.block (rowOf_mem.2 ⟨ad,e,rfl⟩)
    rcases List.mem_append.1 hg with hg |hg
    ·have:=hXh.o _ hg
     have:=fWh.o.size
     omega
    ·have:=hfrT _ hg
     omega
   ·have h1:=(q1U.o.fr hFh.o (by simp)).fr FA1 (fun g hg=>hxw (Nat.le_trans hWV (q4h.o g hg)))
    simp only [hm.o]
    refine⟨h1.rd,fun _ ad e hg=> ?_⟩
    have e1:=q4h.o ad.block (rowOf_mem.2 ⟨ad,e,rfl⟩)
    have e2:=own_row_lt q1U.o ad.block (rowOf_mem.2 ⟨ad,e,rfl⟩)
    rcases List.mem_append.1 hg with hg |hg
    ·have:=hXh.o _ hg
     have:=fWh.o.size
     omega
    ·have:=hfrT _ hg
     omega
   ·intro t ht
    have h1:=(hTAh.o.each t ht).fr (FA1.mono (fun g hg=>List.mem_append.2 (.inl (List.mem_append.2 (.inl hg)))))
    exact h1.mono (fun g hg=>by
     rcases List.mem_append.1 hg with hg |hg
     ·exact List.mem_append.2 (.inl (List.mem_append.2 (.inr hg)))
     ·exact List.mem_append.2 (.inr hg))
end Go.Proofs.YtdeoinjjphdbmaaGreat
