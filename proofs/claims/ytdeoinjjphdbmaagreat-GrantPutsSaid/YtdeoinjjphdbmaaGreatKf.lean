/- Walks: the document's With and fallen. Conditions: each theorem's own. -/
import Derived.Test.YtdeoinjjphdbmaaGreatKd
namespace Go.Proofs.YtdeoinjjphdbmaaGreat
open Go.RowKit Go.Sig
theorem same_short {w w':World}{x y:FA}(hx:FamIn w [] x) (hy:FamIn w' [] y) (h:y.f=x.f) (hs:Short x):Short y:=by
 have l1:=hx.len
 have l2:=hy.len
 refine⟨by rw [h];exact hs.scope,by rw [l2,h,←l1];exact hs.toks,by rw [h];exact hs.leases,fun t ht=> ?_⟩
 have hm:t.tok∈x.ts.map (·.tok):=by rw [hx.ts,←h,←hy.ts];exact List.mem_map_of_mem ht
 obtain⟨u,hu,e⟩:=List.mem_map.1 hm
 rw [←e]
 exact hs.each u hu
theorem infoRbL {a0 a1:Value}:(Tryz.prog.info? 50).map (·.size)=some (#[a0,a1]:Array Value).toList.length:=by kernel_rfl
theorem dIns_cons_lt {f x:GFam}{l:List GFam}(h:bl f.id x.id=true):dIns f (x::l)=f::x::l:=by
 show(if bl f.id x.id=true then _ else _)=_
 rw [if_pos h]
theorem dIns_cons_ge {f x:GFam}{l:List GFam}(h:bl f.id x.id=false):dIns f (x::l)=x::dIns f l:=by
 show(if bl f.id x.id=true then _ else _)=_
 rw [if_neg (by rw [h];decide)]
def WithI (f:GFam) (rs:List GFam) (put:Bool) (i:Nat) (l:List GFam):Prop:=dIns f rs=l++if put=true then rs.drop i else dIns f (rs.drop i)
theorem WithI.new (f:GFam) (rs:List GFam):WithI f rs false 0 []:=by simp [WithI]
theorem WithI.put {f x:GFam}{rs:List GFam}{i:Nat}{l:List GFam}(h:WithI f rs true i l) (hx:rs[i]? =some x):WithI f rs true (i+1) (l++ [x]):=by
 unfold WithI at*
 obtain⟨hi,rfl⟩:=List.getElem?_eq_some_iff.1 hx
 rw [if_pos rfl]at h⊢
 rw [h,List.drop_eq_getElem_cons hi]
 simp
theorem WithI.lt {f x:GFam}{rs:List GFam}{i:Nat}{l:List GFam}(h:WithI f rs false i l) (hx:rs[i]? =some x) (hb:bl f.id x.id=true):WithI f rs true (i+1) (l++ [f]++ [x]):=by
 unfold WithI at*
 obtain⟨hi,rfl⟩:=List.getElem?_eq_some_iff.1 hx
 rw [if_neg (by decide),List.drop_eq_getElem_cons hi,dIns_cons_lt hb]at h
 rw [if_pos rfl,h]
 simp
theorem WithI.ge {f x:GFam}{rs:List GFam}{i:Nat}{l:List GFam}(h:WithI f rs false i l) (hx:rs[i]? =some x) (hb:bl f.id x.id=false):WithI f rs false (i+1) (l++ [x]):=by
 unfold WithI at*
 obtain⟨hi,rfl⟩:=List.getElem?_eq_some_iff.1 hx
 rw [if_neg (by decide),List.drop_eq_getElem_cons hi,dIns_cons_ge hb]at h
 rw [if_neg (by decide),h]
 simp
theorem WithI.done {f:GFam}{rs:List GFam}{put:Bool}{l:List GFam}(h:WithI f rs put rs.length l):dIns f rs=if put=true then l else l++ [f]:=by
 unfold WithI at h
 rw [List.drop_length]at h
 rw [h]
 cases put<;>simp [dIns]
structure WithAt (W0:World) (x:FA) (l1:List FA) (wr:World) (B:Option Addr) (k d:Nat) (l:List FA):Prop where
 row:Own wr 39 11 (.slice B k d) k (famCells l)
 len:l.length=k
 fresh:∀g∈rowOf (.slice B k d),W0.heap.size≤g
 mem:∀y∈l,y=x∨y∈l1
theorem WithAt.nil (W0:World) (x:FA) (l1:List FA) (wr:World):WithAt W0 x l1 wr none 0 0 []:=⟨Own.nil _ _ _,rfl,by simp [rowOf,Value.ownBlock],by simp⟩
theorem WithAt.fr0 {W0 wr w':World}{x:FA}{l1 l:List FA}{B:Option Addr}{k d:Nat}(h:WithAt W0 x l1 wr B k d l) (hF:Fr [] wr w'):WithAt W0 x l1 w' B k d l:=⟨h.row.fr hF (by simp),h.len,h.fresh,h.mem⟩
theorem WithAt.push {W0 w2 w3:World}{x y:FA}{l1 l:List FA}{B B3:Option Addr}{k d d3:Nat}(h:WithAt W0 x l1 w2 B k d l) (hy:y=x∨y∈l1) (h0:W0.heap.size≤w2.heap.size)
  (p1:Own w3 39 11 (.slice B3 (k+1) d3) (k+1) (famCells l++famCells [y])) (p3:∀g∈rowOf (.slice B3 (k+1) d3),g∈rowOf (.slice B k d)∨g=w2.heap.size):WithAt W0 x l1 w3 B3 (k+1) d3 (l++ [y]):=
 ⟨by rw [famCells_append];exact p1,by rw [List.length_append,h.len];rfl,fun g hg=>(p3 g hg).elim (h.fresh g) (fun e=>by rw [e];exact h0),fun z hz=>by
  rcases List.mem_append.1 hz with hz |hz
  ·exact h.mem z hz
  ·obtain rfl:z=y:=by simpa using hz
   exact hy⟩
theorem FamsIn.cellsAt {w:World}{X:List Nat}{ba oa n i:Nat}{l:List FA}{y:FA}(h:FamsIn w X (some ⟨ba,oa,none⟩) n l) (hi:i<n) (hy:l[i]? =some y):∀j v,y.cells[j]? =some v→w.cell? ⟨ba,oa+i*11+j,none⟩=some v:=by
 obtain⟨y',b',o',e,hy',hr⟩:=h.row' hi
 rw [hy]at hy'
 obtain rfl:=Option.some.inj hy'
 injection e with e
 injection e with e1 e2 e3
 subst e1 e2
 exact fun j v hv=>hr j v (by rw [Array.getElem?_toList];exact hv)
theorem with_end {w W w9:World}{X:List Nat}{x:FA}{l1 l:List FA}{A1 B:Option Addr}{n1 k d g4:Nat}{room:Int}{fs:List GFam}(hL:FamsIn W (X++ [g4]) A1 n1 l1) (hx:FamIn W (X++ [g4]) x) (hs:Short x) (hX:∀g∈X,g<W.heap.size) (hA:WithAt W x l1 w9 B k d l)
  (hF:Fr [] W w9) (hl:l.map (·.f)=fs) (f0:Fr [] w W) (h4:w.heap.size≤g4) (h4w:g4<W.heap.size):WoutPost w X room fs (.returned (.agg #[.slice B k d,.int .i64 room])) (w9.setRow g4 #[.slice B k d,.int .i64 room]):=by
 have F1:Fr [g4] w9 (w9.setRow g4 #[.slice B k d,.int .i64 room]):=(Fr.refl [g4] w9).setRow (.inl (by simp)) _
 have F2:=(f0.trans hF).andThen F1 (fun g hg=> .inr (by simp at hg;omega))
 obtain⟨a1,a2,a3,a4⟩:=hA
 subst a2
 refine⟨B,d,l,rfl,⟨⟨(a1.fr F1 (fun g hg hh=>by have:=a3 g hg;simp at hh;omega)).rd,fun _ ad e hg=> ?_⟩,rfl,fun y hy=> ?_,fun y hy=> ?_⟩,hl,F2⟩
 ·have h1:=a3 ad.block (rowOf_mem.2 ⟨ad,e,rfl⟩)
  have h2:=hX _ hg
  omega
 ·have hy2:FamIn W (X++ [g4]) y:=by
   rcases a4 y hy with rfl |hy
   ·exact hx
   ·exact hL.each y hy
  exact((hy2.fr hF.nil).fr (F1.mono (by simp))).mono (by simp+contextual)
 ·rcases a4 y hy with rfl |hy
  ·exact hs
  ·exact hL.short y hy
set_option maxRecDepth 100000 in
set_option maxHeartbeats 8000000 in
theorem rwith_t (w:World) (X:List Nat) (A:Option Addr) (n c:Nat) (room:Int) (l:List FA) (x:FA) (h:FamsIn w X A n l) (hx:FamIn w X x) (hs:Short x) (hX:∀g∈X,g<w.heap.size) (hmax:n≤900000):
  Calls Tryz.prog 35 #[.agg #[.slice A n c,.int .i64 room],x.val] w (WoutPost w X room (dWith x.f (l.map (·.f)))):=by
 have hh:=zh h
 have hXh:=zh hX
 have hxh:=zh hx
 have hsh:=zh hs
 clear h hX hx hs
 unfold FA.val
 go_enter Tryz.func35,Tryz.ntmps35
 go_upto_region 1 with(fail)
 refine wp_gen (fun W=>Blk W w.heap.size 50 #[.slice A n c,.int .i64 room]∧Blk W (w.heap.size+1) 39 x.cells∧Blk W (w.heap.size+1+1) 50 #[.slice none 0 0,.int .i64 0]∧Fr [] w W) ⟨((Blk.new _ _ _).alloc _).alloc _,(Blk.new' _ _ (by simp)).alloc _,Blk.new' _ _ (by simp),(((Fr.refl _ _).alloc _).alloc _).alloc _⟩ ?_
 rintro W ⟨hP,hFm,hR,fW⟩
 obtain⟨g2,HG2⟩:∃z,Hid (w.heap.size=z):=⟨_,zh rfl⟩
 rw [HG2.o]at hP hFm hR⊢
 obtain⟨g3,HG3⟩:∃z,Hid (g2+1=z):=⟨_,zh rfl⟩
 rw [HG3.o]at hFm hR⊢
 obtain⟨g4,HG4⟩:∃z,Hid (g3+1=z):=⟨_,zh rfl⟩
 rw [HG4.o]at hR⊢
 have hw4:w.heap.size≤g4:=by have:=HG2.o;have:=HG3.o;have:=HG4.o;omega
 have hPh:=zh hP
 have hFmh:=zh hFm
 have hRh:=zh hR
 have fWh:=zh fW
 have m0:=hFm.cell 0
 have hg3:=hFm.lt
 have m0':W.cell? ⟨g3,0,none⟩=some (.string x.f.id):=m0
 have hX1:∀g∈X++ [g4],g∈X∨w.heap.size≤g:=fun g hg=>by
  rcases List.mem_append.1 hg with hg |hg
  ·exact .inl hg
  ·simp at hg
   exact .inr (by omega)
 have hX2:∀g∈X++ [g4],g<W.heap.size:=fun g hg=>by
  rcases List.mem_append.1 hg with hg |hg
  ·exact Nat.lt_of_lt_of_le (hXh.o g hg) fW.size
  ·have:=hR.lt
   simp at hg
   omega
 have hxW0:=zh (hxh.o.to fW.nil hX1)
 have hwout:=rwout_t W (X++ [g4]) A n c room l x.f.id (hh.o.to fW.nil hX1) hX2 (by omega)
 clear m0 hFm hR fW hX1 hX2
 go_wp2_with (refine wpList_load_at rfl 50 _ rfl rfl hP (sub_self _) uRb rfl infoRbL ?_;rw [Array.toArray_toList])
 refine Calls.mono (show Calls Tryz.prog 21 _ _ _ from hwout) ?_
 rintro e W2 ⟨A1,c1,l1,rfl,hl1,hm1,F2⟩
 have fW2:=zh (fWh.o.trans F2)
 have F2h:=zh F2
 have hln:l1.length≤n:=by
  have:=congrArg List.length hm1
  rw [List.length_map]at this
  rw [this]
  unfold woutM
  refine Nat.le_trans (List.length_filter_le _ _) ?_
  rw [List.length_map,hh.o.hn]
  exact Nat.le_refl _
 obtain⟨n1,hn1⟩:∃z,Hid (l1.length=z):=⟨_,zh rfl⟩
 rw [hn1.o]at hl1 hln⊢
 have hP2:=zh (hPh.o.fr F2 (by simp))
 have hF2:=zh (hFmh.o.fr F2 (by simp))
 have hR2:=zh (hRh.o.fr F2 (by simp))
 have hl1h:=zh hl1
 have hm1h:=zh hm1
 clear hwout hP hPh hFmh hRh m0' hg3 hl1 hm1 F2
 go_upto_region 2 with(refine wpList_store_row rfl 50 _ _ rfl W2.heap.size #[.slice A1 n1 c1,.int .i64 room] rfl rfl 50 _ (Blk.new _ _ _) infoRb (by rfl) (by kernel_rfl) ?_)
 refine wp_gen (fun V=>Blk V W2.heap.size 50 #[.slice A1 n1 c1,.int .i64 room]∧Fr [] W2 V) ⟨Blk.setRow (Blk.new _ _ _) _,((Fr.refl [] W2).alloc _).setRow (.inr (Nat.le_refl _)) _⟩ ?_
 rintro W3 ⟨hB5,F3⟩
 obtain⟨g5,HG5⟩:∃z,Hid (W2.heap.size=z):=⟨_,zh rfl⟩
 rw [HG5.o]at hB5⊢
 have fW3:=zh (fW2.o.trans F3)
 have hP3:=zh (hP2.o.fr F3 (by simp))
 have hF3:=zh (hF2.o.fr F3 (by simp))
 have hR3:=zh (hR2.o.fr F3 (by simp))
 have hL3:=zh (hl1h.o.fr F3.nil)
 have hxW03:=zh ((hxW0.o.fr F2h.o.nil).fr F3.nil)
 have hB5h:=zh hB5
 clear hB5 F3 hP2 hF2 hR2 hl1h
 have h21:(Hid (l1.map (·.f)=woutM x.f.id (l.map (·.f)))):=hm1h
 go_wp2_with fail
 go_loopg [6,7,8] (n1+1) (fun gk s6 s7 s8 wr=>∃(i k d:Nat) (l':List FA) (B:Option Addr) (put:Bool),s8= .int .i64 i∧s7= .bool put∧s6= .slice B k d∧i≤n1∧n1 - i<gk∧k≤i+put.toNat∧WithI x.f (l1.map (·.f)) put i (l'.map (·.f))∧WithAt W3 x l1 wr B k d l'∧Fr [] W3 wr)
 case atStart=>exact⟨0,0,0,[],none,false,rfl,rfl,rfl,by omega,by omega,Nat.le_refl _,WithI.new _ _,WithAt.nil _ _ _ _,Fr.refl _ _⟩
 case round=>
  obtain⟨i,k,d,l',B,put,rfl,rfl,rfl,hi,hk,hkp,hI,hA,hF⟩:=hrel
  have hki:k≤i+1:=Nat.le_trans hkp (by cases put<;>simp)
  have hkph:=zh hkp
  clear hkp
  have hIh:=zh hI
  have hAh:=zh hA
  have hFh:=zh hF
  have hB5w:=hB5h.o.fr hF (by simp)
  have e0:=hB5w.cell 0
  have hg5:=hB5w.lt
  simp only [zG,zH]at e0
  clear hI hA hF hB5w
  by_cases hlt:i<n1
  ·have hlt':(i:Int)<n1:=by omega
   have hlth:=zh hlt
   obtain⟨y,ba,oa,rfl,hyi,hyr⟩:=(hL3.o.fr hFh.o.nil).row' hlt
   have hyf:=zh (show(l1.map (·.f))[i]? =some y.f by rw [List.getElem?_map,hyi];rfl)
   have hym:=zh (List.mem_of_getElem? hyi)
   have hyih:=zh hyi
   have y0:=hyr 0 (.string y.f.id) rfl
   rw [Nat.add_zero]at y0
   have hFw:=zh (hF3.o.fr hFh.o (by simp))
   have m0:wr.cell? ⟨g3,0,none⟩=some (.string x.f.id):=hFw.o.cell 0
   have hg3:=hFw.o.lt
   have hbl:Op.bytesLess x.f.id.toList y.f.id.toList=bl x.f.id y.f.id:=rfl
   obtain⟨bb,hbb⟩:∃z,Hid (bl x.f.id y.f.id=z):=⟨_,zh rfl⟩
   rw [hbb.o]at hbl
   clear hyi hyr hlt
   have hsz:W3.heap.size≤wr.heap.size:=hFh.o.size
   cases put with
   |true=>
    have hI2:=zh (hIh.o.put hyf.o)
    go_upto_region 7 with(fail)
    go_quiet (fail)
    go_upto_region 10 with(fail)
    refine wp_gen (fun V=>Fr [] wr V) ((Fr.refl [] wr).drewN _) ?_
    clear e0 hg5 y0 m0 hg3 hbl
    rintro V fV
    have hB5v:=hB5h.o.fr (hFh.o.trans fV) (by simp)
    have e0:=hB5v.cell 0
    have hg5:=hB5v.lt
    simp only [zG,zH]at e0
    have hyc:=(hL3.o.fr (hFh.o.trans fV).nil).cellsAt hlth.o hyih.o
    have hAv:=zh (hAh.o.fr0 fV)
    have fVh:=zh fV
    clear hB5v fV
    go_wp2_with (first
     | (refine wpList_load_cells rfl 39 _ rfl rfl hyc uFam rfl (infoFamA _) ?_;unfold FA.cells)
     | (refine wpList_own_append tFams (hAv.o.row.fr ((Fr.refl [] _).alloc _) (by simp)) (fam_new V y _) (famCells_one _) (by simp) (by unfold maxLen;omega) (by omega) rfl rfl rfl rfl (fun v2 w2 p1 p2 p3=> ?_);obtain⟨A3,c3,rfl,hA3⟩:=p1.form))
    go_roundg (n1 - i)
    case measure=>have:=hlth.o;omega
    case rel=>
     have hAa:=hAv.o.fr0 ((Fr.refl [] V).alloc (.cells y.cells 39))
     refine⟨i+1,k+1,c3,l'++ [y],A3,true,by go_num,rfl,rfl,by have:=hlth.o;omega,by have:=hlth.o;omega,by have:=hkph.o;simp at this⊢;omega,?_,hAa.push (.inr hym.o) (Nat.le_trans hsz (Nat.le_trans fVh.o.size (by simp))) p1 p3,?_⟩
     ·rw [List.map_append]
      exact hI2.o
     ·exact((hFh.o.trans fVh.o).alloc _).andThen p2 (fun g hg=> .inr (hAh.o.fresh g hg))
   |false=>
    cases bb with
    |true=>
     have hI2:=zh (hIh.o.lt hyf.o hbb.o)
     go_upto_region 7 with(fail)
     go_quiet (fail)
     go_upto_region 8 with(fail)
     refine wp_gen (fun V=>Fr [] wr V) ((Fr.refl [] wr).drewN _) ?_
     clear e0 hg5 y0 m0 hg3 hbl
     rintro V fV
     have hFv:=hFw.o.fr fV (by simp)
     have hAv:=zh (hAh.o.fr0 fV)
     have fVh:=zh fV
     clear fV
     go_upto_region 9 with(first
      | (refine wpList_load_at rfl 39 _ rfl rfl hFv (sub_self _) uFam rfl (infoFamL _) ?_;rw [Array.toArray_toList];unfold FA.cells)
      | (refine wpList_own_append tFams (hAv.o.row.fr ((Fr.refl [] _).alloc _) (by simp)) (fam_new V x _) (famCells_one _) (by simp) (by unfold maxLen;omega) (by omega) rfl rfl rfl rfl (fun v2 w2 p1 p2 p3=> ?_);obtain⟨A3,c3,rfl,hA3⟩:=p1.form))
     have hAa:=hAv.o.fr0 ((Fr.refl [] V).alloc (.cells x.cells 39))
     have hA2:=zh (hAa.push (.inl rfl) (Nat.le_trans hsz (Nat.le_trans fVh.o.size (by simp))) p1 p3)
     have f2:=zh (((hFh.o.trans fVh.o).alloc (.cells x.cells 39)).andThen p2 (fun g hg=> .inr (hAh.o.fresh g hg)))
     clear hAa p1 p2 p3 hA3 hFv
     have hB5v:=hB5h.o.fr f2.o (by simp)
     have e0:=hB5v.cell 0
     have hg5:=hB5v.lt
     simp only [zG,zH]at e0
     have hyc:=(hL3.o.fr f2.o.nil).cellsAt hlth.o hyih.o
     clear hB5v
     go_wp2_with (first
      | (refine wpList_load_cells rfl 39 _ rfl rfl hyc uFam rfl (infoFamA _) ?_;unfold FA.cells)
      | (refine wpList_own_append tFams (hA2.o.row.fr ((Fr.refl [] _).alloc _) (by simp)) (fam_new w2 y _) (famCells_one _) (by simp) (by unfold maxLen;omega) (by omega) rfl rfl rfl rfl (fun v2 w4 p1 p2 p3=> ?_);obtain⟨A4,c4,rfl,hA4⟩:=p1.form))
     go_roundg (n1 - i)
     case measure=>have:=hlth.o;omega
     case rel=>
      have hAa:=hA2.o.fr0 ((Fr.refl [] w2).alloc (.cells y.cells 39))
      refine⟨i+1,k+1+1,c4,l'++ [x]++ [y],A4,true,by go_num,rfl,rfl,by have:=hlth.o;omega,by have:=hlth.o;omega,by have:=hkph.o;simp at this⊢;omega,?_,hAa.push (.inr hym.o) (Nat.le_trans f2.o.size (by simp)) p1 p3,?_⟩
      ·rw [List.map_append,List.map_append]
       exact hI2.o
      ·exact(f2.o.alloc _).andThen p2 (fun g hg=> .inr (hA2.o.fresh g hg))
    |false=>
     have hI2:=zh (hIh.o.ge hyf.o hbb.o)
     go_upto_region 7 with(fail)
     go_quiet (fail)
     go_upto_region 10 with(fail)
     refine wp_gen (fun V=>Fr [] wr V) ((Fr.refl [] wr).drewN _) ?_
     clear e0 hg5 y0 m0 hg3 hbl
     rintro V fV
     have hB5v:=hB5h.o.fr (hFh.o.trans fV) (by simp)
     have e0:=hB5v.cell 0
     have hg5:=hB5v.lt
     simp only [zG,zH]at e0
     have hyc:=(hL3.o.fr (hFh.o.trans fV).nil).cellsAt hlth.o hyih.o
     have hAv:=zh (hAh.o.fr0 fV)
     have fVh:=zh fV
     clear hB5v fV
     go_wp2_with (first
      | (refine wpList_load_cells rfl 39 _ rfl rfl hyc uFam rfl (infoFamA _) ?_;unfold FA.cells)
      | (refine wpList_own_append tFams (hAv.o.row.fr ((Fr.refl [] _).alloc _) (by simp)) (fam_new V y _) (famCells_one _) (by simp) (by unfold maxLen;omega) (by omega) rfl rfl rfl rfl (fun v2 w2 p1 p2 p3=> ?_);obtain⟨A3,c3,rfl,hA3⟩:=p1.form))
     go_roundg (n1 - i)
     case measure=>have:=hlth.o;omega
     case rel=>
      have hAa:=hAv.o.fr0 ((Fr.refl [] V).alloc (.cells y.cells 39))
      refine⟨i+1,k+1,c3,l'++ [y],A3,false,by go_num,rfl,rfl,by have:=hlth.o;omega,by have:=hlth.o;omega,by have:=hkph.o;simp at this⊢;omega,?_,hAa.push (.inr hym.o) (Nat.le_trans hsz (Nat.le_trans fVh.o.size (by simp))) p1 p3,?_⟩
      ·rw [List.map_append]
       exact hI2.o
      ·exact((hFh.o.trans fVh.o).alloc _).andThen p2 (fun g hg=> .inr (hAh.o.fresh g hg))
  ·have hin:i=n1:=by omega
   have hge:¬(i:Int)<n1:=by omega
   subst hin
   have hlen1:(l1.map (·.f)).length=i:=by rw [List.length_map];exact hL3.o.hn
   have hI2:=zh (show dIns x.f (l1.map (·.f))=if put=true then l'.map (·.f)else l'.map (·.f)++ [x.f]from by
    have h:=hIh.o
    rw [←hlen1]at h
    exact h.done)
   have hdw:=zh (show dIns x.f (l1.map (·.f))=dWith x.f (l.map (·.f)) by rw [hm1h.o];rfl)
   have hX3:∀g∈X,g<W3.heap.size:=fun g hg=>Nat.lt_of_lt_of_le (hXh.o g hg) fW3.o.size
   have hX3h:=zh hX3
   have h4w:g4<W3.heap.size:=hR3.o.lt
   have hxW:=zh (hxW03.o)
   clear hlt hk hlen1 hX3
   cases put with
   |true=>
    have hP9:=hP3.o.fr hFh.o (by simp)
    have e1:=hP9.cell 1
    have hg2:=hP9.lt
    simp only [zG,zH,zI]at e1
    have hR9:=hR3.o.fr hFh.o (by simp)
    clear hP9
    go_wp2_with (refine wpList_store_row rfl 50 _ _ rfl g4 _ rfl rfl 50 _ hR9 infoRb (by rfl) (by kernel_rfl) ?_)
    refine bodyPost_ret (results_cell_row rfl _ _ g4 50 _ (0,0) _ rfl (Blk.setRow hR9 _) uRb rfl infoRb) rfl ?_
    exact with_end hL3.o hxW.o hsh.o hX3h.o hAh.o hFh.o (by rw [←hdw.o,hI2.o];rfl) fW3.o hw4 h4w
   |false=>
    have hFv:=hF3.o.fr hFh.o (by simp)
    go_upto_region 13 with(first
     | (refine wpList_load_at rfl 39 _ rfl rfl hFv (sub_self _) uFam rfl (infoFamL _) ?_;rw [Array.toArray_toList];unfold FA.cells)
     | (refine wpList_own_append tFams (hAh.o.row.fr ((Fr.refl [] _).alloc _) (by simp)) (fam_new wr x _) (famCells_one _) (by simp) (by unfold maxLen;omega) (by omega) rfl rfl rfl rfl (fun v2 w2 p1 p2 p3=> ?_);obtain⟨A3,c3,rfl,hA3⟩:=p1.form))
    have hAa:=hAh.o.fr0 ((Fr.refl [] wr).alloc (.cells x.cells 39))
    have hA2:=zh (hAa.push (.inl rfl) (Nat.le_trans hFh.o.size (by simp)) p1 p3)
    have f2:=zh ((hFh.o.alloc (.cells x.cells 39)).andThen p2 (fun g hg=> .inr (hAh.o.fresh g hg)))
    clear hAa p1 p2 p3 hA3 hFv
    have hP9:=hP3.o.fr f2.o (by simp)
    have e1:=hP9.cell 1
    have hg2:=hP9.lt
    simp only [zG,zH,zI]at e1
    have hR9:=hR3.o.fr f2.o (by simp)
    clear hP9
    go_wp2_with (refine wpList_store_row rfl 50 _ _ rfl g4 _ rfl rfl 50 _ hR9 infoRb (by rfl) (by kernel_rfl) ?_)
    refine bodyPost_ret (results_cell_row rfl _ _ g4 50 _ (0,0) _ rfl (Blk.setRow hR9 _) uRb rfl infoRb) rfl ?_
    exact with_end hL3.o hxW.o hsh.o hX3h.o hA2.o f2.o (by rw [←hdw.o,hI2.o,List.map_append];rfl) fW3.o hw4 h4w
set_option maxRecDepth 100000 in
set_option maxHeartbeats 8000000 in
theorem rfall_t (w:World) (X:List Nat) (A:Option Addr) (n c:Nat) (room:Int) (l:List FA) (x:FA) (h:FamsIn w X A n l) (hx:FamIn w [] x) (hs:Short x) (hX:∀g∈X,g<w.heap.size) (hmax:n≤900000):
  Calls Tryz.prog 88 #[.agg #[.slice A n c,.int .i64 room],x.val] w (WoutPost w X room (dFall x.f (l.map (·.f)))):=by
 have hh:=zh h
 have hXh:=zh hX
 have hxh:=zh hx
 have hsh:=zh hs
 clear h hX hx hs
 unfold FA.val
 go_enter Tryz.func88,Tryz.ntmps88
 go_upto_region 1 with(fail)
 refine wp_gen (fun W=>Blk W w.heap.size 50 #[.slice A n c,.int .i64 room]∧Blk W (w.heap.size+1) 39 x.cells∧Blk W (w.heap.size+1+1) 50 #[.slice none 0 0,.int .i64 0]∧Fr [] w W) ⟨((Blk.new _ _ _).alloc _).alloc _,(Blk.new' _ _ (by simp)).alloc _,Blk.new' _ _ (by simp),(((Fr.refl _ _).alloc _).alloc _).alloc _⟩ ?_
 rintro W ⟨hP,hFm,hR,fW⟩
 obtain⟨g2,HG2⟩:∃z,Hid (w.heap.size=z):=⟨_,zh rfl⟩
 rw [HG2.o]at hP hFm hR⊢
 obtain⟨g3,HG3⟩:∃z,Hid (g2+1=z):=⟨_,zh rfl⟩
 rw [HG3.o]at hFm hR⊢
 obtain⟨g4,HG4⟩:∃z,Hid (g3+1=z):=⟨_,zh rfl⟩
 rw [HG4.o]at hR⊢
 have hws:Hid (w.heap.size≤g2∧w.heap.size≤g3∧w.heap.size≤g4∧g2<W.heap.size∧g3<W.heap.size∧g4<W.heap.size∧g2≠g3∧g2≠g4∧g3≠g4):=by
  have:=HG2.o
  have:=HG3.o
  have:=HG4.o
  exact zh ⟨by omega,by omega,by omega,hP.lt,hFm.lt,hR.lt,by omega,by omega,by omega⟩
 have hX0:∀g∈X++ [g3,g4],g<W.heap.size:=fun g hg=>by
  rcases List.mem_append.1 hg with hg |hg
  ·exact Nat.lt_of_lt_of_le (hXh.o g hg) fW.size
  ·obtain⟨_,_,_,a1,a2,a3,_⟩:=hws.o
   simp at hg
   omega
 have hX1:∀g∈X++ [g3,g4],g∈X∨w.heap.size≤g:=fun g hg=>by
  rcases List.mem_append.1 hg with hg |hg
  ·exact .inl hg
  ·obtain⟨a1,a2,a3,_⟩:=hws.o
   simp at hg
   exact .inr (by omega)
 have hLW:=zh (hh.o.to fW.nil hX1)
 have hown:=rown_t W (X++ [g3,g4]) hX0 x (hxh.o.fr fW) hsh.o
 have hPh:=zh hP
 have hFmh:=zh hFm
 have hRh:=zh hR
 have fWh:=zh fW
 have hX0h:=zh hX0
 clear hP hR fW hX0 hX1
 go_wp2_with (refine wpList_load_at rfl 39 _ rfl rfl hFm (sub_self _) uFam rfl (infoFamL _) ?_;rw [Array.toArray_toList])
 refine Calls.mono (show Calls Tryz.prog 87 _ _ _ from hown) ?_
 rintro e V ⟨y,rfl,hy,hT,hrf,F2⟩
 have hTf:=hT.fam
 have hBV:=hFmh.o.fr F2 (by simp)
 have hsy:=zh (same_short hxh.o (hTf.mono (by simp)) hy hsh.o)
 unfold FA.val
 go_upto_region 2 with(refine wpList_store_row rfl 39 _ _ rfl g3 y.cells rfl rfl 39 x.cells hBV (infoFamA y) rfl (FA.all1 y) ?_)
 have FV1:Fr [g3] V (V.setRow g3 y.cells):=(Fr.refl [g3] V).setRow (.inl (by simp)) _
 refine wp_gen (fun U=>Blk U g3 39 y.cells∧FamIn U (X++ [g3,g4]) y∧Fr [g3] V U) ⟨Blk.setRow hBV _,(hT.frX FV1 (by simp)).fam,FV1⟩ ?_
 clear hBV hT hTf FV1 hown hrf
 rintro U ⟨hB,hyU,F3⟩
 have hP3:=zh ((hPh.o.fr F2 (by simp)).fr F3 (by simp;exact hws.o.2.2.2.2.2.2.1))
 have hR3:=zh ((hRh.o.fr F2 (by simp)).fr F3 (by simp;exact fun h=>hws.o.2.2.2.2.2.2.2.2 h.symm))
 have hL3:=zh (((hLW.o.fr F2.nil).fr (F3.mono (by simp))))
 have fU:=zh ((fWh.o.trans F2).andThen F3 (fun g hg=> .inr (by simp at hg;rw [hg];exact hws.o.2.1)))
 have hUs:W.heap.size≤U.heap.size:=Nat.le_trans F2.size F3.size
 have hyUh:=zh hyU
 have hyh:=zh hy
 clear F2 F3 hyU hy hFm
 have c9:=hB.cell 9
 have z9:=hB.frozen 9
 have hgl:=hB.lt
 obtain⟨⟨id,client,user,scope,redirect,challenge,method,code,tokens,revoked,leases⟩,sA,sc,tA,tc,ts,lA,lc⟩:=y
 simp only [FA.cells_def]at hB
 simp only [FA.cells_def,zG,zH,zI]at c9
 go_upto_region 3 with(fail)
 have hB9:=hB.set 9 (.bool true)
 simp only [zD,zE,zF]at hB9
 have F9:Fr [g3] U (U.setCell ⟨g3,9,none⟩ (.bool true)):=(Fr.refl [g3] U).setCell (p:=⟨g3,9,none⟩) (.inl (by simp)) _
 refine wp_gen (fun V=>Blk V g3 39 (FA.mk ⟨id,client,user,scope,redirect,challenge,method,code,tokens,true,leases⟩ sA sc tA tc ts lA lc).cells∧Fr [g3] U V) ⟨by rw [FA.cells_def];exact hB9,F9⟩ ?_
 clear hB9 F9 c9 z9 hgl hB
 rintro V9 ⟨hB9,F9⟩
 obtain⟨h1,h2,h3,h4,h5⟩:=hyUh.o.fr (F9.mono (by simp))
 have hz:FamIn V9 (X++ [g3,g4]) (FA.mk ⟨id,client,user,scope,redirect,challenge,method,code,tokens,true,leases⟩ sA sc tA tc ts lA lc):=⟨h1,h2,h3,h4,h5⟩
 have hsz:Short (FA.mk ⟨id,client,user,scope,redirect,challenge,method,code,tokens,true,leases⟩ sA sc tA tc ts lA lc):=⟨hsy.o.scope,hsy.o.toks,hsy.o.leases,hsy.o.each⟩
 have hzf:(FA.mk ⟨id,client,user,scope,redirect,challenge,method,code,tokens,true,leases⟩ sA sc tA tc ts lA lc).f={x.f with revoked:=true}:=by rw [←hyh.o]
 obtain⟨z,hze⟩:∃z,Hid (FA.mk ⟨id,client,user,scope,redirect,challenge,method,code,tokens,true,leases⟩ sA sc tA tc ts lA lc=z):=⟨_,zh rfl⟩
 rw [hze.o]at hB9 hz hsz hzf
 have hzfh:=zh hzf
 have hP9:=hP3.o.fr F9 (by simp;exact hws.o.2.2.2.2.2.2.1)
 have hR9:=zh (hR3.o.fr F9 (by simp;exact fun h=>hws.o.2.2.2.2.2.2.2.2 h.symm))
 have hL9:=hL3.o.fr (F9.mono (by simp))
 have f9:=zh (fU.o.andThen F9 (fun g hg=> .inr (by simp at hg;rw [hg];exact hws.o.2.1)))
 have hX9:∀g∈X++ [g3,g4],g<V9.heap.size:=fun g hg=>Nat.lt_of_lt_of_le (hX0h.o g hg) (Nat.le_trans hUs F9.size)
 have hwith:=rwith_t V9 (X++ [g3,g4]) A n c room l z hL9 hz hsz hX9 hmax
 rw [hzf]at hwith
 clear h1 h2 h3 h4 h5 hz hsz hzf hL9 hX9 F9
 go_wp2_with (first
  | (refine wpList_load_at rfl 50 _ rfl rfl hP9 (sub_self _) uRb rfl infoRbL ?_;rw [Array.toArray_toList])
  | (refine wpList_load_at rfl 39 _ rfl rfl hB9 (sub_self _) uFam rfl (infoFamL _) ?_;rw [Array.toArray_toList]))
 refine Calls.mono (show Calls Tryz.prog 35 _ _ _ from hwith) ?_
 rintro e Y ⟨A1,c1,l1,rfl,hl1,hm1,FY⟩
 have hRY:=hR9.o.fr FY (by simp)
 have hl1h:=zh hl1
 have hm1h:=zh hm1
 have FYh:=zh (f9.o.trans FY)
 clear hwith hl1 hm1 FY
 go_wp2_with (refine wpList_store_row rfl 50 _ _ rfl g4 _ rfl rfl 50 _ hRY infoRb (by rfl) (by kernel_rfl) ?_)
 refine bodyPost_ret (results_cell_row rfl _ _ g4 50 _ (0,0) _ rfl (Blk.setRow hRY _) uRb rfl infoRb) rfl ?_
 have F1:Fr [g4] Y (Y.setRow g4 #[.slice A1 l1.length c1,.int .i64 room]):=(Fr.refl [g4] Y).setRow (.inl (by simp)) _
 exact⟨A1,c1,l1,rfl,(hl1h.o.fr (F1.mono (by simp))).mono (by simp+contextual),hm1h.o,FYh.o.andThen F1 (fun g hg=> .inr (by simp at hg;rw [hg];exact hws.o.2.2.1))⟩
end Go.Proofs.YtdeoinjjphdbmaaGreat
