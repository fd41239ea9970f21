/- Walk: the document's issue: tokens more. Conditions: each theorem's own. -/
import Derived.Test.YtdeoinjjphdbmaaGreatKc
namespace Go.Proofs.YtdeoinjjphdbmaaGreat
open Go.RowKit Go.Sig
theorem infoAnsL (y:AA):(Tryz.prog.info? 33).map (·.size)=some y.cells.toList.length:=by unfold AA.cells;kernel_rfl
theorem FamT.frX {w w':World}{X S:List Nat}{x:FA}(h:FamT w X x) (hF:Fr S w w') (hS:∀g∈S,g∈X):FamT w' X x:=
 ⟨h.ts,h.toks.fr hF (fun g hg hh=>h.ft g hg (hS g hh)),h.ft,h.scope.fr (hF.mono fun g hg=>List.mem_append.2 (.inl (hS g hg))),h.leases.fr (hF.mono fun g hg=>List.mem_append.2 (.inl (hS g hg))),fun t ht=>(h.each t ht).fr (hF.mono fun g hg=>List.mem_append.2 (.inl (hS g hg)))⟩
theorem FamT.mono {w:World}{X Y:List Nat}{x:FA}(h:FamT w X x) (hY:∀g∈Y,g∈X):FamT w Y x:=by
 have hm:∀g∈Y++rowOf (.slice x.tA x.ts.length x.tc),g∈X++rowOf (.slice x.tA x.ts.length x.tc):=fun g hg=>by
  rcases List.mem_append.1 hg with hg |hg
  ·exact List.mem_append.2 (.inl (hY g hg))
  ·exact List.mem_append.2 (.inr hg)
 exact⟨h.ts,h.toks,fun g hg hh=>h.ft g hg (hY g hh),h.scope.mono hm,h.leases.mono hm,fun t ht=>(h.each t ht).mono hm⟩
theorem FamT.more {w w':World}{X Y:List Nat}{x:FA}(h:FamT w X x) (hF:Fr [] w w') (hY:∀g∈Y,w.heap.size≤g):FamT w' (X++Y) x:=by
 have hm:∀g∈X++Y++rowOf (.slice x.tA x.ts.length x.tc),g∈X++rowOf (.slice x.tA x.ts.length x.tc)∨w.heap.size≤g:=fun g hg=>by
  rcases List.mem_append.1 hg with hg |hg
  ·rcases List.mem_append.1 hg with hg |hg
   ·exact .inl (List.mem_append.2 (.inl hg))
   ·exact .inr (hY g hg)
  ·exact .inl (List.mem_append.2 (.inr hg))
 refine⟨h.ts,h.toks.fr hF (by simp),fun g hg hh=> ?_,h.scope.to (by decide) hF.nil hm,h.leases.to (by decide) hF.nil hm,fun t ht=>(h.each t ht).to (by decide) hF.nil hm⟩
 rcases List.mem_append.1 hh with hh |hh
 ·exact h.ft g hg hh
 ·have:=own_row_lt h.toks g hg
  have:=hY g hh
  omega
theorem FamT.push {w2 w3:World}{X:List Nat}{id client user redirect challenge method:ByteArray}{scope:List ByteArray}{code:Int}{tokens:List GTok}{revoked:Bool}{leases:List Int}{sA tA lA A3:Option Addr}{sc tc lc c3 i:Nat}{ts:List TA}{t:TA}
  (h:FamT w2 X ⟨⟨id,client,user,scope,redirect,challenge,method,code,tokens,revoked,leases⟩,sA,sc,tA,tc,ts,lA,lc⟩) (hi:ts.length=i) (ht:RdX w2 (X++rowOf (.slice tA i tc)) 1 t.A t.tok.scope.length (strCells t.tok.scope))
  (hX:∀g∈X,g<w2.heap.size) (p1:Own w3 55 3 (.slice A3 (i+1) c3) (i+1) (tokCells ts++t.cells)) (p2:Fr (rowOf (.slice tA i tc)) w2 w3) (p3:∀g∈rowOf (.slice A3 (i+1) c3),g∈rowOf (.slice tA i tc)∨g=w2.heap.size):
  FamT w3 X ⟨⟨id,client,user,scope,redirect,challenge,method,code,tokens++ [t.tok],revoked,leases⟩,sA,sc,A3,c3,ts++ [t],lA,lc⟩:=by
 have hl:(ts++ [t]).length=i+1:=by rw [List.length_append,hi];rfl
 obtain⟨h1,h2,h3,h4,h5,h6⟩:=h
 simp only at h1 h2 h3 h4 h5 h6
 rw [hi]at h2 h3 h4 h5 h6
 have hY:∀g∈X++rowOf (.slice A3 (i+1) c3),g∈X++rowOf (.slice tA i tc)∨w2.heap.size≤g:=fun g hg=>by
  rcases List.mem_append.1 hg with hg |hg
  ·exact .inl (List.mem_append.2 (.inl hg))
  ·rcases p3 g hg with e |e
   ·exact .inl (List.mem_append.2 (.inr e))
   ·exact .inr (by omega)
 have hF:Fr (X++rowOf (.slice tA i tc)) w2 w3:=p2.mono (fun g hg=>List.mem_append.2 (.inr hg))
 refine⟨by simp only [List.map_append,h1];rfl,?_,?_,?_,?_,?_⟩
 ·simp only [hl,tokCells_append]
  simpa [tokCells]using p1
 ·simp only [hl]
  intro g hg hh
  rcases p3 g hg with e |e
  ·exact h3 g e hh
  ·have:=hX g hh
   omega
 ·simp only [hl]
  exact h4.to (by decide) hF hY
 ·simp only [hl]
  exact h5.to (by decide) hF hY
 ·simp only [hl]
  intro u hu
  rcases List.mem_append.1 hu with hu |hu
  ·exact(h6 u hu).to (by decide) hF hY
  ·obtain rfl:u=t:=by simpa using hu
   exact ht.to (by decide) hF hY
theorem results_cc {P:Program}{fn:Func}{p q:Tmp}{ty tz:TypeId}(h:fn.results=#[.cell p ty,.cell q tz]) (tmps:Array Value) (w:World) (g g2:Nat) (t t2:TypeId) (cs cs2:Array Value) (d d2:TypeDesc)
  (hp:tmps.getD p undef= .pointer (some ⟨g,0,none⟩)) (hg:Blk w g t cs) (hu:P.underlying ty=some d) (hd:(match d with | .struct _ | .array _ _=>true |_=>false)=true) (hi:(P.info? ty).map (·.size)=some cs.size)
  (hp2:tmps.getD q undef= .pointer (some ⟨g2,0,none⟩)) (hg2:Blk w g2 t2 cs2) (hu2:P.underlying tz=some d2) (hd2:(match d2 with | .struct _ | .array _ _=>true |_=>false)=true) (hi2:(P.info? tz).map (·.size)=some cs2.size):
  (results fn tmps).run P w= .ok (.tuple #[.agg cs,.agg cs2]) w:=by
 have hp':tmps[p]?.getD undef= .pointer (some ⟨g,0,none⟩):=by simpa using hp
 have hp2':tmps[q]?.getD undef= .pointer (some ⟨g2,0,none⟩):=by simpa using hp2
 simp [results,h,hp',hp2',asAddr,run_loadVar_row w g t ty cs (0,0) d hg hu hd hi,run_loadVar_row w g2 t2 tz cs2 (0,0) d2 hg2 hu2 hd2 hi2]
def RIssPost (w:World) (X:List Nat) (r:GFam×GAns) (A:Option Addr) (c:Nat) (e:Ending) (w':World):Prop:=∃y:FA,e= .returned (.tuple #[y.val,(AA.mk r.2 A c).val])∧y.f=r.1∧FamT w' X y∧(∀g∈rowOf (.slice y.tA y.ts.length y.tc),w.heap.size≤g)∧Fr [] w w'
theorem riss_end {w V9:World}{X X0:List Nat}{g6 g7:Nat}{y:FA}{an:AA}{A:Option Addr}{c:Nat}{r:GFam×GAns}(hT:FamT V9 X0 y) (hrw:∀g∈rowOf (.slice y.tA y.ts.length y.tc),w.heap.size≤g) (hy:y.f=r.1) (ha:an=AA.mk r.2 A c) (h6:g6∈X0) (h7:g7∈X0) (hX:∀g∈X,g∈X0) (hF:Fr [] w V9) (w6:w.heap.size≤g6) (w7:w.heap.size≤g7):
  RIssPost w X r A c (.returned (.tuple #[.agg y.cells,.agg an.cells])) ((V9.setRow g6 y.cells).setRow g7 an.cells):=by
 have F1:Fr [g6,g7] V9 ((V9.setRow g6 y.cells).setRow g7 an.cells):=((Fr.refl [g6,g7] V9).setRow (.inl (by simp)) _).setRow (.inl (by simp)) _
 subst ha
 refine⟨y,rfl,hy,(hT.frX F1 (by simp [h6,h7])).mono hX,hrw,hF.andThen F1 (fun g hg=> .inr ?_)⟩
 simp at hg
 omega
set_option maxRecDepth 100000 in
set_option maxHeartbeats 8000000 in
theorem rissue_t (w:World) (X:List Nat) (hX:∀g∈X,g<w.heap.size) (x:FA) (hx:FamIn w [] x) (hs:Short x) (A:Option Addr) (c:Nat) (sl:List ByteArray) (hA:RdX w X 1 A sl.length (strCells sl)) (_h1:sl.length≤1000) (r:Bool):
  Calls Tryz.prog 86 #[x.val,.slice A sl.length c,.bool r] w (RIssPost w X (issueM x.f sl r) A c):=by
 have hAh:=zh hA
 have hXh:=zh hX
 have hxh:=zh hx
 have hsh:=zh hs
 obtain⟨n,hn⟩:∃z,Hid (sl.length=z):=⟨_,zh rfl⟩
 have hzs:∃zs:Array Value,zs.size=11∧Hid (zs=zeroFA.cells):=⟨_,rfl,zh rfl⟩
 obtain⟨zs,hz,hzh⟩:=hzs
 have hzs2:∃zs:Array Value,zs.size=8∧Hid (zs=(AA.mk (noA 0) none 0).cells):=⟨_,rfl,zh rfl⟩
 obtain⟨za,hza,hzah⟩:=hzs2
 clear hA hX hx hs
 rw [hn.o]
 unfold FA.val
 go_enter Tryz.func86,Tryz.ntmps86
 go_upto_region 1 with(fail)
 refine wp_gen (fun W=>Blk W w.heap.size 39 x.cells∧Blk W (w.heap.size+1) 39 zs∧Blk W (w.heap.size+1+1) 33 za∧Fr [] w W) ⟨((Blk.new _ _ _).alloc _).alloc _,by rw [hzh.o];exact(Blk.new' _ _ (by simp)).alloc _,by rw [hzah.o];exact Blk.new' _ _ (by simp),(((Fr.refl _ _).alloc _).alloc _).alloc _⟩ ?_
 rintro W ⟨hB,hR6,hR7,fW⟩
 obtain⟨gf,HGF⟩:∃z,Hid (w.heap.size=z):=⟨_,zh rfl⟩
 rw [HGF.o]at hB hR6 hR7⊢
 obtain⟨g6,HG6⟩:∃z,Hid (gf+1=z):=⟨_,zh rfl⟩
 rw [HG6.o]at hR6 hR7⊢
 obtain⟨g7,HG7⟩:∃z,Hid (g6+1=z):=⟨_,zh rfl⟩
 rw [HG7.o]at hR7⊢
 have hws:Hid (w.heap.size≤gf∧w.heap.size≤g6∧w.heap.size≤g7∧gf<W.heap.size∧g6<W.heap.size∧g7<W.heap.size∧gf≠g6∧gf≠g7∧g6≠g7):=by
  have:=HGF.o
  have:=HG6.o
  have:=HG7.o
  exact zh ⟨by omega,by omega,by omega,hB.lt,hR6.lt,hR7.lt,by omega,by omega,by omega⟩
 have hR6h:=zh hR6
 have hR7h:=zh hR7
 have fWh:=zh fW
 have hX0:∀g∈ [gf,g6,g7]++X,g<W.heap.size:=fun g hg=>by
  rcases List.mem_append.1 hg with hg |hg
  ·obtain⟨_,_,_,a1,a2,a3,_⟩:=hws.o
   simp at hg
   omega
  ·exact Nat.lt_of_lt_of_le (hXh.o g hg) fW.size
 have hX0h:=zh hX0
 have hown:=rown_t W ([gf,g6,g7]++X) hX0 x (hxh.o.fr fW) hsh.o
 have hBh:=zh hB
 clear hR6 hR7 fW hB hX0
 go_wp2_with (refine wpList_load_at rfl 39 _ rfl rfl hBh.o (sub_self _) uFam rfl (infoFamL _) ?_;rw [Array.toArray_toList])
 refine Calls.mono (show Calls Tryz.prog 87 _ _ _ from hown) ?_
 rintro e V ⟨y,rfl,hy,hT,hrf,F2⟩
 have hrfh:=zh hrf
 clear hrf
 have hBV:=hBh.o.fr F2 (by simp)
 unfold FA.val
 go_upto_region 2 with(refine wpList_store_row rfl 39 _ _ rfl gf y.cells rfl rfl 39 x.cells hBV (infoFamA y) rfl (FA.all1 y) ?_)
 have FV1:Fr [gf] V (V.setRow gf y.cells):=(Fr.refl [gf] V).setRow (.inl (by simp)) _
 refine wp_gen (fun U=>Blk U gf 39 y.cells∧FamT U ([gf,g6,g7]++X) y∧Fr [gf] V U) ⟨Blk.setRow hBV _,hT.frX FV1 (by simp),FV1⟩ ?_
 clear hBV hT FV1 hown
 rintro U ⟨hB,hT,F3⟩
 have fU:=zh ((fWh.o.trans F2).andThen F3 (fun g hg=> .inr (by simp at hg;rw [hg];exact hws.o.1)))
 have hWU:W.heap.size≤U.heap.size:=Nat.le_trans F2.size F3.size
 have hWUh:=zh hWU
 have hR6U:=zh ((hR6h.o.fr F2 (by simp)).fr F3 (by simp;exact fun h=>hws.o.2.2.2.2.2.2.1 h.symm))
 have hR7U:=zh ((hR7h.o.fr F2 (by simp)).fr F3 (by simp;exact fun h=>hws.o.2.2.2.2.2.2.2.1 h.symm))
 have hst:=hsh.o.toks
 have hlenx:=hxh.o.len
 have hTl:=hT.fam.len
 obtain⟨f,sA,sc,tA,tc,ts,lA,lc⟩:=y
 simp only at hy hTl
 subst hy
 have hss:=hsh.o.scope
 obtain⟨fx,fsA,fsc,ftA,ftc,fts,flA,flc⟩:=x
 simp only at hst hlenx hTl hss hT hB⊢
 clear hxh hsh hBh F2 F3
 obtain⟨id,client,user,scope,redirect,challenge,method,code,tokens,revoked,leases⟩:=fx
 simp only at hst hlenx hTl hss
 obtain⟨tn,htn⟩:∃z,Hid (ts.length=z):=⟨_,zh rfl⟩
 obtain⟨sn,hsn⟩:∃z,Hid (scope.length=z):=⟨_,zh rfl⟩
 obtain⟨ln,hln⟩:∃z,Hid (leases.length=z):=⟨_,zh rfl⟩
 have hts:tn≤1000:=by have:=htn.o;omega
 have htk:=zh (show tokens.length=tn by have:=htn.o;omega)
 rw [hsn.o]at hss
 clear hst hlenx hTl
 rw [FA.cells_def]at hB
 simp only [htn.o,hsn.o,hln.o]at hB
 have hTh:=zh hT
 have hBh:=zh hB
 have hAU:=zh (hAh.o.fr (Fr.nil fU.o))
 rw [hn.o]at hAU
 have hrf1:=zh (show∀g∈rowOf (.slice tA tn tc),W.heap.size≤g by have:=hrfh.o;simp only [htn.o]at this;exact this)
 have hX0U:=zh (show∀g∈ [gf,g6,g7]++X,g<U.heap.size from fun g hg=>Nat.lt_of_lt_of_le (hX0h.o g hg) hWUh.o)
 clear hT hB hrfh
 have hown1:=zh (show Own U 55 3 (.slice tA tn tc) tn (tokCells ts) by have:=hTh.o.toks;simp only [htn.o]at this;exact this)
 have hrow1:=zh (show∀g∈rowOf (.slice tA tn tc),g∉ [gf,g6,g7]++X by have:=hTh.o.ft;simp only [htn.o]at this;exact this)
 have k8:=hBh.o.cell 8
 have k3s:=hBh.o.cell 3
 have hgl:=hBh.o.lt
 simp only [zG,zH,zI]at k8 k3s
 have hgr1:=zh (show gf∉rowOf (.slice tA tn tc)from fun hg=>hrow1.o gf hg (by simp))
 go_upto_region 3 with(refine wpList_own_append tIss (hown1.o.fr ((Fr.refl [] _).alloc _) (by simp)) (tok_new' U 2 A n c false ⟨⟨2,sl,false⟩,A,c⟩ rfl rfl hn.o rfl rfl) (TA.one _) (by simp) (by unfold maxLen;omega) (by omega) rfl rfl rfl rfl (fun v2 w2 p1 p2 p3=> ?_);obtain⟨A3,c3,rfl,hA3⟩:=p1.form;have hBp:=(hBh.o.alloc (.cells #[.int .i64 2,.slice A n c,.bool false] 55)).fr p2 hgr1.o;have hz3:=hBp.frozen 8;have hl3:=hBp.lt;have k3:=hBp.cell 8;simp only [zG,zH,zI]at k3;clear hBp k8 k3s hgl)
 have hB3:=((hBh.o.alloc (.cells #[.int .i64 2,.slice A n c,.bool false] 55)).fr p2 hgr1.o).set 8 (.slice A3 (tn+1) c3)
 simp only [zD,zE,zF]at hB3
 have F3:Fr [gf] w2 (w2.setCell ⟨gf,8,none⟩ (.slice A3 (tn+1) c3)):=(Fr.refl [gf] w2).setCell (p:=⟨gf,8,none⟩) (.inl (by simp)) _
 have F1a:Fr [] U (U.alloc (.cells #[.int .i64 2,.slice A n c,.bool false] 55)):=(Fr.refl [] U).alloc _
 have hAo:RdX (U.alloc (.cells #[.int .i64 2,.slice A n c,.bool false] 55)) ([gf,g6,g7]++X++rowOf (.slice tA tn tc)) 1 A n (strCells sl):=by
  refine⟨(hAU.o.fr F1a.nil).1,fun hn0 ad e hg=> ?_⟩
  have h2:=hAh.o.1.lt (by decide) (by rw [hn.o];exact hn0) ad e
  have hwW:=fWh.o.size
  rcases List.mem_append.1 hg with hg |hg
  ·rcases List.mem_append.1 hg with hg |hg
   ·obtain⟨a1,a2,a3,_⟩:=hws.o
    simp at hg
    omega
   ·exact hAU.o.2 hn0 ad e hg
  ·have:=hrf1.o _ hg
   omega
 have hT2:=(hTh.o.fr0 F1a).push (t:=⟨⟨2,sl,false⟩,A,c⟩) (i:=tn) (htn.o) (by simp only [hn.o];exact hAo) (fun g hg=>Nat.lt_of_lt_of_le (hX0U.o g hg) F1a.size) p1 p2 p3
 have hT3:=zh (hT2.frX F3 (by simp))
 have fw2:=(fU.o.trans F1a).andThen p2 (fun g hg=> .inr (Nat.le_trans fWh.o.size (hrf1.o g hg)))
 have f3:=zh (fw2.andThen F3 (fun g hg=> .inr (by simp at hg;rw [hg];exact hws.o.1)))
 have hs3:U.heap.size≤w2.heap.size:=Nat.le_trans F1a.size p2.size
 have hX3:=zh (show∀g∈ [gf,g6,g7]++X,g<(w2.setCell ⟨gf,8,none⟩ (.slice A3 (tn+1) c3)).heap.size from fun g hg=>Nat.lt_of_lt_of_le (hX0U.o g hg) (Nat.le_trans hs3 F3.size))
 have h63:=zh (((hR6U.o.fr F1a (by simp)).fr p2 (fun hg=>hrow1.o g6 hg (by simp))).fr F3 (by simp;exact fun h=>hws.o.2.2.2.2.2.2.1 h.symm))
 have h73:=zh (((hR7U.o.fr F1a (by simp)).fr p2 (fun hg=>hrow1.o g7 hg (by simp))).fr F3 (by simp;exact fun h=>hws.o.2.2.2.2.2.2.2.1 h.symm))
 have hrf3:=zh (show∀g∈rowOf (.slice A3 (tn+1) c3),W.heap.size≤g from fun g hg=>(p3 g hg).elim (hrf1.o g) (fun e=>by rw [e];exact Nat.le_trans hWUh.o F1a.size))
 have hlen3:=zh (show(ts++ [(⟨⟨2,sl,false⟩,A,c⟩:TA)]).length=tn+1 by rw [List.length_append,htn.o];rfl)
 obtain⟨U2,eU2⟩:∃V,V=w2.setCell ⟨gf,8,none⟩ (.slice A3 (tn+1) c3):=⟨_,rfl⟩
 rw [←eU2]at hB3 hT3 f3 hX3 h63 h73⊢
 have hBh:=zh hB3
 have hTh:=hT3
 have fU:=f3
 have hX0U:=hX3
 have hR6U:=h63
 have hR7U:=h73
 have hrf1:=hrf3
 have hUU2:=zh (show U.heap.size≤U2.heap.size by rw [eU2];exact Nat.le_trans hs3 F3.size)
 clear eU2 hB3 hT3 f3 hX3 h63 h73 F3 hT2 F1a hAo p1 p2 p3 fw2 hs3 hA3 hown1 hrow1 hgr1 hAU hz3 k3 hrf3
 have k8:=hBh.o.cell 8
 have hgl:=hBh.o.lt
 simp only [zG,zH,zI]at k8
 go_upto_region 4 with(refine wpList_store_row rfl 33 _ _ rfl U2.heap.size _ rfl rfl 33 _ (Blk.new _ _ _) infoAns (by kernel_rfl) (by kernel_rfl) ?_)
 refine wp_gen (fun U3=>Blk U3 U2.heap.size 33 (AA.mk ⟨0,(tn:Int)+1,0,sl,nilB,nilB,false,false⟩ A c).cells∧Fr [] U2 U3) ⟨by unfold AA.cells;simp only [hn.o];exact Blk.setRow (Blk.new _ _ _) _,((Fr.refl [] U2).alloc _).setRow (.inr (Nat.le_refl _)) _⟩ ?_
 clear k8 hgl
 rintro U3 ⟨hBa,F4⟩
 obtain⟨g8,HG8⟩:∃z,Hid (U2.heap.size=z):=⟨_,zh rfl⟩
 rw [HG8.o]at hBa⊢
 have hT8:=hTh.o.more F4 (Y:= [g8]) (by simp;exact Nat.le_of_eq HG8.o)
 have hBh:=zh (hBh.o.fr F4 (by simp))
 have fU0:=fU
 have hU23:=zh (show U.heap.size≤U3.heap.size from Nat.le_trans hUU2.o F4.size)
 have fU:=zh (fU.o.trans F4)
 have hX2:=hX0U
 have hX0U:=zh (show∀g∈ [gf,g6,g7]++X,g<U3.heap.size from fun g hg=>Nat.lt_of_lt_of_le (hX0U.o g hg) F4.size)
 have hR6U:=zh (hR6U.o.fr F4 (by simp))
 have hR7U:=zh (hR7U.o.fr F4 (by simp))
 have h8ne:=zh (show gf≠g8∧g6≠g8∧g7≠g8 by
  have a1:=hX0U.o gf (by simp)
  have a2:=hX0U.o g6 (by simp)
  have a3:=hX0U.o g7 (by simp)
  have:=HG8.o
  have b1:=hX2.o gf (by simp)
  have b2:=hX2.o g6 (by simp)
  have b3:=hX2.o g7 (by simp)
  exact⟨by omega,by omega,by omega⟩)
 have hBah:=zh hBa
 have hT8h:=zh hT8
 have hXm:=zh (show∀g∈X,g∈ [gf,g6,g7]++X++ [g8]from fun g hg=>by simp [hg])
 clear hBa hT8 hTh F4
 cases r with
 |false=>
  obtain⟨fy,hfy⟩:∃z,Hid (FA.mk ⟨id,client,user,scope,redirect,challenge,method,code,tokens++ [⟨2,sl,false⟩],revoked,leases⟩ sA sc A3 c3 (ts++ [⟨⟨2,sl,false⟩,A,c⟩]) lA lc=z):=⟨_,zh rfl⟩
  obtain⟨an,han⟩:∃z,Hid (AA.mk ⟨0,(tn:Int)+1,0,sl,nilB,nilB,false,false⟩ A c=z):=⟨_,zh rfl⟩
  have hB9:Blk U3 gf 39 fy.cells:=by rw [←hfy.o,FA.cells_def];simp only [hlen3.o,hsn.o,hln.o];exact hBh.o
  have hA9:Blk U3 g8 33 an.cells:=by rw [←han.o];exact hBah.o
  have hT9:=hT8h
  have hrw9:=zh (show∀g∈rowOf (.slice fy.tA fy.ts.length fy.tc),w.heap.size≤g by
   rw [←hfy.o]
   simp only [hlen3.o]
   exact fun g hg=>Nat.le_trans fWh.o.size (hrf1.o g hg))
  have h69:=hR6U.o
  have h79:=hR7U.o
  have fV9:=fU
  rw [hfy.o]at hT9
  have han:Hid (an=AA.mk (issueM ⟨id,client,user,scope,redirect,challenge,method,code,tokens,revoked,leases⟩ sl false).2 A c):=zh (by rw [←han.o];unfold issueM;simp only [htk.o];rfl)
  clear hBh hBah hT8h hR6U hR7U
  go_upto_region 7 with(fail)
  have G1:Fr [g6] U3 (U3.setRow g6 fy.cells):=(Fr.refl [g6] U3).setRow (.inl (by simp)) _
  have G2:Fr [g7] (U3.setRow g6 fy.cells) ((U3.setRow g6 fy.cells).setRow g7 an.cells):=(Fr.refl [g7] _).setRow (.inl (by simp)) _
  have n1:=hws.o.2.2.2.2.2.2
  have hB10:=hB9.fr G1 (by simp;exact n1.1)
  have hA10:=hA9.fr G1 (by simp;exact fun h=>h8ne.o.2.1 h.symm)
  have hB11:=hB10.fr G2 (by simp;exact n1.2.1)
  have hA11:=hA10.fr G2 (by simp;exact fun h=>h8ne.o.2.2 h.symm)
  have h710:=h79.fr G1 (by simp;exact fun h=>n1.2.2 h.symm)
  have h611:=(Blk.setRow h69 fy.cells).fr G2 (by simp;exact n1.2.2)
  refine wp_region_z (fun w'=>Blk w' gf 39 fy.cells∧Blk w' g8 33 an.cells) [] (by kernel_rfl) ⟨hB9,hA9⟩ ?_
  intro hHeld
  refine wpZ_take (i:=0) rfl (by kernel_rfl) (by kernel_rfl) (by kernel_rfl) (by kernel_rfl) (fun _ _ _ h=>h) (yieldsIf_load_mid (by kernel_rfl) 39 _ rfl gf 0 rfl (fy.cells.toList) _ (fun w h=>range_cells h.1) uFam rfl (infoFamL _)) hHeld ?_
  try simp only [zA,zC,Act.put,zD,zE,zF]
  refine wpZ_take (i:=1) rfl (by kernel_rfl) (by kernel_rfl) (by kernel_rfl) (by kernel_rfl) (fun _ _ _ h=>h) (yieldsIf_load_mid (by kernel_rfl) 33 _ rfl g8 0 rfl (an.cells.toList) _ (fun w h=>range_cells h.2) uAns rfl (infoAnsL _)) hHeld ?_
  try simp only [zA,zB,zC,Act.put,zD,zE,zF]
  refine wpZ_one (i:=2) (by kernel_rfl) rfl (fun K hK=> ?_)
  rw [if_pos (wanted_none rfl)]
  refine wp_store_row 39 _ _ rfl g6 fy.cells rfl rfl 39 zs h69 (infoFamA fy) (hz.trans (FA.size11 fy).symm) (FA.all1 fy) ?_
  show K (Act.put _ none undef) _
  refine hK.out _ _ ⟨hB10,hA10⟩ (fun hHeld=> ?_)
  clear hK K
  try simp only [Act.put]
  refine wpZ_one (i:=3) (by kernel_rfl) rfl (fun K hK=> ?_)
  rw [if_pos (wanted_none rfl)]
  refine wp_store_row 33 _ _ rfl g7 an.cells rfl rfl 33 za h710 (infoAnsY an) (hza.trans (AA.size8 an).symm) (AA.one an) ?_
  show K (Act.put _ none undef) _
  refine hK.out _ _ ⟨hB11,hA11⟩ (fun hHeld=> ?_)
  clear hK K
  try simp only [Act.put]
  refine wpZ_done (by kernel_rfl) ?_ _
  go_wp2_with fail
  refine bodyPost_ret (results_cc (p:=6) (q:=7) rfl _ _ g6 g7 39 33 fy.cells an.cells _ _ rfl h611 uFam rfl (infoFamA fy) rfl (Blk.setRow h710 _) uAns rfl (infoAnsY an)) rfl ?_
  exact riss_end (hT9.o.fr0 ((Fr.refl [] U3).drew)) hrw9.o (by rw [←hfy.o];unfold issueM;rfl) han.o (by simp) (by simp) hXm.o fV9.o.drew hws.o.2.1 hws.o.2.2.1
 |true=>
  have hUW3:=zh (show W.heap.size≤U3.heap.size from Nat.le_trans hWUh.o hU23.o)
  have hX0U:=zh (show∀g∈ [gf,g6,g7]++X++ [g8],g<U3.heap.size from fun g hg=>by
   rcases List.mem_append.1 hg with hg |hg
   ·exact hX0U.o g hg
   ·have:=hBah.o.lt
    simp at hg
    omega)
  have hTh:=hT8h
  have hown1:=zh (show Own U3 55 3 (.slice A3 (tn+1) c3) (tn+1) (tokCells (ts++ [(⟨⟨2,sl,false⟩,A,c⟩:TA)])) by have:=hTh.o.toks;simp only [hlen3.o]at this;exact this)
  have hrow1:=zh (show∀g∈rowOf (.slice A3 (tn+1) c3),g∉ [gf,g6,g7]++X++ [g8] by have:=hTh.o.ft;simp only [hlen3.o]at this;exact this)
  have k8:=hBh.o.cell 8
  have k3s:=hBh.o.cell 3
  have hgl:=hBh.o.lt
  simp only [zG,zH,zI]at k8 k3s
  have hgr1:=zh (show gf∉rowOf (.slice A3 (tn+1) c3)from fun hg=>hrow1.o gf hg (by simp))
  go_upto_region 6 with(refine wpList_own_append tIss (hown1.o.fr ((Fr.refl [] _).alloc _) (by simp)) (tok_new' U3 3 sA sn sc false ⟨⟨3,scope,false⟩,sA,sc⟩ rfl rfl hsn.o rfl rfl) (TA.one _) (by simp) (by unfold maxLen;omega) (by omega) rfl rfl rfl rfl (fun v2 w4 p1 p2 p3=> ?_);obtain⟨A4,c4,rfl,hA3⟩:=p1.form;have hBp:=(hBh.o.alloc (.cells #[.int .i64 3,.slice sA sn sc,.bool false] 55)).fr p2 hgr1.o;have hz3:=hBp.frozen 8;have hl3:=hBp.lt;have k3:=hBp.cell 8;simp only [zG,zH,zI]at k3;clear hBp k8 k3s hgl)
  have hB3:=((hBh.o.alloc (.cells #[.int .i64 3,.slice sA sn sc,.bool false] 55)).fr p2 hgr1.o).set 8 (.slice A4 ((tn+1)+1) c4)
  simp only [zD,zE,zF]at hB3
  have F3:Fr [gf] w4 (w4.setCell ⟨gf,8,none⟩ (.slice A4 ((tn+1)+1) c4)):=(Fr.refl [gf] w4).setCell (p:=⟨gf,8,none⟩) (.inl (by simp)) _
  have F1a:Fr [] U3 (U3.alloc (.cells #[.int .i64 3,.slice sA sn sc,.bool false] 55)):=(Fr.refl [] U3).alloc _
  have hAo:RdX (U3.alloc (.cells #[.int .i64 3,.slice sA sn sc,.bool false] 55)) ([gf,g6,g7]++X++ [g8]++rowOf (.slice A3 (tn+1) c3)) 1 sA sn (strCells scope):=by
   have:=hTh.o.scope.fr F1a.nil
   simp only [hlen3.o,hsn.o]at this
   exact this
  have hT2:=(hTh.o.fr0 F1a).push (t:=⟨⟨3,scope,false⟩,sA,sc⟩) (i:=(tn+1)) (hlen3.o) (by simp only [hsn.o];exact hAo) (fun g hg=>Nat.lt_of_lt_of_le (hX0U.o g hg) F1a.size) p1 p2 p3
  have hT3:=zh (hT2.frX F3 (by simp))
  have fw2:=(fU.o.trans F1a).andThen p2 (fun g hg=> .inr (Nat.le_trans fWh.o.size (hrf1.o g hg)))
  have f3:=zh (fw2.andThen F3 (fun g hg=> .inr (by simp at hg;rw [hg];exact hws.o.1)))
  have hs3:U3.heap.size≤w4.heap.size:=Nat.le_trans F1a.size p2.size
  have hX3:=zh (show∀g∈ [gf,g6,g7]++X++ [g8],g<(w4.setCell ⟨gf,8,none⟩ (.slice A4 ((tn+1)+1) c4)).heap.size from fun g hg=>Nat.lt_of_lt_of_le (hX0U.o g hg) (Nat.le_trans hs3 F3.size))
  have h63:=zh (((hR6U.o.fr F1a (by simp)).fr p2 (fun hg=>hrow1.o g6 hg (by simp))).fr F3 (by simp;exact fun h=>hws.o.2.2.2.2.2.2.1 h.symm))
  have h73:=zh (((hR7U.o.fr F1a (by simp)).fr p2 (fun hg=>hrow1.o g7 hg (by simp))).fr F3 (by simp;exact fun h=>hws.o.2.2.2.2.2.2.2.1 h.symm))
  have hrf4:=zh (show∀g∈rowOf (.slice A4 (tn+1+1) c4),W.heap.size≤g from fun g hg=>(p3 g hg).elim (hrf1.o g) (fun e=>by rw [e];exact Nat.le_trans (Nat.le_trans hUW3.o (Nat.le_refl _)) F1a.size))
  have hA3b:=zh (((hBah.o.fr F1a (by simp)).fr p2 (fun hg=>hrow1.o g8 hg (by simp))).fr F3 (by simp;exact fun h=>h8ne.o.1 h.symm))
  have hlen4:=zh (show(ts++ [(⟨⟨2,sl,false⟩,A,c⟩:TA)]++ [(⟨⟨3,scope,false⟩,sA,sc⟩:TA)]).length=tn+1+1 by rw [List.length_append,hlen3.o];rfl)
  obtain⟨U4,eU4⟩:∃V,V=w4.setCell ⟨gf,8,none⟩ (.slice A4 (tn+1+1) c4):=⟨_,rfl⟩
  rw [←eU4]at hB3 hT3 f3 hX3 h63 h73 hA3b⊢
  have hBh:=zh hB3
  have hTh:=hT3
  have fU:=f3
  have hR6U:=h63
  have hR7U:=h73
  clear eU4 hB3 hT3 f3 hX3 h63 h73 F3 hT2 F1a hAo p1 p2 p3 fw2 hs3 hA3 hown1 hrow1 hgr1 hz3 k3 hT8h hBah
  have k8:=hBh.o.cell 8
  have hgl:=hBh.o.lt
  simp only [zG,zH,zI]at k8
  have ka:U4.cell? ⟨g8,2,none⟩=some (.int .i64 0):=hA3b.o.cell 2
  have kaz:=hA3b.o.frozen 2
  have kal:=hA3b.o.lt
  go_upto_region 7 with(fail)
  have hA5:=hA3b.o.set 2 (.int .i64 ((tn:Int)+1+1))
  unfold AA.cells at hA5
  simp only [zD,zE,zF]at hA5
  have F5:Fr [g8] U4 (U4.setCell ⟨g8,2,none⟩ (.int .i64 ((tn:Int)+1+1))):=(Fr.refl [g8] U4).setCell (p:=⟨g8,2,none⟩) (.inl (by simp)) _
  refine wp_gen (fun U5=>Blk U5 g8 33 (AA.mk ⟨0,(tn:Int)+1,(tn:Int)+1+1,sl,nilB,nilB,false,false⟩ A c).cells∧Fr [g8] U4 U5) ⟨hA5,F5⟩ ?_
  clear hA5 F5 k8 hgl ka kaz kal
  rintro U5 ⟨hA5,F5⟩
  obtain⟨fy,hfy⟩:∃z,Hid (FA.mk ⟨id,client,user,scope,redirect,challenge,method,code,tokens++ [⟨2,sl,false⟩]++ [⟨3,scope,false⟩],revoked,leases⟩ sA sc A4 c4 (ts++ [⟨⟨2,sl,false⟩,A,c⟩]++ [⟨⟨3,scope,false⟩,sA,sc⟩]) lA lc=z):=⟨_,zh rfl⟩
  obtain⟨an,han⟩:∃z,Hid (AA.mk ⟨0,(tn:Int)+1,(tn:Int)+1+1,sl,nilB,nilB,false,false⟩ A c=z):=⟨_,zh rfl⟩
  have hB9:Blk U5 gf 39 fy.cells:=by rw [←hfy.o,FA.cells_def];simp only [hlen4.o,hsn.o,hln.o];exact hBh.o.fr F5 (by simp;exact h8ne.o.1)
  have hA9:Blk U5 g8 33 an.cells:=by rw [←han.o];exact hA5
  have hT9:=zh (hTh.o.frX F5 (by simp))
  have hrw9:=zh (show∀g∈rowOf (.slice fy.tA fy.ts.length fy.tc),w.heap.size≤g by
   rw [←hfy.o]
   simp only [hlen4.o]
   exact fun g hg=>Nat.le_trans fWh.o.size (hrf4.o g hg))
  have h69:=hR6U.o.fr F5 (by simp;exact h8ne.o.2.1)
  have h79:=hR7U.o.fr F5 (by simp;exact h8ne.o.2.2)
  have h8w:w.heap.size≤g8:=by have:=HG8.o;have:=fU0.o.size;omega
  have fV9:=zh (fU.o.andThen F5 (fun g hg=> .inr (by simp at hg;rw [hg];exact h8w)))
  rw [hfy.o]at hT9
  have han:Hid (an=AA.mk (issueM ⟨id,client,user,scope,redirect,challenge,method,code,tokens,revoked,leases⟩ sl true).2 A c):=zh (by
   rw [←han.o]
   unfold issueM
   simp only [htk.o,if_true]
   rw [show(tn:Int)+1+1=(tn:Int)+2 by omega])
  clear hBh hA3b hTh hR6U hR7U hA5 F5
  go_upto_region 7 with(fail)
  have G1:Fr [g6] U5 (U5.setRow g6 fy.cells):=(Fr.refl [g6] U5).setRow (.inl (by simp)) _
  have G2:Fr [g7] (U5.setRow g6 fy.cells) ((U5.setRow g6 fy.cells).setRow g7 an.cells):=(Fr.refl [g7] _).setRow (.inl (by simp)) _
  have n1:=hws.o.2.2.2.2.2.2
  have hB10:=hB9.fr G1 (by simp;exact n1.1)
  have hA10:=hA9.fr G1 (by simp;exact fun h=>h8ne.o.2.1 h.symm)
  have hB11:=hB10.fr G2 (by simp;exact n1.2.1)
  have hA11:=hA10.fr G2 (by simp;exact fun h=>h8ne.o.2.2 h.symm)
  have h710:=h79.fr G1 (by simp;exact fun h=>n1.2.2 h.symm)
  have h611:=(Blk.setRow h69 fy.cells).fr G2 (by simp;exact n1.2.2)
  refine wp_region_z (fun w'=>Blk w' gf 39 fy.cells∧Blk w' g8 33 an.cells) [] (by kernel_rfl) ⟨hB9,hA9⟩ ?_
  intro hHeld
  refine wpZ_take (i:=0) rfl (by kernel_rfl) (by kernel_rfl) (by kernel_rfl) (by kernel_rfl) (fun _ _ _ h=>h) (yieldsIf_load_mid (by kernel_rfl) 39 _ rfl gf 0 rfl (fy.cells.toList) _ (fun w h=>range_cells h.1) uFam rfl (infoFamL _)) hHeld ?_
  try simp only [zA,zC,Act.put,zD,zE,zF]
  refine wpZ_take (i:=1) rfl (by kernel_rfl) (by kernel_rfl) (by kernel_rfl) (by kernel_rfl) (fun _ _ _ h=>h) (yieldsIf_load_mid (by kernel_rfl) 33 _ rfl g8 0 rfl (an.cells.toList) _ (fun w h=>range_cells h.2) uAns rfl (infoAnsL _)) hHeld ?_
  try simp only [zA,zB,zC,Act.put,zD,zE,zF]
  refine wpZ_one (i:=2) (by kernel_rfl) rfl (fun K hK=> ?_)
  rw [if_pos (wanted_none rfl)]
  refine wp_store_row 39 _ _ rfl g6 fy.cells rfl rfl 39 zs h69 (infoFamA fy) (hz.trans (FA.size11 fy).symm) (FA.all1 fy) ?_
  show K (Act.put _ none undef) _
  refine hK.out _ _ ⟨hB10,hA10⟩ (fun hHeld=> ?_)
  clear hK K
  try simp only [Act.put]
  refine wpZ_one (i:=3) (by kernel_rfl) rfl (fun K hK=> ?_)
  rw [if_pos (wanted_none rfl)]
  refine wp_store_row 33 _ _ rfl g7 an.cells rfl rfl 33 za h710 (infoAnsY an) (hza.trans (AA.size8 an).symm) (AA.one an) ?_
  show K (Act.put _ none undef) _
  refine hK.out _ _ ⟨hB11,hA11⟩ (fun hHeld=> ?_)
  clear hK K
  try simp only [Act.put]
  refine wpZ_done (by kernel_rfl) ?_ _
  go_wp2_with fail
  refine bodyPost_ret (results_cc (p:=6) (q:=7) rfl _ _ g6 g7 39 33 fy.cells an.cells _ _ rfl h611 uFam rfl (infoFamA fy) rfl (Blk.setRow h710 _) uAns rfl (infoAnsY an)) rfl ?_
  exact riss_end (hT9.o.fr0 ((Fr.refl [] U5).drew)) hrw9.o (by rw [←hfy.o];unfold issueM;simp) han.o (by simp) (by simp) hXm.o fV9.o.drew hws.o.2.1 hws.o.2.2.1
end Go.Proofs.YtdeoinjjphdbmaaGreat
