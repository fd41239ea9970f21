/- Walk: tokens more. Conditions: each theorem's own. -/
import Derived.Test.YtpmgepijkhaonaaGreatGv
namespace Go.Proofs.YtpmgepijkhaonaaGreat
open Go.RowKit Go.Sig
theorem FOff.mono {x:FA}{X Y:List Nat}(h:FOff x X) (hS:∀g∈Y,g∈X):FOff x Y:=⟨off_mono h.s hS,off_mono h.t hS,off_mono h.l hS,fun t ht=>off_mono (h.e t ht) hS⟩
theorem off_app {A:Option Addr}{X Y:List Nat}(h:Off X A) (k:Off Y A):Off (X++Y) A:=fun ad e hg=>(List.mem_append.1 hg).elim (h ad e) (k ad e)
theorem FOff.app {x:FA}{X Y:List Nat}(h:FOff x X) (k:FOff x Y):FOff x (X++Y):=⟨off_app h.s k.s,off_app h.t k.t,off_app h.l k.l,fun t ht=>off_app (h.e t ht) (k.e t ht)⟩
theorem FamW.frO {w w':World}{B:Nat}{x:FA}{S:List Nat}(h:FamW w B x) (hF:Fr S w w') (hS:FOff x S):FamW w' B x:=
 ⟨h.ts,h.scope.fr hF (rowOf_off hS.s),h.toks.fr hF (rowOf_off hS.t),h.leases.fr hF (rowOf_off hS.l),fun t ht=>(h.each t ht).fr hF (rowOf_off (hS.e t ht)),h.fs,h.ft,h.fl,h.fe,h.ts_,h.tl,h.te,h.ls,h.le⟩
theorem foff_lt {w:World}{B g:Nat}{x:FA}(h:FamW w B x) (hg:w.heap.size≤g):FOff x [g]:=by
 have off:∀{A':Option Addr}{n' c' e size m:Nat}{xs:List Value},Own w e size (.slice A' n' c') m xs→Off [g] A':=fun h1 ad e hm=>by have:=h1.lt ad.block (rowOf_mem.2 ⟨ad,e,rfl⟩);simp at hm;omega
 exact⟨off h.scope,off h.toks,off h.leases,fun t ht=>off (h.each t ht)⟩
theorem foff_new {w:World}{B n c:Nat}{x:FA}{A:Option Addr}(h:FamW w B x) (hA:From w.heap.size A):FOff x (rowOf (.slice A n c)):=by
 have off:∀{A':Option Addr}{n' c' e size m:Nat}{xs:List Value},Own w e size (.slice A' n' c') m xs→Off (rowOf (.slice A n c)) A':=fun h1 ad e hg=>by obtain⟨ad2,e2,h3⟩:=rowOf_mem.1 hg;have:=h1.lt ad.block (rowOf_mem.2 ⟨ad,e,rfl⟩);have:=hA ad2 e2;omega
 exact⟨off h.scope,off h.toks,off h.leases,fun t ht=>off (h.each t ht)⟩
theorem foff_push {w:World}{Y:List Nat}{x:FA}{t:TA}{A:Option Addr}{c:Nat}(h:FOff x Y) (hY:∀g∈Y,g<w.heap.size) (hA:∀ad,A=some ad→x.tA=some ad∨w.heap.size≤ad.block) (ht:Off Y t.A) (f':GFam):
  FOff {x with f:=f',tA:=A,tc:=c,ts:=x.ts++ [t]} Y:=by
 refine⟨h.s,fun ad e hg=> ?_,h.l,fun s hs=> ?_⟩
 ·rcases hA ad e with h1 |h1
  ·exact h.t ad h1 hg
  ·have:=hY _ hg;omega
 ·rcases List.mem_append.1 hs with hs |hs
  ·exact h.e s hs
  ·rw [List.mem_singleton]at hs;subst hs;exact ht
theorem issue_step {V V2 v3:World}{pf B tn:Nat}{x:FA}{t:TA}{o:Obj}{A3:Option Addr}{c3:Nat}{Y:List Nat}(hW:FamW V B x) (hB:Blk V pf 26 x.cells) (hfY:FOff x Y) (hpY:pf∈Y) (hY:∀g∈Y,g<V.heap.size) (hBV:B≤V.heap.size) (htn:x.ts.length=tn)
  (f2:Fr [] V V2) (hO2:Own V2 9 1 (.slice t.A t.tok.scope.length t.c) t.tok.scope.length (strCells t.tok.scope)) (hA2:From V.heap.size t.A)
  (g1:Own v3 29 3 (.slice A3 (tn+1) c3) (tn+1) (tokCells x.ts++tokCells [t])) (g2:Fr (rowOf (.slice x.tA tn x.tc)) (V2.alloc o) v3)
  (g3:∀g,g∈rowOf (.slice A3 (tn+1) c3)→g∈rowOf (.slice x.tA tn x.tc)∨g=(V2.alloc o).heap.size):
  ∃x1:FA,x1={x with f:={x.f with tokens:=x.f.tokens++ [t.tok]},tA:=A3,tc:=c3,ts:=x.ts++ [t]}∧Blk (v3.setCell ⟨pf,8,none⟩ (.slice A3 (tn+1) c3)) pf 26 x1.cells∧
   FamW (v3.setCell ⟨pf,8,none⟩ (.slice A3 (tn+1) c3)) B x1∧FOff x1 Y∧Fr (pf::rowOf (.slice x.tA tn x.tc)) V (v3.setCell ⟨pf,8,none⟩ (.slice A3 (tn+1) c3))∧(∀ad,A3=some ad→x.tA=some ad∨V.heap.size≤ad.block):=by
 refine⟨_,rfl,?_⟩;subst htn;have hpf:FOff x [pf]:=hfY.mono (by simpa using hpY);have hFa:Fr [] V (V2.alloc o):=f2.alloc o;have hWa:=hW.fr0 hFa;have hplV:=hB.lt;have hpl2:pf<(V2.alloc o).heap.size:=Nat.lt_of_lt_of_le hplV hFa.size;have hsz2:(V2.alloc o).heap.size=V2.heap.size+1:=by simp
 have hVV2:V.heap.size≤V2.heap.size:=f2.size;have zero:∀{W:World}{A:Option Addr}{n c m e size:Nat}{xs:List Value},Own W e size (.slice A n c) m xs→∀ad,A=some ad→ad.off=0∧ad.spot=none:=fun h ad e=>by
  obtain⟨A',c',k1,k2⟩:=h.form;injection k1 with k1 _ _
  rcases k2 with k2 | ⟨g,k2,_⟩
  ·rw [k1,k2]at e;cases e
  ·rw [k1,k2]at e;cases e;exact⟨rfl,rfl⟩
 have hAlo:∀ad,A3=some ad→x.tA=some ad∨(V2.alloc o).heap.size≤ad.block:=fun ad e=>by
  rcases g3 ad.block (rowOf_mem.2 ⟨ad,e,rfl⟩)with h |h
  ·obtain⟨ad2,e2,h2⟩:=rowOf_mem.1 h;left;have o1:=zero g1 ad e;have o2:=zero hW.toks ad2 e2;obtain⟨a1,a2,a3⟩:=ad;obtain⟨b1,b2,b3⟩:=ad2;simp only at o1 o2 h2;rw [e2,h2,o1.1,o1.2,o2.1,o2.2]
  ·exact .inr (by omega)
 have hO2a:=hO2.fr ((Fr.refl [] V2).alloc o) (by simp);have hA2lt:∀ad,t.A=some ad→ad.block<V2.heap.size:=fun ad e=>hO2.lt _ (rowOf_mem.2 ⟨ad,e,rfl⟩);have hT0:∀ad,x.tA=some ad→ad.block<V.heap.size:=fun ad e=>hW.toks.lt _ (rowOf_mem.2 ⟨ad,e,rfl⟩);have hL0:∀ad,x.lA=some ad→ad.block<V.heap.size:=fun ad e=>hW.leases.lt _ (rowOf_mem.2 ⟨ad,e,rfl⟩);have hap3:Apart A3 t.A:=fun p q ep eq=>by
  have h5:=hA2 q eq;have h6:=hA2lt q eq;rcases hAlo p ep with h |h
  ·have:=hT0 p h;omega
  ·omega
 have hO2b:=hO2a.fr g2 (rowOf_off (fun ad e hg=>by
  obtain⟨ad2,e2,h2⟩:=rowOf_mem.1 hg;have:=hT0 ad2 e2;have:=hA2 ad e;omega))
 have hF3:Fr (pf::rowOf (.slice x.tA x.ts.length x.tc)) (V2.alloc o) v3:=g2.mono (fun i hi=>List.mem_cons_of_mem _ hi);have hoff:∀z,z∈rowOf (.slice x.tA x.ts.length x.tc)→pf≠z:=fun z hz e=>by obtain⟨ad,e2,rfl⟩:=rowOf_mem.1 hz;exact hpf.t ad e2 (by simp [e])
 have hW3:=fam_push (t:=t) (pf:=pf) hWa (by omega) (by rw [tokCells_append];exact g1) hF3 hAlo hpf hO2b (fun ad e=>by have:=hA2 ad e;omega) hap3 (fun p q ep eq=>by
  have:=hL0 p ep;have:=hA2 q eq;omega)
 have hpf3:=foff_push (t:=t) (c:=c3) hpf (fun g hg=>by simp at hg;rw [hg];exact hpl2) hAlo (fun ad e=>by have:=hA2 ad e;simp;omega) {x.f with tokens:=x.f.tokens++ [t.tok]};have hB3:Blk (v3.setCell ⟨pf,8,none⟩ (.slice A3 (x.ts.length+1) c3)) pf 26 (FA.mk {x.f with tokens:=x.f.tokens++ [t.tok]} x.sA x.sc A3 c3 (x.ts++ [t]) x.lA x.lc).cells:=by have h:=((hB.fr hFa (by simp)).fr g2 (fun hz=>hoff _ hz rfl)).set 8 (.slice A3 (x.ts.length+1) c3);unfold FA.cells at h⊢;simpa using h
 have hF4:Fr [pf] v3 (v3.setCell ⟨pf,8,none⟩ (.slice A3 (x.ts.length+1) c3)):=(Fr.refl [pf] v3).setCell (p:=⟨pf,8,none⟩) (.inl (by simp)) _;have hfY3:=foff_push (t:=t) (c:=c3) hfY (fun g hg=>by have:=hY g hg;omega) hAlo (fun ad e hg=>by have:=hA2 ad e;have:=hY _ hg;omega) {x.f with tokens:=x.f.tokens++ [t.tok]};exact⟨hB3,hW3.frO hF4 hpf3,hfY3,
  (hFa.nil.trans hF3).setCell (p:=⟨pf,8,none⟩) (.inl (by simp)) _,fun ad e=>(hAlo ad e).imp id (fun h=>by omega)⟩
theorem issue_end {w V V':World}{pf B:Nat}{Y0:List Nat}{x x1:FA}{sl:List ByteArray}{r:Bool}{k k2:Int}{A5:Option Addr}{c5:Nat}{S:List Nat}(hx1:x1.f=(issueM x.f sl r).1) (hy:(⟨0,k,k2,sl,nilB,nilB,false,false⟩:GAns)=(issueM x.f sl r).2)
  (hW:FamW V B x1) (hB:Blk V pf 26 x1.cells) (hFT:Fr (pf::rowOf (.slice x.tA x.ts.length x.tc)) w V) (hO:Own V 9 1 (.slice A5 sl.length c5) sl.length (strCells sl)) (hA:From w.heap.size A5) (hFO:FOff x1 (Y0++rowOf (.slice A5 sl.length c5)))
  (hF:Fr S V V') (hS:FOff x1 S) (hpS:pf∉S) (hAS:Off S A5) (hwS:∀g∈S,w.heap.size≤g):IssuePost w pf B x sl r Y0 (.returned (.agg #[.int .i64 0,.int .i64 k,.int .i64 k2,.slice A5 sl.length c5,.string ⟨#[]⟩,.string ⟨#[]⟩,.bool false,.bool false])) V':=
 ⟨⟨⟨0,k,k2,sl,nilB,nilB,false,false⟩,A5,c5⟩,x1,rfl,hy,⟨hO.fr hF (rowOf_off hAS),hA⟩,hx1,hW.frO hF hS,hB.fr hF hpS,hFT.andThen hF (fun g hg=> .inr (hwS g hg)),hFO⟩
def IssMid (W wx:World) (s7:Value) (k:Int) (sl:List ByteArray):Prop:=∃(ga:Nat) (A:Option Addr) (c:Nat),s7= .pointer (some ⟨ga,0,none⟩)∧Blk wx ga 67 #[.int .i64 0,.int .i64 k,.int .i64 0,.slice A sl.length c,.string ⟨#[]⟩,.string ⟨#[]⟩,.bool false,.bool false]∧
 Own wx 9 1 (.slice A sl.length c) sl.length (strCells sl)∧From W.heap.size A∧Fr [] W wx∧W.heap.size≤ga∧(∀ad,A=some ad→ad.block≠ga)
set_option maxRecDepth 100000 in
set_option maxHeartbeats 2000000 in
theorem issue_t (w:World) (pf B:Nat) (x:FA) (A:Option Addr) (c:Nat) (sl:List ByteArray) (r:Bool) (Y0:List Nat) (hB:Blk w pf 26 x.cells) (hW:FamW w B x) (hBw:B≤w.heap.size) (hpf:FOff x Y0) (hp0:pf∈Y0) (hY0:∀g∈Y0,g<w.heap.size) (hA:Rd w 1 A sl.length (strCells sl))
  (hAo:0<sl.length→Off (pf::rowOf (.slice x.tA x.ts.length x.tc)) A) (h1:sl.length≤1000) (h2:x.ts.length≤1000) (h3:x.f.scope.length≤1000):
  Calls Tryz.prog 177 #[.pointer (some ⟨pf,0,none⟩),.slice A sl.length c,.bool r] w (IssuePost w pf B x sl r Y0):=by
 obtain⟨q0,q1,q2,q3,q4,q5,q6,q7,c8,q9,q10,hpl⟩:=fam_cells hB;clear q0 q1 q2 q3 q4 q5 q6 q7 q9 q10;have hBh:=zh hB;have hWh:=zh hW;have hpfh:=zh hpf;have hY0h:=zh hY0;have hp0h:=zh hp0;have hAh:=zh hA;have hAoh:=zh hAo;clear hB hW hpf hA hAo hY0 hp0;obtain⟨n,hn⟩:∃z,Hid (sl.length=z):=⟨_,zh rfl⟩
 obtain⟨tn,htn⟩:∃z,Hid (x.ts.length=z):=⟨_,zh rfl⟩
 have hzs:∃zs:Array Value,zs.size=8∧Hid (zs=(AA.mk (noA 0) none 0).cells):=⟨_,rfl,zh rfl⟩
 obtain⟨zs,hz,hzh⟩:=hzs;have hone:=tokCells_one;have honeh:=zh hone;clear hone;rw [hn.o]at h1⊢;rw [htn.o]at h2 c8;go_enter Tryz.func177,Tryz.ntmps177;go_upto_region 1 with(fail)
 refine wp_gen (fun W=>Blk W w.heap.size 67 zs∧Fr [] w W) ⟨by rw [hzh.o];exact Blk.new _ _ _,(Fr.refl _ _).alloc _⟩ ?_;rintro W ⟨hR,fW⟩;obtain⟨gr,HGR⟩:∃z,Hid (w.heap.size=z):=⟨_,zh rfl⟩
 rw [HGR.o]at hR⊢;have hne:pf≠gr:=by have:=HGR.o;omega
 have c8W:=cell_fr fW c8;have hOT:=(hWh.o.fr0 fW).toks;rw [htn.o]at hOT;have hOTh:=zh hOT;have hlen:sl.length=n:=hn.o;have hlenh:=zh hlen;have hAW:Rd W 1 A n (strCells sl):=by have:=hAh.o.fr fW (by simp [Off]);rwa [hn.o]at this
 have hAWh:=zh hAW;have hplW:pf<W.heap.size:=Nat.lt_of_lt_of_le hpl fW.size;clear c8 hOT hlen hAW;have hz8:W.frozen? ⟨pf,8,none⟩=false:=(hBh.o.fr fW (by simp)).frozen 8;refine wp_region_z (fun w'=>w'.cell? ⟨pf,8,none⟩=some (.slice x.tA tn x.tc)) [10,11,12] (by kernel_rfl) c8W ?_;intro hHeld;refine wpZ_tk (i:=0) (v:= ?_) hHeld ?_ ?_;rotate_left
 ·(intro w hSw;go_simp<;>with_reducible rfl)
 try simp only [zA,zC,Act.put,zD,zE,zF]
 refine wpZ_tk (i:=1) (v:= ?_) hHeld ?_ ?_;rotate_left
 ·(intro w hSw;go_simp<;>with_reducible rfl)
 try simp only [zA,zB,zC,Act.put,zD,zE,zF]
 refine wpZ_tk (i:=2) (v:= ?_) hHeld ?_ ?_;rotate_left
 ·(intro w hSw;go_simp<;>with_reducible rfl)
 try simp only [zA,zB,zC,Act.put,zD,zE,zF]
 refine wpZ_tk (i:=3) (v:= ?_) hHeld ?_ ?_;rotate_left
 ·(intro w hSw;go_simp<;>with_reducible rfl)
 try simp only [zA,zB,zC,Act.put,zD,zE,zF]
 refine wpZ_tk (i:=4) (v:= ?_) hHeld ?_ ?_;rotate_left
 ·(intro w hSw;go_simp<;>with_reducible rfl)
 try simp only [zA,zB,zC,Act.put,zD,zE,zF]
 refine wpZ_tk (i:=5) (v:= ?_) hHeld ?_ ?_;rotate_left
 ·(intro w hSw;go_simp<;>with_reducible rfl)
 try simp only [zA,zB,zC,Act.put,zD,zE,zF]
 refine wpZ_one (i:=6) (by kernel_rfl) rfl (fun K hK=> ?_);go_simp;refine(cloneS_t W.drew A n c sl hAWh.o hlenh.o (by omega)).mono ?_;rintro e W2 ⟨A2,c2,rfl,hO2,hA2,f2⟩;have f2:Fr [] W W2:=f2.of_drew;have c82:=cell_fr f2 c8W;dsimp only;refine hK.out _ _ c82 (fun hHeld=> ?_);clear hK K;try simp only [zA,zB,zC,Act.put,zD,zE,zF]
 refine wpZ_tk (i:=7) (v:= ?_) hHeld ?_ ?_;rotate_left
 ·(intro w hSw;go_simp<;>with_reducible rfl)
 try simp only [zA,zB,zC,Act.put,zD,zE,zF]
 refine wpZ_one (i:=8) (by kernel_rfl) rfl (fun K hK=> ?_);go_simp;refine hK.out _ _ (cell_fr ((Fr.refl [] W2).alloc _) c82) (fun hHeld=> ?_);clear hK K;try simp only [zA,zB,zC,Act.put,zD,zE,zF]
 refine wpZ_one (i:=9) (by kernel_rfl) rfl (fun K hK=> ?_);refine own_append_op (P:=Tryz.prog) (xs:=tokCells x.ts) (news:=tokCells [⟨⟨2,sl,false⟩,A2,c2⟩]) tIss ((hOTh.o.fr f2 (by simp)).fr ((Fr.refl [] W2).alloc _) (by simp)) (m:=1) (c:=1) (A:=some ⟨W2.heap.size,0,none⟩) ?_ (honeh.o _) (by simp) (by unfold maxLen;omega) (by omega) rfl rfl rfl rfl (fun v' w3 g1 g2 g3=> ?_)
 ·have:=tok_new W2 ⟨⟨2,sl,false⟩,A2,c2⟩ 29;dsimp only at this;rw [hn.o]at this;exact this
 have g1:=g1;obtain⟨A3,c3,rfl,_⟩:=g1.form;have hoff:∀z,z∈rowOf (.slice x.tA tn x.tc)→pf≠z:=fun z hz e=>by obtain⟨ad,e2,rfl⟩:=rowOf_mem.1 hz;exact hpfh.o.t ad e2 (by rw [←e];exact hp0h.o)
 have hpl2:pf<(W2.alloc (.cells #[.int .i64 2,.slice A2 n c2,.bool false] 29)).heap.size:=by have:=f2.size;simp;omega
 have c83:w3.cell? ⟨pf,8,none⟩=some (.slice x.tA tn x.tc):=(g2.cell (p:=⟨pf,8,none⟩) hpl2 (fun hz=>hoff _ hz rfl)).trans (cell_fr ((Fr.refl [] W2).alloc _) c82);have hz83:w3.frozen? ⟨pf,8,none⟩=false:=(frozen_fr g2 hpl2 (fun hz=>hoff _ hz rfl)).trans ((frozen_fr (f2.alloc (.cells #[.int .i64 2,.slice A2 n c2,.bool false] 29)) hplW (by simp)).trans hz8);have hpl3:pf<w3.heap.size:=Nat.lt_of_lt_of_le hpl2 g2.size;try dsimp only
 refine hK.out _ _ c83 (fun hHeld=> ?_);clear hK K;try simp only [zA,zB,zC,Act.put,zD,zE,zF]
 refine wpZ_end (i:=10) (by kernel_rfl) rfl rfl (fun K hK=> ?_);go_simp;refine hK.out _ _ ?_;clear hK K;try simp only [zA,zB,zC,Act.put,zD,zE,zF]
 refine wpZ_end (i:=11) (by kernel_rfl) rfl rfl (fun K hK=> ?_);go_simp;refine hK.out _ _ ?_;clear hK K;try simp only [zA,zB,zC,Act.put,zD,zE,zF]
 refine wpZ_end (i:=12) (by kernel_rfl) rfl rfl (fun K hK=> ?_);go_simp;refine hK.out _ _ ?_;clear hK K;try simp only [zA,zB,zC,Act.put,zD,zE,zF]
 refine wpZ_done (by kernel_rfl) ?_ _;go_upto_region 2 with(fail)
 obtain⟨x1,hx1,hB4,hW4,hpf4,hFT,hlo4⟩:=issue_step (Y:=Y0++ [gr]) (t:=⟨⟨2,sl,false⟩,A2,c2⟩) (hWh.o.fr0 fW) (hBh.o.fr fW (by simp)) (hpfh.o.app (foff_lt hWh.o (by have:=HGR.o;omega))) (List.mem_append.2 (.inl hp0h.o)) (fun g hg=>by
  have h1:=hR.lt;have h2:=fW.size;rcases List.mem_append.1 hg with hg |hg
  ·have:=hY0h.o g hg;omega
  ·simp at hg;omega) (by have:=fW.size;omega) htn.o f2 (own_cast hO2 hn.o) hA2 g1 g2 g3
 have hFT4:Fr (pf::rowOf (.slice x.tA x.ts.length x.tc)) w (w3.setCell ⟨pf,8,none⟩ (.slice A3 (tn+1) c3)):=by rw [htn.o];exact fW.nil.trans hFT
 have hrd4:Rd (w3.setCell ⟨pf,8,none⟩ (.slice A3 (tn+1) c3)) 1 A n (strCells sl):=by have:=Rd.fr hAh.o hFT4 hAoh.o;rwa [hn.o]at this
 have hR4:Blk (w3.setCell ⟨pf,8,none⟩ (.slice A3 (tn+1) c3)) gr 67 zs:=hR.fr hFT (fun hz=>by
  rcases List.mem_cons.1 hz with hz |hz
  ·exact hne hz.symm
  ·obtain⟨ad,e,h⟩:=rowOf_mem.1 hz;have h1:=hWh.o.toks.lt ad.block (rowOf_mem.2 ⟨ad,e,rfl⟩);have:=HGR.o;omega)
 refine wp_gen (fun W4=>∃x1:FA,x1.f={x.f with tokens:=x.f.tokens++ [⟨2,sl,false⟩]}∧x1.sA=x.sA∧x1.ts.length=tn+1∧Blk W4 pf 26 x1.cells∧FamW W4 B x1∧FOff x1 (Y0++ [gr])∧Blk W4 gr 67 zs∧Rd W4 1 A n (strCells sl)∧Fr (pf::rowOf (.slice x.tA x.ts.length x.tc)) w W4∧
  (∀ad,x1.tA=some ad→x.tA=some ad∨w.heap.size≤ad.block)) ⟨x1,by rw [hx1],by rw [hx1],by rw [hx1];simp [htn.o],hB4,hW4,hpf4,hR4,hrd4,hFT4,fun ad e=>(hlo4 ad (by rw [hx1]at e;exact e)).imp id (fun h=>by have:=fW.size;omega)⟩ ?_
 clear hx1 hB4 hW4 hpf4 hFT hlo4 hFT4 hrd4 hR4 hR;clear x1;rintro W4 ⟨x1,hx1,hsA1,hl1,hB4,hW4,hpf4,hR4,hrd4,hFT4,hlo4⟩;clear g1 g2 g3 hO2 hA2 f2 c82 c83 hz83 hpl3 hpl2 hoff hHeld c8W hz8 hplW;have hW4h:=zh hW4;have hpf4h:=zh hpf4;have hR4h:=zh hR4;have hrd4h:=zh hrd4;have hFT4h:=zh hFT4;have hlo4h:=zh hlo4;have hx1h:=zh hx1;have hB4h:=zh hB4;have hl1h:=zh hl1;obtain⟨q0,q1,q2,c3,q4,q5,q6,q7,c8,q9,q10,hpl4⟩:=fam_cells hB4;clear q0 q1 q2 q4 q5 q6 q7 q9 q10;rw [hl1]at c8;clear hW4 hpf4 hR4 hrd4 hFT4 hlo4 hx1 hB4 hl1 c3;have htn1:tn+1≤1001:=by omega
 have htn2:((tn+1:Nat):Int)=(tn:Int)+1:=by omega
 have htn2h:=zh htn2;clear htn2;go_cut [7]from 20 to 27 (fun s7 wx=>IssMid W4 wx s7 ((tn:Int)+1) sl)
 case first=>
  refine wp_region_z (fun w'=>w'.cell? ⟨pf,8,none⟩=some (.slice x1.tA (tn+1) x1.tc)) [9] (by kernel_rfl) c8 ?_;intro hHeld;refine wpZ_tk (i:=0) (v:= ?_) hHeld ?_ ?_;rotate_left
  ·(intro w hSw;go_simp<;>with_reducible rfl)
  try simp only [zA,zC,Act.put,zD,zE,zF]
  refine wpZ_tk (i:=1) (v:= ?_) hHeld ?_ ?_;rotate_left
  ·(intro w hSw;go_simp<;>with_reducible rfl)
  try simp only [zA,zB,zC,Act.put,zD,zE,zF]
  refine wpZ_tk (i:=2) (v:= ?_) hHeld ?_ ?_;rotate_left
  ·(intro w hSw;go_simp<;>with_reducible rfl)
  try simp only [zA,zB,zC,Act.put,zD,zE,zF]
  refine wpZ_tk (i:=3) (v:= ?_) hHeld ?_ ?_;rotate_left
  ·(intro w hSw;go_simp<;>with_reducible rfl)
  try simp only [zA,zB,zC,Act.put,zD,zE,zF]
  refine wpZ_tk (i:=4) (v:= ?_) hHeld ?_ ?_;rotate_left
  ·(intro w hSw;go_simp<;>with_reducible rfl)
  try simp only [zA,zB,zC,Act.put,zD,zE,zF]
  refine wpZ_tk (i:=5) (v:= ?_) hHeld ?_ ?_;rotate_left
  ·(intro w hSw;go_simp<;>with_reducible rfl)
  try simp only [zA,zB,zC,Act.put,zD,zE,zF]
  refine wpZ_two (i:=6) (j:=8) (by kernel_rfl) rfl rfl (fun K hK=> ?_) (fun K hK=> ?_)
  ·go_simp;refine(cloneS_t W4.drew A n c sl hrd4h.o hlenh.o (by omega)).mono ?_;rintro e W5 ⟨A5,c5,rfl,hO5,hA5,f5⟩;have f5:Fr [] W4 W5:=f5.of_drew;try dsimp only
   refine hK.out _ _ (cell_fr f5 c8) (fun hHeld=> ?_);clear hK K;try simp only [zA,zB,zC,Act.put,zD,zE,zF]
   refine wpZ_tk (i:=7) (v:= ?_) hHeld ?_ ?_;rotate_left
   ·(intro w hSw;go_simp<;>with_reducible rfl)
   try simp only [zA,zB,zC,Act.put,zD,zE,zF]
   refine wpZ_one (i:=8) (by kernel_rfl) rfl (fun K hK=> ?_);go_simp;refine hK.out _ _ (cell_fr (f5.alloc _) c8) (fun hHeld=> ?_);clear hK K;try simp only [zA,zB,zC,Act.put,zD,zE,zF]
   refine wpZ_end (i:=9) (by kernel_rfl) rfl rfl (fun K hK=> ?_);rw [if_pos (wanted_none rfl)];refine wp_store_row 67 _ _ rfl W5.heap.size _ rfl rfl 67 _ (Blk.new _ _ _) infoAns (by kernel_rfl) (by kernel_rfl) ?_;show K (Act.put _ none undef) _;refine hK.out _ _ ?_;clear hK K;try simp only [Act.put]
   refine wpZ_done (by kernel_rfl) ?_ _;go_wp2_with fail
   go_meet;refine⟨W5.heap.size,A5,c5,rfl,?_,own_cast (hO5.fr (((Fr.refl [] W5).alloc _).setRow (.inr (Nat.le_refl _)) _) (by simp)) hn.o,hA5,(f5.alloc _).setRow (.inr f5.size) _,f5.size,fun ad e=> ?_⟩
   ·rw [hn.o,←htn2h.o];exact Blk.setRow (Blk.new _ _ _) _
   ·have:=hO5.lt ad.block (rowOf_mem.2 ⟨ad,e,rfl⟩);omega
  ·go_simp;refine hK.out _ _ (cell_fr ((Fr.refl [] W4).drew.alloc _) c8) (fun hHeld=> ?_);clear hK K;try simp only [zA,zB,zC,Act.put,zD,zE,zF]
   refine wpZ_one (i:=6) (by kernel_rfl) rfl (fun K hK=> ?_);go_simp;refine(cloneS_t _ A n c sl (Rd.fr hrd4h.o ((Fr.refl [] W4).drew.alloc _) (by simp [Off])) hlenh.o (by omega)).mono ?_;rintro e W5 ⟨A5,c5,rfl,hO5,hA5,f5⟩;have f54:Fr [] W4 W5:=((Fr.refl [] W4).drew.alloc _).trans f5;have hBa:=Blk.fr (Blk.new' _ _ rfl) f5 (by simp);try dsimp only
   refine hK.out _ _ (cell_fr f54 c8) (fun hHeld=> ?_);clear hK K;try simp only [zA,zB,zC,Act.put,zD,zE,zF]
   refine wpZ_tk (i:=7) (v:= ?_) hHeld ?_ ?_;rotate_left
   ·(intro w hSw;go_simp<;>with_reducible rfl)
   try simp only [zA,zB,zC,Act.put,zD,zE,zF]
   refine wpZ_end (i:=9) (by kernel_rfl) rfl rfl (fun K hK=> ?_);rw [if_pos (wanted_none rfl)];refine wp_store_row 67 _ _ rfl W4.heap.size _ rfl rfl 67 _ hBa infoAns (by kernel_rfl) (by kernel_rfl) ?_;show K (Act.put _ none undef) _;refine hK.out _ _ ?_;clear hK K;try simp only [Act.put]
   refine wpZ_done (by kernel_rfl) ?_ _;go_wp2_with fail
   go_meet;have hA5':∀ad,A5=some ad→W4.heap.size+1≤ad.block:=fun ad e=>by have:=hA5 ad e;simpa using this
   refine⟨W4.heap.size,A5,c5,rfl,?_,own_cast (hO5.fr ((Fr.refl [W4.heap.size] W5).setRow (.inl (by simp)) _) (rowOf_off (fun ad e=>by have:=hA5' ad e;simp;omega))) hn.o,fun ad e=>by(have:=hA5' ad e;omega),f54.setRow (.inr (Nat.le_refl _)) _,Nat.le_refl _,fun ad e=> ?_⟩
   ·rw [hn.o,←htn2h.o];exact Blk.setRow hBa _
   ·have:=hA5' ad e;omega
 case rest=>
  obtain⟨ga,A5,c5,rfl,hBa,hO5,hA5,f5,hga,hna⟩:=hcut;obtain⟨V,hV⟩:∃V:World,V=wc:=⟨_,rfl⟩
  subst hV;have f5h:=zh f5;have hO5h:=zh hO5;have hA5h:=zh hA5;have hBah:=zh hBa;have hnah:=zh hna;have hW5:=zh (hW4h.o.fr0 f5);have hB5:=zh (hB4h.o.fr f5 (by simp));have hR5:=zh (hR4h.o.fr f5 (by simp));have hFT5:=zh (hFT4h.o.trans f5.nil);have hgr4:gr<W4.heap.size:=hR4h.o.lt;have hgra:gr≠ga:=by omega
  have hgrw:w.heap.size≤gr:=by have:=HGR.o;omega
  have hgaw:w.heap.size≤ga:=by have:=hFT4h.o.size;omega
  have hV4:W4.heap.size≤V.heap.size:=f5.size;have hw4:w.heap.size≤W4.heap.size:=hFT4h.o.size;have hlenx:x.f.tokens.length=tn:=hWh.o.len.symm.trans htn.o;have hlenxh:=zh hlenx;have hFOy:=zh (foff_new (n:=sl.length) (c:=c5) hW4h.o hA5);have hgal:=hBa.lt;obtain⟨a0,a1,a2,a3,a4,a5,a6,a7,hfz⟩:=hBa.c8;rw [hn.o]at a3;have hrl:=hR5.o.lt;clear hO5 hA5 hBa hna f5 hlenx c8 hpl4 hpl;have hpfa:pf≠ga:=by have:=hB4h.o.lt;omega
  have hFga:=zh (foff_lt (g:=ga) hW4h.o hga);have hFY:=zh ((hpf4h.o.app hFga.o).app hFOy.o);have hA5w:=zh (hA5h.o.mono hw4);have hA5g:=zh (show Off [gr] A5 from fun ad e hm=>by have:=hA5h.o ad e;simp at hm;omega);have hA5a:=zh (show Off [ga] A5 from fun ad e hm=>by have:=hnah.o ad e;simp at hm;omega);have hA5p:=zh (show Off [pf] A5 from fun ad e hm=>by have:=hA5h.o ad e;have:=hB4h.o.lt;simp at hm;omega);cases r with
  |false=>
   go_wp2_with (first | (refine wpList_store_row rfl 67 _ _ rfl gr _ rfl rfl 67 zs hR5.o infoAns (by rw [hz];rfl) (by kernel_rfl) ?_))
   refine bodyPost_ret (results_cell_row rfl _ _ gr 67 _ (0,0) _ rfl (Blk.setRow hR5.o _) uAns rfl infoAns) rfl ?_;have h:=issue_end (S:= [gr]) (r:=false) (x:=x) (k:=(tn:Int)+1) (k2:=0) (sl:=sl) (by rw [hx1h.o];rfl) (by unfold issueM;rw [hlenxh.o];rfl) hW5.o hB5.o hFT5.o hO5h.o hA5w.o ((hpf4h.o.mono (fun g hg=>List.mem_append.2 (.inl hg))).app hFOy.o)
    ((Fr.refl [gr] V).setRow (g:=gr) (.inl (by simp)) #[.int .i64 0,.int .i64 ((tn:Int)+1),.int .i64 0,.slice A5 n c5,.string ⟨#[]⟩,.string ⟨#[]⟩,.bool false,.bool false]) (hpf4h.o.mono (fun g hg=>List.mem_append.2 (.inr hg))) (by simp;exact hne) hA5g.o (by simp;omega)
   rwa [hn.o]at h
  |true=>
   have hcV:=fam_cells hB5.o;rw [hl1h.o,hsA1]at hcV;obtain⟨q0,q1,q2,c3,q4,q5,q6,q7,c8,q9,q10,hplV⟩:=hcV;clear q0 q1 q2 q4 q5 q6 q7 q9 q10;have hsc1:x1.f.scope=x.f.scope:=by rw [hx1h.o]
   rw [hsc1]at c3;have hOS:=hW5.o.scope;rw [hsA1,hsc1]at hOS;have hrd3:=zh hOS.rd;have hOT5:=hW5.o.toks;rw [hl1h.o]at hOT5;have hOT5h:=zh hOT5;have hz8:=hB5.o.frozen 8;have hsc1h:=zh hsc1;clear hOS hOT5 hsc1;obtain⟨sn,hsn⟩:∃z,Hid (x.f.scope.length=z):=⟨_,zh rfl⟩
   rw [hsn.o]at c3 h3;go_upto_region 4 with(fail)
   refine wp_region_z (fun w'=>w'.cell? ⟨pf,3,none⟩=some (.slice x.sA sn x1.sc)∧w'.cell? ⟨pf,8,none⟩=some (.slice x1.tA (tn+1) x1.tc)) [13,14,15] (by kernel_rfl) ⟨c3,c8⟩ ?_;intro hHeld;refine wpZ_tk (i:=0) (v:= ?_) hHeld ?_ ?_;rotate_left
   ·(intro w hSw;go_simp<;>with_reducible rfl)
   try simp only [zA,zC,Act.put,zD,zE,zF]
   refine wpZ_tk (i:=1) (v:= ?_) hHeld ?_ ?_;rotate_left
   ·(intro w hSw;go_simp<;>with_reducible rfl)
   try simp only [zA,zB,zC,Act.put,zD,zE,zF]
   refine wpZ_tk (i:=2) (v:= ?_) hHeld ?_ ?_;rotate_left
   ·(intro w hSw;go_simp<;>with_reducible rfl)
   try simp only [zA,zB,zC,Act.put,zD,zE,zF]
   refine wpZ_tk (i:=3) (v:= ?_) hHeld ?_ ?_;rotate_left
   ·(intro w hSw;go_simp<;>with_reducible rfl)
   try simp only [zA,zB,zC,Act.put,zD,zE,zF]
   refine wpZ_tk (i:=4) (v:= ?_) hHeld ?_ ?_;rotate_left
   ·(intro w hSw;go_simp<;>with_reducible rfl)
   try simp only [zA,zB,zC,Act.put,zD,zE,zF]
   refine wpZ_tk (i:=5) (v:= ?_) hHeld ?_ ?_;rotate_left
   ·(intro w hSw;go_simp<;>with_reducible rfl)
   try simp only [zA,zB,zC,Act.put,zD,zE,zF]
   refine wpZ_tk (i:=6) (v:= ?_) hHeld ?_ ?_;rotate_left
   ·(intro w hSw;go_simp<;>with_reducible rfl)
   try simp only [zA,zB,zC,Act.put,zD,zE,zF]
   refine wpZ_tk (i:=7) (v:= ?_) hHeld ?_ ?_;rotate_left
   ·(intro w hSw;go_simp<;>with_reducible rfl)
   try simp only [zA,zB,zC,Act.put,zD,zE,zF]
   refine wpZ_tk (i:=8) (v:= ?_) hHeld ?_ ?_;rotate_left
   ·(intro w hSw;go_simp<;>with_reducible rfl)
   try simp only [zA,zB,zC,Act.put,zD,zE,zF]
   refine wpZ_one (i:=9) (by kernel_rfl) rfl (fun K hK=> ?_);go_simp;refine(cloneS_t V.drew x.sA sn x1.sc x.f.scope (by have:=hrd3.o;rw [hsn.o]at this;exact this) hsn.o (by omega)).mono ?_;rintro e V2 ⟨A6,c6,rfl,hO6,hA6,f6⟩;have f6:Fr [] V V2:=f6.of_drew;try dsimp only
   refine hK.out _ _ ⟨cell_fr f6 c3,cell_fr f6 c8⟩ (fun hHeld=> ?_);clear hK K;try simp only [zA,zB,zC,Act.put,zD,zE,zF]
   refine wpZ_tk (i:=10) (v:= ?_) hHeld ?_ ?_;rotate_left
   ·(intro w hSw;go_simp<;>with_reducible rfl)
   try simp only [zA,zB,zC,Act.put,zD,zE,zF]
   refine wpZ_one (i:=11) (by kernel_rfl) rfl (fun K hK=> ?_);go_simp;refine hK.out _ _ ⟨cell_fr (f6.alloc _) c3,cell_fr (f6.alloc _) c8⟩ (fun hHeld=> ?_);clear hK K;try simp only [zA,zB,zC,Act.put,zD,zE,zF]
   refine wpZ_one (i:=12) (by kernel_rfl) rfl (fun K hK=> ?_);refine own_append_op (P:=Tryz.prog) (xs:=tokCells x1.ts) (news:=tokCells [⟨⟨3,x.f.scope,false⟩,A6,c6⟩]) tIss ((hOT5h.o.fr f6 (by simp)).fr ((Fr.refl [] V2).alloc _) (by simp)) (m:=1) (c:=1) (A:=some ⟨V2.heap.size,0,none⟩) ?_ (honeh.o _) (by simp) (by unfold maxLen;omega) (by omega) rfl rfl rfl rfl (fun v' v3 g1 g2 g3=> ?_)
   ·have:=tok_new V2 ⟨⟨3,x.f.scope,false⟩,A6,c6⟩ 29;dsimp only at this;rw [hsn.o]at this;exact this
   have g1:=g1;obtain⟨A7,c7,rfl,_⟩:=g1.form;have hpf5:=hpf4h.o;have hoff:∀z,z∈rowOf (.slice x1.tA (tn+1) x1.tc)→pf≠z:=fun z hz e=>by obtain⟨ad,e2,rfl⟩:=rowOf_mem.1 hz;exact hpf5.t ad e2 (List.mem_append.2 (.inl (by rw [←e];exact hp0h.o)))
   have hpl2:pf<(V2.alloc (.cells #[.int .i64 3,.slice A6 sn c6,.bool false] 29)).heap.size:=by have:=f6.size;simp;omega
   have c83:v3.cell? ⟨pf,8,none⟩=some (.slice x1.tA (tn+1) x1.tc):=(g2.cell (p:=⟨pf,8,none⟩) hpl2 (fun hz=>hoff _ hz rfl)).trans (cell_fr (f6.alloc _) c8);have c33:v3.cell? ⟨pf,3,none⟩=some (.slice x.sA sn x1.sc):=(g2.cell (p:=⟨pf,3,none⟩) hpl2 (fun hz=>hoff _ hz rfl)).trans (cell_fr (f6.alloc _) c3);have hz83:v3.frozen? ⟨pf,8,none⟩=false:=(frozen_fr g2 hpl2 (fun hz=>hoff _ hz rfl)).trans ((frozen_fr (f6.alloc (.cells #[.int .i64 3,.slice A6 sn c6,.bool false] 29)) hplV (by simp)).trans hz8);have hpl3:pf<v3.heap.size:=Nat.lt_of_lt_of_le hpl2 g2.size;try dsimp only
   refine hK.out _ _ ⟨c33,c83⟩ (fun hHeld=> ?_);clear hK K;try simp only [zA,zB,zC,Act.put,zD,zE,zF]
   refine wpZ_end (i:=13) (by kernel_rfl) rfl rfl (fun K hK=> ?_);go_simp;refine hK.out _ _ ?_;clear hK K;try simp only [zA,zB,zC,Act.put,zD,zE,zF]
   refine wpZ_end (i:=14) (by kernel_rfl) rfl rfl (fun K hK=> ?_);go_simp;refine hK.out _ _ ?_;clear hK K;try simp only [zA,zB,zC,Act.put,zD,zE,zF]
   refine wpZ_end (i:=15) (by kernel_rfl) rfl rfl (fun K hK=> ?_);go_simp;refine hK.out _ _ ?_;clear hK K;try simp only [zA,zB,zC,Act.put,zD,zE,zF]
   refine wpZ_done (by kernel_rfl) ?_ _;go_upto_region 5 with(fail)
   obtain⟨x2,hx2,hB6,hW6,hfY6,hFT6,hlo6⟩:=issue_step (Y:=Y0++ [gr]++ [ga]++rowOf (.slice A5 sl.length c5)) (t:=⟨⟨3,x.f.scope,false⟩,A6,c6⟩) hW5.o hB5.o hFY.o (by simp only [List.mem_append];exact .inl (.inl (.inl hp0h.o))) (fun g hg=>by
    have h1:=hR5.o.lt;have h2:=hBah.o.lt;simp only [List.mem_append,List.mem_singleton]at hg;rcases hg with((hg |rfl) |rfl) |hg
    ·have:=hY0h.o g hg;omega
    ·exact h1
    ·exact h2
    ·exact hO5h.o.lt g hg) (by omega) hl1h.o f6 (own_cast hO6 hsn.o) hA6 g1 g2 g3
   have hga6:ga∉pf::rowOf (.slice x1.tA (tn+1) x1.tc):=fun hm=>by
    rcases List.mem_cons.1 hm with hm |hm
    ·exact hpfa hm.symm
    ·obtain⟨ad,e,h⟩:=rowOf_mem.1 hm;exact hFga.o.t ad e (by simp [h])
   have hgr6:gr∉pf::rowOf (.slice x1.tA (tn+1) x1.tc):=fun hm=>by
    rcases List.mem_cons.1 hm with hm |hm
    ·exact hne hm.symm
    ·obtain⟨ad,e,h⟩:=rowOf_mem.1 hm;exact hpf4h.o.t ad e (List.mem_append.2 (.inr (by simp [h])))
   have hA56:∀g,g∈rowOf (.slice A5 sl.length c5)→g∉pf::rowOf (.slice x1.tA (tn+1) x1.tc):=fun g hg hm=>by
    rcases List.mem_cons.1 hm with hm |hm
    ·obtain⟨ad,e,h⟩:=rowOf_mem.1 hg;exact hA5p.o ad e (by simp [h,hm])
    ·obtain⟨ad,e,h⟩:=rowOf_mem.1 hm;exact hFOy.o.t ad e (by rw [h];exact hg)
   have hFTT:Fr (pf::rowOf (.slice x.tA x.ts.length x.tc)) w (v3.setCell ⟨pf,8,none⟩ (.slice A7 (tn+1+1) c7)):=hFT5.o.andThen hFT6 (fun g hg=>by
    rcases List.mem_cons.1 hg with hg |hg
    ·exact .inl (by rw [hg];simp)
    ·obtain⟨ad,e,h⟩:=rowOf_mem.1 hg;rcases hlo4h.o ad e with h2 |h2
     ·exact .inl (List.mem_cons_of_mem _ (rowOf_mem.2 ⟨ad,h2,h⟩))
     ·exact .inr (by omega))
   have hx2f:x2.f=(issueM x.f sl true).1:=by rw [hx2,hx1h.o];unfold issueM;simp
   have hl2:x2.ts.length=tn+2:=by rw [hx2,List.length_append,hl1h.o];rfl
   refine wp_gen (fun V4=>∃x2:FA,x2.f=(issueM x.f sl true).1∧x2.ts.length=tn+2∧Blk V4 pf 26 x2.cells∧FamW V4 B x2∧FOff x2 (Y0++ [gr]++ [ga]++rowOf (.slice A5 sl.length c5))∧Blk V4 gr 67 zs∧
    Blk V4 ga 67 #[.int .i64 0,.int .i64 ((tn:Int)+1),.int .i64 0,.slice A5 sl.length c5,.string ⟨#[]⟩,.string ⟨#[]⟩,.bool false,.bool false]∧Own V4 9 1 (.slice A5 sl.length c5) sl.length (strCells sl)∧Fr (pf::rowOf (.slice x.tA x.ts.length x.tc)) w V4)
    ⟨x2,hx2f,hl2,hB6,hW6,hfY6,hR5.o.fr hFT6 hgr6,hBah.o.fr hFT6 hga6,hO5h.o.fr hFT6 hA56,hFTT⟩ ?_
   clear hx2 hB6 hW6 hfY6 hFT6 hlo6 hx2f hl2 hFTT hA56 hgr6 hga6 g1 g2 g3 c83 c33 hz83 hpl3 hpl2 hoff hpf5 hHeld hO6 hA6 f6 c3 c8 hz8 hplV a0 a1 a2 a3 a4 a5 a6 a7 hfz hgal hrl;clear x2;rintro V4 ⟨x2,hx2,hl2,hB6,hW6,hY6,hR6,hBa6,hO6,hFT6⟩;have hB6h:=zh hB6;have hx2h:=zh hx2;have hW6h:=zh hW6;have hY6h:=zh hY6;have hR6h:=zh hR6;have hBa6h:=zh hBa6;have hO6h:=zh hO6;have hFT6h:=zh hFT6;have hcV:=fam_cells hB6;rw [hl2]at hcV;obtain⟨q0,q1,q2,q3,q4,q5,q6,q7,c8,q9,q10,hplV⟩:=hcV;have hgal:=hBa6.lt;obtain⟨a0,a1,a2,a3,a4,a5,a6,a7,hfz⟩:=hBa6.c8;rw [hn.o]at a3;have hrl:=hR6.lt;have hfz2:=hfz 2;clear q0 q1 q2 q3 q4 q5 q6 q7 q9 q10 hB6 hx2 hW6 hY6 hR6 hBa6 hO6 hFT6 hl2 hfz;go_upto_region 6 with(fail)
   have hF7:Fr [ga] V4 (V4.setCell ⟨ga,2,none⟩ (.int .i64 ((tn:Int)+2))):=(Fr.refl [ga] V4).setCell (p:=⟨ga,2,none⟩) (.inl (by simp)) _;have hBa7:=hBa6h.o.set 2 (.int .i64 ((tn:Int)+2));rw [hn.o]at hBa7;simp only [zD,zE,zF]at hBa7;have hR7:=hR6h.o.fr hF7 (by simpa using hgra);refine wp_gen (fun V5=>Blk V5 ga 67 #[.int .i64 0,.int .i64 ((tn:Int)+1),.int .i64 ((tn:Int)+2),.slice A5 n c5,.string ⟨#[]⟩,.string ⟨#[]⟩,.bool false,.bool false]∧Blk V5 gr 67 zs∧Fr [ga] V4 V5) ⟨hBa7,hR7,hF7⟩ ?_;clear hF7 hBa7 hR7 a0 a1 a2 a3 a4 a5 a6 a7 hfz2 hgal hrl c8;rintro V5 ⟨hBa7,hR7,hF7⟩;have hgal:=hBa7.lt;obtain⟨a0,a1,a2,a3,a4,a5,a6,a7,hfz⟩:=hBa7.c8;have hrl:=hR7.lt;have hF7h:=zh hF7;clear hfz hF7 hBa7;go_wp2_with (first | (refine wpList_store_row rfl 67 _ _ rfl gr _ rfl rfl 67 zs hR7 infoAns (by rw [hz];rfl) (by kernel_rfl) ?_))
   refine bodyPost_ret (results_cell_row rfl _ _ gr 67 _ (0,0) _ rfl (Blk.setRow hR7 _) uAns rfl infoAns) rfl ?_;have h:=issue_end (S:= [ga]++ [gr]) (r:=true) (x:=x) (k:=(tn:Int)+1) (k2:=(tn:Int)+2) (sl:=sl) hx2h.o (by unfold issueM;rw [hlenxh.o];rfl) hW6h.o hB6h.o hFT6h.o hO6h.o hA5w.o (hY6h.o.mono (fun g hg=>by
     simp only [List.mem_append]at hg⊢;rcases hg with hg |hg
     ·exact .inl (.inl (.inl hg))
     ·exact .inr hg))
    ((hF7h.o.mono (S':= [ga]++ [gr]) (by simp)).setRow (g:=gr) (.inl (by simp)) #[.int .i64 0,.int .i64 ((tn:Int)+1),.int .i64 ((tn:Int)+2),.slice A5 n c5,.string ⟨#[]⟩,.string ⟨#[]⟩,.bool false,.bool false]) (hY6h.o.mono (fun g hg=>by simp only [List.mem_append,List.mem_singleton]at hg⊢;rcases hg with hg |hg<;>simp [hg])) (by simp;exact⟨hpfa,hne⟩) (off_app hA5a.o hA5g.o) (by simp;omega)
   rwa [hn.o]at h
end Go.Proofs.YtpmgepijkhaonaaGreat
