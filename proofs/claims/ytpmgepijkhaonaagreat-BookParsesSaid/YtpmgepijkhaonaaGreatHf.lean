/- Walk: a token is looked at. Conditions: each theorem's own. -/
import Derived.Test.YtpmgepijkhaonaaGreatHe
namespace Go.Proofs.YtpmgepijkhaonaaGreat
open Go.RowKit Go.Sig
theorem bs_t (w:World) (A:Option Addr) (n c:Nat) (ls:List Int) (x:Int) (h:Rd w 1 A n (intCells ls)) (hn:ls.length=n) (hmax:n≤1000000) (hs:ls.Pairwise (·< ·)):
  Calls Tryz.prog 181 #[.slice A n c,.int .i64 x] w fun e w'=>e= .returned (.tuple #[.int .i64 (ls.countP (fun z=>decide (z<x)):Nat),.bool (ls.contains x)])∧Fr [] w w':=by
 rcases Nat.eq_zero_or_pos n with h0 |h0
 ·subst h0;obtain rfl:=List.eq_nil_of_length_eq_zero hn;refine(Tryz.slices_BinarySearch_int_empty A c x w).mono ?_;rintro e w' ⟨rfl,rfl⟩;exact⟨rfl,Fr.refl _ _⟩
 ·obtain⟨b,o,rfl,hc⟩:=h.at h0;refine(Tryz.slices_BinarySearch_int b o n c ls x w (by omega) (by omega) (fun j hj=> ?_) ?_).mono ?_
  ·rw [hc j _ (intCells_at hj),List.getD,List.getElem?_eq_getElem hj];rfl
  ·exact(hs.sublist (List.take_sublist _ _)).imp (fun h=>Int.le_of_lt h)
  ·rintro e w' ⟨rfl,q,rfl⟩;rw [List.take_of_length_le (by omega)];exact⟨rfl,(Fr.refl [] w).drewN q⟩
theorem insI_mem {e:Int}:∀{l:List Int},l.Pairwise (·< ·)→e∈l→insI e l=l
 | [],_,h=>by cases h
 |x::l,hs,h=>by
  have hs':=List.pairwise_cons.1 hs;unfold insI;rcases List.mem_cons.1 h with rfl |h
  ·rw [if_neg (by omega),if_pos rfl]
  ·have:=hs'.1 e h;rw [if_neg (by omega),if_neg (by omega),insI_mem hs'.2 h]
theorem insI_new {e:Int}:∀{l:List Int},l.Pairwise (·< ·)→e∉l→insI e l=l.take (l.countP (fun z=>decide (z<e)))++e::l.drop (l.countP (fun z=>decide (z<e)))
 | [],_,_=>rfl
 |x::l,hs,h=>by
  have hs':=List.pairwise_cons.1 hs;unfold insI;by_cases h1:e<x
  ·have h0:(x::l).countP (fun z=>decide (z<e))=0:=by
    rw [List.countP_eq_zero];intro z hz;rcases List.mem_cons.1 hz with rfl |hz
    ·simp;omega
    ·have:=hs'.1 z hz;simp;omega
   rw [if_pos h1,h0];rfl
  ·have hne:e≠x:=fun e2=>h (by rw [e2];simp);rw [if_neg h1,if_neg hne,List.countP_cons_of_pos (by simp;omega),List.take_succ_cons,List.drop_succ_cons,insI_new hs'.2 (fun h2=>h (List.mem_cons_of_mem _ h2)),List.cons_append]
theorem leases_len:∀{l:List Int},l.Pairwise (·< ·)→(∀e∈l,0≤e∧e<32)→l.length≤100:=fun{l} hs he=>by
 have h1:∀(l:List Int) (lo:Int),l.Pairwise (·< ·)→(∀e∈l,lo≤e∧e<32)→lo≤32→(l.length:Int)≤32 - lo:=by
  intro l;induction l with
  |nil=>intro lo _ _ h;simp;omega
  |cons x l ih=>intro lo hs he hlo;have hs':=List.pairwise_cons.1 hs;have hx:=he x (by simp);have:=ih (x+1) hs'.2 (fun e h=>⟨by have:=hs'.1 e h;omega,(he e (by simp [h])).2⟩) (by omega);simp only [List.length_cons];omega
 have:=h1 l 0 hs he (by omega);omega
theorem countP_le {l:List Int}{e:Int}:l.countP (fun z=>decide (z<e))≤l.length:=List.countP_le_length
theorem fam_lease {w w2:World}{B:Nat}{x:FA}{A:Option Addr}{c:Nat}{ls:List Int}{m:Nat}(h:FamW w B x) (hO:Own w2 3 1 (.slice A ls.length c) ls.length (intCells ls)) (hF:Fr (rowOf (.slice x.lA m 0)) w w2) (hA:A=x.lA∨From w.heap.size A) (hB:B≤w.heap.size):
  FamW w2 B {x with f:={x.f with leases:=ls},lA:=A,lc:=c}:=by
 have off:∀{A':Option Addr}{n c:Nat},Apart x.lA A'→∀g,g∈rowOf (.slice A' n c)→g∉rowOf (.slice x.lA m 0):=fun hA=>rowOf_off (fun ad e hm=>by
  obtain⟨ad2,e2,h2⟩:=rowOf_mem.1 hm;exact hA ad2 ad e2 e h2)
 have new:∀{A':Option Addr}{n c e size k:Nat}{xs:List Value},Own w e size (.slice A' n c) k xs→Apart x.lA A'→Apart A A':=fun h1 h2 p q ep eq=>by
  rcases hA with hA |hA
  ·exact h2 p q (hA▸ep) eq
  ·have:=hA p ep;have:=h1.lt q.block (rowOf_mem.2 ⟨q,eq,rfl⟩);omega
 have hlt:Apart x.lA x.tA:=fun p q ep eq e=>h.tl q p eq ep e.symm;refine⟨h.ts,h.scope.fr hF (off h.ls),h.toks.fr hF (off hlt),hO,fun t ht=>(h.each t ht).fr hF (off (h.le t ht)),h.fs,h.ft,?_,h.fe,h.ts_,fun p q ep eq e=>new h.toks hlt q p eq ep e.symm,h.te,new h.scope h.ls,fun t ht=>new (h.each t ht) (h.le t ht)⟩;rcases hA with hA |hA
 ·show From B A;rw [hA];exact h.fl
 ·exact hA.mono hB
theorem AnsIn.of {w:World}{B:Nat}{y:AA}(h:Own w 9 1 y.slice y.a.scope.length (strCells y.a.scope)) (hA:From B y.A):AnsIn w B y:=⟨h,hA⟩
set_option maxRecDepth 100000 in
set_option maxHeartbeats 4000000 in
theorem look_t {w0 w:World}{p mb:Nat}{room:Int}{X:List Nat}{b:GBk}{c:GCmd}{A:Option Addr}{n d:Nat}{x:FA}{is:Bool}(h:Br w0 w p mb room X b c A n d x is):
  Calls Tryz.prog 131 #[.pointer (some ⟨p,0,none⟩),.agg (cmdV c A n d),x.val,.bool is] w (AnsPost w0 mb X (lookM c b)):=by
 have hh:=zh h;clear h;unfold cmdV FA.val FA.cells;have hzs:∃zs:Array Value,zs.size=8∧Hid (zs=(AA.mk (noA 0) none 0).cells):=⟨_,rfl,zh rfl⟩
 obtain⟨zs,hz,hzh⟩:=hzs;go_enter Tryz.func131,Tryz.ntmps131;go_upto_region 1 with(fail)
 refine wp_gen (fun W=>Blk W w.heap.size 70 (cmdV c A n d)∧Blk W (w.heap.size+1) 26 x.cells∧Blk W (w.heap.size+1+1) 67 zs∧Fr [] w W) ⟨((Blk.new _ _ _).alloc _).alloc _,(Blk.new' _ _ (by simp)).alloc _,by rw [hzh.o];exact Blk.new' _ _ (by simp),(((Fr.refl _ _).alloc _).alloc _).alloc _⟩ ?_;rintro W ⟨hC,hB,hR,fW⟩;obtain⟨gc,HGC⟩:∃z,Hid (w.heap.size=z):=⟨_,zh rfl⟩
 have hgw:w.heap.size≤gc:=by have:=HGC.o;omega
 rw [HGC.o]at hC hB hR⊢;obtain⟨gf,HGF⟩:∃z,Hid (gc+1=z):=⟨_,zh rfl⟩
 rw [HGF.o]at hB hR⊢;obtain⟨gr,HGR⟩:∃z,Hid (gf+1=z):=⟨_,zh rfl⟩
 rw [HGR.o]at hR⊢;have hfr:gf≠gr:=by have:=HGF.o;have:=HGR.o;omega
 have hcr:gc≠gr:=by have:=HGF.o;have:=HGR.o;omega
 have hcf:gc≠gf:=by have:=HGF.o;omega
 have hgf:w.heap.size≤gf:=by have:=HGF.o;omega
 have hgr:w.heap.size≤gr:=by have:=HGF.o;have:=HGR.o;omega
 have hYw:∀g∈ [gc,gf,gr],w.heap.size≤g:=fun g hg=>by simp only [List.mem_cons,List.not_mem_nil,or_false]at hg;omega
 obtain⟨hFO,hbY,hxY,hW,hP,F0⟩:=br_pre hh.o fW [gc,gf,gr] hYw;have hmw:mb<w0.heap.size:=hh.o.hb.lt;have hw0w:w0.heap.size≤w.heap.size:=hh.o.F0.size;have hgr0:w0.heap.size≤gr:=by omega
 have hCh:=zh hC;have hBh:=zh hB;have hRh:=zh hR;have hFOh:=zh hFO;have hbYh:=zh hbY;have hxYh:=zh hxY;have hWh:=zh hW;have hPh:=zh hP;have F0h:=zh F0;have fWh:=zh fW;have hrl:=hR.lt;have hYwh:=zh hYw;clear hC hR hFO hbY hxY hW hP F0 fW hYw;have hrl0:=hRh.o.lt;clear hrl;have hget:=zh hh.o.get;obtain⟨rv,hrv⟩:∃z,Hid (x.f.revoked=z):=⟨_,zh rfl⟩
 obtain⟨d0,d1,d2,d3,d4,d5,d6,d7,d8,d9,d10,d11,d12,hcl⟩:=cmdV_cells hCh.o;have htok:=token_t W x c.token c.serial (hxYh.o.mono (by simp)) (by have:=hh.o.len8;omega);clear d0 d1 d4 d5 d6 d7 d8 d9 d10 d11 d12;go_wp2_with (refine wpList_load_at rfl 26 _ rfl rfl hB (sub_self _) uFam rfl (infoFamL _) ?_;rw [Array.toArray_toList])
 refine htok.mono ?_;rintro e V2 ⟨FV,hcase⟩;have FVh:=zh FV;clear htok d2 d3 hcl hB FV;rcases hcase with⟨ht,rfl⟩ | ⟨t,ht,hgk,rfl⟩
 ·have hth:=zh ht;clear ht;unfold zeroIss;go_upto_region 2 with(refine wpList_store_row rfl 29 _ _ rfl V2.heap.size _ rfl rfl 29 _ (Blk.new _ _ _) infoIss (by kernel_rfl) (by kernel_rfl) ?_)
  refine wp_gen (fun W2=>Fr [] W W2∧Blk W2 V2.heap.size 29 #[.int .i64 0,.slice none 0 0,.bool false]) ⟨FVh.o.trans (((Fr.refl [] V2).alloc _).setRow (.inr (Nat.le_refl _)) _),Blk.setRow (Blk.new _ _ _) _⟩ ?_;rintro W2 ⟨F2,hT2⟩;obtain⟨g9,HG9⟩:∃z,Hid (V2.heap.size=z):=⟨_,zh rfl⟩
  rw [HG9.o]at hT2⊢;obtain⟨t0,t1,t2⟩:=hT2.c3;have htl:=hT2.lt;have F2h:=zh F2;have hB2h:=zh (hBh.o.fr F2 (by simp));have hR2h:=zh (hRh.o.fr F2 (by simp));have hC2h:=zh (hCh.o.fr F2 (by simp));clear F2 hT2;cases is with
  |false=>
   have hres:=zh (show lookM c b=(b,noA 0) by unfold lookM;rw [hget.o];rfl);go_wp2_with (refine wpList_store_row rfl 67 _ _ rfl gr _ rfl rfl 67 zs hR2h.o infoAns (by rw [hz];rfl) (by kernel_rfl) ?_)
   refine bodyPost_ret (results_cell_row rfl _ _ gr 67 _ (0,0) _ rfl (Blk.setRow hR2h.o _) uAns rfl infoAns) rfl ?_;exact ans_no (a:=noA 0) (hbYh.o.fr F2h.o (by simp) (by simp)) (F0h.o.trans F2h.o).nil ((Fr.refl [gr] W2).setRow (.inl (by simp)) _) (fun g hg=>by simp at hg;rw [hg];exact⟨by simp,hgr0⟩) hmw rfl hres.o
  |true=>
   have hg:=zh (show aget c.family b=some x.f by rw [hget.o,if_pos rfl]);have hres:=zh (show lookM c b=(b,noA 0) by unfold lookM;rw [hg.o];simp only;rw [hth.o]);obtain⟨c0,c1,c2,c3,c4,c5,c6,c7,c8,c9,c10,hfl⟩:=fam_cells hB2h.o;obtain⟨d0,d1,d2,d3,d4,d5,d6,d7,d8,d9,d10,d11,d12,hcl⟩:=cmdV_cells hC2h.o;rw [hrv.o]at c9;cases rv with
   |true=>
    go_wp2_with (refine wpList_store_row rfl 67 _ _ rfl gr _ rfl rfl 67 zs hR2h.o infoAns (by rw [hz];rfl) (by kernel_rfl) ?_)
    refine bodyPost_ret (results_cell_row rfl _ _ gr 67 _ (0,0) _ rfl (Blk.setRow hR2h.o _) uAns rfl infoAns) rfl ?_;exact ans_no (a:=noA 0) (hbYh.o.fr F2h.o (by simp) (by simp)) (F0h.o.trans F2h.o).nil ((Fr.refl [gr] W2).setRow (.inl (by simp)) _) (fun g hg=>by simp at hg;rw [hg];exact⟨by simp,hgr0⟩) hmw rfl hres.o
   |false=>
    go_wp2_with (refine wpList_store_row rfl 67 _ _ rfl gr _ rfl rfl 67 zs hR2h.o infoAns (by rw [hz];rfl) (by kernel_rfl) ?_)
    refine bodyPost_ret (results_cell_row rfl _ _ gr 67 _ (0,0) _ rfl (Blk.setRow hR2h.o _) uAns rfl infoAns) rfl ?_;exact ans_no (a:=noA 0) (hbYh.o.fr F2h.o (by simp) (by simp)) (F0h.o.trans F2h.o).nil ((Fr.refl [gr] W2).setRow (.inl (by simp)) _) (fun g hg=>by simp at hg;rw [hg];exact⟨by simp,hgr0⟩) hmw rfl hres.o
 ·have hth:=zh ht;have hgkh:=zh hgk;clear ht hgk;unfold TA.val;go_upto_region 2 with(refine wpList_store_row rfl 29 _ _ rfl V2.heap.size _ rfl rfl 29 _ (Blk.new _ _ _) infoIss (by kernel_rfl) (by kernel_rfl) ?_)
  refine wp_gen (fun W2=>Fr [] W W2∧Blk W2 V2.heap.size 29 #[.int .i64 t.tok.kind,.slice t.A t.tok.scope.length t.c,.bool t.tok.used]) ⟨FVh.o.trans (((Fr.refl [] V2).alloc _).setRow (.inr (Nat.le_refl _)) _),Blk.setRow (Blk.new _ _ _) _⟩ ?_;rintro W2 ⟨F2,hT2⟩;obtain⟨g9,HG9⟩:∃z,Hid (V2.heap.size=z):=⟨_,zh rfl⟩
  rw [HG9.o]at hT2⊢;obtain⟨t0,t1,t2⟩:=hT2.c3;have htl:=hT2.lt;have F2h:=zh F2;have hB2h:=zh (hBh.o.fr F2 (by simp));have hR2h:=zh (hRh.o.fr F2 (by simp));have hC2h:=zh (hCh.o.fr F2 (by simp));have hT2h:=zh hT2;clear F2 hT2;cases is with
  |false=>
   have hres:=zh (show lookM c b=(b,noA 0) by unfold lookM;rw [hget.o];rfl);go_wp2_with (refine wpList_store_row rfl 67 _ _ rfl gr _ rfl rfl 67 zs hR2h.o infoAns (by rw [hz];rfl) (by kernel_rfl) ?_)
   refine bodyPost_ret (results_cell_row rfl _ _ gr 67 _ (0,0) _ rfl (Blk.setRow hR2h.o _) uAns rfl infoAns) rfl ?_;exact ans_no (a:=noA 0) (hbYh.o.fr F2h.o (by simp) (by simp)) (F0h.o.trans F2h.o).nil ((Fr.refl [gr] W2).setRow (.inl (by simp)) _) (fun g hg=>by simp at hg;rw [hg];exact⟨by simp,hgr0⟩) hmw rfl hres.o
  |true=>
   have hg:=zh (show aget c.family b=some x.f by rw [hget.o,if_pos rfl]);obtain⟨c0,c1,c2,c3,c4,c5,c6,c7,c8,c9,c10,hfl⟩:=fam_cells hB2h.o;obtain⟨d0,d1,d2,d3,d4,d5,d6,d7,d8,d9,d10,d11,d12,hcl⟩:=cmdV_cells hC2h.o;rw [hrv.o]at c9;cases rv with
   |true=>
    have hres:=zh (show lookM c b=(b,noA 0) by unfold lookM;rw [hg.o];simp only;rw [hth.o];simp only;rw [if_pos (.inl hrv.o)]);go_wp2_with (refine wpList_store_row rfl 67 _ _ rfl gr _ rfl rfl 67 zs hR2h.o infoAns (by rw [hz];rfl) (by kernel_rfl) ?_)
    refine bodyPost_ret (results_cell_row rfl _ _ gr 67 _ (0,0) _ rfl (Blk.setRow hR2h.o _) uAns rfl infoAns) rfl ?_;exact ans_no (a:=noA 0) (hbYh.o.fr F2h.o (by simp) (by simp)) (F0h.o.trans F2h.o).nil ((Fr.refl [gr] W2).setRow (.inl (by simp)) _) (fun g hg=>by simp at hg;rw [hg];exact⟨by simp,hgr0⟩) hmw rfl hres.o
   |false=>
    obtain⟨us,hus⟩:∃z,Hid (t.tok.used=z):=⟨_,zh rfl⟩
    rw [hus.o]at t2;cases us with
    |true=>
     have hres:=zh (show lookM c b=(b,noA 0) by unfold lookM;rw [hg.o];simp only;rw [hth.o];simp only;rw [if_pos (.inr hus.o)]);go_wp2_with (refine wpList_store_row rfl 67 _ _ rfl gr _ rfl rfl 67 zs hR2h.o infoAns (by rw [hz];rfl) (by kernel_rfl) ?_)
     refine bodyPost_ret (results_cell_row rfl _ _ gr 67 _ (0,0) _ rfl (Blk.setRow hR2h.o _) uAns rfl infoAns) rfl ?_;exact ans_no (a:=noA 0) (hbYh.o.fr F2h.o (by simp) (by simp)) (F0h.o.trans F2h.o).nil ((Fr.refl [gr] W2).setRow (.inl (by simp)) _) (fun g hg=>by simp at hg;rw [hg];exact⟨by simp,hgr0⟩) hmw rfl hres.o
    |false=>
     have hresh:=zh (show lookM c b=(aset x.f.id {x.f with leases:=insI c.edge x.f.leases} b,⟨0,0,0,t.tok.scope,x.f.client,x.f.user,true,false⟩) by
      unfold lookM;rw [hg.o];simp only;rw [hth.o];simp only;rw [if_neg (by rw [hrv.o,hus.o];simp)])
     have hok:=hh.o.famOk.1;have hrise:=hok.leases;have hedges:=hok.edges;have htl32h:=zh (show t.tok.scope.length≤1000 by
      have hm:t.tok∈x.f.tokens:=List.mem_of_getElem? (tokM_some hth.o).2.2.1;have:=(setM_sizes (hok.each _ hm).set).1;omega)
     have hll:x.f.leases.length≤100:=leases_len hrise hedges;have hW2:=hWh.o.fr0 F2h.o;have hbs:=bs_t W2 x.lA _ x.lc x.f.leases c.edge hW2.leases.rd rfl (by omega) hrise;obtain⟨at_,hat⟩:∃z,Hid (x.f.leases.countP (fun z=>decide (z<c.edge))=z):=⟨_,zh rfl⟩
     obtain⟨th,hthere⟩:∃z,Hid (x.f.leases.contains c.edge=z):=⟨_,zh rfl⟩
     rw [hat.o,hthere.o]at hbs;have hriseh:=zh hrise;have hg9:w.heap.size≤g9:=by have:=FVh.o.size;have:=fWh.o.size;have:=HG9.o;omega
     have hg9r:g9≠gr∧g9≠gf∧g9≠gc:=by have h1:=hRh.o.lt;have h2:=hBh.o.lt;have h3:=hCh.o.lt;have:=FVh.o.size;have:=HG9.o;omega
     have hW2h:=zh hW2;clear hok hrise hedges hW2;go_wp2_with fail
     refine hbs.mono ?_;rintro e W3 ⟨rfl,F3⟩;have F3h:=zh (F2h.o.trans F3);have F3k:=zh F3;have hB3:=hB2h.o.fr F3 (by simp);have hR3:=hR2h.o.fr F3 (by simp);have hC3:=hC2h.o.fr F3 (by simp);have hT3:=hT2h.o.fr F3 (by simp);have hw3:=hW2h.o.fr0 F3;have hFO9:FOff x ([gc,gf,gr]++ [g9]):=hFOh.o.app (foff_lt hh.o.fam hg9);have F03:=F0h.o.trans F3h.o;have hP3:=hPh.o.fr F3h.o (by simp);clear hbs F3 c0 c1 c2 c3 c4 c5 c6 c7 c8 c9 c10 hfl d0 d1 d2 d3 d4 d5 d6 d7 d8 d9 d10 d11 d12 hcl t0 t1 t2 htl;cases th with
     |true=>
      obtain⟨x1,hx1e⟩:∃z,Hid (x=z):=⟨_,zh rfl⟩
      have hx1h:=zh (show x1.f={x.f with leases:=insI c.edge x.f.leases} by
       rw [←hx1e.o,insI_mem hriseh.o (by have:=hthere.o;simpa using this)])
      have hx1t:=zh (show x1.ts=x.ts by rw [←hx1e.o]);have hB7:Blk W3 gf 26 x1.cells:=by rw [←hx1e.o];exact hB3
      have hw7:FamW W3 w0.heap.size x1:=by rw [←hx1e.o];exact hw3
      have hFO7:FOff x1 ([gc,gf,gr]++ [g9]):=by rw [←hx1e.o];exact hFO9
      obtain⟨V7,hV7⟩:∃V7:World,V7=W3:=⟨_,rfl⟩
      subst hV7;have F07:=F03;have hP7:=hP3;have hR7:=hR3;have hT7:=hT3;clear hB3 hR3 hC3 hT3 hw3 hFO9 F03 hP3;have hw7h:=zh hw7;have hFO7h:=zh hFO7;have hR7h:=zh hR7;have hT7h:=zh hT7;have hB7h:=zh hB7;have hP7h:=zh hP7;have F07h:=zh F07;clear hw7 hFO7 hR7 hT7 hB7 hP7 F07;go_upto_region 7 with(fail)
      obtain⟨l,hl1,hl2,hl3⟩:=hh.o.hb;have hl3h:=zh hl3;have hl2h:=zh hl2;clear hl3 hl2;refine wp_tail_gen 7 (fun w1=>Blk w1 gf 26 x1.cells∧Blk w1 p 183 #[.map (some mb),.int .i64 room]∧IsMap w1 mb Value.string FA.val l∧Fr [] V7 w1) ⟨hB7h.o.drew,hP7h.o.drew,hl1.fr (F07h.o.drew) (by simp),(Fr.refl [] V7).drew⟩ (by kernel_rfl) (by kernel_rfl) ?_;clear hl1;rintro w1 ⟨h1,h2,h3,f1⟩;have hcc:=fam_cells h1;obtain⟨q0,q1,q2,q3,q4,q5,q6,q7,q8,q9,q10,hgl⟩:=hcc;have e0:=h2.cell 0;simp only [zG,zH]at e0;have hp1:=h2.lt;simp only [List.take_succ_cons,List.take_zero,List.drop_succ_cons,List.drop_zero];repeat still_step
      refine wpStill_nil ?_;refine wpList_map_set h3 kStr uMsf x1.f.id x1 rfl rfl rfl rfl rfl ?_;intro w2 hm ht;have F2m:Fr [mb] w1 w2:=ht.fr;have hmX:mb∈X++ [gc,gf,gr]:=List.mem_append.2 (.inl hh.o.hmb);have hw1:=hw7h.o.fr0 f1;have hfam2:=(hw1.famO ((foff_from hw1 hh.o.hX).app (hFO7h.o.mono (Y:= [gc,gf,gr]) (by simp)))).fr (F2m.mono (S':=X++ [gc,gf,gr]) (fun g hg=>by simp at hg;rw [hg];exact hmX));have hbk:=zh (bk_aset l hl2h.o hm hl3h.o (F07h.o.trans f1) F2m hh.o.hmb (Y:= [gc,gf,gr]) (fun g hg=>by simp only [List.mem_cons,List.not_mem_nil,or_false]at hg;omega) hfam2);have hR2:=zh ((hR7h.o.fr f1 (by simp)).fr F2m (by simp;omega));have hT2:=(hT7h.o.fr f1 (by simp)).fr F2m (by simp;omega);have hB2:=(hB7h.o.fr f1 (by simp)).fr F2m (by simp;omega);have FT:=zh ((F07h.o.nil.trans f1.nil).trans F2m);have hw2:=hw1.frO F2m (foff_from hw1 (fun g hg=>by simp at hg;rw [hg];exact hh.o.hX mb hh.o.hmb));have hOt:=hw2.each t (by rw [hx1t.o];exact List.mem_of_getElem? hgkh.o);have hrdt:=zh hOt.rd;obtain⟨t0,t1,t2⟩:=hT2.c3;have htl:=hT2.lt;have hcc:=fam_cells hB2;rw [hx1h.o]at hcc;dsimp only at hcc;obtain⟨q0,c1,c2,q3,q4,q5,q6,q7,q8,q9,q10,hfl⟩:=hcc;clear h1 h2 h3 hm ht q0 q3 q4 q5 q6 q7 q8 q9 q10 hgl e0 hp1 hfam2 hmX hw1 hw2 hOt hT2 hB2 t0 t2;have htl32:t.tok.scope.length≤1000:=htl32h.o;go_upto_region 8 with(fail)
      refine wp_region_z (fun w'=>w'.cell? ⟨g9,1,none⟩=some (.slice t.A t.tok.scope.length t.c)∧w'.cell? ⟨gf,1,none⟩=some (.string x.f.client)∧w'.cell? ⟨gf,2,none⟩=some (.string x.f.user)) [8] (by kernel_rfl) ⟨t1,c1,c2⟩ ?_;intro hHeld;refine wpZ_tk (i:=0) (v:= ?_) hHeld ?_ ?_;rotate_left
      ·(intro w hSw;go_simp<;>with_reducible rfl)
      try simp only [zA,zC,Act.put,zD,zE,zF]
      refine wpZ_tk (i:=1) (v:= ?_) hHeld ?_ ?_;rotate_left
      ·(intro w hSw;go_simp<;>with_reducible rfl)
      try simp only [zA,zB,zC,Act.put,zD,zE,zF]
      refine wpZ_tk (i:=3) (v:= ?_) hHeld ?_ ?_;rotate_left
      ·(intro w hSw;go_simp<;>with_reducible rfl)
      try simp only [zA,zB,zC,Act.put,zD,zE,zF]
      refine wpZ_tk (i:=4) (v:= ?_) hHeld ?_ ?_;rotate_left
      ·(intro w hSw;go_simp<;>with_reducible rfl)
      try simp only [zA,zB,zC,Act.put,zD,zE,zF]
      refine wpZ_tk (i:=5) (v:= ?_) hHeld ?_ ?_;rotate_left
      ·(intro w hSw;go_simp<;>with_reducible rfl)
      try simp only [zA,zB,zC,Act.put,zD,zE,zF]
      refine wpZ_tk (i:=6) (v:= ?_) hHeld ?_ ?_;rotate_left
      ·(intro w hSw;go_simp<;>with_reducible rfl)
      try simp only [zA,zB,zC,Act.put,zD,zE,zF]
      refine wpZ_one (i:=2) (by kernel_rfl) rfl (fun K hK=> ?_);go_simp;refine(cloneS_t w2.drew t.A _ t.c t.tok.scope hrdt.o rfl (by omega)).mono ?_;rintro e W9 ⟨A9,c9,rfl,hO9,hA9,f9⟩;have f9:Fr [] w2 W9:=f9.of_drew;have hR9:=hR2.o.fr f9 (by simp);try dsimp only
      refine hK.out _ _ ⟨cell_fr f9 t1,cell_fr f9 c1,cell_fr f9 c2⟩ (fun hHeld=> ?_);clear hK K;try simp only [zA,zB,zC,Act.put,zD,zE,zF]
      refine wpZ_tk (i:=7) (v:= ?_) hHeld ?_ ?_;rotate_left
      ·(intro w hSw;go_simp<;>with_reducible rfl)
      try simp only [zA,zB,zC,Act.put,zD,zE,zF]
      refine wpZ_end (i:=8) (by kernel_rfl) rfl rfl (fun K hK=> ?_);rw [if_pos (wanted_none rfl)];refine wp_store_row 67 _ _ rfl gr _ rfl rfl 67 zs hR9 infoAns (by rw [hz];rfl) (by kernel_rfl) ?_;show K (Act.put _ none undef) _;refine hK.out _ _ ?_;clear hK K;try simp only [Act.put]
      refine wpZ_done (by kernel_rfl) ?_ _;go_wp2_with fail
      refine bodyPost_ret (results_cell_row rfl _ _ gr 67 _ (0,0) _ rfl (Blk.setRow hR9 _) uAns rfl infoAns) rfl ?_;have hA9':From w2.heap.size A9:=hA9;have hw2s:w0.heap.size≤w2.heap.size:=FT.o.size;have hg2:gr<w2.heap.size:=hR2.o.lt;have hyg:∀g∈rowOf (.slice A9 t.tok.scope.length c9),w2.heap.size≤g:=fun g hg=>by obtain⟨ad,e,rfl⟩:=rowOf_mem.1 hg;exact hA9' ad e
      have hb9:=bk_same hbk.o f9 (Y:=rowOf (.slice A9 t.tok.scope.length c9)) hyg;rw [List.append_assoc]at hb9;have hid1:x1.f.id=x.f.id:=by rw [hx1h.o]
      exact ans_yes (Y:= [gc,gf,gr]++rowOf (.slice A9 t.tok.scope.length c9)) hb9 (FT.o.trans f9.nil) ((Fr.refl [gr] W9).setRow (.inl (by simp)) _) (fun g hg=>by simp at hg;rw [hg];exact⟨by simp,hgr0⟩) hmw (AA.mk ⟨0,0,0,t.tok.scope,x.f.client,x.f.user,true,false⟩ A9 c9)
       ⟨hO9,hA9'.mono hw2s⟩ (fun g hg=>List.mem_append.2 (.inr hg)) (fun g hg=>by have:=hyg g hg;simp;omega) (by rw [hresh.o,hid1,hx1h.o])
     |false=>
      have hnot:c.edge∉x.f.leases:=by have:=hthere.o;simpa using this
      have hins:=insI_new hriseh.o hnot;rw [hat.o]at hins;have hatl:at_≤x.f.leases.length:=by rw [←hat.o];exact countP_le
      obtain⟨ls2,hls2⟩:∃z,Hid (x.f.leases.take at_++c.edge::x.f.leases.drop at_=z):=⟨_,zh rfl⟩
      have hl2:ls2.length=x.f.leases.length+1:=by rw [←hls2.o,List.length_append,List.length_cons,List.length_take,List.length_drop];omega
      have hinsh:=zh (show insI c.edge x.f.leases=ls2 by rw [hins,hls2.o]);have hnl:=hw3.leases.lt;have hV:=Blk.new W3 3 #[.int .i64 c.edge];have hwa:=hw3.fr0 ((Fr.refl [] W3).alloc (.cells #[.int .i64 c.edge] 3));have hi:=ins_t (W3.alloc (.cells #[.int .i64 c.edge] 3)) x.lA _ x.lc at_ x.f.leases c.edge W3.heap.size 1 hwa.leases rfl hatl (by omega) hV (fun ad e h=>by
       have:=hnl ad.block (rowOf_mem.2 ⟨ad,e,rfl⟩);omega)
      rw [hls2.o]at hi;obtain⟨c0,c1,c2,c3,c4,c5,c6,c7,c8,c9,c10,hfl⟩:=fam_cells hB3;obtain⟨d0,d1,d2,d3,d4,d5,d6,d7,d8,d9,d10,d11,d12,hcl⟩:=cmdV_cells hC3;have hB3h:=zh hB3;have hR3h:=zh hR3;have hT3h:=zh hT3;have hw3h:=zh hw3;have hwah:=zh hwa;have hFO9h:=zh hFO9;have F03h:=zh F03;have hP3h:=zh hP3;have hl2h:=zh hl2;have hz10:=hB3.frozen 10;clear hnot hins hnl hV hwa hB3 hR3 hT3 hw3 hFO9 F03 hP3 hC3 c0 c1 c2 c3 c4 c5 c6 c7 c8 c9 d0 d1 d2 d3 d4 d5 d6 d7 d8 d9 d10 d11 hl2;go_wp2_with fail
      refine hi.mono ?_;rintro e W4 ⟨A4,c4,rfl,hO4,F4,hA4⟩;have hoffY:∀g,g∈rowOf (.slice x.lA (x.f.leases.length+1) 0)→w0.heap.size≤g∧g≠gf∧g≠gr∧g≠g9∧g≠gc:=fun g hg=>by obtain⟨ad,e,h⟩:=rowOf_mem.1 hg;exact⟨by rw [←h];exact hw3h.o.fl ad e,fun h2=>hFO9h.o.l ad e (by simp [h,h2]),fun h2=>hFO9h.o.l ad e (by simp [h,h2]),fun h2=>hFO9h.o.l ad e (by simp [h,h2]),fun h2=>hFO9h.o.l ad e (by simp [h,h2])⟩
      have hgfl:gf<W3.heap.size:=hB3h.o.lt;have hgrl:gr<W3.heap.size:=hR3h.o.lt;have hg9l:g9<W3.heap.size:=hT3h.o.lt;have Fal:Fr [] W3 (W3.alloc (.cells #[.int .i64 c.edge] 3)):=(Fr.refl [] W3).alloc _;have hB4:=(hB3h.o.fr Fal (by simp)).fr F4 (fun h=>(hoffY _ h).2.1 rfl);have e10:=hB4.cell 10;have z10:=hB4.frozen 10;have hgl4:=hB4.lt;unfold FA.cells at e10;simp only [zG,zH,zI]at e10;have hw4:=fam_lease (ls:=ls2) hwah.o (own_cast hO4 hl2h.o) F4 hA4 (by have:=F03h.o.size;simp;omega);have F5:Fr [gf] W4 (W4.setCell ⟨gf,10,none⟩ (.slice A4 (x.f.leases.length+1) c4)):=(Fr.refl [gf] W4).setCell (p:=⟨gf,10,none⟩) (.inl (by simp)) _;have hB5:=hB4.set 10 (.slice A4 (x.f.leases.length+1) c4);have hB5':Blk (W4.setCell ⟨gf,10,none⟩ (.slice A4 (x.f.leases.length+1) c4)) gf 26 (FA.mk {x.f with leases:=ls2} x.sA x.sc x.tA x.tc x.ts A4 c4).cells:=by rw [FA.cells_def];rw [hl2h.o];exact hB5
      have hFO5:FOff (FA.mk {x.f with leases:=ls2} x.sA x.sc x.tA x.tc x.ts A4 c4) ([gc,gf,gr]++ [g9]):=⟨hFO9h.o.s,hFO9h.o.t,(by
       rcases hA4 with hA4 |hA4
       ·show Off _ A4;rw [hA4];exact hFO9h.o.l
       ·intro ad e hm;have h1:=hA4 ad e;have hgcf:gc<gf:=by have:=HGF.o;omega
        simp only [List.mem_append,List.mem_cons,List.not_mem_nil,or_false]at hm;simp at h1;omega),hFO9h.o.e⟩
      have hw5:=hw4.frO F5 (hFO5.mono (by simp));have F05:=((F03h.o.trans Fal).andThen F4 (fun g hg=> .inr (hoffY g hg).1)).andThen F5 (fun g hg=> .inr (by simp at hg;omega));have hP5:=((hP3h.o.fr Fal (by simp)).fr F4 (fun h=>by have h1:=(hoffY _ h).1;have:=hh.o.hp.lt;omega)).fr F5 (by have:=hh.o.hp.lt;simp;omega);have hR5:=((hR3h.o.fr Fal (by simp)).fr F4 (fun h=>(hoffY _ h).2.2.1 rfl)).fr F5 (by simp;omega);have hT5:=((hT3h.o.fr Fal (by simp)).fr F4 (fun h=>(hoffY _ h).2.2.2.1 rfl)).fr F5 (by simp;exact hg9r.2.1);have hB5h:=zh hB5';have hw5h:=zh hw5;have hFO5h:=zh hFO5;have F05h:=zh F05;have hP5h:=zh hP5;have hR5h:=zh hR5;have hT5h:=zh hT5;clear hi hO4 F4 hA4 hoffY Fal hB4 hw4 F5 hB5 hB5' hFO5 hw5 F05 hP5 hR5 hT5 c10 d12 hcl hz10 hfl;go_upto_region 7 with(fail)
      refine wp_gen (fun V7=>∃x1:FA,x1.f={x.f with leases:=insI c.edge x.f.leases}∧x1.ts=x.ts∧Blk V7 gf 26 x1.cells∧FamW V7 w0.heap.size x1∧FOff x1 ([gc,gf,gr]++ [g9])∧Fr [] w0 V7∧Blk V7 p 183 #[.map (some mb),.int .i64 room]∧Blk V7 gr 67 zs∧Blk V7 g9 29 #[.int .i64 t.tok.kind,.slice t.A t.tok.scope.length t.c,.bool t.tok.used])
       ⟨FA.mk {x.f with leases:=ls2} x.sA x.sc x.tA x.tc x.ts A4 c4,by rw [hinsh.o],rfl,hB5h.o,hw5h.o,hFO5h.o,F05h.o,hP5h.o,hR5h.o,hT5h.o⟩ ?_
      clear hB5h hw5h hFO5h F05h hP5h hR5h hT5h e10 z10 hgl4;rintro V7 ⟨x1,hx1,hx1ts,hB7,hw7,hFO7,F07,hP7,hR7,hT7⟩;have hx1h:=zh hx1;have hx1t:=zh hx1ts;clear hx1 hx1ts;have hw7h:=zh hw7;have hFO7h:=zh hFO7;have hR7h:=zh hR7;have hT7h:=zh hT7;have hB7h:=zh hB7;have hP7h:=zh hP7;have F07h:=zh F07;clear hw7 hFO7 hR7 hT7 hB7 hP7 F07;go_upto_region 7 with(fail)
      obtain⟨l,hl1,hl2,hl3⟩:=hh.o.hb;have hl3h:=zh hl3;have hl2h:=zh hl2;clear hl3 hl2;refine wp_tail_gen 7 (fun w1=>Blk w1 gf 26 x1.cells∧Blk w1 p 183 #[.map (some mb),.int .i64 room]∧IsMap w1 mb Value.string FA.val l∧Fr [] V7 w1) ⟨hB7h.o.drew,hP7h.o.drew,hl1.fr (F07h.o.drew) (by simp),(Fr.refl [] V7).drew⟩ (by kernel_rfl) (by kernel_rfl) ?_;clear hl1;rintro w1 ⟨h1,h2,h3,f1⟩;have hcc:=fam_cells h1;obtain⟨q0,q1,q2,q3,q4,q5,q6,q7,q8,q9,q10,hgl⟩:=hcc;have e0:=h2.cell 0;simp only [zG,zH]at e0;have hp1:=h2.lt;simp only [List.take_succ_cons,List.take_zero,List.drop_succ_cons,List.drop_zero];repeat still_step
      refine wpStill_nil ?_;refine wpList_map_set h3 kStr uMsf x1.f.id x1 rfl rfl rfl rfl rfl ?_;intro w2 hm ht;have F2m:Fr [mb] w1 w2:=ht.fr;have hmX:mb∈X++ [gc,gf,gr]:=List.mem_append.2 (.inl hh.o.hmb);have hw1:=hw7h.o.fr0 f1;have hfam2:=(hw1.famO ((foff_from hw1 hh.o.hX).app (hFO7h.o.mono (Y:= [gc,gf,gr]) (by simp)))).fr (F2m.mono (S':=X++ [gc,gf,gr]) (fun g hg=>by simp at hg;rw [hg];exact hmX));have hbk:=zh (bk_aset l hl2h.o hm hl3h.o (F07h.o.trans f1) F2m hh.o.hmb (Y:= [gc,gf,gr]) (fun g hg=>by simp only [List.mem_cons,List.not_mem_nil,or_false]at hg;omega) hfam2);have hR2:=zh ((hR7h.o.fr f1 (by simp)).fr F2m (by simp;omega));have hT2:=(hT7h.o.fr f1 (by simp)).fr F2m (by simp;omega);have hB2:=(hB7h.o.fr f1 (by simp)).fr F2m (by simp;omega);have FT:=zh ((F07h.o.nil.trans f1.nil).trans F2m);have hw2:=hw1.frO F2m (foff_from hw1 (fun g hg=>by simp at hg;rw [hg];exact hh.o.hX mb hh.o.hmb));have hOt:=hw2.each t (by rw [hx1t.o];exact List.mem_of_getElem? hgkh.o);have hrdt:=zh hOt.rd;obtain⟨t0,t1,t2⟩:=hT2.c3;have htl:=hT2.lt;have hcc:=fam_cells hB2;rw [hx1h.o]at hcc;dsimp only at hcc;obtain⟨q0,c1,c2,q3,q4,q5,q6,q7,q8,q9,q10,hfl⟩:=hcc;clear h1 h2 h3 hm ht q0 q3 q4 q5 q6 q7 q8 q9 q10 hgl e0 hp1 hfam2 hmX hw1 hw2 hOt hT2 hB2 t0 t2;have htl32:t.tok.scope.length≤1000:=htl32h.o;go_upto_region 8 with(fail)
      refine wp_region_z (fun w'=>w'.cell? ⟨g9,1,none⟩=some (.slice t.A t.tok.scope.length t.c)∧w'.cell? ⟨gf,1,none⟩=some (.string x.f.client)∧w'.cell? ⟨gf,2,none⟩=some (.string x.f.user)) [8] (by kernel_rfl) ⟨t1,c1,c2⟩ ?_;intro hHeld;refine wpZ_tk (i:=0) (v:= ?_) hHeld ?_ ?_;rotate_left
      ·(intro w hSw;go_simp<;>with_reducible rfl)
      try simp only [zA,zC,Act.put,zD,zE,zF]
      refine wpZ_tk (i:=1) (v:= ?_) hHeld ?_ ?_;rotate_left
      ·(intro w hSw;go_simp<;>with_reducible rfl)
      try simp only [zA,zB,zC,Act.put,zD,zE,zF]
      refine wpZ_tk (i:=3) (v:= ?_) hHeld ?_ ?_;rotate_left
      ·(intro w hSw;go_simp<;>with_reducible rfl)
      try simp only [zA,zB,zC,Act.put,zD,zE,zF]
      refine wpZ_tk (i:=4) (v:= ?_) hHeld ?_ ?_;rotate_left
      ·(intro w hSw;go_simp<;>with_reducible rfl)
      try simp only [zA,zB,zC,Act.put,zD,zE,zF]
      refine wpZ_tk (i:=5) (v:= ?_) hHeld ?_ ?_;rotate_left
      ·(intro w hSw;go_simp<;>with_reducible rfl)
      try simp only [zA,zB,zC,Act.put,zD,zE,zF]
      refine wpZ_tk (i:=6) (v:= ?_) hHeld ?_ ?_;rotate_left
      ·(intro w hSw;go_simp<;>with_reducible rfl)
      try simp only [zA,zB,zC,Act.put,zD,zE,zF]
      refine wpZ_one (i:=2) (by kernel_rfl) rfl (fun K hK=> ?_);go_simp;refine(cloneS_t w2.drew t.A _ t.c t.tok.scope hrdt.o rfl (by omega)).mono ?_;rintro e W9 ⟨A9,c9,rfl,hO9,hA9,f9⟩;have f9:Fr [] w2 W9:=f9.of_drew;have hR9:=hR2.o.fr f9 (by simp);try dsimp only
      refine hK.out _ _ ⟨cell_fr f9 t1,cell_fr f9 c1,cell_fr f9 c2⟩ (fun hHeld=> ?_);clear hK K;try simp only [zA,zB,zC,Act.put,zD,zE,zF]
      refine wpZ_tk (i:=7) (v:= ?_) hHeld ?_ ?_;rotate_left
      ·(intro w hSw;go_simp<;>with_reducible rfl)
      try simp only [zA,zB,zC,Act.put,zD,zE,zF]
      refine wpZ_end (i:=8) (by kernel_rfl) rfl rfl (fun K hK=> ?_);rw [if_pos (wanted_none rfl)];refine wp_store_row 67 _ _ rfl gr _ rfl rfl 67 zs hR9 infoAns (by rw [hz];rfl) (by kernel_rfl) ?_;show K (Act.put _ none undef) _;refine hK.out _ _ ?_;clear hK K;try simp only [Act.put]
      refine wpZ_done (by kernel_rfl) ?_ _;go_wp2_with fail
      refine bodyPost_ret (results_cell_row rfl _ _ gr 67 _ (0,0) _ rfl (Blk.setRow hR9 _) uAns rfl infoAns) rfl ?_;have hA9':From w2.heap.size A9:=hA9;have hw2s:w0.heap.size≤w2.heap.size:=FT.o.size;have hg2:gr<w2.heap.size:=hR2.o.lt;have hyg:∀g∈rowOf (.slice A9 t.tok.scope.length c9),w2.heap.size≤g:=fun g hg=>by obtain⟨ad,e,rfl⟩:=rowOf_mem.1 hg;exact hA9' ad e
      have hb9:=bk_same hbk.o f9 (Y:=rowOf (.slice A9 t.tok.scope.length c9)) hyg;rw [List.append_assoc]at hb9;have hid1:x1.f.id=x.f.id:=by rw [hx1h.o]
      exact ans_yes (Y:= [gc,gf,gr]++rowOf (.slice A9 t.tok.scope.length c9)) hb9 (FT.o.trans f9.nil) ((Fr.refl [gr] W9).setRow (.inl (by simp)) _) (fun g hg=>by simp at hg;rw [hg];exact⟨by simp,hgr0⟩) hmw (AA.mk ⟨0,0,0,t.tok.scope,x.f.client,x.f.user,true,false⟩ A9 c9)
       ⟨hO9,hA9'.mono hw2s⟩ (fun g hg=>List.mem_append.2 (.inr hg)) (fun g hg=>by have:=hyg g hg;simp;omega) (by rw [hresh.o,hid1,hx1h.o])
end Go.Proofs.YtpmgepijkhaonaaGreat
