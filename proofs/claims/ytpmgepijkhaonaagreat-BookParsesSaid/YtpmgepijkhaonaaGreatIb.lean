/- Walk: which families may be. Conditions: each theorem's own. -/
import Derived.Test.YtpmgepijkhaonaaGreatGt
import Derived.Test.YtpmgepijkhaonaaGreatGn
import Derived.Test.YtpmgepijkhaonaaGreatGv
import Derived.Test.YtpmgepijkhaonaaGreatHm
import Derived.Laws.Concat
namespace Go.Sig
open Go.RowKit
def headR (f:GFam):Bool:=idM f.id&& !decide (f.client.size=0)&&textsM [f.client,f.user,f.redirect,f.challenge,f.method]&&setM f.scope&& !decide (f.code<0)&& !decide (2<f.code)&& !decide (8<f.tokens.length)
def bare (f:GFam):Bool:=decide (f.user.size=0)&&decide (f.redirect.size=0)&&decide (f.challenge.size=0)&&decide (f.method.size=0)
def midR (f:GFam):Bool:= !(decide (f.code=0)&& !bare f)&&shownM f.challenge f.method&&(decide (f.tokens.length=0)==decide (f.code=1))
def tokR (f:GFam) (t:GTok):Bool:= !(!decide (t.kind=2)&& !decide (t.kind=3))&&setM t.scope&&within t.scope f.scope&& !(decide (t.kind=3)&& !decide (t.scope=f.scope))&& !(decide (t.kind=2)&&t.used)
def leR (l:List Int) (i:Nat):Bool:=decide (0≤l.getD i 0)&&decide (l.getD i 0<32)&& !(decide (0<i)&&decide (l.getD i 0≤l.getD (i - 1) 0))
def leaR (l:List Int):Bool:=(List.range l.length).all (leR l)
def rightM (f:GFam):Bool:=headR f&&midR f&&f.tokens.all (tokR f)&&leaR f.leases
theorem tokR_ok {f:GFam}{t:GTok}:tokR f t=true↔TokOk f t:=by
 unfold tokR;simp only [Bool.and_eq_true,Bool.not_eq_true',Bool.and_eq_false_iff,Bool.not_eq_false',decide_eq_true_eq,decide_eq_false_iff_not];constructor
 ·rintro⟨⟨⟨⟨h1,h2⟩,h3⟩,h4⟩,h5⟩;exact⟨h1,h2,h3,fun h=>h4.resolve_left (fun k=>k h),fun h=>h5.resolve_left (fun k=>k h)⟩
 ·rintro⟨h1,h2,h3,h4,h5⟩;refine⟨⟨⟨⟨h1,h2⟩,h3⟩,?_⟩,?_⟩
  ·by_cases h:t.kind=3
   ·exact .inr (h4 h)
   ·exact .inl h
  ·by_cases h:t.kind=2
   ·exact .inr (h5 h)
   ·exact .inl h
theorem getD_lt (l:List Int) {i:Nat}(hi:i<l.length):l.getD i 0=l[i]:=by simp [List.getD,hi]
theorem leaR_ok {l:List Int}:leaR l=true↔l.Pairwise (·< ·)∧∀e∈l,0≤e∧e<32:=by
 unfold leaR;rw [List.all_eq_true];constructor
 ·intro h;have hk:∀i (hi:i<l.length),(0≤l[i]∧l[i]<32)∧(0<i→∀hj:i - 1<l.length,l[i - 1]<l[i]):=fun i hi=>by
   have h1:=h i (List.mem_range.2 hi);unfold leR at h1;simp only [Bool.and_eq_true,Bool.not_eq_true',Bool.and_eq_false_iff,decide_eq_true_eq,decide_eq_false_iff_not]at h1;rw [getD_lt l hi]at h1;refine⟨h1.1,fun h0 hj=> ?_⟩;rw [getD_lt l hj]at h1;rcases h1.2 with h2 |h2
   ·exact absurd h0 h2
   ·omega
  refine⟨List.pairwise_iff_getElem.2 fun i j hi hj hij=> ?_,fun e he=> ?_⟩
  ·obtain⟨d,rfl⟩:∃d,j=i+d+1:=⟨j - i - 1,by omega⟩
   clear hij;induction d with
   |zero=>exact(hk (i+0+1) hj).2 (by omega) hi
   |succ d ih=>have h1:=ih (by omega);have h2:=(hk (i+(d+1)+1) hj).2 (by omega) (by omega);exact Int.lt_trans h1 h2
  ·obtain⟨i,hi,rfl⟩:=List.mem_iff_getElem.1 he;exact(hk i hi).1
 ·rintro⟨h1,h2⟩ i hi;have hi:=List.mem_range.1 hi;have h3:=h2 _ (List.getElem_mem hi);unfold leR;simp only [Bool.and_eq_true,Bool.not_eq_true',Bool.and_eq_false_iff,decide_eq_true_eq,decide_eq_false_iff_not];rw [getD_lt l hi];refine⟨h3,?_⟩;by_cases h0:0<i
  ·right;rw [getD_lt l (show i - 1<l.length by omega)];have:=List.pairwise_iff_getElem.1 h1 (i - 1) i (by omega) hi (by omega);omega
  ·exact .inl h0
theorem bare_ok {f:GFam}:bare f=true↔f.user.size=0∧f.redirect.size=0∧f.challenge.size=0∧f.method.size=0:=by
 unfold bare;simp only [Bool.and_eq_true,decide_eq_true_eq];constructor
 ·rintro⟨⟨⟨h1,h2⟩,h3⟩,h4⟩;exact⟨h1,h2,h3,h4⟩
 ·rintro⟨h1,h2,h3,h4⟩;exact⟨⟨⟨h1,h2⟩,h3⟩,h4⟩
theorem rightM_ok {f:GFam}:rightM f=true↔FamOk f:=by
 unfold rightM headR midR;simp only [Bool.and_eq_true,Bool.not_eq_true',decide_eq_false_iff_not,List.all_eq_true,leaR_ok,tokR_ok,beq_iff_eq,Bool.and_eq_false_iff,Bool.not_eq_false',bare_ok,decide_eq_decide];constructor
 ·rintro⟨⟨⟨⟨⟨⟨⟨⟨⟨h1,h2⟩,h3⟩,h4⟩,h5⟩,h6⟩,h7⟩,⟨h8,h9⟩,h10⟩,h11⟩,h12,h13⟩;refine⟨h1,h2,h3,h4,by omega,fun h=>h8.resolve_left (fun k=>k h),h9,by omega,⟨fun h=>h10.1 (by rw [h];rfl),fun h=>List.eq_nil_of_length_eq_zero (h10.2 h)⟩,h11,h12,h13⟩
 ·intro h;refine⟨⟨⟨⟨⟨⟨⟨⟨⟨h.id,h.client⟩,h.texts⟩,h.set⟩,?_⟩,?_⟩,?_⟩,⟨?_,h.shown⟩,?_⟩,h.each⟩,h.leases,h.edges⟩
  ·rcases h.code with e |e |e<;>omega
  ·rcases h.code with e |e |e<;>omega
  ·have:=h.tokens;omega
  ·by_cases e:f.code=0
   ·exact .inr (h.none e)
   ·exact .inl e
  ·exact⟨fun e=>h.many.1 (List.eq_nil_of_length_eq_zero e),fun e=>by rw [h.many.2 e];rfl⟩
end Go.Sig
namespace Go.Proofs.YtpmgepijkhaonaaGreat
open Go.RowKit Go.Sig
structure FamSz (x:FA):Prop where
 id:x.f.id.size≤150000000000000
 sl:x.f.scope.length≤150000000000000
 ss:∀s∈x.f.scope,s.size≤150000000000000
 tl:x.ts.length≤150000000000000
 te:∀t∈x.ts,t.tok.scope.length≤150000000000000∧∀s∈t.tok.scope,s.size≤150000000000000
 ll:x.f.leases.length≤150000000000000
theorem TA.row {w:World}{A:Option Addr}{n i:Nat}{l:List TA}(h:Rd w 3 A n (tokCells l)) (hl:l.length=n) (hi:i<n):
  ∃t b o,A=some ⟨b,o,none⟩∧l[i]? =some t∧w.rangeAt b (o+i*3) t.cells:=by
 have hi':i<l.length:=by rw [hl];exact hi
 obtain⟨b,o,e,hc⟩:=h.2 (by omega);refine⟨l[i],b,o,e,List.getElem?_eq_getElem hi',fun j v hv=> ?_⟩;obtain⟨a1,a2,a3⟩:=tokCells_at hi';rw [Nat.add_assoc];match j,hv with
 | 0,hv=>exact hc _ _ (by rw [Nat.add_zero,a1];exact hv)
 | 1,hv=>exact hc _ _ (by rw [a2];exact hv)
 | 2,hv=>exact hc _ _ (by rw [a3];exact hv)
theorem TA.all1 (t:TA):t.cells.toArray.all (·.oneCell')=true:=by unfold TA.cells;kernel_rfl
theorem infoTA (t:TA):(Tryz.prog.info? 29).map (·.size)=some t.cells.toArray.size:=by unfold TA.cells;exact infoIss
theorem tok_cells {w:World}{g:Nat}{ty:TypeId}{t:TA}(h:Blk w g ty t.cells.toArray):
  w.cell? ⟨g,0,none⟩=some (.int .i64 t.tok.kind)∧w.cell? ⟨g,1,none⟩=some (.slice t.A t.tok.scope.length t.c)∧w.cell? ⟨g,2,none⟩=some (.bool t.tok.used)∧g<w.heap.size:=
 ⟨h.cell 0,h.cell 1,h.cell 2,h.lt⟩
theorem cat4 (a b c d:ByteArray):(((a++b)++c)++d).toList.isEmpty=(decide (a.size=0)&&decide (b.size=0)&&decide (c.size=0)&&decide (d.size=0)):=by
 rw [str_empty,ByteArray.size_append,ByteArray.size_append,ByteArray.size_append,Bool.eq_iff_iff];simp only [Bool.and_eq_true,decide_eq_true_eq];omega
theorem all_more {α:Type}{p:α→Bool}{l:List α}{i:Nat}(hi:i<l.length) (h:(l.take i).all p=true) (hp:p l[i]=true):(l.take (i+1)).all p=true:=by
 rw [List.take_succ_eq_append_getElem hi,List.all_append,h];simpa using hp
theorem all_not {α:Type}{p:α→Bool}{l:List α}{x:α}(hx:x∈l) (hp:p x=false):l.all p=false:=by
 rw [←Bool.not_eq_true,List.all_eq_true];intro h;have:=h x hx;rw [hp]at this;cases this
set_option maxRecDepth 100000 in
set_option maxHeartbeats 8000000 in
theorem right_t (w:World) (x:FA) (hx:FamIn w [] x) (hz:FamSz x):Calls Tryz.prog 31 #[x.val] w fun e w'=>e= .returned (.bool (rightM x.f))∧Fr [] w w':=by
 have hxh:=zh hx;have hzh:=zh hz;clear hx hz;unfold FA.val FA.cells;go_enter Tryz.func31,Tryz.ntmps31;go_upto_region 1 with(fail)
 refine wp_gen (fun W=>Blk W w.heap.size 26 x.cells∧Fr [] w W) ⟨Blk.new _ _ _,(Fr.refl _ _).alloc _⟩ ?_;rintro W0 ⟨hB0,f0⟩;obtain⟨gf,HGF⟩:∃z,Hid (w.heap.size=z):=⟨_,zh rfl⟩
 rw [HGF.o]at hB0⊢;have hB0:=zh hB0;have F0:=zh (Fr.refl [] W0);have f0h:=zh f0;clear f0;go_cut [52]from 7 to 51 (fun s52 wx=>s52= .bool (!headR x.f)∧Fr [] W0 wx)
 case first=>
  obtain⟨c0,c1,c2,c3,c4,c5,c6,c7,c8,c9,c10,hgl⟩:=fam_cells hB0.o;have hc:=id_t W0 x.f.id hzh.o.id;cases h1:idM x.f.id with
  |false=>
   have hv:=zh (show headR x.f=false by unfold headR;rw [h1];rfl);rw [h1]at hc;clear h1;go_wp2_with (go_at_call 91;refine Calls.mono (show Calls Tryz.prog 91 _ _ _ from hc) ?_;rintro e W1 ⟨rfl,G1⟩)
   have F1:=zh (F0.o.trans G1);clear G1;go_meet;exact⟨by rw [hv.o];rfl,F1.o⟩
  |true=>
   have e1:=zh h1;rw [h1]at hc;clear h1;go_wp2_with fail
   refine Calls.mono (show Calls Tryz.prog 91 _ _ _ from hc) ?_;rintro e W1 ⟨rfl,G1⟩;clear hc;have F1:=zh (F0.o.trans G1);clear G1;clear c0 c1 c2 c3 c4 c5 c6 c7 c8 c9 c10 hgl;obtain⟨c0,c1,c2,c3,c4,c5,c6,c7,c8,c9,c10,hgl⟩:=fam_cells (hB0.o.fr F1.o (by simp));cases h2:decide (x.f.client.size=0)with
   |true=>
    have hv:=zh (show headR x.f=false by unfold headR;rw [e1.o,h2];rfl);have hem:=str_empty x.f.client;rw [h2]at hem;clear h2;go_wp2_with fail
    go_meet;exact⟨by rw [hv.o];rfl,F1.o⟩
   |false=>
    have e2:=zh h2;have hem:=str_empty x.f.client;rw [h2]at hem;clear h2;have hc:=texts_t (W1.alloc (.cells (strCells [x.f.client,x.f.user,x.f.redirect,x.f.challenge,x.f.method]).toArray 9)) (some ⟨W1.heap.size,0,none⟩) 5 5 [x.f.client,x.f.user,x.f.redirect,x.f.challenge,x.f.method] (strs_new W1 _ 9) rfl (by decide);have hAl:Fr [] W1 (W1.alloc (.cells (strCells [x.f.client,x.f.user,x.f.redirect,x.f.challenge,x.f.method]).toArray 9)):=(Fr.refl _ _).alloc _;have hAlh:=zh hAl;clear hAl;cases h3:textsM [x.f.client,x.f.user,x.f.redirect,x.f.challenge,x.f.method]with
    |false=>
     have hv:=zh (show headR x.f=false by unfold headR;rw [e1.o,e2.o,h3];rfl);rw [h3]at hc;clear h3;go_wp2_with (go_at_call 92;refine Calls.mono (show Calls Tryz.prog 92 _ _ _ from hc) ?_;rintro e W3 ⟨rfl,G3⟩)
     have F3:=zh ((F1.o.trans hAlh.o).trans (show Fr [] _ W3 by rw [←G3];exact Fr.refl _ _));clear G3 hAlh;go_meet;exact⟨by rw [hv.o];rfl,F3.o⟩
    |true=>
     have e3:=zh h3;rw [h3]at hc;clear h3;go_wp2_with fail
     refine Calls.mono (show Calls Tryz.prog 92 _ _ _ from hc) ?_;rintro e W3 ⟨rfl,G3⟩;clear hc;have F3:=zh ((F1.o.trans hAlh.o).trans (show Fr [] _ W3 by rw [←G3];exact Fr.refl _ _));clear G3 hAlh;clear c0 c1 c2 c3 c4 c5 c6 c7 c8 c9 c10 hgl;obtain⟨c0,c1,c2,c3,c4,c5,c6,c7,c8,c9,c10,hgl⟩:=fam_cells (hB0.o.fr F3.o (by simp));have hc:=gset_t W3 x.sA x.f.scope.length x.sc x.f.scope (Rd.fr hxh.o.scope.1 (f0h.o.trans F3.o) (by simp [Off])) rfl hzh.o.sl hzh.o.ss;cases h4:setM x.f.scope with
     |false=>
      have hv:=zh (show headR x.f=false by unfold headR;rw [e1.o,e2.o,e3.o,h4];rfl);rw [h4]at hc;clear h4;go_wp2_with (go_at_call 93;refine Calls.mono (show Calls Tryz.prog 93 _ _ _ from hc) ?_;rintro e W4 ⟨rfl,G4⟩)
      have F4:=zh (F3.o.trans G4);clear G4;go_meet;exact⟨by rw [hv.o];rfl,F4.o⟩
     |true=>
      have e4:=zh h4;rw [h4]at hc;clear h4;go_wp2_with fail
      refine Calls.mono (show Calls Tryz.prog 93 _ _ _ from hc) ?_;rintro e W4 ⟨rfl,G4⟩;clear hc;have F4:=zh (F3.o.trans G4);clear G4;clear c0 c1 c2 c3 c4 c5 c6 c7 c8 c9 c10 hgl;obtain⟨c0,c1,c2,c3,c4,c5,c6,c7,c8,c9,c10,hgl⟩:=fam_cells (hB0.o.fr F4.o (by simp));cases h5:decide (x.f.code<0)with
      |true=>
       have hv:=zh (show headR x.f=false by unfold headR;rw [e1.o,e2.o,e3.o,e4.o,h5];rfl);have kh5:=h5;clear h5;go_wp2_with fail
       go_meet;exact⟨by rw [hv.o];rfl,F4.o⟩
      |false=>
       have e5:=zh h5;have kh5:=h5;clear h5;cases h6:decide (2<x.f.code)with
       |true=>
        have hv:=zh (show headR x.f=false by unfold headR;rw [e1.o,e2.o,e3.o,e4.o,e5.o,h6];rfl);have kh6:=h6;clear h6;go_wp2_with fail
        go_meet;exact⟨by rw [hv.o];rfl,F4.o⟩
       |false=>
        have e6:=zh h6;have kh6:=h6;clear h6;cases h7:decide (8<x.f.tokens.length)with
        |true=>
         have hv:=zh (show headR x.f=false by unfold headR;rw [e1.o,e2.o,e3.o,e4.o,e5.o,e6.o,h7];rfl);have kh7:decide (8<(x.ts.length:Int))=true:=by have h1:=of_decide_eq_true h7;have h2:=hxh.o.len;exact decide_eq_true (by omega)
         clear h7;go_wp2_with fail
         go_meet;exact⟨by rw [hv.o];rfl,F4.o⟩
        |false=>
         have e7:=zh h7;have kh7:decide (8<(x.ts.length:Int))=false:=by have h1:=of_decide_eq_false h7;have h2:=hxh.o.len;exact decide_eq_false (by omega)
         clear h7;have hv:=zh (show headR x.f=true by unfold headR;rw [e1.o,e2.o,e3.o,e4.o,e5.o,e6.o,e7.o];rfl);go_wp2_with fail
         go_meet;exact⟨by rw [hv.o];rfl,F4.o⟩
 case rest=>
  obtain⟨rfl,fc⟩:=hcut;have fch:=zh (f0h.o.trans fc);have hB1:=zh (hB0.o.fr fc (by simp));obtain⟨W1,hW1⟩:∃W1:World,W1=wc:=⟨_,rfl⟩
  subst hW1;clear fc;obtain⟨hd,hhd⟩:∃z,Hid (headR x.f=z):=⟨_,zh rfl⟩
  rw [hhd.o];cases hd with
  |false=>
   have hres:=zh (show rightM x.f=false by unfold rightM;rw [hhd.o];rfl);go_wp2_with fail
   go_ret;exact⟨ret_eq hres.o.symm,fch.o⟩
  |true=>
   have hch:x.f.challenge.size≤128:=by have h:=hhd.o;unfold headR at h;simp only [Bool.and_eq_true]at h;exact textsM_mem h.1.1.1.1.2 (by simp)
   have F0:=zh (Fr.refl [] W1);go_upto_region 3 with(fail)
   go_cut [87]from 53 to 86 (fun s87 wx=>s87= .bool (!midR x.f)∧Fr [] W1 wx)
   case first=>
    obtain⟨c0,c1,c2,c3,c4,c5,c6,c7,c8,c9,c10,hgl⟩:=fam_cells hB1.o;have hlen:=zh hxh.o.len;have htx:=zh (show x.f.user.size≤128∧x.f.redirect.size≤128∧x.f.method.size≤128 by
     have h:=hhd.o;unfold headR at h;simp only [Bool.and_eq_true]at h;have h:=h.1.1.1.1.2;exact⟨textsM_mem h (by simp),textsM_mem h (by simp),textsM_mem h (by simp)⟩)
    have ha1:=run_string_add_sum (P:=Tryz.prog) W1 x.f.user x.f.redirect (by have:=htx.o;omega);have ha2:=run_string_add_sum (P:=Tryz.prog) W1 (x.f.user++x.f.redirect) x.f.challenge (by have:=htx.o;rw [ByteArray.size_append];omega);have ha3:=run_string_add_sum (P:=Tryz.prog) W1 (x.f.user++x.f.redirect++x.f.challenge) x.f.method (by have:=htx.o;rw [ByteArray.size_append,ByteArray.size_append];omega);have hcat:=cat4 x.f.user x.f.redirect x.f.challenge x.f.method;rw [←bare]at hcat;by_cases h0:x.f.code=0
    ·have hb0:(x.f.code==0)=true:=by rw [beq_iff_eq];exact h0
     have hb1:(x.f.code==1)=false:=by rw [beq_eq_false_iff_ne];omega
     have h0h:=zh h0;clear h0;cases hb:bare x.f with
     |false=>
      have hv:=zh (show midR x.f=false by unfold midR;rw [hb,decide_eq_true h0h.o];rfl);rw [hb]at hcat;clear hb;go_wp2_with fail
      go_meet;exact⟨by rw [hv.o];rfl,F0.o⟩
     |true=>
      have hbh:=zh hb;rw [hb]at hcat;clear hb;have hc:=shown_t W1 x.f.challenge x.f.method (by omega);cases hs:shownM x.f.challenge x.f.method with
      |false=>
       have hv:=zh (show midR x.f=false by unfold midR;rw [hs];simp);rw [hs]at hc;clear hs;go_wp2_with (go_at_call 94;refine Calls.mono (show Calls Tryz.prog 94 _ _ _ from hc) ?_;rintro e V1 ⟨rfl,G1⟩)
       go_meet;exact⟨by rw [hv.o];rfl,G1⟩
      |true=>
       have hsh:=zh hs;rw [hs]at hc;clear hs;go_wp2_with fail
       refine Calls.mono (show Calls Tryz.prog 94 _ _ _ from hc) ?_;rintro e V1 ⟨rfl,G1⟩;have G1h:=zh G1;clear c0 c1 c2 c3 c4 c5 c6 c7 c8 c9 c10 hgl;obtain⟨c0,c1,c2,c3,c4,c5,c6,c7,c8,c9,c10,hgl⟩:=fam_cells (hB1.o.fr G1 (by simp));clear hc G1;by_cases hl:x.ts.length=0
       ·have hl1:((x.ts.length:Int)==0)=true:=by rw [beq_iff_eq];omega
        have hv:=zh (show midR x.f=false by unfold midR;rw [hsh.o,decide_eq_true h0h.o,hbh.o,decide_eq_true (show x.f.tokens.length=0 by rw [←hlen.o];exact hl),decide_eq_false (show¬x.f.code=1 by have:=h0h.o;omega)];rfl);clear hl;go_wp2_with fail
        go_meet;exact⟨by rw [hv.o];rfl,G1h.o⟩
       ·have hl1:((x.ts.length:Int)==0)=false:=by rw [beq_eq_false_iff_ne];omega
        have hv:=zh (show midR x.f=true by unfold midR;rw [hsh.o,decide_eq_true h0h.o,hbh.o,decide_eq_false (show¬x.f.tokens.length=0 by rw [←hlen.o];exact hl),decide_eq_false (show¬x.f.code=1 by have:=h0h.o;omega)];rfl);clear hl;go_wp2_with fail
        go_meet;exact⟨by rw [hv.o];rfl,G1h.o⟩
    ·have hb0:(x.f.code==0)=false:=by rw [beq_eq_false_iff_ne];exact h0
     have h0h:=zh h0;have hc:=shown_t W1 x.f.challenge x.f.method (by omega);clear h0;cases hs:shownM x.f.challenge x.f.method with
     |false=>
      have hv:=zh (show midR x.f=false by unfold midR;rw [hs];simp);rw [hs]at hc;clear hs;go_wp2_with (go_at_call 94;refine Calls.mono (show Calls Tryz.prog 94 _ _ _ from hc) ?_;rintro e V1 ⟨rfl,G1⟩)
      go_meet;exact⟨by rw [hv.o];rfl,G1⟩
     |true=>
      have hsh:=zh hs;rw [hs]at hc;clear hs;by_cases h1:x.f.code=1
      ·have hb1:(x.f.code==1)=true:=by rw [beq_iff_eq];exact h1
       have h1h:=zh h1;clear h1;go_wp2_with fail
       refine Calls.mono (show Calls Tryz.prog 94 _ _ _ from hc) ?_;rintro e V1 ⟨rfl,G1⟩;have G1h:=zh G1;clear c0 c1 c2 c3 c4 c5 c6 c7 c8 c9 c10 hgl;obtain⟨c0,c1,c2,c3,c4,c5,c6,c7,c8,c9,c10,hgl⟩:=fam_cells (hB1.o.fr G1 (by simp));clear hc G1;by_cases hl:x.ts.length=0
       ·have hl1:((x.ts.length:Int)==0)=true:=by rw [beq_iff_eq];omega
        have hv:=zh (show midR x.f=true by unfold midR;rw [hsh.o,decide_eq_false h0h.o,decide_eq_true (show x.f.tokens.length=0 by rw [←hlen.o];exact hl),decide_eq_true h1h.o];rfl);clear hl;go_wp2_with fail
        go_meet;exact⟨by rw [hv.o];rfl,G1h.o⟩
       ·have hl1:((x.ts.length:Int)==0)=false:=by rw [beq_eq_false_iff_ne];omega
        have hv:=zh (show midR x.f=false by unfold midR;rw [hsh.o,decide_eq_false h0h.o,decide_eq_false (show¬x.f.tokens.length=0 by rw [←hlen.o];exact hl),decide_eq_true h1h.o];rfl);clear hl;go_wp2_with fail
        go_meet;exact⟨by rw [hv.o];rfl,G1h.o⟩
      ·have hb1:(x.f.code==1)=false:=by rw [beq_eq_false_iff_ne];exact h1
       have h1h:=zh h1;clear h1;go_wp2_with fail
       refine Calls.mono (show Calls Tryz.prog 94 _ _ _ from hc) ?_;rintro e V1 ⟨rfl,G1⟩;have G1h:=zh G1;clear c0 c1 c2 c3 c4 c5 c6 c7 c8 c9 c10 hgl;obtain⟨c0,c1,c2,c3,c4,c5,c6,c7,c8,c9,c10,hgl⟩:=fam_cells (hB1.o.fr G1 (by simp));clear hc G1;by_cases hl:x.ts.length=0
       ·have hl1:((x.ts.length:Int)==0)=true:=by rw [beq_iff_eq];omega
        have hv:=zh (show midR x.f=false by unfold midR;rw [hsh.o,decide_eq_false h0h.o,decide_eq_true (show x.f.tokens.length=0 by rw [←hlen.o];exact hl),decide_eq_false h1h.o];rfl);clear hl;go_wp2_with fail
        go_meet;exact⟨by rw [hv.o];rfl,G1h.o⟩
       ·have hl1:((x.ts.length:Int)==0)=false:=by rw [beq_eq_false_iff_ne];omega
        have hv:=zh (show midR x.f=true by unfold midR;rw [hsh.o,decide_eq_false h0h.o,decide_eq_false (show¬x.f.tokens.length=0 by rw [←hlen.o];exact hl),decide_eq_false h1h.o];rfl);clear hl;go_wp2_with fail
        go_meet;exact⟨by rw [hv.o];rfl,G1h.o⟩
   case rest=>
    obtain⟨rfl,fc⟩:=hcut;have fch:=zh (fch.o.trans fc);have hB2:=zh (hB1.o.fr fc (by simp));obtain⟨W2,hW2⟩:∃W2:World,W2=wc:=⟨_,rfl⟩
    subst hW2;clear fc;obtain⟨md,hmd⟩:∃z,Hid (midR x.f=z):=⟨_,zh rfl⟩
    rw [hmd.o];cases md with
    |false=>
     have hres:=zh (show rightM x.f=false by unfold rightM;rw [hhd.o,hmd.o];rfl);go_wp2_with fail
     go_ret;exact⟨ret_eq hres.o.symm,fch.o⟩
    |true=>
     obtain⟨c0,c1,c2,c3,c4,c5,c6,c7,c8,c9,c10,hgl⟩:=fam_cells hB2.o;obtain⟨n,hn⟩:∃z,Hid (x.ts.length=z):=⟨_,zh rfl⟩
     obtain⟨tA,htA⟩:∃z,Hid (x.tA=z):=⟨_,zh rfl⟩
     have hn8:=hzh.o.tl;rw [hn.o,htA.o]at c8;rw [hn.o]at hn8;rw [htA.o];go_upto_block 0 with(fail)
     go_cut [91]from 92 to 139 (fun s91 wx=>Fr [] W2 wx∧x.f.tokens.all (tokR x.f)=true)
     case first=>
      go_wp2_with fail
      go_loopg [91] (n+1) (fun gk s91 wr=>∃(i:Nat),s91= .int .i64 i∧i≤n∧n - i<gk∧(x.f.tokens.take i).all (tokR x.f)=true∧Fr [] W2 wr)
      case atStart=>exact⟨0,rfl,by omega,by omega,by simp,Fr.refl _ _⟩
      case round=>
       obtain⟨i,rfl,hi,hk,hall,hF⟩:=hrel;have hFh:=zh hF;have hallh:=zh hall;clear hF hall;by_cases hlt:i<n
       ·have hlt':(i:Int)<n:=by omega
        have hlth:=zh hlt;obtain⟨t,tb,tof,eA,hti,htr⟩:=TA.row (Rd.fr hxh.o.toks.1 (fch.o.trans hFh.o) (by simp [Off])) rfl (by rw [hn.o];exact hlt);rw [htA.o]at eA;have htm:=zh (List.mem_of_getElem? hti);have hit:=zh (show∃h:i<x.f.tokens.length,x.f.tokens[i]=t.tok by
         have h1:i<x.ts.length:=by rw [hn.o];exact hlt
         rw [List.getElem?_eq_getElem h1]at hti;obtain rfl:=Option.some.inj hti;refine⟨by rw [←hxh.o.ts,List.length_map];exact h1,?_⟩;simp only [←hxh.o.ts,List.getElem_map])
        subst eA;have htrh:=zh htr;clear hti htr hlt;go_upto_region 8 with(first
         | (refine wpList_load_cells rfl 29 _ rfl rfl (ys:=t.cells.toArray) (fun j v hv=>htrh.o j v (by rw [←zG];exact hv)) uIss rfl (infoTA _) ?_)
         | (refine wpList_store_row rfl 29 _ _ rfl wr.heap.size _ rfl rfl 29 _ (Blk.new _ _ _) (infoTA t) (by kernel_rfl) (TA.all1 t) ?_))
        refine wp_gen (fun W=>Blk W wr.heap.size 29 t.cells.toArray∧Fr [] wr W) ⟨Blk.setRow (Blk.new _ _ _) _,((Fr.refl [] wr).alloc _).setRow (.inr (Nat.le_refl _)) _⟩ ?_;rintro W3 ⟨hT,f3⟩;obtain⟨g4,HG4⟩:∃z,Hid (wr.heap.size=z):=⟨_,zh rfl⟩
        rw [HG4.o]at hT⊢;have hT3:=zh hT;have FF3:=zh (hFh.o.trans f3);have hB3:=zh (hB2.o.fr FF3.o (by simp));have F0:=zh (Fr.refl [] W3);clear hT f3;dsimp only [Act.put];go_cut [138]from 95 to 137 (fun s138 wx=>s138= .bool (!tokR x.f t.tok)∧Fr [] W3 wx)
        case first=>
         obtain⟨t0,t1,t2,htl⟩:=tok_cells hT3.o;obtain⟨_,_,_,c3,_,_,_,_,_,_,_,hgl⟩:=fam_cells hB3.o;have hxe:=(hxh.o.each t htm.o).1;have hxeh:=zh (Rd.fr hxe ((fch.o.trans FF3.o)) (by simp [Off]));have hxsh:=zh (Rd.fr hxh.o.scope.1 ((fch.o.trans FF3.o)) (by simp [Off]));obtain⟨kd,hkd⟩:∃z,Hid (t.tok.kind=z):=⟨_,zh rfl⟩
         rw [hkd.o]at t0;clear hxe;by_cases k2:kd=2
         ·have b2:(kd !=2)=false:=by subst k2;rfl
          have b2':(kd==2)=true:=by subst k2;rfl
          have b3':(kd==3)=false:=by subst k2;rfl
          have hk2:=zh (show decide (kd=2)=true from decide_eq_true k2);have hk3:=zh (show decide (kd=3)=false from decide_eq_false (by omega));clear k2;have hc:=gset_t W3 t.A t.tok.scope.length t.c t.tok.scope (Rd.fr hxeh.o F0.o (by simp [Off])) rfl (hzh.o.te t htm.o).1 (hzh.o.te t htm.o).2;cases h1:setM t.tok.scope with
          |false=>
           have hv:=zh (show tokR x.f t.tok=false by unfold tokR;rw [hkd.o,hk2.o,hk3.o];rw [h1];rfl);rw [h1]at hc;clear h1;go_wp2_with (go_at_call 93;refine Calls.mono (show Calls Tryz.prog 93 _ _ _ from hc) ?_;rintro e V1 ⟨rfl,G1⟩)
           have F1:=zh (F0.o.trans G1);clear G1;go_meet;exact⟨by rw [hv.o];rfl,F1.o⟩
          |true=>
           have e1:=zh h1;rw [h1]at hc;clear h1;go_wp2_with fail
           refine Calls.mono (show Calls Tryz.prog 93 _ _ _ from hc) ?_;rintro e V1 ⟨rfl,G1⟩;clear hc;have F1:=zh (F0.o.trans G1);clear G1;clear t0 t1 t2 htl c3 hgl;obtain⟨t0,t1,t2,htl⟩:=tok_cells (hT3.o.fr F1.o (by simp));obtain⟨_,_,_,c3,_,_,_,_,_,_,_,hgl⟩:=fam_cells (hB3.o.fr F1.o (by simp));rw [hkd.o]at t0;have hc:=swithin_t V1 t.A x.sA t.tok.scope.length x.f.scope.length t.c x.sc t.tok.scope x.f.scope (Rd.fr hxeh.o F1.o (by simp [Off])) rfl (Rd.fr hxsh.o F1.o (by simp [Off])) rfl (hzh.o.te t htm.o).1 hzh.o.sl (hzh.o.te t htm.o).2 hzh.o.ss;cases h2:within t.tok.scope x.f.scope with
           |false=>
            have hv:=zh (show tokR x.f t.tok=false by unfold tokR;rw [hkd.o,hk2.o,hk3.o];rw [e1.o,h2];rfl);rw [h2]at hc;clear h2;go_wp2_with (go_at_call 95;refine Calls.mono (show Calls Tryz.prog 95 _ _ _ from hc) ?_;rintro e V2 ⟨rfl,G2⟩)
            have F2:=zh (F1.o.trans G2);clear G2;go_meet;exact⟨by rw [hv.o];rfl,F2.o⟩
           |true=>
            have e2:=zh h2;rw [h2]at hc;clear h2;go_wp2_with fail
            refine Calls.mono (show Calls Tryz.prog 95 _ _ _ from hc) ?_;rintro e V2 ⟨rfl,G2⟩;clear hc;have F2:=zh (F1.o.trans G2);clear G2;clear t0 t1 t2 htl c3 hgl;obtain⟨t0,t1,t2,htl⟩:=tok_cells (hT3.o.fr F2.o (by simp));obtain⟨_,_,_,c3,_,_,_,_,_,_,_,hgl⟩:=fam_cells (hB3.o.fr F2.o (by simp));rw [hkd.o]at t0;cases h3:t.tok.used with
            |true=>
             have hv:=zh (show tokR x.f t.tok=false by unfold tokR;rw [hkd.o,hk2.o,hk3.o];rw [e1.o,e2.o,h3];rfl);rw [h3]at t2;clear h3;go_wp2_with fail
             go_meet;exact⟨by rw [hv.o];rfl,F2.o⟩
            |false=>
             have e3:=zh h3;rw [h3]at t2;clear h3;have hv:=zh (show tokR x.f t.tok=true by unfold tokR;rw [hkd.o,hk2.o,hk3.o];rw [e1.o,e2.o,e3.o];rfl);go_wp2_with fail
             go_meet;exact⟨by rw [hv.o];rfl,F2.o⟩
         ·have b2:(kd !=2)=true:=by rw [bne_iff_ne];exact k2
          have b2':(kd==2)=false:=by rw [beq_eq_false_iff_ne];exact k2
          have hk2:=zh (show decide (kd=2)=false from decide_eq_false k2);clear k2;by_cases k3:kd=3
          ·have b3:(kd !=3)=false:=by subst k3;rfl
           have b3':(kd==3)=true:=by subst k3;rfl
           have hk3:=zh (show decide (kd=3)=true from decide_eq_true k3);clear k3;have hc:=gset_t W3 t.A t.tok.scope.length t.c t.tok.scope (Rd.fr hxeh.o F0.o (by simp [Off])) rfl (hzh.o.te t htm.o).1 (hzh.o.te t htm.o).2;cases h1:setM t.tok.scope with
           |false=>
            have hv:=zh (show tokR x.f t.tok=false by unfold tokR;rw [hkd.o,hk2.o,hk3.o];rw [h1];rfl);rw [h1]at hc;clear h1;go_wp2_with (go_at_call 93;refine Calls.mono (show Calls Tryz.prog 93 _ _ _ from hc) ?_;rintro e V1 ⟨rfl,G1⟩)
            have F1:=zh (F0.o.trans G1);clear G1;go_meet;exact⟨by rw [hv.o];rfl,F1.o⟩
           |true=>
            have e1:=zh h1;rw [h1]at hc;clear h1;go_wp2_with fail
            refine Calls.mono (show Calls Tryz.prog 93 _ _ _ from hc) ?_;rintro e V1 ⟨rfl,G1⟩;clear hc;have F1:=zh (F0.o.trans G1);clear G1;clear t0 t1 t2 htl c3 hgl;obtain⟨t0,t1,t2,htl⟩:=tok_cells (hT3.o.fr F1.o (by simp));obtain⟨_,_,_,c3,_,_,_,_,_,_,_,hgl⟩:=fam_cells (hB3.o.fr F1.o (by simp));rw [hkd.o]at t0;have hc:=swithin_t V1 t.A x.sA t.tok.scope.length x.f.scope.length t.c x.sc t.tok.scope x.f.scope (Rd.fr hxeh.o F1.o (by simp [Off])) rfl (Rd.fr hxsh.o F1.o (by simp [Off])) rfl (hzh.o.te t htm.o).1 hzh.o.sl (hzh.o.te t htm.o).2 hzh.o.ss;cases h2:within t.tok.scope x.f.scope with
            |false=>
             have hv:=zh (show tokR x.f t.tok=false by unfold tokR;rw [hkd.o,hk2.o,hk3.o];rw [e1.o,h2];rfl);rw [h2]at hc;clear h2;go_wp2_with (go_at_call 95;refine Calls.mono (show Calls Tryz.prog 95 _ _ _ from hc) ?_;rintro e V2 ⟨rfl,G2⟩)
             have F2:=zh (F1.o.trans G2);clear G2;go_meet;exact⟨by rw [hv.o];rfl,F2.o⟩
            |true=>
             have e2:=zh h2;rw [h2]at hc;clear h2;go_wp2_with fail
             refine Calls.mono (show Calls Tryz.prog 95 _ _ _ from hc) ?_;rintro e V2 ⟨rfl,G2⟩;clear hc;have F2:=zh (F1.o.trans G2);clear G2;clear t0 t1 t2 htl c3 hgl;obtain⟨t0,t1,t2,htl⟩:=tok_cells (hT3.o.fr F2.o (by simp));obtain⟨_,_,_,c3,_,_,_,_,_,_,_,hgl⟩:=fam_cells (hB3.o.fr F2.o (by simp));rw [hkd.o]at t0;have hc:=eqS_t V2 t.A x.sA t.tok.scope.length x.f.scope.length t.c x.sc t.tok.scope x.f.scope (Rd.fr hxeh.o F2.o (by simp [Off])) rfl (Rd.fr hxsh.o F2.o (by simp [Off])) rfl (hzh.o.te t htm.o).1 hzh.o.sl;cases h3:decide (t.tok.scope=x.f.scope)with
             |false=>
              have hv:=zh (show tokR x.f t.tok=false by unfold tokR;rw [hkd.o,hk2.o,hk3.o];rw [e1.o,e2.o,h3];rfl);rw [h3]at hc;clear h3;go_wp2_with (go_at_call 96;refine Calls.mono (show Calls Tryz.prog 96 _ _ _ from hc) ?_;rintro e V3 ⟨rfl,G3⟩)
              have F3:=zh (F2.o.trans G3);clear G3;go_meet;exact⟨by rw [hv.o];rfl,F3.o⟩
             |true=>
              have e3:=zh h3;rw [h3]at hc;clear h3;go_wp2_with fail
              refine Calls.mono (show Calls Tryz.prog 96 _ _ _ from hc) ?_;rintro e V3 ⟨rfl,G3⟩;clear hc;have F3:=zh (F2.o.trans G3);clear G3;clear t0 t1 t2 htl c3 hgl;obtain⟨t0,t1,t2,htl⟩:=tok_cells (hT3.o.fr F3.o (by simp));obtain⟨_,_,_,c3,_,_,_,_,_,_,_,hgl⟩:=fam_cells (hB3.o.fr F3.o (by simp));rw [hkd.o]at t0;have hv:=zh (show tokR x.f t.tok=true by unfold tokR;rw [hkd.o,hk2.o,hk3.o];rw [e1.o,e2.o,e3.o];rfl);go_wp2_with fail
              go_meet;exact⟨by rw [hv.o];rfl,F3.o⟩
          ·have b3:(kd !=3)=true:=by rw [bne_iff_ne];exact k3
           have hk3:=zh (show decide (kd=3)=false from decide_eq_false k3);have hv:=zh (show tokR x.f t.tok=false by unfold tokR;rw [hkd.o,hk2.o,hk3.o];rfl);clear k3;go_wp2_with fail
           go_meet;exact⟨by rw [hv.o];rfl,F0.o⟩
        case rest=>
         obtain⟨rfl,fc⟩:=hcut;have FF4:=zh (FF3.o.trans fc);clear fc;obtain⟨tk,htk⟩:∃z,Hid (tokR x.f t.tok=z):=⟨_,zh rfl⟩
         rw [htk.o];cases tk with
         |false=>
          have hres:=zh (show rightM x.f=false by
           obtain⟨hi1,hi2⟩:=hit.o;unfold rightM;rw [hhd.o,hmd.o,all_not (List.getElem_mem hi1) (by rw [hi2];exact htk.o)];rfl)
          go_wp2_with fail
          go_ret;exact⟨ret_eq hres.o.symm,fch.o.trans FF4.o⟩
         |true=>
          go_wp2_with fail
          go_roundg (n - i)
          case measure=>have:=hlth.o;omega
          case rel=>obtain⟨hi1,hi2⟩:=hit.o;exact⟨i+1,by go_num,by have:=hlth.o;omega,by have:=hlth.o;omega,all_more hi1 hallh.o (by rw [hi2];exact htk.o),FF4.o⟩
       ·have hge:¬(i:Int)<n:=by omega
        have hin:i=n:=by omega
        go_wp2_with fail
        go_meet;case rel=>exact⟨hFh.o,by have h:=hallh.o;rwa [hin,←hn.o,hxh.o.len,List.take_length]at h⟩
     case rest=>
      obtain⟨fc,hall⟩:=hcut;have hallh:=zh hall;have fch:=zh (fch.o.trans fc);have hB3:=zh (hB2.o.fr fc (by simp));have hlR:=zh (Rd.fr hxh.o.leases.1 fch.o (by simp [Off]));obtain⟨W3,hW3⟩:∃W3:World,W3=wc:=⟨_,rfl⟩
      subst hW3;clear fc hall c0 c1 c2 c3 c4 c5 c6 c7 c8 c9 c10 hgl hn8;obtain⟨c0,c1,c2,c3,c4,c5,c6,c7,c8,c9,c10,hgl⟩:=fam_cells hB3.o;obtain⟨m,hm⟩:∃z,Hid (x.f.leases.length=z):=⟨_,zh rfl⟩
      have hm8:=hzh.o.ll;have hlR2:=hlR.o;obtain⟨lA,hlA⟩:∃z,Hid (x.lA=z):=⟨_,zh rfl⟩
      rw [hm.o,hlA.o]at c10 hlR2;rw [hm.o]at hm8;rw [hlA.o];have hlRh:=zh hlR2;clear hlR2;go_wp2_with fail
      go_loopg [143] (m+1) (fun gk s143 wr=>∃(i:Nat),s143= .int .i64 i∧i≤m∧m - i<gk∧(∀j,j<i→leR x.f.leases j=true)∧W3=wr)
      case atStart=>exact⟨0,rfl,by omega,by omega,by omega,rfl⟩
      case round=>
       obtain⟨i,rfl,hi,hk,hall,rfl⟩:=hrel;have hall3:=zh hall;clear hall;by_cases hlt:i<m
       ·have hlt':(i:Int)<m:=by omega
        have hlth:=zh hlt;obtain⟨lb,lo,eA,hlc⟩:=hlRh.o.2 (by omega);have hci:∀j,j<m→W3.cell? ⟨lb,lo+j,none⟩=some (.int .i64 (x.f.leases.getD j 0)):=fun j hj=>hlc j _ (by
         have h1:j<x.f.leases.length:=by rw [hm.o];exact hj
         rw [getD_lt _ h1];unfold intCells;rw [List.getElem?_map,List.getElem?_eq_getElem h1];rfl)
        subst eA;have e0:=hci i hlt;have hprev:=zh (fun(h0:0<i)=>hci (i - 1) (by omega));obtain⟨e,he⟩:∃z,Hid (x.f.leases.getD i 0=z):=⟨_,zh rfl⟩
        rw [he.o]at e0;have hbad:=zh (fun(h:leR x.f.leases i=false)=>show rightM x.f=false by
         unfold rightM leaR;rw [all_not (List.mem_range.2 (show i<x.f.leases.length by rw [hm.o];exact hlth.o)) h,Bool.and_false])
        clear hci hlc hlt;by_cases h1:e<0
        ·have hres:=zh (hbad.o (by unfold leR;rw [he.o,decide_eq_false (show¬0≤e by omega)];rfl));go_wp2_with fail
         go_ret;exact⟨ret_eq hres.o.symm,fch.o⟩
        ·by_cases h2:32≤e
         ·have hres:=zh (hbad.o (by unfold leR;rw [he.o,decide_eq_false (show¬e<32 by omega),Bool.and_false];rfl));go_wp2_with fail
          go_ret;exact⟨ret_eq hres.o.symm,fch.o⟩
         ·by_cases h0:0<i
          ·have h0':0<(i:Int):=by omega
           have ep:=hprev.o h0;have hi1:(((i - 1:Nat)):Int)=(i:Int) - 1:=by omega
           obtain⟨e2,he2⟩:∃z,Hid (x.f.leases.getD (i - 1) 0=z):=⟨_,zh rfl⟩
           rw [he2.o]at ep;obtain⟨i1,hi1e⟩:∃z,Hid (i - 1=z):=⟨_,zh rfl⟩
           have hi1':(i:Int) - 1=(i1:Int):=by have:=hi1e.o;omega
           rw [hi1e.o]at ep;clear hi1;by_cases h3:e≤e2
           ·have hres:=zh (hbad.o (by unfold leR;rw [he.o,he2.o,decide_eq_true h0,decide_eq_true h3];simp));go_wp2_with fail
            go_ret;exact⟨ret_eq hres.o.symm,fch.o⟩
           ·have hgood:=zh (show leR x.f.leases i=true by
             unfold leR;rw [he.o,he2.o,decide_eq_true (show 0≤e by omega),decide_eq_true (show e<32 by omega),decide_eq_false h3];simp)
            go_wp2_with fail
            go_roundg (m - i)
            case measure=>have:=hlth.o;omega
            case rel=>exact⟨i+1,by go_num,by have:=hlth.o;omega,by have:=hlth.o;omega,fun j hj=>if hji:j=i then hji▸hgood.o else hall3.o j (by omega),rfl⟩
          ·have h0':¬0<(i:Int):=by omega
           have hgood:=zh (show leR x.f.leases i=true by
            unfold leR;rw [he.o,decide_eq_true (show 0≤e by omega),decide_eq_true (show e<32 by omega),decide_eq_false h0];simp)
           go_wp2_with fail
           go_roundg (m - i)
           case measure=>have:=hlth.o;omega
           case rel=>exact⟨i+1,by go_num,by have:=hlth.o;omega,by have:=hlth.o;omega,fun j hj=>if hji:j=i then hji▸hgood.o else hall3.o j (by omega),rfl⟩
       ·have hge:¬(i:Int)<m:=by omega
        have hin:i=m:=by omega
        have hres:=zh (show rightM x.f=true by
         unfold rightM leaR;rw [hhd.o,hmd.o,hallh.o,Bool.true_and,Bool.true_and,Bool.true_and,List.all_eq_true];intro j hj;exact hall3.o j (by rw [hin,←hm.o];exact List.mem_range.1 hj))
        go_wp2_with fail
        go_ret;exact⟨ret_eq hres.o.symm,fch.o⟩
end Go.Proofs.YtpmgepijkhaonaaGreat
