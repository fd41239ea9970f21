/- Walk: an op is done once. Conditions: each theorem's own. -/
import Derived.Test.YtacljejoedbnkaaGreatMc
import Derived.Test.YtacljejoedbnkaaGreatMg
import Derived.Test.YtacljejoedbnkaaGreatLx
namespace Go.Proofs.YtacljejoedbnkaaGreat
open Go.RowKit Go.Sig
theorem broomL_t (w:World) (n:Int):Calls Tryz.prog 25 #[.int .i64 n] w fun e w'=>e= .returned (.int .i64 (roomM n))∧w=w':=by
 have hr:=room_rem n;have hr1:0≤n%256:=by omega
 have hr2:n%256<256:=by omega
 obtain⟨k,hk⟩:∃z,Hid (n%256=z):=⟨_,zh rfl⟩
 rw [hk.o]at hr hr1 hr2;have hres:Ending.returned (.int .i64 (1+k))= .returned (.int .i64 (roomM n)):=by unfold roomM;rw [hk.o]
 have hresh:=zh hres;clear hres;go_enter Tryz.func25,Tryz.ntmps25;go_wp2;go_ret;exact⟨hresh.o,rfl⟩
theorem bfams_t {w:World}{pb p mb t me:Nat}{room:Int}{X:List Nat}{s:BkS}(h:BkAt w pb p mb t me room X s):Calls Tryz.prog 27 #[.pointer (some ⟨pb,0,none⟩)] w (FamsPost w (famsM s.g)):=by
 have hgr:=bgrants_t h;have hfull:=h.ok.full;have hroom:=h.hr.2;have hct:=fams_t w p mb room X s.g h.hg (by omega);unfold FamsPost at hct;clear h hfull hroom;go_enter Tryz.func27,Tryz.ntmps27;go_wp2_with fail
 refine Calls.mono (show Calls Tryz.prog 66 _ _ _ from hgr) ?_;rintro e V ⟨rfl,rfl⟩;go_wp2_with fail
 refine Calls.mono (show Calls Tryz.prog 75 _ _ _ from hct) ?_;rintro e V2 ⟨l,A,c,rfl,h1,h2,h3⟩;have hh:=zh (show FamsPost w (famsM s.g) (.returned (.slice A l.length c)) V2 from⟨l,A,c,rfl,h1,h2,h3⟩);clear hct hgr h1 h2 h3;go_wp2_with fail
 go_ret;exact hh.o
theorem book_set {room:Int}{o:GOp}{s:BkS}(h:BsOk room s):setM (bookDo room o s).2.scope=true:=by
 have h0:∀k,setM (noA k).scope=true:=fun k=>(by decide+kernel:setM []=true)
 by_cases hm:opMay o=false
 ·rw [book_no hm];exact h0 _
 have hm:opMay o=true:=by simpa using hm
 by_cases hs:o.seq=0
 ·rw [book_done hm hs];exact do_set h.g
 cases hc:callAt o s with
 |some c=>rw [book_kept hm hs hc];obtain⟨m1,m2,_⟩:=opMay_ok hm;exact((edge_ok h ⟨m1,m2⟩).each c (List.mem_of_find?_eq_some hc)).2.2.2.2
 |none=>
  rcases book_new (room:=room) hm hs hc with⟨w,e,_⟩ | ⟨_,e⟩
  ·rw [e];exact h0 _
  ·rw [e];exact do_set h.g
theorem book_scope {room:Int}{o:GOp}{s:BkS}(h:BsOk room s):(bookDo room o s).2.scope.length≤1048576:=Nat.le_trans (setM_sizes (book_set h)).1 (by decide)
theorem ans_off {w:World}{B:Nat}{y:AA}{X:List Nat}(h:AnsIn w B y) (hX:∀g∈X,g<B):RdX w X 1 y.A y.a.scope.length (strCells y.a.scope):=
 ⟨h.1.rd,fun _ ad e hg=>by
  have h1:=hX _ hg;have h2:=h.2 ad e;omega⟩
theorem BkAt.lo {w:World}{pb p mb t me:Nat}{room:Int}{X:List Nat}{s:BkS}(h:BkAt w pb p mb t me room X s):∀g∈ [mb,t,me],g<w.heap.size:=fun g hg=>h.low g (by
 simp only [List.mem_cons,List.not_mem_nil,or_false]at hg;rcases hg with rfl |rfl |rfl<;>simp)
theorem BkAt.own {w:World}{pb p mb t me:Nat}{room:Int}{Y:List Nat}{s:BkS}(h:BkAt w pb p mb t me room ([mb,t,me]++Y) s):BkAt w pb p mb t me room [mb,t,me] s:=
 h.mono (fun g hg=>List.mem_append.2 (.inl hg)) (by simp) (by simp) (by simp)
theorem range_off {S:List Nat}{w w':World}{g o:Nat}{cs:List Value}(hf:Fr S w w') (hg:g∉S) (h:w.rangeAt g o cs):w'.rangeAt g o cs:=fun j v hv=>by
 have hc:=h j v hv;rw [←hc];exact hf.cell (block_lt_of_cell hc) hg
theorem len_of {α β:Type}{f:α→β}{l m:List α}{n:Nat}(h:l.map f=m.map f) (hn:m.length=n):l.length=n:=by
 have:=congrArg List.length h;rw [List.length_map,List.length_map]at this;rw [this,hn]
def keptB (o:GOp) (l:List KA):Bool:=l.any fun y=>decide (y.k.edge=o.edge)&&decide (y.k.seq=o.seq)
theorem keptB_snoc {o:GOp}{l:List KA}{j:Nat}(hj:j<l.length):keptB o (l.take (j+1))=(keptB o (l.take j) || (decide ((l[j]'hj).k.edge=o.edge)&&decide ((l[j]'hj).k.seq=o.seq))):=by
 unfold keptB;rw [List.take_succ_eq_append_getElem hj,List.any_append];simp
theorem keptB_at {room:Int}{o:GOp}{s:BkS}{l:List KA}(h:BsOk room s) (hl:l.map (·.k)=callsM s) (hk:keptB o l=true):∃c,callAt o s=some c:=by
 unfold keptB at hk;obtain⟨y,hy,h2⟩:=List.any_eq_true.1 hk;simp only [Bool.and_eq_true,decide_eq_true_eq]at h2;exact⟨y.k,callsM_at h (by rw [←hl];exact List.mem_map.2 ⟨y,hy,rfl⟩) h2.1 h2.2⟩
set_option maxRecDepth 100000 in
set_option maxHeartbeats 16000000 in
theorem bonce_t (w:World) (n:Int) (A:Option Addr) (m k:Nat) (l:List OA) (hl:OpsIn w A m l) (x:OA) (hx:OpIn w x) (B:Option Addr) (m2 k2:Nat) (l2:List OA) (h2:OpsIn w B m2 l2):
  Calls Tryz.prog 5 #[.int .i64 n,.slice A m k,.agg x.cells,.slice B m2 k2] w fun e w'=>e= .returned (.bool true)∧Fr [] w w':=by
 obtain⟨o,oA,ok⟩:=x;have hlh:=zh hl;have h2h:=zh h2;have hxh:=zh hx;have hml:=hl.hl;have hm2l:=h2.hl;have hrm:=roomM_in n;have hroom:∀V,Calls Tryz.prog 25 #[.int .i64 n] V fun e w'=>e= .returned (.int .i64 (roomM n))∧V=w':=fun V=>broomL_t V n;obtain⟨rm,hrme⟩:∃z,Hid (roomM n=z):=⟨_,zh rfl⟩
 rw [hrme.o]at hroom hrm;have hnewG:=fun V=>bnew_t V rm hrm.1 hrm.2;clear hl h2 hx;go_enter Tryz.func5,Tryz.ntmps5;go_upto_region 1 with(fail)
 refine wp_gen (fun W=>Blk W w.heap.size 26 (opV o oA o.c.scope.length ok)∧Fr [] w W) ⟨Blk.new _ _ _,(Fr.refl _ _).alloc _⟩ ?_;rintro W0 ⟨hO,f0⟩;obtain⟨go,HGO⟩:∃z,Hid (w.heap.size=z):=⟨_,zh rfl⟩
 rw [HGO.o]at hO⊢;have hOl:=hO.lt;have hnew:=hnewG W0;unfold BNewPost at hnew;have hOh:=zh hO;have f0h:=zh f0;clear hO f0 hnewG;go_wp2_with fail
 refine(hroom _).mono ?_;rintro e _ ⟨rfl,rfl⟩;clear hroom;go_wp2_with fail
 refine Calls.mono (show Calls Tryz.prog 15 _ _ _ from hnew) ?_;rintro e W1 ⟨pb,p,mb,t,me,rfl,hB1,hlo,F1⟩;have hB1h:=zh hB1;have F1h:=zh F1;have hF01:=zh (f0h.o.trans F1);have hloh:=zh hlo;have hgo:=zh (show∀g∈ [mb,t,me],g≠go from fun g hg=>by
  have h1:=hlo g (List.mem_cons_of_mem _ (List.mem_cons_of_mem _ hg));omega)
 have hgX:=zh (show go∉ [mb,t,me]from fun hm=>hgo.o _ hm rfl);have hnw:=zh (show∀g∈ [mb,t,me],w.heap.size≤g from fun g hg=>Nat.le_trans f0h.o.size (hlo g (List.mem_cons_of_mem _ (List.mem_cons_of_mem _ hg))));have hO1:=zh (hOh.o.fr F1 (by simp));clear hnew F1 hB1 hlo hrm hOl;go_upto_block 0 with(fail)
 go_cut [11]from 25 to 41 (fun s11 wx=>∃s:BkS,BkAt wx pb p mb t me rm [mb,t,me] s∧Fr [mb,t,me] W1 wx)
 case first=>
  go_wp2_with fail
  go_loopg [11] (m+1) (fun gk s11 wr=>∃(i:Nat) (s:BkS),s11= .int .i64 i∧i≤m∧m - i<gk∧BkAt wr pb p mb t me rm [mb,t,me] s∧Fr [mb,t,me] W1 wr)
  case atStart=>exact⟨0,_,rfl,by omega,by omega,hB1h.o,Fr.refl _ _⟩
  case round=>
   obtain⟨i,s,rfl,him,hik,hB,hF⟩:=hrel;have hBh:=zh hB;have hFh:=zh hF;clear hB hF;by_cases hlt:i<m
   ·have hlt':(i:Int)<m:=by omega
    by_cases h60:i<60
    ·have h60':(i:Int)<60:=by omega
     obtain⟨y,rb,ro,rfl,hxi,hcs,hci⟩:=(hlh.o.fr (hF01.o.andThen hFh.o (fun g hg=> .inr (hnw.o g hg)))).row hlt;have hlth:=zh hlt;have hd:=bop_t wr pb p mb t me rm [mb,t,me] s y.o y.A y.o.c.scope.length y.k hBh.o hci;unfold BDoPost at hd;clear hxi hci;go_wp2_with (refine wpList_load_cells rfl 26 _ rfl rfl hcs uOp rfl (infoOp _ _ _ _) ?_)
     refine Calls.mono (show Calls Tryz.prog 26 _ _ _ from hd) ?_;rintro e V2 ⟨z,rfl,hz,hzA,hk2,G⟩;have hk2h:=zh hk2.own;have FG:=zh (hFh.o.trans G);clear hd hz hzA hk2 G hcs;go_wp2_with fail
     go_roundg (m - i)
     case measure=>have:=hlth.o;omega
     case rel=>exact⟨i+1,_,by go_num,by have:=hlth.o;omega,by have:=hlth.o;omega,hk2h.o,FG.o⟩
    ·have h60':¬(i:Int)<60:=by omega
     clear hlt hik;go_wp2_with fail
     go_meet;case rel=>exact⟨s,hBh.o,hFh.o⟩
   ·have hlt':¬(i:Int)<m:=by omega
    clear hlt hik;go_wp2_with fail
    go_meet;case rel=>exact⟨s,hBh.o,hFh.o⟩
 case rest=>
  obtain⟨s,hB,hF⟩:=hcut;have hBh:=zh hB;have FFc:=zh hF;have hO2:=hO1.o.fr hF hgX.o;have hsok:=zh hB.ok;have hd1:=bop_t wc pb p mb t me rm [mb,t,me] s o oA o.c.scope.length ok hB (hxh.o.fr (hF01.o.andThen hF (fun g hg=> .inr (hnw.o g hg))) (by simp [Off]));unfold BDoPost at hd1;clear hB hF;go_upto_region 7 with(first | (refine wpList_load_at rfl 26 _ rfl rfl hO2 (sub_self _) uOp rfl (by rw [Array.length_toList];exact infoOp _ _ _ _) ?_;rw [Array.toArray_toList]) | (go_at_call 26;refine hd1.mono ?_;rintro e V1 ⟨y1,rfl,hy1,hA1,hk1,G1⟩) | (refine wpList_store_row rfl 63 _ _ rfl V1.heap.size y1.cells rfl rfl 63 _ (Blk.new _ _ _) (infoAA y1) (by kernel_rfl) y1.all1 ?_))
  refine wp_gen (fun V=>Blk V V1.heap.size 63 y1.cells∧Fr [] V1 V) ⟨Blk.setRow (Blk.new _ _ _) _,((Fr.refl [] V1).alloc _).setRow (.inr (Nat.le_refl _)) _⟩ ?_;rintro W2 ⟨hY1,f1⟩;obtain⟨g1,HG1⟩:∃z,Hid (V1.heap.size=z):=⟨_,zh rfl⟩
  rw [HG1.o]at hY1⊢;have hloc:=zh (hBh.o.lo);have hn1:=zh (show g1∉ [mb,t,me]from fun hm=>by
   have h1:=hloc.o _ hm;have h2:=HG1.o;have h3:=G1.size;omega)
  have hx1:=zh ((ans_off hA1 hloc.o).fr f1.nil);have hb2:=zh (hk1.own.fr0 f1);have hO3:=zh ((hO2.fr G1 hgX.o).fr f1 (by simp));have FF2:=zh (FFc.o.trans (G1.trans f1.nil));have ha1:=zh hy1;have hY1h:=zh hY1;have hX2:=zh (show∀g∈ [mb,t,me],g<W2.heap.size from hb2.o.lo);clear hd1 hO2 hA1 hk1 G1 f1 hy1 hY1;have hfaG:=zh (fun(V:World) (h:Fr [] W2 V)=>bfams_t (hb2.o.fr0 h));have hcaG:=zh (fun(V:World) (h:Fr [] W2 V)=>bcalls_t V pb p mb t me rm [mb,t,me] _ (hb2.o.fr0 h));go_upto_region 8 with(first | (go_at_call 27;refine(hfaG.o _ (Fr.refl _ _)).mono ?_;rintro e V3 ⟨fl,fA,fc,rfl,hfm,hFA,F3⟩) | (go_at_call 28;refine(hcaG.o _ F3).mono ?_;rintro e V4 ⟨cl,cA,cc,rfl,hcm,hCA,F4⟩))
  refine wp_gen (fun V=>Fr [] V4 V) (Fr.refl _ _) ?_;rintro W3 f4;have hb3:=hb2.o.fr0 (F3.trans (F4.trans f4));have hfr3:=zh ((hFA.fr0 (F4.trans f4)).read hb2.o.hg.ok hfm hX2.o);have hcr3:=zh ((hCA.fr0 f4).o (fun g hg=>Nat.lt_of_lt_of_le (hX2.o g hg) F3.size));have hF23:=zh (F3.trans (F4.trans f4));have hfmh:=zh hfm;have hcmh:=zh hcm;have hO4:=hO3.o.fr hF23.o (by simp);have FF3:=zh (FF2.o.trans hF23.o.nil);have hd2:=bop_t W3 pb p mb t me rm [mb,t,me] _ o oA o.c.scope.length ok hb3 (hxh.o.fr (hF01.o.andThen FF3.o (fun g hg=> .inr (hnw.o g hg))) (by simp [Off]));unfold BDoPost at hd2;rw [book_again hsok.o]at hd2;obtain⟨fn,hfn⟩:∃z,Hid (fl.length=z):=⟨_,zh rfl⟩
  obtain⟨cn,hcn⟩:∃z,Hid (cl.length=z):=⟨_,zh rfl⟩
  rw [hfn.o,hcn.o];clear hb3 hFA hCA F3 F4 f4 hfm hcm;go_upto_region 9 with(first | (refine wpList_load_at rfl 26 _ rfl rfl hO4 (sub_self _) uOp rfl (by rw [Array.length_toList];exact infoOp _ _ _ _) ?_;rw [Array.toArray_toList]) | (go_at_call 26;refine hd2.mono ?_;rintro e V5 ⟨y2,rfl,hy2,hA2,hk2,G2⟩) | (refine wpList_store_row rfl 63 _ _ rfl V5.heap.size y2.cells rfl rfl 63 _ (Blk.new _ _ _) (infoAA y2) (by kernel_rfl) y2.all1 ?_))
  refine wp_gen (fun V=>Blk V V5.heap.size 63 y2.cells∧Fr [] V5 V) ⟨Blk.setRow (Blk.new _ _ _) _,((Fr.refl [] V5).alloc _).setRow (.inr (Nat.le_refl _)) _⟩ ?_;rintro W6 ⟨hY2,f5⟩;obtain⟨g2,HG2⟩:∃z,Hid (V5.heap.size=z):=⟨_,zh rfl⟩
  rw [HG2.o]at hY2⊢;have F36:=zh (G2.trans f5.nil);have hx2:=zh ((ans_off hA2 (fun g hg=>Nat.lt_of_lt_of_le (hX2.o g hg) hF23.o.size)).fr f5.nil);have hx1b:=zh ((hx1.o.fr hF23.o.nil).fr F36.o);have hb6:=zh (hk2.own.fr0 f5);have hO6:=zh (hO4.fr F36.o hgX.o);have hY16:=zh ((hY1h.o.fr hF23.o (by simp)).fr F36.o hn1.o);have hfr6:=zh (hfr3.o.fr F36.o);have hcr6:=zh (hcr3.o.fr F36.o);have FF6:=zh (FF3.o.trans F36.o);have hy12:=zh (show y1.a=y2.a by rw [ha1.o,hy2]);have hsc:=zh (show y1.a.scope.length≤1048576 by rw [ha1.o];exact book_scope hsok.o);have hY2h:=zh hY2;have hX6:=zh (show∀g∈ [mb,t,me],g<W6.heap.size from hb6.o.lo);clear hd2 hO4 hA2 hk2 G2 f5 hy2 hY2 hfaG hcaG;have hknG:=zh (fun(V:World)=>bknown_t V);have hanG:=zh (fun(V:World) (h:Fr [] W6 V)=>rans_t V y1 y2 (hx1b.o.1.fr h (by simp [Off])) (hx2.o.1.fr h (by simp [Off])) hy12.o hsc.o);have hfaG:=zh (fun(V:World) (h:Fr [] W6 V)=>bfams_t (hb6.o.fr0 h));have hcaG:=zh (fun(V:World) (h:Fr [] W6 V)=>bcalls_t V pb p mb t me rm [mb,t,me] _ (hb6.o.fr0 h));have hlens:=zh (show(famsM (bookDo rm o s).1.g).length≤1048576 from by
   have h1:=(hb6.o.ok.full)
   have h2:=hb6.o.hr.2;have h3:=idsM_len (bookDo rm o s).1.g;unfold famsM;rw [List.length_map];omega)
  have hfn6:=zh (show fn≤1048576 from by rw [←hfn.o,←List.length_map (f:=(·.f)),hfmh.o];exact hlens.o);have hcn6:=zh (show cn≤256 from by
   rw [←hcn.o,←List.length_map (f:=(·.k)),hcmh.o];unfold callsM;have h2:=flatMap_few (f:=fun k=>(edgeOf k (bookDo rm o s).1).calls) (n:=8) (l:=keysM (bookDo rm o s).1) fun k hk=>edge_calls_few hb6.o.ok hk;have h3:(keysM (bookDo rm o s).1).length≤32:=by rw [keysM_len];exact edges_few hb6.o.ok
   omega)
  have hcset:=zh (show∀y∈cl,y.k.ans.scope.length≤1048576 from fun y hy=>by
   have hm:y.k∈callsM (bookDo rm o s).1:=by rw [←hcmh.o];exact List.mem_map.2 ⟨y,hy,rfl⟩
   obtain⟨q,hq,hm⟩:=List.mem_flatMap.1 hm;have hq:=mem_keysM.1 hq;obtain⟨z,hz,rfl⟩:=List.mem_map.1 hq;have ha:=aget_of_mem (v:=z.2) hb6.o.ok.nodup hz;have e:edgeOf z.1 (bookDo rm o s).1=z.2:=by unfold edgeOf;rw [ha];rfl
   rw [e]at hm;exact Nat.le_trans (setM_sizes ((hb6.o.ok.each _ _ ha).each _ hm).2.2.2.2).1 (by decide))
  go_upto_region 11 with(first
   | (go_at_call 14;refine(hknG.o _).mono ?_;rintro e K1 ⟨rfl,H1⟩;have q1:=blk_cells (hY16.o.fr H1 (by simp));have q2:=blk_cells (hY2h.o.fr H1 (by simp)))
   | (refine wpList_load_if (by rfl) 63 _ rfl rfl q1 uAns rfl (infoAA _) ?_)
   | (refine wpList_load_if (by rfl) 63 _ rfl rfl q2 uAns rfl (infoAA _) ?_)
   | (go_at_call 29;refine(hanG.o _ H1).mono ?_;rintro e K2 ⟨rfl,H2⟩)
   | (go_at_call 27;refine(hfaG.o _ (H1.trans H2)).mono ?_;rintro e K3 ⟨fl2,fA2,fc2,rfl,hfm2,hFA2,H3⟩;have hfl2:fl2.length=fn:=len_of (hfm2.trans hfmh.o.symm) hfn.o)
   | (go_at_call 30;refine(rall_t K3 fA fA2 fn fc fc2 fl fl2 (by have h:=(hfr6.o.fr (H1.trans (H2.trans H3)).nil).mono (Y:= []) (by simp);rw [hfn.o]at h;exact h) (by have h:=hFA2.read (X:= []) hb6.o.hg.ok hfm2 (by simp);rw [hfl2]at h;exact h) (by rw [hfmh.o,hfm2]) hfn6.o).mono ?_;rintro e K4 ⟨rfl,H4⟩)
   | (go_at_call 28;refine(hcaG.o _ ((H1.trans H2).trans (H3.trans H4))).mono ?_;rintro e K5 ⟨cl2,cA2,cc2,rfl,hcm2,hCA2,H5⟩;have hcl2:cl2.length=cn:=len_of (hcm2.trans hcmh.o.symm) hcn.o)
   | (go_at_call 31;refine(rcalls_t K5 cA cA2 cn cc cc2 cl cl2 ((hcr6.o.fr ((H1.trans H2).trans (H3.trans (H4.trans H5))).nil).mono (by simp)) (hCA2.o (by simp)) (by rw [hcmh.o,hcm2]) hcn.o hcset.o (by have:=hcn6.o;omega)).mono ?_;rintro e K6 ⟨rfl,H6⟩))
  refine wp_gen (fun V=>Fr [] K6 V) (Fr.refl _ _) ?_;rintro W9 f9;have F69:=zh ((H1.trans H2).trans (H3.trans (H4.trans (H5.trans (H6.trans f9)))));have hb9:=zh (hb6.o.fr0 F69.o);have hO9:=zh (hO6.o.fr F69.o (by simp));have hY9:=zh (hY16.o.fr F69.o (by simp));have hx9:=zh (hx1b.o.fr F69.o.nil);have hcr9:=zh ((hcr6.o.fr F69.o.nil).mono (Y:= []) (by simp));have FF9:=zh (FF6.o.trans F69.o.nil);clear q1 q2 H1 H2 H3 H4 H5 H6 f9 hfm2 hFA2 hcm2 hCA2 hfl2 hcl2;clear hknG hanG hfaG hcaG hfr6 hcr6 hfr3 hcr3;go_upto_block 2 with(fail)
  go_cut [16,17]from 73 to 100 (fun s16 s17 wx=>s16= .bool (keptB o cl)∧Fr [] W9 wx)
  case first=>
   go_wp2_with fail
   go_loopg [16,17] (cn+1) (fun gk s16 s17 wr=>∃(j:Nat),s17= .int .i64 j∧s16= .bool (keptB o (cl.take j))∧j≤cn∧cn - j<gk∧Fr [] W9 wr)
   case atStart=>exact⟨0,rfl,rfl,by omega,by omega,Fr.refl _ _⟩
   case round=>
    obtain⟨j,rfl,rfl,hj,hk,hF⟩:=hrel;have hFh:=zh hF;have hcnb:=hcn6.o;obtain⟨kb,hkb⟩:∃z,Hid (keptB o (cl.take j)=z):=⟨_,zh rfl⟩
    rw [hkb.o];by_cases hlt:j<cn
    ·have hlt':(j:Int)<cn:=by omega
     have hlth:=zh hlt;have hjl:j<cl.length:=by rw [hcn.o];exact hlt
     have hsn:=zh (keptB_snoc (o:=o) hjl);cases kb with
     |true=>
      have hv:=zh (show keptB o (cl.take (j+1))=true by rw [hsn.o,hkb.o];rfl);clear hF hlt;go_upto_region 15 with(fail)
      go_quiet (fail)
      go_wp2_with fail
      go_roundg (cn - j)
      case measure=>have:=hlth.o;omega
      case rel=>exact⟨j+1,by go_num,by rw [hv.o],by have:=hlth.o;omega,by have:=hlth.o;omega,hFh.o.drewN _⟩
     |false=>
      obtain⟨cb,co,eA,hcc⟩:=call_row (hcr9.o.fr hF) hjl;have eA:cA=some ⟨cb,co,none⟩:=eA;subst eA;obtain⟨y,hy⟩:∃z,Hid (cl[j]'hjl=z):=⟨_,zh rfl⟩
      rw [hy.o]at hcc hsn;have e0:wr.cell? ⟨cb,co+j*10,none⟩=some (.int .i64 y.k.edge):=hcc 0 _ rfl;have e1:wr.cell? ⟨cb,co+j*10+1,none⟩=some (.int .i64 y.k.seq):=hcc 1 _ rfl;have hOw:=hO9.o.fr hF (by simp);have c0:=hOw.cell 0;have c1:=hOw.cell 1;have hOwl:=hOw.lt;unfold opV at c0 c1;simp only [zG,zH,zI]at c0 c1;obtain⟨b1,hb1⟩:∃z,Hid (decide (y.k.edge=o.edge)=z):=⟨_,zh rfl⟩
      obtain⟨b2,hb2⟩:∃z,Hid (decide (y.k.seq=o.seq)=z):=⟨_,zh rfl⟩
      have hv:=zh (show keptB o (cl.take (j+1))=(b1&&b2) by rw [hsn.o,hkb.o,hb1.o,hb2.o];rfl);obtain⟨ye,hye⟩:∃z,Hid (y.k.edge=z):=⟨_,zh rfl⟩
      obtain⟨yq,hyq⟩:∃z,Hid (y.k.seq=z):=⟨_,zh rfl⟩
      obtain⟨oe,hoe⟩:∃z,Hid (o.edge=z):=⟨_,zh rfl⟩
      obtain⟨oq,hoq⟩:∃z,Hid (o.seq=z):=⟨_,zh rfl⟩
      have hb1':=hb1.o;have hb2':=hb2.o;rw [hye.o,hoe.o]at hb1';rw [hyq.o,hoq.o]at hb2';rw [hye.o]at e0;rw [hyq.o]at e1;rw [hoe.o]at c0;rw [hoq.o]at c1;have t1:(ye==oe)=b1:=by rw [←hb1'];rw [Bool.eq_iff_iff];simp
      have t2:(yq==oq)=b2:=by rw [←hb2'];rw [Bool.eq_iff_iff];simp
      clear hF hlt hcc hb1' hb2' hOw;cases b1 with
      |false=>
       go_upto_region 15 with(fail)
       go_quiet (fail)
       go_wp2_with fail
       go_roundg (cn - j)
       case measure=>have:=hlth.o;omega
       case rel=>exact⟨j+1,by go_num,by rw [hv.o];rfl,by have:=hlth.o;omega,by have:=hlth.o;omega,hFh.o.drewN _⟩
      |true=>
       cases b2 with
       |false=>
        go_upto_region 15 with(fail)
        go_quiet (fail)
        go_wp2_with fail
        go_roundg (cn - j)
        case measure=>have:=hlth.o;omega
        case rel=>exact⟨j+1,by go_num,by rw [hv.o];rfl,by have:=hlth.o;omega,by have:=hlth.o;omega,hFh.o.drewN _⟩
       |true=>
        go_upto_region 15 with(fail)
        go_quiet (fail)
        go_wp2_with fail
        go_roundg (cn - j)
        case measure=>have:=hlth.o;omega
        case rel=>exact⟨j+1,by go_num,by rw [hv.o];rfl,by have:=hlth.o;omega,by have:=hlth.o;omega,hFh.o.drewN _⟩
    ·have hge:¬(j:Int)<cn:=by omega
     have hv:=zh (show kb=keptB o cl by rw [←hkb.o,List.take_of_length_le (by rw [hcn.o];omega)]);clear hF hlt hk;go_wp2_with fail
     go_meet;case rel=>exact⟨by rw [hv.o],hFh.o⟩
  case rest=>
   obtain⟨rfl,F9⟩:=hcut;have F9h:=zh F9;obtain⟨kp,hkp⟩:∃z,Hid (keptB o cl=z):=⟨_,zh rfl⟩
   rw [hkp.o];have hfin:=zh (fun(V:World) (hV:Fr [mb,t,me] wc V)=>hF01.o.andThen (FF9.o.trans (F9.nil.trans hV)) (fun g hg=> .inr (hnw.o g hg)));cases kp with
   |false=>
    clear F9;go_wp2_with fail
    go_ret;exact⟨rfl,hfin.o _ (Fr.refl _ _)⟩
   |true=>
    obtain⟨c,hcc⟩:=keptB_at hb9.o.ok hcmh.o hkp.o;have hcch:=zh hcc;have hbc:=zh (hb9.o.fr0 F9);have hOc:=zh (hO9.o.fr F9 (by simp));have hYc:=zh (hY9.o.fr F9 (by simp));have hxc:=zh (hx9.o.fr F9.nil);have qo:=blk_cells hOc.o;have hma:=bMay_t wc o oA o.c.scope.length ok (hxh.o.fr (hfin.o _ (Fr.refl _ _)) (by simp [Off]));obtain⟨mo,hmo⟩:∃z,Hid (opMay o=z):=⟨_,zh rfl⟩
    rw [hmo.o]at hma;obtain⟨oq,hoq⟩:∃z,Hid (o.seq=z):=⟨_,zh rfl⟩
    clear hcc F9;cases mo with
    |false=>
     go_wp2_with (first | (refine wpList_load_if (by rfl) 26 _ rfl rfl qo uOp rfl (infoOp _ _ _ _) ?_) | (go_at_call 16;refine hma.mono ?_;rintro e M1 ⟨rfl,H1⟩))
     go_ret;exact⟨rfl,hfin.o _ H1.nil⟩
    |true=>
     by_cases h0:oq=0
     ·have h0b:(oq==0)=true:=by rw [h0];rfl
      clear h0;go_wp2_with (first | (refine wpList_load_if (by rfl) 26 _ rfl rfl qo uOp rfl (infoOp _ _ _ _) ?_) | (go_at_call 16;refine hma.mono ?_;rintro e M1 ⟨rfl,H1⟩;have c1:M1.cell? ⟨go,1,none⟩=some (.int .i64 oq):=by rw [←hoq.o];exact(hOc.o.fr H1 (by simp)).cell 1))
      go_ret;exact⟨rfl,hfin.o _ H1.nil⟩
     ·have h0b:(oq==0)=false:=by rw [beq_eq_false_iff_ne];exact h0
      have h0h:=zh h0;clear h0;go_upto_block 4 with(first | (refine wpList_load_if (by rfl) 26 _ rfl rfl qo uOp rfl (infoOp _ _ _ _) ?_) | (go_at_call 16;refine hma.mono ?_;rintro e M1 ⟨rfl,H1⟩;have c1:M1.cell? ⟨go,1,none⟩=some (.int .i64 oq):=by rw [←hoq.o];exact(hOc.o.fr H1 (by simp)).cell 1))
      have H1h:=zh H1;have hbM:=zh (hbc.o.fr0 H1);have hOM:=zh (hOc.o.fr H1 (by simp));have hYM:=zh (hYc.o.fr H1 (by simp));have hxM:=zh (hxc.o.fr H1.nil);clear qo hma c1 H1;go_cut [18]from 112 to 146 (fun s18 wx=>∃s':BkS,BkAt wx pb p mb t me rm [mb,t,me] s'∧callAt o s'=some c∧Fr [mb,t,me] M1 wx)
      case first=>
       go_wp2_with fail
       go_loopg [18] (m2+1) (fun gk s18 wr=>∃(i:Nat) (s':BkS),s18= .int .i64 i∧i≤m2∧m2 - i<gk∧BkAt wr pb p mb t me rm [mb,t,me] s'∧callAt o s'=some c∧Fr [mb,t,me] M1 wr)
       case atStart=>exact⟨0,_,rfl,by omega,by omega,hbM.o,hcch.o,Fr.refl _ _⟩
       case round=>
        obtain⟨i,s',rfl,him,hik,hB,hca,hF⟩:=hrel;have hBh:=zh hB;have hFh:=zh hF;have hcah:=zh hca;by_cases hlt:i<m2
        ·have hlt':(i:Int)<m2:=by omega
         by_cases h60:i<60
         ·have h60':(i:Int)<60:=by omega
          obtain⟨y,rb,ro,rfl,hxi,hcs,hci⟩:=(h2h.o.fr (hfin.o _ (H1h.o.nil.trans hF))).row hlt;have hlth:=zh hlt;have e0:wr.cell? ⟨rb,ro+i*16,none⟩=some (.int .i64 y.o.edge):=hcs 0 _ rfl;have e2:wr.cell? ⟨rb,ro+i*16+2,none⟩=some (.int .i64 y.o.low):=hcs 2 _ rfl;have hOw:=hOM.o.fr hF hgX.o;have c0:=hOw.cell 0;have c1:=hOw.cell 1;have hOwl:=hOw.lt;unfold opV at c0 c1;simp only [zG,zH,zI]at c0 c1;obtain⟨b1,hb1⟩:∃z,Hid (decide (y.o.edge=o.edge)=z):=⟨_,zh rfl⟩
          obtain⟨b2,hb2⟩:∃z,Hid (decide (o.seq<y.o.low)=z):=⟨_,zh rfl⟩
          have hst:Hid ((b1&&b2)=false→callAt o (bookDo rm y.o s').1=some c):=zh fun hb=>by refine call_stays hB.ok (fun hp=> ?_) hca;rw [←hb1.o,←hb2.o,Bool.and_eq_false_iff,decide_eq_false_iff_not,decide_eq_false_iff_not]at hb;exact hb.elim (fun h=>h hp.1) fun h=>h hp.2
          have hd:=fun(V:World) (hV:Fr [] wr V)=>bop_t V pb p mb t me rm [mb,t,me] s' y.o y.A y.o.c.scope.length y.k (hBh.o.fr0 hV) (CmdIn.fr hci hV (by simp [Off]));unfold BDoPost at hd;have hdh:=zh hd;have hcsh:=zh (fun(V:World) (hV:Fr [] wr V) j v (h:(opV y.o y.A y.o.c.scope.length y.k)[j]? =some v)=>cell_fr hV (hcs j v h));obtain⟨ye,hye⟩:∃z,Hid (y.o.edge=z):=⟨_,zh rfl⟩
          obtain⟨yl,hyl⟩:∃z,Hid (y.o.low=z):=⟨_,zh rfl⟩
          obtain⟨oe,hoe⟩:∃z,Hid (o.edge=z):=⟨_,zh rfl⟩
          have hb1':=hb1.o;have hb2':=hb2.o;rw [hye.o,hoe.o]at hb1';rw [hyl.o,hoq.o]at hb2';rw [hye.o]at e0;rw [hyl.o]at e2;rw [hoe.o]at c0;rw [hoq.o]at c1;have t1:(ye==oe)=b1:=by rw [←hb1'];rw [Bool.eq_iff_iff];simp
          clear hxi hci hB hF hca hlt hcs hd hb1' hOw;cases b1 with
          |false=>
           have hst2:=zh (hst.o rfl);clear hb2';go_upto_region 21 with(fail)
           go_quiet (fail)
           go_wp2_with (refine wpList_load_cells rfl 26 _ rfl rfl (hcsh.o _ ((Fr.refl [] _).drewN _)) uOp rfl (infoOp _ _ _ _) ?_)
           refine Calls.mono (show Calls Tryz.prog 26 _ _ _ from hdh.o _ ((Fr.refl [] _).drewN _)) ?_;rintro e V2 ⟨z,rfl,hz,hzA,hk2,G⟩;have hk2h:=zh hk2.own;have FG:=zh (hFh.o.trans ((Fr.refl [mb,t,me] _).drewN _ |>.trans G));clear hz hzA hk2 G;go_wp2_with fail
           go_roundg (m2 - i)
           case measure=>have:=hlth.o;omega
           case rel=>exact⟨i+1,_,by go_num,by have:=hlth.o;omega,by have:=hlth.o;omega,hk2h.o,hst2.o,FG.o⟩
          |true=>
           cases b2 with
           |false=>
            have hst2:=zh (hst.o rfl);go_upto_region 21 with(fail)
            go_quiet (fail)
            go_wp2_with (refine wpList_load_cells rfl 26 _ rfl rfl (hcsh.o _ ((Fr.refl [] _).drewN _)) uOp rfl (infoOp _ _ _ _) ?_)
            refine Calls.mono (show Calls Tryz.prog 26 _ _ _ from hdh.o _ ((Fr.refl [] _).drewN _)) ?_;rintro e V2 ⟨z,rfl,hz,hzA,hk2,G⟩;have hk2h:=zh hk2.own;have FG:=zh (hFh.o.trans ((Fr.refl [mb,t,me] _).drewN _ |>.trans G));clear hz hzA hk2 G;go_wp2_with fail
            go_roundg (m2 - i)
            case measure=>have:=hlth.o;omega
            case rel=>exact⟨i+1,_,by go_num,by have:=hlth.o;omega,by have:=hlth.o;omega,hk2h.o,hst2.o,FG.o⟩
           |true=>
            go_upto_region 21 with(fail)
            go_quiet (fail)
            go_wp2_with fail
            go_roundg (m2 - i)
            case measure=>have:=hlth.o;omega
            case rel=>exact⟨i+1,s',by go_num,by have:=hlth.o;omega,by have:=hlth.o;omega,hBh.o.fr0 ((Fr.refl [] _).drewN _),hcah.o,hFh.o.drewN _⟩
         ·have h60':¬(i:Int)<60:=by omega
          clear hlt hik hB hF hca;go_wp2_with fail
          go_meet;case rel=>exact⟨s',hBh.o,hcah.o,hFh.o⟩
        ·have hlt':¬(i:Int)<m2:=by omega
         clear hlt hik hB hF hca;go_wp2_with fail
         go_meet;case rel=>exact⟨s',hBh.o,hcah.o,hFh.o⟩
      case rest=>
       obtain⟨s',hB,hca,hF⟩:=hcut;have hFh:=zh hF;have hlast:=zh (once_last (o:=o) (t:=s') hsok.o hmo.o (by rw [hoq.o];exact h0h.o) hcch.o hca);have rO:=range_cells' (hOM.o.fr hF hgX.o);have rY:=range_cells' (hYM.o.fr hF hn1.o);have hxz:=zh (hxM.o.fr hF);have hlz:=zh hB.lo;have hd9:=zh (fun(V:World) (hV:Fr [] wc V)=>bop_t V pb p mb t me rm [mb,t,me] s' o oA o.c.scope.length ok (hB.fr0 hV) (CmdIn.fr hxh.o (hfin.o _ (H1h.o.nil.trans (hF.trans hV.nil))) (by simp [Off])));clear hB hca hF;go_upto_region 23 with(fail)
       refine wp_region_z (fun w'=>w'.rangeAt go 0 (opV o oA o.c.scope.length ok).toList∧w'.rangeAt g1 0 y1.cells.toList) [] (by kernel_rfl) ⟨rO,rY⟩ ?_;intro hHeld;refine wpZ_tk (i:=0) (v:= ?_) hHeld ?_ ?_;rotate_left
       ·(intro w hSw;go_simp<;>with_reducible rfl)
       try simp only [zA,zC,Act.put,zD,zE,zF]
       refine wpZ_take (i:=1) rfl (by kernel_rfl) (by kernel_rfl) (by kernel_rfl) (by kernel_rfl) (fun _ _ _ h=>h) (yieldsIf_load_mid (by kernel_rfl) 26 _ rfl go 0 rfl ((opV o oA o.c.scope.length ok).toList) _ (fun w h=>h.1) uOp rfl (by rw [Array.length_toList];exact infoOp _ _ _ _)) hHeld ?_;try simp only [zA,zB,zC,Act.put,zD,zE,zF]
       try rw [Array.toArray_toList]
       refine wpZ_take (i:=3) rfl (by kernel_rfl) (by kernel_rfl) (by kernel_rfl) (by kernel_rfl) (fun _ _ _ h=>h) (yieldsIf_load_mid (by kernel_rfl) 63 _ rfl g1 0 rfl (y1.cells.toList) _ (fun w h=>h.2) uAns rfl (infoAAL _)) hHeld ?_;try simp only [zA,zB,zC,Act.put,zD,zE,zF]
       try rw [Array.toArray_toList]
       refine wpZ_one (i:=2) (by kernel_rfl) rfl (fun K hK=> ?_);go_simp;refine Calls.mono (show Calls Tryz.prog 26 _ _ _ from hd9.o _ (Fr.refl _ _).drew) ?_;rintro e Z1 ⟨y3,rfl,hy3,hA3,hk3,G3⟩;have G3':Fr [mb,t,me] wc Z1:=G3.of_drew;try dsimp only
       refine hK.out _ _ ⟨range_off G3' hgX.o rO,range_off G3' hn1.o rY⟩ (fun hHeld=> ?_);clear hK K;try simp only [zA,zB,zC,Act.put,zD,zE,zF]
       refine wpZ_one (i:=4) (by kernel_rfl) rfl (fun K hK=> ?_);go_simp;refine Calls.mono (show Calls Tryz.prog 29 _ _ _ from rans_t Z1 y3 y1 (ans_off hA3 hlz.o).1 (hxz.o.fr G3').1 (by rw [hy3,ha1.o];exact hlast.o) (by have h:=hsc.o;rw [hy3,hlast.o,←ha1.o];exact h)) ?_;rintro e Z2 ⟨rfl,G4⟩;try dsimp only
       refine hK.out _ _ ⟨range_off G4 (by simp) (range_off G3' hgX.o rO),range_off G4 (by simp) (range_off G3' hn1.o rY)⟩ (fun hHeld=> ?_);clear hK K;try simp only [zA,zB,zC,Act.put,zD,zE,zF]
       refine wpZ_tk (i:=5) (v:= ?_) hHeld ?_ ?_;rotate_left
       ·(intro w hSw;go_simp<;>with_reducible rfl)
       try simp only [zA,zB,zC,Act.put,zD,zE,zF]
       refine wpZ_done (by kernel_rfl) ?_ _;go_wp2_with fail
       go_ret;exact⟨rfl,hfin.o _ ((H1h.o.nil.trans hFh.o).trans (G3'.trans G4.nil))⟩
end Go.Proofs.YtacljejoedbnkaaGreat
