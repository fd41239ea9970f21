/- Walk: families as texts. Conditions: each theorem's own. -/
import Derived.Test.YtpmgepijkhaonaaGreatOj
import Derived.Test.YtpmgepijkhaonaaGreatHq
import Derived.Test.YtpmgepijkhaonaaGreatLx
namespace Go.Proofs.YtpmgepijkhaonaaGreat
open Go.RowKit Go.Sig
theorem textM_size (f:GFam):(textM f).1.size≤1000000:=by
 unfold textM;split
 ·rename_i h;have:=famText_size (rightM_ok.1 h);exact Nat.le_trans this (by decide)
 ·exact Nat.zero_le _
set_option maxRecDepth 100000 in
set_option maxHeartbeats 8000000 in
theorem btextsL_t (w:World) (x:FA) (hx:FamIn w [] x) (hz:FamSz x):Calls Tryz.prog 3 #[x.val] w fun e w'=>e= .returned (.bool true)∧Fr [] w w':=by
 have hxh:=zh hx;have hzh:=zh hz;clear hx hz;unfold FA.val;go_enter Tryz.func3,Tryz.ntmps3;go_upto_region 1 with(fail)
 refine wp_gen (fun W=>Blk W w.heap.size 26 x.cells∧Fr [] w W) ⟨Blk.new _ _ _,(Fr.refl _ _).alloc _⟩ ?_;rintro W0 ⟨hB,f0⟩;obtain⟨gf,HGF⟩:∃z,Hid (w.heap.size=z):=⟨_,zh rfl⟩
 rw [HGF.o]at hB⊢;have hBh:=zh hB;have f0h:=zh f0;have hkn:=bknown_t W0;obtain⟨q0,q1,q2,c3,q4,q5,q6,q7,c8,q9,c10,hgl⟩:=fam_cells hB;clear q0 q1 q2 q4 q5 q6 q7 q9 hB f0;obtain⟨sn,hsn⟩:∃z,Hid (x.f.scope.length=z):=⟨_,zh rfl⟩
 obtain⟨tn,htn⟩:∃z,Hid (x.ts.length=z):=⟨_,zh rfl⟩
 obtain⟨ln,hln⟩:∃z,Hid (x.f.leases.length=z):=⟨_,zh rfl⟩
 rw [hsn.o]at c3;rw [htn.o]at c8;rw [hln.o]at c10;by_cases hbig:100<sn∨100<tn∨100<ln
 ·have hcs:decide ((100:Int)<(sn:Int))=true∨(decide ((100:Int)<(sn:Int))=false∧decide ((100:Int)<(tn:Int))=true)∨(decide ((100:Int)<(sn:Int))=false∧decide ((100:Int)<(tn:Int))=false∧decide ((100:Int)<(ln:Int))=true):=by
   simp only [decide_eq_true_eq,decide_eq_false_iff_not];omega
  clear hbig;rcases hcs with d1 | ⟨d1,d2⟩ | ⟨d1,d2,d3⟩<;>
   (go_wp2_with (go_at_call 7;refine hkn.mono ?_;rintro e V9 ⟨rfl,G9⟩)
    go_ret;exact⟨rfl,f0h.o.trans G9⟩)
 ·have d1:decide ((100:Int)<(sn:Int))=false:=decide_eq_false (by omega);have d2:decide ((100:Int)<(tn:Int))=false:=decide_eq_false (by omega);have d3:decide ((100:Int)<(ln:Int))=false:=decide_eq_false (by omega);have htn100:tn≤100:=by omega
  have hsm:=zh (show sn≤100∧tn≤100∧ln≤100 by omega);obtain⟨tA,htA⟩:∃z,Hid (x.tA=z):=⟨_,zh rfl⟩
  rw [htA.o]at c8;have c8h:=zh c8;clear hbig;go_wp2_with fail
  go_loopg [3] (tn+1) (fun gk s3 wr=>∃(i:Nat),s3= .int .i64 i∧i≤tn∧tn - i<gk∧Hid (∀(j:Nat) (t:TA),j<i→x.ts[j]? =some t→t.tok.scope.length≤100)∧W0=wr)
  case atStart=>exact⟨0,rfl,by omega,by omega,zh (fun j t hj=>by omega),rfl⟩
  case round=>
   obtain⟨i,rfl,hi,hk,hall,rfl⟩:=hrel;by_cases hlt:i<tn
   ·have hlt':(i:Int)<tn:=by omega
    have hlth:=zh hlt;have hkh:=zh hk;obtain⟨t,tb,tof,eA,hti,htr⟩:=TA.row (Rd.fr hxh.o.toks.1 f0h.o (by simp [Off])) rfl (by rw [htn.o];exact hlt);rw [htA.o]at eA;subst eA;have ck:=htr 1 _ (show t.cells[1]? =some (.slice t.A t.tok.scope.length t.c)from rfl);obtain⟨m,hm⟩:∃z,Hid (t.tok.scope.length=z):=⟨_,zh rfl⟩
    rw [hm.o]at ck;have htih:=zh hti;clear hti htr hlt hk;by_cases hmb:100<m
    ·have d4:decide ((100:Int)<(m:Int))=true:=decide_eq_true (by omega);clear hmb;go_wp2_with (go_at_call 7;refine hkn.mono ?_;rintro e V9 ⟨rfl,G9⟩)
     go_ret;exact⟨rfl,f0h.o.trans G9⟩
    ·have d4:decide ((100:Int)<(m:Int))=false:=decide_eq_false (by omega);have hmh:=zh hmb;clear hmb;go_wp2_with fail
     go_roundg (tn - i)
     case measure=>exact hkh.o
     case rel=>
      refine⟨i+1,by go_num,by have:=hlth.o;omega,by have:=hlth.o;omega,zh (fun j t2 hj h2=> ?_),rfl⟩;by_cases hji:j=i
      ·subst hji;rw [htih.o]at h2;obtain rfl:=Option.some.inj h2;rw [hm.o];have:=hmh.o;omega
      ·exact hall.o j t2 (by omega) h2
   ·have hge:¬(i:Int)<tn:=by omega
    have hts:=zh (show∀t∈x.ts,t.tok.scope.length≤100 from fun t ht=>by
     obtain⟨j,hj,rfl⟩:=List.mem_iff_getElem.1 ht;exact hall.o j _ (by have:=htn.o;omega) (List.getElem?_eq_getElem hj))
    clear hlt hk;have ht1:=zh (fun(V:World) (hF:Fr [] W0 V)=>btextM_t V x (hxh.o.fr (f0h.o.trans hF)) hzh.o);have ht2:=zh (fun(V:World) (hF:Fr [] W0 V)=>rtext18_t V x (hxh.o.fr (f0h.o.trans hF)) hzh.o ⟨by rw [hsn.o];have:=hsm.o.1;omega,fun t ht=>by have:=hts.o t ht;omega⟩);have hps:=zh (fun(V:World)=>bparse_t V (textM x.f).1 (textM_size x.f));have hte:=zh (show(textM x.f).2=0→parseM (textM x.f).1=(x.f,0)from parse_text);obtain⟨⟨ts,te⟩,htm⟩:∃z,Hid (textM x.f=z):=⟨_,zh rfl⟩
    rw [htm.o]at ht1 ht2 hps hte;dsimp only at ht1 ht2 hps hte;obtain⟨⟨pf,pk⟩,hpm⟩:∃z,Hid (parseM ts=z):=⟨_,zh rfl⟩
    rw [hpm.o]at hps hte;dsimp only at hps;have hBW:=hBh.o;have ht1w:=ht1.o W0 (Fr.refl _ _);clear c3 c10 hkn d1 d2 d3;go_upto_region 9 with(first | (refine wpList_load_at rfl 26 _ rfl rfl hBW (sub_self _) uFam rfl (infoFamL _) ?_;rw [Array.toArray_toList]) | (go_at_call 8;refine ht1w.mono ?_;rintro e V1 ⟨rfl,F1⟩))
    have F1h:=zh F1;have hB1:=hBh.o.fr F1 (by simp);have ht2w:=ht2.o V1 F1;clear hBW ht1w F1 c8;go_upto_region 10 with(first | (refine wpList_load_at rfl 26 _ rfl rfl hB1 (sub_self _) uFam rfl (infoFamL _) ?_;rw [Array.toArray_toList]) | (go_at_call 9;refine ht2w.mono ?_;rintro e V2 ⟨rfl,F2⟩))
    have F2h:=zh (F1h.o.trans F2);have hkn:=bknown_t V2;have heq:(ts.toList==ts.toList)=true:=by simp
    clear hB1 ht2w F2;go_upto_region 12 with(go_at_call 7;refine hkn.mono ?_;rintro e V3 ⟨rfl,F3⟩)
    have F3h:=zh (F2h.o.trans F3);have hpw:=hps.o V3;clear hkn F3;by_cases h0:te=0
    ·subst h0;have hpe:=hte.o rfl;rw [Prod.mk.injEq]at hpe;obtain⟨rfl,rfl⟩:=hpe;go_upto_region 13 with(first | (go_at_call 10;refine hpw.mono ?_;rintro e V4 ⟨y,rfl,hyf,hyW,F4⟩;have hyfh:=zh hyf;have hyWh:=zh hyW;have F4h:=zh (F3h.o.trans F4);clear hyf hyW F4) | (refine wpList_store_row rfl 26 _ _ rfl V4.heap.size y.cells rfl rfl 26 _ (Blk.new _ _ _) (infoFamA y) (by unfold FA.cells;rfl) (by unfold FA.cells;kernel_rfl) ?_))
     refine wp_gen (fun U=>Blk U V4.heap.size 26 y.cells∧Fr [] V4 U) ⟨Blk.setRow (Blk.new _ _ _) _,((Fr.refl [] V4).alloc _).setRow (.inr (Nat.le_refl _)) _⟩ ?_;rintro U ⟨hY0,fU⟩;obtain⟨g8,HG8⟩:∃z,Hid (V4.heap.size=z):=⟨_,zh rfl⟩
     rw [HG8.o]at hY0⊢;have fUh:=zh (F4h.o.trans fU);have hXU:=hBh.o.fr fUh.o (by simp);have hsame:=rsame_t U x y (hxh.o.fr (f0h.o.trans fUh.o)) ((hyWh.o.fr0 fU).fam (by simp)) hyfh.o.symm ⟨by rw [hsn.o];have:=hsm.o.1;omega,by rw [htn.o];omega,by rw [hln.o];have:=hsm.o.2.2;omega,fun t ht=>by have:=hts.o t ht;omega⟩;clear fU;unfold FA.val FA.cells at hsame;obtain⟨a0,a1,a2,a3,a4,a5,a6,a7,a8,a9,a10,al⟩:=fam_cells hXU;obtain⟨b0,b1,b2,b3,b4,b5,b6,b7,b8,b9,b10,bl⟩:=fam_cells hY0;clear hXU hY0;go_wp2_with (go_at_call 11;refine hsame.mono ?_;rintro e V9 ⟨rfl,G9⟩)
     go_ret;exact⟨rfl,f0h.o.trans (fUh.o.trans G9)⟩
    ·have hneb:(te !=0)=true:=by simpa using h0
     have h0h:=zh h0;clear h0;go_upto_region 13 with(first | (go_at_call 10;refine hpw.mono ?_;rintro e V4 ⟨y,rfl,hyf,hyW,F4⟩;have F4h:=zh (F3h.o.trans F4);clear hyf hyW F4) | (refine wpList_store_row rfl 26 _ _ rfl V4.heap.size y.cells rfl rfl 26 _ (Blk.new _ _ _) (infoFamA y) (by unfold FA.cells;rfl) (by unfold FA.cells;kernel_rfl) ?_))
     refine wp_gen (fun U=>Fr [] V4 U) (((Fr.refl [] V4).alloc _).setRow (.inr (Nat.le_refl _)) _) ?_;rintro U fU;go_wp2_with fail
     go_ret;exact⟨rfl,f0h.o.trans (F4h.o.trans fU)⟩
end Go.Proofs.YtpmgepijkhaonaaGreat
