/- Walk: which ops and rooms may be. Conditions: each theorem's own. -/
import Derived.Test.YtacljejoedbnkaaGreatLx
import Derived.Test.YtacljejoedbnkaaGreatJs
namespace Go.Proofs.YtacljejoedbnkaaGreat
open Go.RowKit Go.Sig
set_option maxRecDepth 100000 in
set_option maxHeartbeats 8000000 in
theorem rMay18_t (w:World) (o:GOp) (A:Option Addr) (n d:Nat) (hc:CmdIn w o.c A n):Calls Tryz.prog 17 #[.agg (opV o A n d)] w fun e w'=>e= .returned (.bool (opMay o))∧Fr [] w w':=by
 have hch:=zh hc;obtain⟨ed,hed⟩:∃z,Hid (o.edge=z):=⟨_,zh rfl⟩
 obtain⟨sq,hsq⟩:∃z,Hid (o.seq=z):=⟨_,zh rfl⟩
 obtain⟨lo,hlo⟩:∃z,Hid (o.low=z):=⟨_,zh rfl⟩
 obtain⟨kd,hkd⟩:∃z,Hid (o.c.kind=z):=⟨_,zh rfl⟩
 clear hc;go_enter Tryz.func17,Tryz.ntmps17;go_upto_region 1 with(fail)
 refine wp_gen (fun W=>Blk W w.heap.size 26 (opV o A n d)∧Fr [] w W) ⟨Blk.new _ _ _,(Fr.refl _ _).alloc _⟩ ?_;rintro W ⟨hB,fW⟩;obtain⟨g,HG⟩:∃z,Hid (w.heap.size=z):=⟨_,zh rfl⟩
 rw [HG.o]at hB⊢;have c0:=hB.cell 0;have c1:=hB.cell 1;have c2:=hB.cell 2;have c3:=hB.cell 3;unfold opV at c0 c1 c2 c3;simp only [zG,zH,zI]at c0 c1 c2 c3;rw [hed.o]at c0;rw [hsq.o]at c1;rw [hlo.o]at c2;rw [hkd.o]at c3;have hgl:=hB.lt;have hcc:∀j v,(cmdV o.c A n d)[j]? =some v→W.cell? ⟨g,3+j,none⟩=some v:=fun j v h=>by rw [hB.cell];exact opV_cmd o A n d j v h
 have fWh:=zh fW;have hm:=rmay17_t W o.c A n d (hch.o.hS.fr fW (by simp [Off])) hch.o.hn hch.o.hl hch.o.hs hch.o.hf;have hBh:=zh hB;clear fW hB;by_cases h1:ed<0
 ·have hr:=zh (opMay_a (o:=o) (by rw [hed.o];exact .inl h1));clear hm hcc;go_wp2_with fail
  go_ret;exact⟨ret_bool hr.o.symm,fWh.o⟩
 have h1h:=zh h1;by_cases h2:31<ed
 ·have hr:=zh (opMay_a (o:=o) (by rw [hed.o];exact .inr (.inl (by omega))));clear hm hcc;go_wp2_with fail
  go_ret;exact⟨ret_bool hr.o.symm,fWh.o⟩
 have h2h:=zh h2;by_cases h3:sq<0
 ·have hr:=zh (opMay_a (o:=o) (by rw [hsq.o];exact .inr (.inr (.inl h3))));clear hm hcc;go_wp2_with fail
  go_ret;exact⟨ret_bool hr.o.symm,fWh.o⟩
 have h3h:=zh h3;by_cases h4:1099511627776<sq
 ·have hr:=zh (opMay_a (o:=o) (by rw [hsq.o];exact .inr (.inr (.inr (.inl h4)))));clear hm hcc;go_wp2_with fail
  go_ret;exact⟨ret_bool hr.o.symm,fWh.o⟩
 have h4h:=zh h4;by_cases h5:lo<0
 ·have hr:=zh (opMay_a (o:=o) (by rw [hlo.o];exact .inr (.inr (.inr (.inr (.inl h5))))));clear hm hcc;go_wp2_with fail
  go_ret;exact⟨ret_bool hr.o.symm,fWh.o⟩
 have h5h:=zh h5;by_cases h6:sq<lo
 ·have hr:=zh (opMay_a (o:=o) (by rw [hsq.o,hlo.o];exact .inr (.inr (.inr (.inr (.inr (.inl h6)))))));clear hm hcc;go_wp2_with fail
  go_ret;exact⟨ret_bool hr.o.symm,fWh.o⟩
 have h6h:=zh h6;obtain⟨m,hmm⟩:∃z,Hid (mayM o.c=z):=⟨_,zh rfl⟩
 rw [hmm.o]at hm;go_wp2_with (refine wpList_load_if (by rfl) 24 _ rfl rfl hcc uCmd rfl infoCmd ?_)
 refine Calls.mono (show Calls Tryz.prog 59 _ _ _ from hm) ?_;rintro e W2 ⟨rfl,F2⟩;have d1:=cell_fr F2 c1;have d0:=cell_fr F2 c0;have d3:=cell_fr F2 c3;clear hm c0 c1 c2 c3 hcc;have hgl2:=(hBh.o.fr F2 (by simp)).lt;have FF:=zh (fWh.o.trans F2);clear F2;cases m with
 |false=>
  have hr:=zh (opMay_a (o:=o) (by rw [hmm.o];simp));go_wp2_with fail
  go_ret;exact⟨ret_bool hr.o.symm,FF.o⟩
 |true=>
  have hb:=opMay_b (o:=o) (by rw [hed.o,hsq.o,hlo.o,hmm.o];simp only [not_or];have a1:=h1h.o;have a2:=h2h.o;have a3:=h3h.o;have a4:=h4h.o;have a5:=h5h.o;have a6:=h6h.o;refine⟨by omega,by omega,by omega,by omega,by omega,by omega,by simp⟩);rw [hsq.o,hkd.o,hed.o]at hb;have hbh:=zh hb;clear hb h1 h2 h3 h4 h5 h6;by_cases h0:sq=0
  ·subst h0;by_cases hk:kd=7
   ·subst hk;go_wp2_with fail
    go_ret;exact⟨ret_bool (by rw [hbh.o];by_cases h:ed=0<;>simp [h]),FF.o⟩
   ·have hkh:=zh hk;go_wp2_with fail
    go_ret;exact⟨ret_bool (by rw [hbh.o];simp [hkh.o]),FF.o⟩
  ·have h0h:=zh h0;go_wp2_with fail
   go_ret;exact⟨ret_bool (by rw [hbh.o,if_neg h0h.o];by_cases h:kd=7<;>simp [h]),FF.o⟩
end Go.Proofs.YtacljejoedbnkaaGreat
namespace Go.Proofs.YtacljejoedbnkaaGreat
open Go.RowKit Go.Sig
def opL (o:GOp) (A:Option Addr) (n d:Nat):List Value:= [.int .i64 o.edge,.int .i64 o.seq,.int .i64 o.low,.int .i64 o.c.kind,.string o.c.family,.int .i64 o.c.serial,.int .i64 o.c.token,.string o.c.client,.string o.c.user,.slice A n d,.string o.c.redirect,.string o.c.challenge,.string o.c.method,.string o.c.verifier,.bool o.c.refresh,.int .i64 o.c.edge]
theorem opL_V (o:GOp) (A:Option Addr) (n d:Nat):(opL o A n d).toArray=opV o A n d:=rfl
theorem blk_rangeO {w:World}{g:Nat}{t:TypeId}{l:List Value}(h:Blk w g t l.toArray):w.rangeAt g 0 l:=fun j v hv=>by
 rw [h.cell,Nat.zero_add,zG];exact hv
theorem range_frO {w w':World}{g:Nat}{l:List Value}(hf:Fr [] w w') (h:w.rangeAt g 0 l):w'.rangeAt g 0 l:=fun j v hv=>cell_fr hf (h j v hv)
set_option maxRecDepth 100000 in
set_option maxHeartbeats 8000000 in
theorem bmayL_t (w:World) (o:GOp) (A:Option Addr) (d:Nat) (hc:CmdIn w o.c A o.c.scope.length) (n:Int):
  Calls Tryz.prog 3 #[.agg (opV o A o.c.scope.length d),.int .i64 n] w fun e w'=>e= .returned (.bool true)∧Fr [] w w':=by
 have hch:=zh hc;clear hc;go_enter Tryz.func3,Tryz.ntmps3;go_upto_region 1 with(fail)
 refine wp_gen (fun W=>Blk W w.heap.size 26 (opV o A o.c.scope.length d)∧Fr [] w W) ⟨Blk.new _ _ _,(Fr.refl _ _).alloc _⟩ ?_;rintro W0 ⟨hC,f0⟩;obtain⟨gc,HGC⟩:∃z,Hid (w.heap.size=z):=⟨_,zh rfl⟩
 rw [HGC.o]at hC⊢;have hCh:=zh hC;have F0:=zh f0;have c9:=hC.cell 9;unfold opV at c9;simp only [zG,zH,zI]at c9;have hcl:=hC.lt;have hkn:=bknown_t W0;clear hC f0;by_cases k1:100<o.c.scope.length
 ·have d1:decide (100<(o.c.scope.length:Int))=true:=decide_eq_true (by omega);clear k1;go_wp2_with fail
  refine Calls.mono (show Calls Tryz.prog 14 _ _ _ from hkn) ?_;rintro e V9 ⟨rfl,G9⟩;have G9h:=zh (F0.o.trans G9);clear hkn G9;go_wp2_with fail
  go_ret;exact⟨rfl,G9h.o⟩
 ·have d1:decide (100<(o.c.scope.length:Int))=false:=decide_eq_false (by omega);clear k1;by_cases hn:1≤n∧n≤256
  ·have hnew:=bnew_t W0 n hn.1 hn.2;unfold BNewPost at hnew;have g1:decide (1≤n)=true:=decide_eq_true hn.1;have g2:decide (n≤256)=true:=decide_eq_true hn.2;clear hn hkn;go_wp2_with fail
   refine Calls.mono (show Calls Tryz.prog 15 _ _ _ from hnew) ?_;rintro e W5 ⟨pb,p,mb,t,me,rfl,hB1,hlo,F1⟩;have F5:=zh F1;clear hnew hB1 F1 hlo;have rC:=blk_rangeO (l:=opL o A o.c.scope.length d) (hCh.o.fr F5.o (by simp));have FF5:=zh (F0.o.trans F5.o);have hkn5:=bknown_t W5.drew;have hci:=zh (fun(v:World) (hv:Fr [] W5 v)=>hch.o.fr (FF5.o.trans hv) (by simp [Off]));obtain⟨mv,hmv⟩:∃z,Hid (opMay o=z):=⟨_,zh rfl⟩
   have eqm:(mv==mv)=true:=beq_self_eq_true _;clear c9 hcl d1;go_upto_region 4 with(fail)
   refine wp_region_z (fun w'=>w'.rangeAt gc 0 (opL o A o.c.scope.length d)) [] (by kernel_rfl) rC ?_;intro hHeld;refine wpZ_one (i:=0) (by kernel_rfl) rfl (fun K hK=> ?_);go_simp;refine Calls.mono (show Calls Tryz.prog 14 _ _ _ from hkn5) ?_;rintro e Y1 ⟨rfl,GY1⟩;have GY1:Fr [] W5 Y1:=GY1.of_drew;have fy1:Fr [] W5 Y1:=GY1;try dsimp only
   refine hK.out _ _ (range_frO fy1 rC) (fun hHeld=> ?_);clear hK K;try simp only [zA,zB,zC,Act.put,zD,zE,zF]
   refine wpZ_tk (i:=1) (v:= ?_) hHeld ?_ ?_;rotate_left
   ·(intro w hSw;go_simp<;>with_reducible rfl)
   try simp only [zA,zB,zC,Act.put,zD,zE,zF]
   refine wpZ_take (i:=2) rfl (by kernel_rfl) (by kernel_rfl) (by kernel_rfl) (by kernel_rfl) (fun _ _ _ h=>h) (yieldsIf_load_mid (by kernel_rfl) 26 _ rfl gc 0 rfl (opL o A o.c.scope.length d) _ (fun w h=>h) uOp rfl (by kernel_rfl)) hHeld ?_;try simp only [zA,zB,zC,Act.put,zD,zE,zF]
   refine wpZ_take (i:=4) rfl (by kernel_rfl) (by kernel_rfl) (by kernel_rfl) (by kernel_rfl) (fun _ _ _ h=>h) (yieldsIf_load_mid (by kernel_rfl) 26 _ rfl gc 0 rfl (opL o A o.c.scope.length d) _ (fun w h=>h) uOp rfl (by kernel_rfl)) hHeld ?_;try simp only [zA,zB,zC,Act.put,zD,zE,zF]
   refine wpZ_one (i:=3) (by kernel_rfl) rfl (fun K hK=> ?_);go_simp;refine Calls.mono (show Calls Tryz.prog 16 _ _ _ from(by have r:=bMay_t Y1 o A o.c.scope.length d (hci.o Y1 fy1);rwa [hmv.o]at r)) ?_;rintro e Y2 ⟨rfl,GY2⟩;have GY2:Fr [] Y1 Y2:=GY2;have fy2:Fr [] W5 Y2:=fy1.trans GY2;try dsimp only
   refine hK.out _ _ (range_frO fy2 rC) (fun hHeld=> ?_);clear hK K;try simp only [zA,zB,zC,Act.put,zD,zE,zF]
   refine wpZ_one (i:=5) (by kernel_rfl) rfl (fun K hK=> ?_);go_simp;refine Calls.mono (show Calls Tryz.prog 17 _ _ _ from(by have r:=rMay18_t Y2 o A o.c.scope.length d (hci.o Y2 fy2);rwa [hmv.o]at r)) ?_;rintro e Y3 ⟨rfl,GY3⟩;have GY3:Fr [] Y2 Y3:=GY3;have fy3:Fr [] W5 Y3:=fy2.trans GY3;try dsimp only
   refine hK.out _ _ (range_frO fy3 rC) (fun hHeld=> ?_);clear hK K;try simp only [zA,zB,zC,Act.put,zD,zE,zF]
   refine wpZ_tk (i:=6) (v:= ?_) hHeld ?_ ?_;rotate_left
   ·(intro w hSw;go_simp<;>with_reducible rfl)
   try simp only [zA,zB,zC,Act.put,zD,zE,zF]
   refine wpZ_tk (i:=7) (v:= ?_) hHeld ?_ ?_;rotate_left
   ·(intro w hSw;go_simp<;>with_reducible rfl)
   try simp only [zA,zB,zC,Act.put,zD,zE,zF]
   refine wpZ_tk (i:=8) (v:= ?_) hHeld ?_ ?_;rotate_left
   ·(intro w hSw;go_simp<;>with_reducible rfl)
   try simp only [zA,zB,zC,Act.put,zD,zE,zF]
   refine wpZ_tk (i:=9) (v:= ?_) hHeld ?_ ?_;rotate_left
   ·(intro w hSw;go_simp<;>with_reducible rfl)
   try simp only [zA,zB,zC,Act.put,zD,zE,zF]
   refine wpZ_tk (i:=10) (v:= ?_) hHeld ?_ ?_;rotate_left
   ·(intro w hSw;go_simp<;>with_reducible rfl)
   try simp only [zA,zB,zC,Act.put,zD,zE,zF]
   refine wpZ_tk (i:=11) (v:= ?_) hHeld ?_ ?_;rotate_left
   ·(intro w hSw;go_simp<;>with_reducible rfl)
   try simp only [zA,zB,zC,Act.put,zD,zE,zF]
   refine wpZ_tk (i:=12) (v:= ?_) hHeld ?_ ?_;rotate_left
   ·(intro w hSw;go_simp<;>with_reducible rfl)
   try simp only [zA,zB,zC,Act.put,zD,zE,zF]
   refine wpZ_tk (i:=13) (v:= ?_) hHeld ?_ ?_;rotate_left
   ·(intro w hSw;go_simp<;>with_reducible rfl)
   try simp only [zA,zB,zC,Act.put,zD,zE,zF]
   refine wpZ_tk (i:=14) (v:= ?_) hHeld ?_ ?_;rotate_left
   ·(intro w hSw;go_simp<;>with_reducible rfl)
   try simp only [zA,zB,zC,Act.put,zD,zE,zF]
   refine wpZ_tk (i:=15) (v:= ?_) hHeld ?_ ?_;rotate_left
   ·(intro w hSw;go_simp<;>with_reducible rfl)
   try simp only [zA,zB,zC,Act.put,zD,zE,zF]
   refine wpZ_tk (i:=16) (v:= ?_) hHeld ?_ ?_;rotate_left
   ·(intro w hSw;go_simp<;>with_reducible rfl)
   try simp only [zA,zB,zC,Act.put,zD,zE,zF]
   refine wpZ_tk (i:=17) (v:= ?_) hHeld ?_ ?_;rotate_left
   ·(intro w hSw;go_simp<;>with_reducible rfl)
   try simp only [zA,zB,zC,Act.put,zD,zE,zF]
   refine wpZ_tk (i:=18) (v:= ?_) hHeld ?_ ?_;rotate_left
   ·(intro w hSw;go_simp<;>with_reducible rfl)
   try simp only [zA,zB,zC,Act.put,zD,zE,zF]
   refine wpZ_tk (i:=19) (v:= ?_) hHeld ?_ ?_;rotate_left
   ·(intro w hSw;go_simp<;>with_reducible rfl)
   try simp only [zA,zB,zC,Act.put,zD,zE,zF]
   refine wpZ_tk (i:=20) (v:= ?_) hHeld ?_ ?_;rotate_left
   ·(intro w hSw;go_simp<;>with_reducible rfl)
   try simp only [zA,zB,zC,Act.put,zD,zE,zF]
   refine wpZ_tk (i:=21) (v:= ?_) hHeld ?_ ?_;rotate_left
   ·(intro w hSw;go_simp<;>with_reducible rfl)
   try simp only [zA,zB,zC,Act.put,zD,zE,zF]
   refine wpZ_tk (i:=22) (v:= ?_) hHeld ?_ ?_;rotate_left
   ·(intro w hSw;go_simp<;>with_reducible rfl)
   try simp only [zA,zB,zC,Act.put,zD,zE,zF]
   refine wpZ_tk (i:=23) (v:= ?_) hHeld ?_ ?_;rotate_left
   ·(intro w hSw;go_simp<;>with_reducible rfl)
   try simp only [zA,zB,zC,Act.put,zD,zE,zF]
   refine wpZ_tk (i:=24) (v:= ?_) hHeld ?_ ?_;rotate_left
   ·(intro w hSw;go_simp<;>with_reducible rfl)
   try simp only [zA,zB,zC,Act.put,zD,zE,zF]
   refine wpZ_tk (i:=25) (v:= ?_) hHeld ?_ ?_;rotate_left
   ·(intro w hSw;go_simp<;>with_reducible rfl)
   try simp only [zA,zB,zC,Act.put,zD,zE,zF]
   refine wpZ_tk (i:=26) (v:= ?_) hHeld ?_ ?_;rotate_left
   ·(intro w hSw;go_simp<;>with_reducible rfl)
   try simp only [zA,zB,zC,Act.put,zD,zE,zF]
   refine wpZ_tk (i:=27) (v:= ?_) hHeld ?_ ?_;rotate_left
   ·(intro w hSw;go_simp<;>with_reducible rfl)
   try simp only [zA,zB,zC,Act.put,zD,zE,zF]
   refine wpZ_tk (i:=28) (v:= ?_) hHeld ?_ ?_;rotate_left
   ·(intro w hSw;go_simp<;>with_reducible rfl)
   try simp only [zA,zB,zC,Act.put,zD,zE,zF]
   refine wpZ_tk (i:=29) (v:= ?_) hHeld ?_ ?_;rotate_left
   ·(intro w hSw;go_simp<;>with_reducible rfl)
   try simp only [zA,zB,zC,Act.put,zD,zE,zF]
   refine wpZ_take (i:=30) (v:=undef) rfl (by kernel_rfl) (by kernel_rfl) (by kernel_rfl) (by kernel_rfl) (fun _ _ _ h=>h) (Or.inr ⟨by rfl,rfl⟩) hHeld ?_;try simp only [zA,zB,zC,Act.put,zD,zE,zF]
   refine wpZ_take (i:=31) (v:=undef) rfl (by kernel_rfl) (by kernel_rfl) (by kernel_rfl) (by kernel_rfl) (fun _ _ _ h=>h) (Or.inr ⟨by rfl,rfl⟩) hHeld ?_;try simp only [zA,zB,zC,Act.put,zD,zE,zF]
   refine wpZ_tk (i:=32) (v:= ?_) hHeld ?_ ?_;rotate_left
   ·(intro w hSw;go_simp<;>with_reducible rfl)
   try simp only [zA,zB,zC,Act.put,zD,zE,zF]
   refine wpZ_tk (i:=33) (v:= ?_) hHeld ?_ ?_;rotate_left
   ·(intro w hSw;go_simp<;>with_reducible rfl)
   try simp only [zA,zB,zC,Act.put,zD,zE,zF]
   refine wpZ_tk (i:=34) (v:= ?_) hHeld ?_ ?_;rotate_left
   ·(intro w hSw;go_simp<;>with_reducible rfl)
   try simp only [zA,zB,zC,Act.put,zD,zE,zF]
   refine wpZ_done (by kernel_rfl) ?_ _;go_wp2_with fail
   go_ret;exact⟨rfl,FF5.o.trans fy3⟩
  ·have hnew:=bnew_bad W0 n (by omega);have g12:=zh (show(decide (1≤n)&&decide (n≤256))=false by
    rw [Bool.and_eq_false_iff,decide_eq_false_iff_not,decide_eq_false_iff_not];omega)
   clear hn hkn;cases g1:decide (1≤n)with
   |false=>
    go_wp2_with fail
    refine Calls.mono (show Calls Tryz.prog 15 _ _ _ from hnew) ?_;rintro e W5 ⟨rfl,rfl⟩;have F5:=zh (Fr.refl [] W0);clear hnew g12;have rC:=blk_rangeO (l:=opL o A o.c.scope.length d) (hCh.o.fr F5.o (by simp));have FF5:=zh (F0.o.trans F5.o);have hkn5:=bknown_t W0.drew;have hci:=zh (fun(v:World) (hv:Fr [] W0 v)=>hch.o.fr (FF5.o.trans hv) (by simp [Off]));obtain⟨mv,hmv⟩:∃z,Hid (opMay o=z):=⟨_,zh rfl⟩
    have eqm:(mv==mv)=true:=beq_self_eq_true _;clear c9 hcl d1;go_upto_region 4 with(fail)
    refine wp_region_z (fun w'=>w'.rangeAt gc 0 (opL o A o.c.scope.length d)) [] (by kernel_rfl) rC ?_;intro hHeld;refine wpZ_one (i:=0) (by kernel_rfl) rfl (fun K hK=> ?_);go_simp;refine Calls.mono (show Calls Tryz.prog 14 _ _ _ from hkn5) ?_;rintro e Y1 ⟨rfl,GY1⟩;have GY1:Fr [] W0 Y1:=GY1.of_drew;have fy1:Fr [] W0 Y1:=GY1;try dsimp only
    refine hK.out _ _ (range_frO fy1 rC) (fun hHeld=> ?_);clear hK K;try simp only [zA,zB,zC,Act.put,zD,zE,zF]
    refine wpZ_tk (i:=1) (v:= ?_) hHeld ?_ ?_;rotate_left
    ·(intro w hSw;go_simp<;>with_reducible rfl)
    try simp only [zA,zB,zC,Act.put,zD,zE,zF]
    refine wpZ_take (i:=2) rfl (by kernel_rfl) (by kernel_rfl) (by kernel_rfl) (by kernel_rfl) (fun _ _ _ h=>h) (yieldsIf_load_mid (by kernel_rfl) 26 _ rfl gc 0 rfl (opL o A o.c.scope.length d) _ (fun w h=>h) uOp rfl (by kernel_rfl)) hHeld ?_;try simp only [zA,zB,zC,Act.put,zD,zE,zF]
    refine wpZ_take (i:=4) rfl (by kernel_rfl) (by kernel_rfl) (by kernel_rfl) (by kernel_rfl) (fun _ _ _ h=>h) (yieldsIf_load_mid (by kernel_rfl) 26 _ rfl gc 0 rfl (opL o A o.c.scope.length d) _ (fun w h=>h) uOp rfl (by kernel_rfl)) hHeld ?_;try simp only [zA,zB,zC,Act.put,zD,zE,zF]
    refine wpZ_one (i:=3) (by kernel_rfl) rfl (fun K hK=> ?_);go_simp;refine Calls.mono (show Calls Tryz.prog 16 _ _ _ from(by have r:=bMay_t Y1 o A o.c.scope.length d (hci.o Y1 fy1);rwa [hmv.o]at r)) ?_;rintro e Y2 ⟨rfl,GY2⟩;have GY2:Fr [] Y1 Y2:=GY2;have fy2:Fr [] W0 Y2:=fy1.trans GY2;try dsimp only
    refine hK.out _ _ (range_frO fy2 rC) (fun hHeld=> ?_);clear hK K;try simp only [zA,zB,zC,Act.put,zD,zE,zF]
    refine wpZ_one (i:=5) (by kernel_rfl) rfl (fun K hK=> ?_);go_simp;refine Calls.mono (show Calls Tryz.prog 17 _ _ _ from(by have r:=rMay18_t Y2 o A o.c.scope.length d (hci.o Y2 fy2);rwa [hmv.o]at r)) ?_;rintro e Y3 ⟨rfl,GY3⟩;have GY3:Fr [] Y2 Y3:=GY3;have fy3:Fr [] W0 Y3:=fy2.trans GY3;try dsimp only
    refine hK.out _ _ (range_frO fy3 rC) (fun hHeld=> ?_);clear hK K;try simp only [zA,zB,zC,Act.put,zD,zE,zF]
    refine wpZ_tk (i:=6) (v:= ?_) hHeld ?_ ?_;rotate_left
    ·(intro w hSw;go_simp<;>with_reducible rfl)
    try simp only [zA,zB,zC,Act.put,zD,zE,zF]
    refine wpZ_tk (i:=7) (v:= ?_) hHeld ?_ ?_;rotate_left
    ·(intro w hSw;go_simp<;>with_reducible rfl)
    try simp only [zA,zB,zC,Act.put,zD,zE,zF]
    refine wpZ_tk (i:=8) (v:= ?_) hHeld ?_ ?_;rotate_left
    ·(intro w hSw;go_simp<;>with_reducible rfl)
    try simp only [zA,zB,zC,Act.put,zD,zE,zF]
    refine wpZ_tk (i:=9) (v:= ?_) hHeld ?_ ?_;rotate_left
    ·(intro w hSw;go_simp<;>with_reducible rfl)
    try simp only [zA,zB,zC,Act.put,zD,zE,zF]
    refine wpZ_tk (i:=10) (v:= ?_) hHeld ?_ ?_;rotate_left
    ·(intro w hSw;go_simp<;>with_reducible rfl)
    try simp only [zA,zB,zC,Act.put,zD,zE,zF]
    refine wpZ_tk (i:=11) (v:= ?_) hHeld ?_ ?_;rotate_left
    ·(intro w hSw;go_simp<;>with_reducible rfl)
    try simp only [zA,zB,zC,Act.put,zD,zE,zF]
    refine wpZ_tk (i:=12) (v:= ?_) hHeld ?_ ?_;rotate_left
    ·(intro w hSw;go_simp<;>with_reducible rfl)
    try simp only [zA,zB,zC,Act.put,zD,zE,zF]
    refine wpZ_tk (i:=13) (v:= ?_) hHeld ?_ ?_;rotate_left
    ·(intro w hSw;go_simp<;>with_reducible rfl)
    try simp only [zA,zB,zC,Act.put,zD,zE,zF]
    refine wpZ_take (i:=14) (v:=undef) rfl (by kernel_rfl) (by kernel_rfl) (by kernel_rfl) (by kernel_rfl) (fun _ _ _ h=>h) (Or.inr ⟨by rfl,rfl⟩) hHeld ?_;try simp only [zA,zB,zC,Act.put,zD,zE,zF]
    refine wpZ_take (i:=15) (v:=undef) rfl (by kernel_rfl) (by kernel_rfl) (by kernel_rfl) (by kernel_rfl) (fun _ _ _ h=>h) (Or.inr ⟨by rfl,rfl⟩) hHeld ?_;try simp only [zA,zB,zC,Act.put,zD,zE,zF]
    refine wpZ_tk (i:=16) (v:= ?_) hHeld ?_ ?_;rotate_left
    ·(intro w hSw;go_simp<;>with_reducible rfl)
    try simp only [zA,zB,zC,Act.put,zD,zE,zF]
    refine wpZ_tk (i:=17) (v:= ?_) hHeld ?_ ?_;rotate_left
    ·(intro w hSw;go_simp<;>with_reducible rfl)
    try simp only [zA,zB,zC,Act.put,zD,zE,zF]
    refine wpZ_tk (i:=18) (v:= ?_) hHeld ?_ ?_;rotate_left
    ·(intro w hSw;go_simp<;>with_reducible rfl)
    try simp only [zA,zB,zC,Act.put,zD,zE,zF]
    refine wpZ_tk (i:=19) (v:= ?_) hHeld ?_ ?_;rotate_left
    ·(intro w hSw;go_simp<;>with_reducible rfl)
    try simp only [zA,zB,zC,Act.put,zD,zE,zF]
    refine wpZ_tk (i:=20) (v:= ?_) hHeld ?_ ?_;rotate_left
    ·(intro w hSw;go_simp<;>with_reducible rfl)
    try simp only [zA,zB,zC,Act.put,zD,zE,zF]
    refine wpZ_tk (i:=21) (v:= ?_) hHeld ?_ ?_;rotate_left
    ·(intro w hSw;go_simp<;>with_reducible rfl)
    try simp only [zA,zB,zC,Act.put,zD,zE,zF]
    refine wpZ_tk (i:=22) (v:= ?_) hHeld ?_ ?_;rotate_left
    ·(intro w hSw;go_simp<;>with_reducible rfl)
    try simp only [zA,zB,zC,Act.put,zD,zE,zF]
    refine wpZ_tk (i:=23) (v:= ?_) hHeld ?_ ?_;rotate_left
    ·(intro w hSw;go_simp<;>with_reducible rfl)
    try simp only [zA,zB,zC,Act.put,zD,zE,zF]
    refine wpZ_tk (i:=24) (v:= ?_) hHeld ?_ ?_;rotate_left
    ·(intro w hSw;go_simp<;>with_reducible rfl)
    try simp only [zA,zB,zC,Act.put,zD,zE,zF]
    refine wpZ_tk (i:=25) (v:= ?_) hHeld ?_ ?_;rotate_left
    ·(intro w hSw;go_simp<;>with_reducible rfl)
    try simp only [zA,zB,zC,Act.put,zD,zE,zF]
    refine wpZ_tk (i:=26) (v:= ?_) hHeld ?_ ?_;rotate_left
    ·(intro w hSw;go_simp<;>with_reducible rfl)
    try simp only [zA,zB,zC,Act.put,zD,zE,zF]
    refine wpZ_tk (i:=27) (v:= ?_) hHeld ?_ ?_;rotate_left
    ·(intro w hSw;go_simp<;>with_reducible rfl)
    try simp only [zA,zB,zC,Act.put,zD,zE,zF]
    refine wpZ_tk (i:=28) (v:= ?_) hHeld ?_ ?_;rotate_left
    ·(intro w hSw;go_simp<;>with_reducible rfl)
    try simp only [zA,zB,zC,Act.put,zD,zE,zF]
    refine wpZ_tk (i:=29) (v:= ?_) hHeld ?_ ?_;rotate_left
    ·(intro w hSw;go_simp<;>with_reducible rfl)
    try simp only [zA,zB,zC,Act.put,zD,zE,zF]
    refine wpZ_tk (i:=30) (v:= ?_) hHeld ?_ ?_;rotate_left
    ·(intro w hSw;go_simp<;>with_reducible rfl)
    try simp only [zA,zB,zC,Act.put,zD,zE,zF]
    refine wpZ_tk (i:=31) (v:= ?_) hHeld ?_ ?_;rotate_left
    ·(intro w hSw;go_simp<;>with_reducible rfl)
    try simp only [zA,zB,zC,Act.put,zD,zE,zF]
    refine wpZ_tk (i:=32) (v:= ?_) hHeld ?_ ?_;rotate_left
    ·(intro w hSw;go_simp<;>with_reducible rfl)
    try simp only [zA,zB,zC,Act.put,zD,zE,zF]
    refine wpZ_tk (i:=33) (v:= ?_) hHeld ?_ ?_;rotate_left
    ·(intro w hSw;go_simp<;>with_reducible rfl)
    try simp only [zA,zB,zC,Act.put,zD,zE,zF]
    refine wpZ_tk (i:=34) (v:= ?_) hHeld ?_ ?_;rotate_left
    ·(intro w hSw;go_simp<;>with_reducible rfl)
    try simp only [zA,zB,zC,Act.put,zD,zE,zF]
    refine wpZ_done (by kernel_rfl) ?_ _;go_wp2_with fail
    go_ret;exact⟨rfl,FF5.o.trans fy3⟩
   |true=>
    have g2:decide (n≤256)=false:=by have:=g12.o;rw [g1]at this;simpa using this
    go_wp2_with fail
    refine Calls.mono (show Calls Tryz.prog 15 _ _ _ from hnew) ?_;rintro e W5 ⟨rfl,rfl⟩;have F5:=zh (Fr.refl [] W0);clear hnew g12;have rC:=blk_rangeO (l:=opL o A o.c.scope.length d) (hCh.o.fr F5.o (by simp));have FF5:=zh (F0.o.trans F5.o);have hkn5:=bknown_t W0.drew;have hci:=zh (fun(v:World) (hv:Fr [] W0 v)=>hch.o.fr (FF5.o.trans hv) (by simp [Off]));obtain⟨mv,hmv⟩:∃z,Hid (opMay o=z):=⟨_,zh rfl⟩
    have eqm:(mv==mv)=true:=beq_self_eq_true _;clear c9 hcl d1;go_upto_region 4 with(fail)
    refine wp_region_z (fun w'=>w'.rangeAt gc 0 (opL o A o.c.scope.length d)) [] (by kernel_rfl) rC ?_;intro hHeld;refine wpZ_one (i:=0) (by kernel_rfl) rfl (fun K hK=> ?_);go_simp;refine Calls.mono (show Calls Tryz.prog 14 _ _ _ from hkn5) ?_;rintro e Y1 ⟨rfl,GY1⟩;have GY1:Fr [] W0 Y1:=GY1.of_drew;have fy1:Fr [] W0 Y1:=GY1;try dsimp only
    refine hK.out _ _ (range_frO fy1 rC) (fun hHeld=> ?_);clear hK K;try simp only [zA,zB,zC,Act.put,zD,zE,zF]
    refine wpZ_tk (i:=1) (v:= ?_) hHeld ?_ ?_;rotate_left
    ·(intro w hSw;go_simp<;>with_reducible rfl)
    try simp only [zA,zB,zC,Act.put,zD,zE,zF]
    refine wpZ_take (i:=2) rfl (by kernel_rfl) (by kernel_rfl) (by kernel_rfl) (by kernel_rfl) (fun _ _ _ h=>h) (yieldsIf_load_mid (by kernel_rfl) 26 _ rfl gc 0 rfl (opL o A o.c.scope.length d) _ (fun w h=>h) uOp rfl (by kernel_rfl)) hHeld ?_;try simp only [zA,zB,zC,Act.put,zD,zE,zF]
    refine wpZ_take (i:=4) rfl (by kernel_rfl) (by kernel_rfl) (by kernel_rfl) (by kernel_rfl) (fun _ _ _ h=>h) (yieldsIf_load_mid (by kernel_rfl) 26 _ rfl gc 0 rfl (opL o A o.c.scope.length d) _ (fun w h=>h) uOp rfl (by kernel_rfl)) hHeld ?_;try simp only [zA,zB,zC,Act.put,zD,zE,zF]
    refine wpZ_one (i:=3) (by kernel_rfl) rfl (fun K hK=> ?_);go_simp;refine Calls.mono (show Calls Tryz.prog 16 _ _ _ from(by have r:=bMay_t Y1 o A o.c.scope.length d (hci.o Y1 fy1);rwa [hmv.o]at r)) ?_;rintro e Y2 ⟨rfl,GY2⟩;have GY2:Fr [] Y1 Y2:=GY2;have fy2:Fr [] W0 Y2:=fy1.trans GY2;try dsimp only
    refine hK.out _ _ (range_frO fy2 rC) (fun hHeld=> ?_);clear hK K;try simp only [zA,zB,zC,Act.put,zD,zE,zF]
    refine wpZ_one (i:=5) (by kernel_rfl) rfl (fun K hK=> ?_);go_simp;refine Calls.mono (show Calls Tryz.prog 17 _ _ _ from(by have r:=rMay18_t Y2 o A o.c.scope.length d (hci.o Y2 fy2);rwa [hmv.o]at r)) ?_;rintro e Y3 ⟨rfl,GY3⟩;have GY3:Fr [] Y2 Y3:=GY3;have fy3:Fr [] W0 Y3:=fy2.trans GY3;try dsimp only
    refine hK.out _ _ (range_frO fy3 rC) (fun hHeld=> ?_);clear hK K;try simp only [zA,zB,zC,Act.put,zD,zE,zF]
    refine wpZ_tk (i:=6) (v:= ?_) hHeld ?_ ?_;rotate_left
    ·(intro w hSw;go_simp<;>with_reducible rfl)
    try simp only [zA,zB,zC,Act.put,zD,zE,zF]
    refine wpZ_tk (i:=7) (v:= ?_) hHeld ?_ ?_;rotate_left
    ·(intro w hSw;go_simp<;>with_reducible rfl)
    try simp only [zA,zB,zC,Act.put,zD,zE,zF]
    refine wpZ_tk (i:=8) (v:= ?_) hHeld ?_ ?_;rotate_left
    ·(intro w hSw;go_simp<;>with_reducible rfl)
    try simp only [zA,zB,zC,Act.put,zD,zE,zF]
    refine wpZ_tk (i:=9) (v:= ?_) hHeld ?_ ?_;rotate_left
    ·(intro w hSw;go_simp<;>with_reducible rfl)
    try simp only [zA,zB,zC,Act.put,zD,zE,zF]
    refine wpZ_tk (i:=10) (v:= ?_) hHeld ?_ ?_;rotate_left
    ·(intro w hSw;go_simp<;>with_reducible rfl)
    try simp only [zA,zB,zC,Act.put,zD,zE,zF]
    refine wpZ_tk (i:=11) (v:= ?_) hHeld ?_ ?_;rotate_left
    ·(intro w hSw;go_simp<;>with_reducible rfl)
    try simp only [zA,zB,zC,Act.put,zD,zE,zF]
    refine wpZ_tk (i:=12) (v:= ?_) hHeld ?_ ?_;rotate_left
    ·(intro w hSw;go_simp<;>with_reducible rfl)
    try simp only [zA,zB,zC,Act.put,zD,zE,zF]
    refine wpZ_tk (i:=13) (v:= ?_) hHeld ?_ ?_;rotate_left
    ·(intro w hSw;go_simp<;>with_reducible rfl)
    try simp only [zA,zB,zC,Act.put,zD,zE,zF]
    refine wpZ_tk (i:=14) (v:= ?_) hHeld ?_ ?_;rotate_left
    ·(intro w hSw;go_simp<;>with_reducible rfl)
    try simp only [zA,zB,zC,Act.put,zD,zE,zF]
    refine wpZ_tk (i:=15) (v:= ?_) hHeld ?_ ?_;rotate_left
    ·(intro w hSw;go_simp<;>with_reducible rfl)
    try simp only [zA,zB,zC,Act.put,zD,zE,zF]
    refine wpZ_tk (i:=16) (v:= ?_) hHeld ?_ ?_;rotate_left
    ·(intro w hSw;go_simp<;>with_reducible rfl)
    try simp only [zA,zB,zC,Act.put,zD,zE,zF]
    refine wpZ_tk (i:=17) (v:= ?_) hHeld ?_ ?_;rotate_left
    ·(intro w hSw;go_simp<;>with_reducible rfl)
    try simp only [zA,zB,zC,Act.put,zD,zE,zF]
    refine wpZ_tk (i:=18) (v:= ?_) hHeld ?_ ?_;rotate_left
    ·(intro w hSw;go_simp<;>with_reducible rfl)
    try simp only [zA,zB,zC,Act.put,zD,zE,zF]
    refine wpZ_tk (i:=19) (v:= ?_) hHeld ?_ ?_;rotate_left
    ·(intro w hSw;go_simp<;>with_reducible rfl)
    try simp only [zA,zB,zC,Act.put,zD,zE,zF]
    refine wpZ_tk (i:=20) (v:= ?_) hHeld ?_ ?_;rotate_left
    ·(intro w hSw;go_simp<;>with_reducible rfl)
    try simp only [zA,zB,zC,Act.put,zD,zE,zF]
    refine wpZ_tk (i:=21) (v:= ?_) hHeld ?_ ?_;rotate_left
    ·(intro w hSw;go_simp<;>with_reducible rfl)
    try simp only [zA,zB,zC,Act.put,zD,zE,zF]
    refine wpZ_tk (i:=22) (v:= ?_) hHeld ?_ ?_;rotate_left
    ·(intro w hSw;go_simp<;>with_reducible rfl)
    try simp only [zA,zB,zC,Act.put,zD,zE,zF]
    refine wpZ_tk (i:=23) (v:= ?_) hHeld ?_ ?_;rotate_left
    ·(intro w hSw;go_simp<;>with_reducible rfl)
    try simp only [zA,zB,zC,Act.put,zD,zE,zF]
    refine wpZ_tk (i:=24) (v:= ?_) hHeld ?_ ?_;rotate_left
    ·(intro w hSw;go_simp<;>with_reducible rfl)
    try simp only [zA,zB,zC,Act.put,zD,zE,zF]
    refine wpZ_tk (i:=25) (v:= ?_) hHeld ?_ ?_;rotate_left
    ·(intro w hSw;go_simp<;>with_reducible rfl)
    try simp only [zA,zB,zC,Act.put,zD,zE,zF]
    refine wpZ_tk (i:=26) (v:= ?_) hHeld ?_ ?_;rotate_left
    ·(intro w hSw;go_simp<;>with_reducible rfl)
    try simp only [zA,zB,zC,Act.put,zD,zE,zF]
    refine wpZ_tk (i:=27) (v:= ?_) hHeld ?_ ?_;rotate_left
    ·(intro w hSw;go_simp<;>with_reducible rfl)
    try simp only [zA,zB,zC,Act.put,zD,zE,zF]
    refine wpZ_tk (i:=28) (v:= ?_) hHeld ?_ ?_;rotate_left
    ·(intro w hSw;go_simp<;>with_reducible rfl)
    try simp only [zA,zB,zC,Act.put,zD,zE,zF]
    refine wpZ_tk (i:=29) (v:= ?_) hHeld ?_ ?_;rotate_left
    ·(intro w hSw;go_simp<;>with_reducible rfl)
    try simp only [zA,zB,zC,Act.put,zD,zE,zF]
    refine wpZ_tk (i:=30) (v:= ?_) hHeld ?_ ?_;rotate_left
    ·(intro w hSw;go_simp<;>with_reducible rfl)
    try simp only [zA,zB,zC,Act.put,zD,zE,zF]
    refine wpZ_tk (i:=31) (v:= ?_) hHeld ?_ ?_;rotate_left
    ·(intro w hSw;go_simp<;>with_reducible rfl)
    try simp only [zA,zB,zC,Act.put,zD,zE,zF]
    refine wpZ_tk (i:=32) (v:= ?_) hHeld ?_ ?_;rotate_left
    ·(intro w hSw;go_simp<;>with_reducible rfl)
    try simp only [zA,zB,zC,Act.put,zD,zE,zF]
    refine wpZ_tk (i:=33) (v:= ?_) hHeld ?_ ?_;rotate_left
    ·(intro w hSw;go_simp<;>with_reducible rfl)
    try simp only [zA,zB,zC,Act.put,zD,zE,zF]
    refine wpZ_tk (i:=34) (v:= ?_) hHeld ?_ ?_;rotate_left
    ·(intro w hSw;go_simp<;>with_reducible rfl)
    try simp only [zA,zB,zC,Act.put,zD,zE,zF]
    refine wpZ_done (by kernel_rfl) ?_ _;go_wp2_with fail
    go_ret;exact⟨rfl,FF5.o.trans fy3⟩
end Go.Proofs.YtacljejoedbnkaaGreat
