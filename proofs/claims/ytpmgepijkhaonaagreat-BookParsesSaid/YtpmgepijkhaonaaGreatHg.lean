/- Walk: what a command does. Conditions: each theorem's own. -/
import Derived.Test.YtpmgepijkhaonaaGreatHc
import Derived.Test.YtpmgepijkhaonaaGreatHd
import Derived.Test.YtpmgepijkhaonaaGreatHf
namespace Go.Proofs.YtpmgepijkhaonaaGreat
open Go.RowKit Go.Sig
def doFn (k:Int):Nat:=if k=1∨k=4 then 127 else if k=2 then 128 else if k=3 then 129 else if k=5 then 130 else if k=6 then 131 else 132
theorem cmd_t {w0 w:World}{p mb:Nat}{room:Int}{X:List Nat}{b:GBk}{c:GCmd}{A:Option Addr}{n d:Nat}{x:FA}{is:Bool}(h:Br w0 w p mb room X b c A n d x is) (hm:mayM c=true):
  Calls Tryz.prog (doFn c.kind) #[.pointer (some ⟨p,0,none⟩),.agg (cmdV c A n d),x.val,.bool is] w (AnsPost w0 mb X (doM room c b)):=by
 unfold doM;simp only [hm,Bool.true_eq_false,if_false];unfold doFn;by_cases h14:c.kind=1∨c.kind=4
 ·rw [if_pos h14,if_pos h14];exact begin_t h h14
 ·rw [if_neg h14,if_neg h14];by_cases h2:c.kind=2
  ·rw [if_pos h2,if_pos h2];exact redeem_t h
  ·rw [if_neg h2,if_neg h2];by_cases h3:c.kind=3
   ·rw [if_pos h3,if_pos h3];exact refresh_t h
   ·rw [if_neg h3,if_neg h3];by_cases h5:c.kind=5
    ·rw [if_pos h5,if_pos h5];exact revoke_t h
    ·rw [if_neg h5,if_neg h5];by_cases h6:c.kind=6
     ·rw [if_pos h6,if_pos h6];exact look_t h
     ·rw [if_neg h6,if_neg h6];exact done_t h
theorem enter_do (k:Int) (args:Array Value) (w:World):(callFunc (doFn k) args).run Tryz.prog w= .ok (.enter (doFn k) args) w:=by
 unfold doFn;split
 ·kernel_rfl
 ·split
  ·kernel_rfl
  ·split
   ·kernel_rfl
   ·split
    ·kernel_rfl
    ·split
     ·kernel_rfl
     ·kernel_rfl
theorem uCmd:Tryz.prog.underlying 70=some (.struct (Tryz.prog.fieldsOf 70)):=by kernel_rfl
theorem range_cells {w:World}{g:Nat}{t:TypeId}{cs:Array Value}(h:Blk w g t cs):w.rangeAt g 0 cs.toList:=fun j v hv=>by
 rw [h.cell,Nat.zero_add,←Array.getElem?_toList];exact hv
theorem range_fr1 {w w':World}{g:Nat}{cs:List Value}(hf:Fr [] w w') (h:w.rangeAt g 0 cs):w'.rangeAt g 0 cs:=fun j v hv=>cell_fr hf (h j v hv)
structure DoIn (w:World) (p mb:Nat) (room:Int) (X:List Nat) (b:GBk) (c:GCmd) (A:Option Addr) (n d:Nat):Prop where
 hp:Blk w p 183 #[.map (some mb),.int .i64 room]
 hb:BkIn w mb X b
 ok:BkOk b
 hX:∀g∈X,g<w.heap.size
 hmb:mb∈X
 hS:Rd w 1 A n (strCells c.scope)
 hn:c.scope.length=n
 hl:n≤150000000000000
 hs:∀s∈c.scope,s.size≤150000000000000
 hf:c.family.size≤150000000000000
theorem fam_short {w:World}{x:FA}(h:FamIn w [] x) (ok:FamOk x.f∨x.f=zeroF):Short x:=by
 have hl:=h.len;rcases ok with ok |ok
 ·refine⟨by have:=(setM_sizes ok.set).1;omega,by have:=ok.tokens;omega,by have:=leases_len ok.leases ok.edges;omega,fun t ht=> ?_⟩;have hm:t.tok∈x.f.tokens:=by rw [←h.ts];exact List.mem_map_of_mem ht
  have:=(setM_sizes (ok.each _ hm).set).1;omega
 ·rw [ok]at hl;have hts:x.ts= []:=List.eq_nil_of_length_eq_zero (by rw [hl];rfl);exact⟨by rw [ok];decide,by rw [hts];decide,by rw [ok];decide,fun t ht=>by rw [hts]at ht;cases ht⟩
set_option maxRecDepth 100000 in
set_option maxHeartbeats 4000000 in
theorem do_t {w:World}{p mb:Nat}{room:Int}{X:List Nat}{b:GBk}{c:GCmd}{A:Option Addr}{n d:Nat}(h:DoIn w p mb room X b c A n d):
  Calls Tryz.prog 77 #[.pointer (some ⟨p,0,none⟩),.agg (cmdV c A n d)] w (AnsPost w mb X (doM room c b)):=by
 have hh:=zh h;clear h;unfold cmdV;have hzs:∃zs:Array Value,zs.size=8∧Hid (zs=(AA.mk (noA 0) none 0).cells):=⟨_,rfl,zh rfl⟩
 obtain⟨zs,hz,hzh⟩:=hzs;go_enter Tryz.func77,Tryz.ntmps77;go_upto_region 1 with(fail)
 refine wp_gen (fun W=>Blk W w.heap.size 70 (cmdV c A n d)∧Blk W (w.heap.size+1) 67 zs∧Fr [] w W) ⟨(Blk.new _ _ _).alloc _,by rw [hzh.o];exact Blk.new' _ _ (by simp),((Fr.refl _ _).alloc _).alloc _⟩ ?_;rintro W ⟨hC,hR,fW⟩;obtain⟨gc,HGC⟩:∃z,Hid (w.heap.size=z):=⟨_,zh rfl⟩
 rw [HGC.o]at hC hR⊢;obtain⟨gr,HGR⟩:∃z,Hid (gc+1=z):=⟨_,zh rfl⟩
 rw [HGR.o]at hR⊢;have hgr:w.heap.size≤gr:=by have:=HGC.o;have:=HGR.o;omega
 have hcr:gc≠gr:=by have:=HGR.o;omega
 have hCh:=zh hC;have hRh:=zh hR;have fWh:=zh fW;have hmay:=may_t W c A n d (hh.o.hS.fr fW (by simp [Off])) hh.o.hn hh.o.hl hh.o.hs hh.o.hf;obtain⟨mv,hmv⟩:∃z,Hid (mayM c=z):=⟨_,zh rfl⟩
 rw [hmv.o]at hmay;have hmw:mb<w.heap.size:=hh.o.hb.lt;have hrl:=hR.lt;clear fW hR;go_wp2_with (refine wpList_load_at rfl 70 _ rfl rfl hC (sub_self _) uCmd rfl (by unfold cmdV;exact infoCmd) ?_;rw [Array.toArray_toList])
 refine hmay.mono ?_;rintro e W2 ⟨rfl,F2⟩;have F2h:=zh (fWh.o.trans F2);have hR2h:=zh (hRh.o.fr F2 (by simp));have hC2h:=zh (hCh.o.fr F2 (by simp));clear hmay F2 hC hrl;cases mv with
 |false=>
  have hres:=zh (show doM room c b=(b,noA 1) by unfold doM;rw [if_pos hmv.o]);have hno:=no_t W2 1;go_wp2_with fail
  refine hno.mono ?_;rintro e N2 ⟨rfl,FN⟩;have FNh:=zh (F2h.o.trans FN);have hRN:=hR2h.o.fr FN (by simp);have hrlN:=hRN.lt;clear hno FN;unfold AA.val AA.cells noA;go_wp2_with (refine wpList_store_row rfl 67 _ _ rfl gr _ rfl rfl 67 zs hRN infoAns (by rw [hz];rfl) (by kernel_rfl) ?_)
  refine bodyPost_ret (results_cell_row rfl _ _ gr 67 _ (0,0) _ rfl (Blk.setRow hRN _) uAns rfl infoAns) rfl ?_;exact ans_no (a:=noA 1) (Y:= [gr]) (bk_same hh.o.hb FNh.o (by simpa using hgr)) FNh.o.nil ((Fr.refl [gr] N2).setRow (.inl (by simp)) _) (fun g hg=>by simp at hg;rw [hg];exact⟨by simp,hgr⟩) hmw rfl hres.o
 |true=>
  have hmo:=zh (mayM_ok hmv.o);obtain⟨d0,d1,d2,d3,d4,d5,d6,d7,d8,d9,d10,d11,d12,hcl⟩:=cmdV_cells hC2h.o;clear d1 d2 d3 d4 d5 d6 d7 d8 d9 d10 d11 d12;go_upto_block 0 with(fail)
  go_cut [5]from 18 to 40 (fun s5 wx=>s5= .func (.func (doFn c.kind)) #[.pointer (some ⟨p,0,none⟩)] #[]∧W2=wx)
  case first=>
   have hfn:∀k:Nat,doFn c.kind=k→Value.func (.func k) #[.pointer (some ⟨p,0,none⟩)] #[]=Value.func (.func (doFn c.kind)) #[.pointer (some ⟨p,0,none⟩)] #[]:=fun k h=>by rw [h]
   have hfnh:=zh hfn;clear hfn d0 hcl;by_cases k1:c.kind=1
   ·have b1:(c.kind==1)=true:=by rw [beq_iff_eq];exact k1
    have hk:=zh (hfnh.o 127 (by unfold doFn;rw [if_pos (.inl k1)]));clear k1;go_wp2_with fail
    go_meet;exact⟨hk.o,rfl⟩
   ·have b1:(c.kind==1)=false:=by rw [beq_eq_false_iff_ne];exact k1
    by_cases k4:c.kind=4
    ·have b4:(c.kind==4)=true:=by rw [beq_iff_eq];exact k4
     have hk:=zh (hfnh.o 127 (by unfold doFn;rw [if_pos (.inr k4)]));clear k1 k4;go_wp2_with fail
     go_meet;exact⟨hk.o,rfl⟩
    ·have b4:(c.kind==4)=false:=by rw [beq_eq_false_iff_ne];exact k4
     have kn:=zh (show¬(c.kind=1∨c.kind=4)from fun h=>h.elim k1 k4);clear k1 k4;by_cases k2:c.kind=2
     ·have b2:(c.kind==2)=true:=by rw [beq_iff_eq];exact k2
      have hk:=zh (hfnh.o 128 (by unfold doFn;rw [if_neg kn.o,if_pos k2]));clear k2;go_wp2_with fail
      go_meet;exact⟨hk.o,rfl⟩
     ·have b2:(c.kind==2)=false:=by rw [beq_eq_false_iff_ne];exact k2
      by_cases k3:c.kind=3
      ·have b3:(c.kind==3)=true:=by rw [beq_iff_eq];exact k3
       have hk:=zh (hfnh.o 129 (by unfold doFn;rw [if_neg kn.o,if_neg k2,if_pos k3]));clear k2 k3;go_wp2_with fail
       go_meet;exact⟨hk.o,rfl⟩
      ·have b3:(c.kind==3)=false:=by rw [beq_eq_false_iff_ne];exact k3
       by_cases k5:c.kind=5
       ·have b5:(c.kind==5)=true:=by rw [beq_iff_eq];exact k5
        have hk:=zh (hfnh.o 130 (by unfold doFn;rw [if_neg kn.o,if_neg k2,if_neg k3,if_pos k5]));clear k2 k3 k5;go_wp2_with fail
        go_meet;exact⟨hk.o,rfl⟩
       ·have b5:(c.kind==5)=false:=by rw [beq_eq_false_iff_ne];exact k5
        by_cases k6:c.kind=6
        ·have b6:(c.kind==6)=true:=by rw [beq_iff_eq];exact k6
         have hk:=zh (hfnh.o 131 (by unfold doFn;rw [if_neg kn.o,if_neg k2,if_neg k3,if_neg k5,if_pos k6]));clear k2 k3 k5 k6;go_wp2_with fail
         go_meet;exact⟨hk.o,rfl⟩
        ·have b6:(c.kind==6)=false:=by rw [beq_eq_false_iff_ne];exact k6
         have hk:=zh (hfnh.o 132 (by unfold doFn;rw [if_neg kn.o,if_neg k2,if_neg k3,if_neg k5,if_neg k6]));clear k2 k3 k5 k6;go_wp2_with fail
         go_meet;exact⟨hk.o,rfl⟩
  case rest=>
   obtain⟨rfl,rfl⟩:=hcut;obtain⟨l,hl1,hl2,hl3⟩:=hh.o.hb;have hP2:=hh.o.hp.fr F2h.o (by simp);have hM2:=hl1.fr F2h.o (by simp);have e0:=hP2.cell 0;simp only [zG,zH]at e0;obtain⟨q0,d1,q2,q3,q4,q5,q6,q7,q8,q9,q10,q11,q12,hcl2⟩:=cmdV_cells hC2h.o;have hpl:=hP2.lt;have hl2h:=zh hl2;have hl3h:=zh hl3;have hP2h:=zh hP2;have hM2h:=zh hM2;obtain⟨x,hxe⟩:∃z,Hid ((aget c.family l).getD zeroFA=z):=⟨_,zh rfl⟩
   obtain⟨is,hise⟩:∃z,Hid ((aget c.family l).isSome=z):=⟨_,zh rfl⟩
   have hlook:∀W:World,IsMap W mb Value.string FA.val l→(Instr.lookup 181 (.map (some mb)) (.string c.family) true).run Tryz.prog W= .ok (.tuple #[x.val,.bool is]) W:=fun W hW=>by have h:=hW.run_lookup_ok kStr (z:=zeroFA.val) uMsf (fun w=>by kernel_rfl) c.family;rw [h,←hxe.o,←hise.o];cases aget c.family l<;>rfl
   have hlookh:=zh hlook;obtain⟨fn,hfne⟩:∃z,Hid (doFn c.kind=z):=⟨_,zh rfl⟩
   rw [hfne.o];clear hl1 hl2 hl3 hP2 hM2 q0 q2 q3 q4 q5 q6 q7 q8 q9 q10 q11 q12 hlook d0 hcl;go_upto_region 19 with(fail)
   refine wp_region_z (fun w'=>w'.cell? ⟨p,0,none⟩=some (.map (some mb))∧w'.cell? ⟨gc,1,none⟩=some (.string c.family)∧IsMap w' mb Value.string FA.val l) [] (by kernel_rfl) ⟨e0,d1,hM2h.o.fr ((Fr.refl [] W2).drew) (by simp)⟩ ?_;intro hHeld;refine wpZ_tk (i:=0) (v:= ?_) hHeld ?_ ?_;rotate_left
   ·(intro w hSw;go_simp<;>with_reducible rfl)
   try simp only [zA,zC,Act.put,zD,zE,zF]
   refine wpZ_tk (i:=1) (v:= ?_) hHeld ?_ ?_;rotate_left
   ·(intro w hSw;go_simp<;>with_reducible rfl)
   try simp only [zA,zB,zC,Act.put,zD,zE,zF]
   refine wpZ_tk (i:=2) (v:= ?_) hHeld ?_ ?_;rotate_left
   ·(intro w hSw;go_simp<;>with_reducible rfl)
   try simp only [zA,zB,zC,Act.put,zD,zE,zF]
   refine wpZ_tk (i:=3) (v:= ?_) hHeld ?_ ?_;rotate_left
   ·(intro w hSw;go_simp<;>with_reducible rfl)
   try simp only [zA,zB,zC,Act.put,zD,zE,zF]
   refine wpZ_tk (i:=4) (v:= ?_) hHeld ?_ ?_;rotate_left
   ·(intro w hSw;go_simp<;>with_reducible rfl)
   try simp only [zA,zB,zC,Act.put,zD,zE,zF]
   refine wpZ_tk (i:=5) (v:= ?_) hHeld ?_ ?_;rotate_left
   ·(intro w hSw;go_simp<;>with_reducible rfl)
   try simp only [zA,zB,zC,Act.put,zD,zE,zF]
   refine wpZ_take (i:=6) (v:= .tuple #[x.val,.bool is]) rfl (by kernel_rfl) (by kernel_rfl) (by kernel_rfl) (by kernel_rfl) (fun _ _ _ h=>h) (Or.inl ⟨by rfl,fun w hSw=> ?_⟩) hHeld ?_
   ·have hlk:=hlookh.o w hSw.2.2;clear hSw;go_simp
   try simp only [zA,zB,zC,Act.put,zD,zE,zF]
   refine wpZ_tk (i:=7) (v:= ?_) hHeld ?_ ?_;rotate_left
   ·(intro w hSw;go_simp<;>with_reducible rfl)
   try simp only [zA,zB,zC,Act.put,zD,zE,zF]
   refine wpZ_tk (i:=8) (v:= ?_) hHeld ?_ ?_;rotate_left
   ·(intro w hSw;go_simp<;>with_reducible rfl)
   try simp only [zA,zB,zC,Act.put,zD,zE,zF]
   refine wpZ_tk (i:=9) (v:= ?_) hHeld ?_ ?_;rotate_left
   ·(intro w hSw;go_simp<;>with_reducible rfl)
   try simp only [zA,zB,zC,Act.put,zD,zE,zF]
   refine wpZ_one (i:=10) (by kernel_rfl) rfl (fun K hK=> ?_);go_simp;refine hK.out _ _ ⟨cell_fr ((Fr.refl [] W2).drew.alloc _) e0,cell_fr ((Fr.refl [] W2).drew.alloc _) d1,hM2h.o.fr ((Fr.refl [] W2).drew.alloc _) (by simp)⟩ (fun hHeld=> ?_);clear hK K;try simp only [zA,zB,zC,Act.put,zD,zE,zF]
   refine wpZ_one (i:=11) (by kernel_rfl) rfl (fun K hK=> ?_);rw [if_pos (wanted_none rfl)];refine wp_store_row 26 _ _ rfl W2.heap.size x.cells rfl rfl 26 _ (Blk.new _ _ _) (by unfold FA.cells;exact infoFam) (by unfold FA.cells;kernel_rfl) (by unfold FA.cells;kernel_rfl) ?_;show K (Act.put _ none undef) _;refine hK.out _ _ ⟨cell_fr (((Fr.refl [] W2).drew.alloc _).setRow (.inr (Nat.le_refl _)) _) e0,cell_fr (((Fr.refl [] W2).drew.alloc _).setRow (.inr (Nat.le_refl _)) _) d1,hM2h.o.fr (((Fr.refl [] W2).drew.alloc _).setRow (.inr (Nat.le_refl _)) _) (by simp)⟩ (fun hHeld=> ?_);clear hK K;try simp only [Act.put]
   refine wpZ_tk (i:=12) (v:= ?_) hHeld ?_ ?_;rotate_left
   ·(intro w hSw;go_simp<;>with_reducible rfl)
   try simp only [zA,zB,zC,Act.put,zD,zE,zF]
   refine wpZ_done (by kernel_rfl) ?_ _;go_upto_region 20 with(fail)
   refine wp_gen (fun W3=>Blk W3 W2.heap.size 26 x.cells∧Fr [] W2 W3) ⟨Blk.setRow (Blk.new _ _ _) _,(((Fr.refl [] W2).drew.alloc _).setRow (.inr (Nat.le_refl _)) _)⟩ ?_;clear hHeld e0 d1 hcl2 hpl;rintro W3 ⟨hB3,F3⟩;obtain⟨g6,HG6⟩:∃z,Hid (W2.heap.size=z):=⟨_,zh rfl⟩
   rw [HG6.o]at hB3⊢;have hC3:=hC2h.o.fr F3 (by simp);have rC:=range_cells hC3;have rB:=range_cells hB3;have rC':W3.rangeAt gc 0 [.int .i64 c.kind,.string c.family,.int .i64 c.serial,.int .i64 c.token,.string c.client,.string c.user,.slice A n d,.string c.redirect,.string c.challenge,.string c.method,.string c.verifier,.bool c.refresh,.int .i64 c.edge]:=rC;have rB':W3.rangeAt g6 0 [.string x.f.id,.string x.f.client,.string x.f.user,.slice x.sA x.f.scope.length x.sc,.string x.f.redirect,.string x.f.challenge,.string x.f.method,.int .i64 x.f.code,.slice x.tA x.ts.length x.tc,.bool x.f.revoked,.slice x.lA x.f.leases.length x.lc]:=rB;have F03:=F2h.o.trans F3;have hxin0:FamIn w X x:=by
    rw [←hxe.o];cases hag:aget c.family l with
    |none=>exact zero_in _ _
    |some z=>exact hl3h.o _ (mem_of_aget hag)
   have hxin:FamIn W3 X x:=hxin0.fr F03.nil;have hgetb:aget c.family b=if is=true then some x.f else none:=by rw [←hl2h.o,aget_fa,←hxe.o,←hise.o];cases aget c.family l<;>rfl
   have hzero:is=false→x.f=zeroF:=fun h=>by
    rw [←hise.o]at h;rw [←hxe.o];cases hag:aget c.family l with
    |none=>rfl
    |some z=>rw [hag]at h;cases h
   have hokx:FamOk x.f∨x.f=zeroF:=by
    cases hiv:is with
    |false=>exact .inr (hzero hiv)
    |true=>rw [hiv,if_pos rfl]at hgetb;exact .inl (hh.o.ok.2 _ _ hgetb).2
   have hown:=own_t W3.drew x ((hxin.mono (by simp)).fr ((Fr.refl [] W3).drew)) (fam_short (hxin.mono (by simp)) hokx);have hgetbh:=zh hgetb;have hzeroh:=zh hzero;have F03h:=zh F03;have F3h:=zh F3;have hn32:n≤1000:=by have:=(setM_sizes hmo.o.set).1;have:=hh.o.hn;omega
   have hen:∀args w,(callFunc fn args).run Tryz.prog w= .ok (.enter fn args) w:=fun args w=>by rw [←hfne.o];exact enter_do _ _ _
   clear rC rB F03 hxin0 hxin hgetb hzero hokx F3 hB3 hC3;refine wp_region_z (fun w'=>w'.rangeAt gc 0 [.int .i64 c.kind,.string c.family,.int .i64 c.serial,.int .i64 c.token,.string c.client,.string c.user,.slice A n d,.string c.redirect,.string c.challenge,.string c.method,.string c.verifier,.bool c.refresh,.int .i64 c.edge]∧w'.rangeAt g6 0 [.string x.f.id,.string x.f.client,.string x.f.user,.slice x.sA x.f.scope.length x.sc,.string x.f.redirect,.string x.f.challenge,.string x.f.method,.int .i64 x.f.code,.slice x.tA x.ts.length x.tc,.bool x.f.revoked,.slice x.lA x.f.leases.length x.lc]) [6] (by kernel_rfl) ⟨rC',rB'⟩ ?_;intro hHeld;refine wpZ_tk (i:=0) (v:= ?_) hHeld ?_ ?_;rotate_left
   ·(intro w hSw;go_simp<;>with_reducible rfl)
   try simp only [zA,zC,Act.put,zD,zE,zF]
   refine wpZ_take (i:=1) rfl (by kernel_rfl) (by kernel_rfl) (by kernel_rfl) (by kernel_rfl) (fun _ _ _ h=>h) (yieldsIf_load_mid (by kernel_rfl) 70 _ rfl gc 0 rfl ([.int .i64 c.kind,.string c.family,.int .i64 c.serial,.int .i64 c.token,.string c.client,.string c.user,.slice A n d,.string c.redirect,.string c.challenge,.string c.method,.string c.verifier,.bool c.refresh,.int .i64 c.edge]) _ (fun w h=>h.1) uCmd rfl (by kernel_rfl)) hHeld ?_;try simp only [zA,zB,zC,Act.put,zD,zE,zF]
   refine wpZ_take (i:=2) rfl (by kernel_rfl) (by kernel_rfl) (by kernel_rfl) (by kernel_rfl) (fun _ _ _ h=>h) (yieldsIf_load_mid (by kernel_rfl) 26 _ rfl g6 0 rfl ([.string x.f.id,.string x.f.client,.string x.f.user,.slice x.sA x.f.scope.length x.sc,.string x.f.redirect,.string x.f.challenge,.string x.f.method,.int .i64 x.f.code,.slice x.tA x.ts.length x.tc,.bool x.f.revoked,.slice x.lA x.f.leases.length x.lc]) _ (fun w h=>h.2) uFam rfl (by kernel_rfl)) hHeld ?_;try simp only [zA,zB,zC,Act.put,zD,zE,zF]
   refine wpZ_tk (i:=4) (v:= ?_) hHeld ?_ ?_;rotate_left
   ·(intro w hSw;go_simp<;>with_reducible rfl)
   try simp only [zA,zB,zC,Act.put,zD,zE,zF]
   refine wpZ_one (i:=3) (by kernel_rfl) rfl (fun K hK=> ?_);go_simp;refine Calls.mono (show Calls Tryz.prog _ _ _ _ from hown) ?_;rintro e W4 ⟨y0,rfl,hy0,hw4,F4⟩;have F4:Fr [] W3 W4:=F4.of_drew;have hbr:Br W3 W4 p mb room (X++ [gr]) b c A n d y0 is:=⟨hh.o.hp.fr F03h.o (by simp),bk_same hh.o.hb F03h.o (by simpa using hgr),hh.o.ok,F4,hw4,by rw [hgetbh.o,hy0],fun h=>hy0.trans (hzeroh.o h),fun g hg=>by
    have h1:=F03h.o.size;rcases List.mem_append.1 hg with hg |hg
    ·have:=hh.o.hX g hg;omega
    ·have h2:=hR2h.o.lt;have h3:=F3h.o.size;simp at hg;omega,List.mem_append.2 (.inl hh.o.hmb),hh.o.hS.fr F03h.o (by simp [Off]),hh.o.hn,hn32,hmo.o⟩
   have hcmd:=cmd_t hbr hmv.o;rw [hfne.o]at hcmd;have hcmdh:=zh hcmd;clear hcmd hbr hw4 hy0;have r4:=range_fr1 F4 rC';have r5:=range_fr1 F4 rB';try dsimp only
   refine hK.out _ _ ⟨r4,r5⟩ (fun hHeld=> ?_);clear hK K;try simp only [zA,zB,zC,Act.put,zD,zE,zF]
   refine wpZ_one (i:=5) (by kernel_rfl) rfl (fun K hK=> ?_);go_simp;refine Calls.mono (show Calls Tryz.prog fn _ _ _ from hcmdh.o) ?_;rintro e W5 ⟨y,rfl,hy,hA5,hb5,F5⟩;have hgc5:mb≠gc:=by have:=HGC.o;omega
   have hg65:mb≠g6:=by have:=HG6.o;have:=F2h.o.size;omega
   have r6:W5.rangeAt gc 0 [.int .i64 c.kind,.string c.family,.int .i64 c.serial,.int .i64 c.token,.string c.client,.string c.user,.slice A n d,.string c.redirect,.string c.challenge,.string c.method,.string c.verifier,.bool c.refresh,.int .i64 c.edge]:=fun j v hv=>(F5.cell (p:=⟨gc,0+j,none⟩) (block_lt_of_cell (rC' j v hv)) (by simp;exact fun h=>hgc5 h.symm)).trans (rC' j v hv);have r7:W5.rangeAt g6 0 [.string x.f.id,.string x.f.client,.string x.f.user,.slice x.sA x.f.scope.length x.sc,.string x.f.redirect,.string x.f.challenge,.string x.f.method,.int .i64 x.f.code,.slice x.tA x.ts.length x.tc,.bool x.f.revoked,.slice x.lA x.f.leases.length x.lc]:=fun j v hv=>(F5.cell (p:=⟨g6,0+j,none⟩) (block_lt_of_cell (rB' j v hv)) (by simp;exact fun h=>hg65 h.symm)).trans (rB' j v hv);have hR5:=(hR2h.o.fr F3h.o (by simp)).fr F5 (by simp;omega);try dsimp only
   refine hK.out _ _ ⟨r6,r7⟩ (fun hHeld=> ?_);clear hK K;try simp only [zA,zB,zC,Act.put,zD,zE,zF]
   refine wpZ_end (i:=6) (by kernel_rfl) rfl rfl (fun K hK=> ?_);unfold AA.val;rw [if_pos (wanted_none rfl)];refine wp_store_row 67 _ _ rfl gr y.cells rfl rfl 67 zs hR5 (infoAnsY y) (hz.trans (AA.size8 y).symm) (AA.one y) ?_;show K (Act.put _ none undef) _;refine hK.out _ _ ?_;clear hK K;try simp only [Act.put]
   refine wpZ_done (by kernel_rfl) ?_ _;go_wp2_with fail
   refine bodyPost_ret (results_cell_row rfl _ _ gr 67 y.cells (0,0) _ rfl (Blk.setRow hR5 _) uAns rfl (infoAnsY y)) rfl ?_;rw [List.append_assoc]at hb5;have hsz3:=F03h.o.size;have hyg:∀g∈rowOf y.slice,W3.heap.size≤g:=fun g hg=>by obtain⟨ad,e,rfl⟩:=rowOf_mem.1 hg;exact hA5.2 ad e
   have hgr3:gr<W3.heap.size:=by have h2:=hR2h.o.lt;have h3:=F3h.o.size;omega
   exact ans_yes (Y:= [gr]++rowOf y.slice) hb5 (F03h.o.nil.trans F5) ((Fr.refl [gr] W5).setRow (.inl (by simp)) _) (fun g hg=>by simp at hg;rw [hg];exact⟨by simp,hgr⟩) hmw y ⟨hA5.1,hA5.2.mono hsz3⟩ (fun g hg=>List.mem_append.2 (.inr hg)) (fun g hg=>by have:=hyg g hg;simp;omega) (by rw [hy])
end Go.Proofs.YtpmgepijkhaonaaGreat
