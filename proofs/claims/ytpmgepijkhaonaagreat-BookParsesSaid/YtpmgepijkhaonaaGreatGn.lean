/- Walks: which commands may be. Conditions: each theorem's own. -/
import Derived.Test.YtpmgepijkhaonaaGreatGm
import Derived.Test.YtpmgepijkhaonaaGreatRow
import Derived.Test.YtpmgepijkhaonaaGreatGr
namespace Go.Proofs.YtpmgepijkhaonaaGreat
open Go.RowKit Go.Sig
def cmdV (c:GCmd) (A:Option Addr) (n d:Nat):Array Value:=#[.int .i64 c.kind,.string c.family,.int .i64 c.serial,.int .i64 c.token,.string c.client,.string c.user,.slice A n d,.string c.redirect,.string c.challenge,.string c.method,.string c.verifier,.bool c.refresh,.int .i64 c.edge]
def restV (r:GCmd):Array Value:=#[.int .i64 0,.string ⟨#[]⟩,.int .i64 r.serial,.int .i64 r.token,.string r.client,.string r.user,.slice none 0 0,.string r.redirect,.string r.challenge,.string r.method,.string r.verifier,.bool r.refresh,.int .i64 r.edge]
def rest2V (c r:GCmd):Array Value:=#[.int .i64 c.kind,.string c.family,.int .i64 r.serial,.int .i64 r.token,.string r.client,.string r.user,.slice none 0 0,.string r.redirect,.string r.challenge,.string r.method,.string r.verifier,.bool r.refresh,.int .i64 r.edge]
theorem restV_cells {w:World}{g:Nat}{ty:TypeId}{c r:GCmd}(h:Blk w g ty (rest2V c r)):
  w.cell? ⟨g,0,none⟩=some (.int .i64 c.kind)∧w.cell? ⟨g,1,none⟩=some (.string c.family)∧w.cell? ⟨g,2,none⟩=some (.int .i64 r.serial)∧w.cell? ⟨g,3,none⟩=some (.int .i64 r.token)∧w.cell? ⟨g,4,none⟩=some (.string r.client)∧w.cell? ⟨g,5,none⟩=some (.string r.user)∧
  w.cell? ⟨g,7,none⟩=some (.string r.redirect)∧w.cell? ⟨g,8,none⟩=some (.string r.challenge)∧w.cell? ⟨g,9,none⟩=some (.string r.method)∧w.cell? ⟨g,10,none⟩=some (.string r.verifier)∧w.cell? ⟨g,11,none⟩=some (.bool r.refresh)∧
  w.cell? ⟨g,12,none⟩=some (.int .i64 r.edge)∧g<w.heap.size:=
 ⟨h.cell 0,h.cell 1,h.cell 2,h.cell 3,h.cell 4,h.cell 5,h.cell 7,h.cell 8,h.cell 9,h.cell 10,h.cell 11,h.cell 12,h.lt⟩
def scopedM (c:GCmd):Bool:=decide (c.kind=1) ||decide (c.kind=3) ||decide (c.kind=4)
def okA (c:GCmd):Bool:= !(!scopedM c&&decide (0<c.scope.length))&&setM c.scope&&idM c.family&&textsM [c.client,c.user,c.redirect,c.challenge,c.method,c.verifier]
def okC (c:GCmd):Bool:= !(decide (c.kind≤5)&&decide (c.client.size=0) ||decide (c.serial<0) ||decide (1099511627776<c.serial) ||decide (c.edge<0) ||decide (32≤c.edge))
def okD (c:GCmd):Bool:= !((decide (c.kind=5) ||decide (c.kind=6))&&(decide (c.token<1) ||decide (3<c.token)))
theorem mayM_eq (c:GCmd):mayM c=(decide (1≤c.kind∧c.kind≤7)&&okA c&&restEq (restM c) c&&okC c&&okD c&&shownM c.challenge c.method):=rfl
theorem cmdV_cells {w:World}{g:Nat}{ty:TypeId}{c:GCmd}{A:Option Addr}{n d:Nat}(h:Blk w g ty (cmdV c A n d)):
  w.cell? ⟨g,0,none⟩=some (.int .i64 c.kind)∧w.cell? ⟨g,1,none⟩=some (.string c.family)∧w.cell? ⟨g,2,none⟩=some (.int .i64 c.serial)∧w.cell? ⟨g,3,none⟩=some (.int .i64 c.token)∧w.cell? ⟨g,4,none⟩=some (.string c.client)∧w.cell? ⟨g,5,none⟩=some (.string c.user)∧
  w.cell? ⟨g,6,none⟩=some (.slice A n d)∧w.cell? ⟨g,7,none⟩=some (.string c.redirect)∧w.cell? ⟨g,8,none⟩=some (.string c.challenge)∧w.cell? ⟨g,9,none⟩=some (.string c.method)∧w.cell? ⟨g,10,none⟩=some (.string c.verifier)∧w.cell? ⟨g,11,none⟩=some (.bool c.refresh)∧
  w.cell? ⟨g,12,none⟩=some (.int .i64 c.edge)∧g<w.heap.size:=
 ⟨h.cell 0,h.cell 1,h.cell 2,h.cell 3,h.cell 4,h.cell 5,h.cell 6,h.cell 7,h.cell 8,h.cell 9,h.cell 10,h.cell 11,h.cell 12,h.lt⟩
theorem infoCmd {a0 a1 a2 a3 a4 a5 a6 a7 a8 a9 a10 a11 a12:Value}:(Tryz.prog.info? 70).map (·.size)=some (#[a0,a1,a2,a3,a4,a5,a6,a7,a8,a9,a10,a11,a12]:Array Value).size:=by kernel_rfl
theorem strs_new (w:World) (ls:List ByteArray) (ty:TypeId):Rd (w.alloc (.cells (strCells ls).toArray ty)) 1 (some ⟨w.heap.size,0,none⟩) ls.length (strCells ls):=by
 refine⟨by rw [strCells_length,Nat.mul_one],fun _=>⟨_,0,rfl,fun j u hu=> ?_⟩⟩;rw [(Blk.new w ty (strCells ls).toArray).cell,Nat.zero_add,zG];exact hu
def SwitchOk (W wx:World) (gc gr:Nat) (c:GCmd) (A:Option Addr) (n d:Nat):Prop:=(1≤c.kind∧c.kind≤7)∧Blk wx gr 70 (restV (restM c))∧Blk wx gc 70 (cmdV c A n d)∧Fr [gr] W wx
theorem switch_ok {W:World}{gc gr:Nat}{c:GCmd}{A:Option Addr}{n d:Nat}{zs:Array Value}(hR:Blk W gr 70 zs) (hC:Blk W gc 70 (cmdV c A n d)) (hne:gc≠gr) (h1:1≤c.kind) (h7:c.kind≤7) {cs:Array Value}(hcs:cs=restV (restM c)):SwitchOk W (W.setRow gr cs) gc gr c A n d:=by
 subst hcs;have hF:Fr [gr] W (W.setRow gr (restV (restM c))):=(Fr.refl _ _).setRow (.inl (by simp)) _;exact⟨⟨h1,h7⟩,Blk.setRow hR _,hC.fr hF (by simpa using hne),hF⟩
set_option maxRecDepth 100000 in
set_option maxHeartbeats 8000000 in
theorem may_t (w:World) (c:GCmd) (A:Option Addr) (n d:Nat) (hS:Rd w 1 A n (strCells c.scope)) (hn:c.scope.length=n) (hl:n≤150000000000000) (hs:∀s∈c.scope,s.size≤150000000000000) (hfam:c.family.size≤150000000000000):
  Calls Tryz.prog 125 #[.agg (cmdV c A n d)] w fun e w'=>e= .returned (.bool (mayM c))∧Fr [] w w':=by
 have hSh:=zh hS;have hsh:=zh hs;clear hS hs;unfold cmdV;go_enter Tryz.func125,Tryz.ntmps125;go_upto_region 2 with(fail)
 refine wp_gen (fun W=>Blk W w.heap.size 70 (cmdV c A n d)∧Blk W (w.heap.size+1) 70 (restV ⟨7,nilB,0,0,nilB,nilB,[],nilB,nilB,nilB,nilB,false,0⟩)∧Fr [] w W) ⟨(Blk.new _ _ _).alloc _,Blk.new' _ _ (by simp),((Fr.refl _ _).alloc _).alloc _⟩ ?_;rintro W ⟨hC,hR0,fW⟩;obtain⟨zs,hzs⟩:∃z,Hid (restV ⟨7,nilB,0,0,nilB,nilB,[],nilB,nilB,nilB,nilB,false,0⟩=z):=⟨_,zh rfl⟩
 have hz:zs.size=13:=by rw [←hzs.o];rfl
 have hR:=hR0;rw [hzs.o]at hR;clear hR0;obtain⟨gc,HGC⟩:∃z,Hid (w.heap.size=z):=⟨_,zh rfl⟩
 rw [HGC.o]at hC hR⊢;obtain⟨gr,HGR⟩:∃z,Hid (gc+1=z):=⟨_,zh rfl⟩
 rw [HGR.o]at hR⊢;have hne:gc≠gr:=by have:=HGR.o;omega
 have hgw:w.heap.size≤gr:=by have:=HGR.o;have:=HGC.o;omega
 have hCh:=zh hC;have hRh:=zh hR;have fWh:=zh fW;obtain⟨c0,c1,c2,c3,c4,c5,c6,c7,c8,c9,c10,c11,c12,hgl⟩:=cmdV_cells hC;have hrl:=hR.lt;clear hC fW;go_upto_block 0 with(fail)
 go_cut [7,20,31,38,43,52,61]from 8 to 62 (fun s7 s20 s31 s38 s43 s52 s61 wx=>SwitchOk W wx gc gr c A n d)
 case first=>
  by_cases h1:c.kind=1
  ·have hb1:(c.kind==1)=true:=by rw [beq_iff_eq];exact h1
   have hcs:=zh (show restM c=⟨1,c.family,0,0,c.client,c.user,[],c.redirect,c.challenge,c.method,nilB,false,0⟩ by unfold restM;rw [if_pos h1]);have hk1:=zh (show 1≤c.kind by omega);have hk7:=zh (show c.kind≤7 by omega);clear h1;go_wp2_with (refine wpList_store_row rfl 70 _ _ rfl gr _ rfl rfl 70 zs hR infoCmd (by rw [hz];rfl) (by kernel_rfl) ?_)
   go_meet;exact switch_ok hRh.o hCh.o hne hk1.o hk7.o (by rw [hcs.o];rfl)
  ·have hb1:(c.kind==1)=false:=by rw [beq_eq_false_iff_ne];exact h1
   by_cases h2:c.kind=2
   ·have hb2:(c.kind==2)=true:=by rw [beq_iff_eq];exact h2
    have hcs:=zh (show restM c=⟨2,c.family,0,0,c.client,nilB,[],c.redirect,nilB,nilB,c.verifier,c.refresh,0⟩ by unfold restM;rw [if_neg (by omega),if_pos h2]);have hk1:=zh (show 1≤c.kind by omega);have hk7:=zh (show c.kind≤7 by omega);clear h1 h2;go_wp2_with (refine wpList_store_row rfl 70 _ _ rfl gr _ rfl rfl 70 zs hR infoCmd (by rw [hz];rfl) (by kernel_rfl) ?_)
    go_meet;exact switch_ok hRh.o hCh.o hne hk1.o hk7.o (by rw [hcs.o];rfl)
   ·have hb2:(c.kind==2)=false:=by rw [beq_eq_false_iff_ne];exact h2
    by_cases h3:c.kind=3
    ·have hb3:(c.kind==3)=true:=by rw [beq_iff_eq];exact h3
     have hcs:=zh (show restM c=⟨3,c.family,c.serial,0,c.client,nilB,[],nilB,nilB,nilB,nilB,false,0⟩ by unfold restM;rw [if_neg (by omega),if_neg (by omega),if_pos h3]);have hk1:=zh (show 1≤c.kind by omega);have hk7:=zh (show c.kind≤7 by omega);clear h1 h2 h3;go_wp2_with (refine wpList_store_row rfl 70 _ _ rfl gr _ rfl rfl 70 zs hR infoCmd (by rw [hz];rfl) (by kernel_rfl) ?_)
     go_meet;exact switch_ok hRh.o hCh.o hne hk1.o hk7.o (by rw [hcs.o];rfl)
    ·have hb3:(c.kind==3)=false:=by rw [beq_eq_false_iff_ne];exact h3
     by_cases h4:c.kind=4
     ·have hb4:(c.kind==4)=true:=by rw [beq_iff_eq];exact h4
      have hcs:=zh (show restM c=⟨4,c.family,0,0,c.client,nilB,[],nilB,nilB,nilB,nilB,false,0⟩ by unfold restM;rw [if_neg (by omega),if_neg (by omega),if_neg (by omega),if_pos h4]);have hk1:=zh (show 1≤c.kind by omega);have hk7:=zh (show c.kind≤7 by omega);clear h1 h2 h3 h4;go_wp2_with (refine wpList_store_row rfl 70 _ _ rfl gr _ rfl rfl 70 zs hR infoCmd (by rw [hz];rfl) (by kernel_rfl) ?_)
      go_meet;exact switch_ok hRh.o hCh.o hne hk1.o hk7.o (by rw [hcs.o];rfl)
     ·have hb4:(c.kind==4)=false:=by rw [beq_eq_false_iff_ne];exact h4
      by_cases h5:c.kind=5
      ·have hb5:(c.kind==5)=true:=by rw [beq_iff_eq];exact h5
       have hcs:=zh (show restM c=⟨5,c.family,c.serial,c.token,c.client,nilB,[],nilB,nilB,nilB,nilB,false,0⟩ by unfold restM;rw [if_neg (by omega),if_neg (by omega),if_neg (by omega),if_neg (by omega),if_pos h5]);have hk1:=zh (show 1≤c.kind by omega);have hk7:=zh (show c.kind≤7 by omega);clear h1 h2 h3 h4 h5;go_wp2_with (refine wpList_store_row rfl 70 _ _ rfl gr _ rfl rfl 70 zs hR infoCmd (by rw [hz];rfl) (by kernel_rfl) ?_)
       go_meet;exact switch_ok hRh.o hCh.o hne hk1.o hk7.o (by rw [hcs.o];rfl)
      ·have hb5:(c.kind==5)=false:=by rw [beq_eq_false_iff_ne];exact h5
       by_cases h6:c.kind=6
       ·have hb6:(c.kind==6)=true:=by rw [beq_iff_eq];exact h6
        have hcs:=zh (show restM c=⟨6,c.family,c.serial,c.token,nilB,nilB,[],nilB,nilB,nilB,nilB,false,c.edge⟩ by unfold restM;rw [if_neg (by omega),if_neg (by omega),if_neg (by omega),if_neg (by omega),if_neg (by omega),if_pos h6]);have hk1:=zh (show 1≤c.kind by omega);have hk7:=zh (show c.kind≤7 by omega);clear h1 h2 h3 h4 h5 h6;go_wp2_with (refine wpList_store_row rfl 70 _ _ rfl gr _ rfl rfl 70 zs hR infoCmd (by rw [hz];rfl) (by kernel_rfl) ?_)
        go_meet;exact switch_ok hRh.o hCh.o hne hk1.o hk7.o (by rw [hcs.o];rfl)
       ·have hb6:(c.kind==6)=false:=by rw [beq_eq_false_iff_ne];exact h6
        by_cases h7:c.kind=7
        ·have hb7:(c.kind==7)=true:=by rw [beq_iff_eq];exact h7
         have hcs:=zh (show restM c=⟨7,c.family,0,0,nilB,nilB,[],nilB,nilB,nilB,nilB,false,0⟩ by unfold restM;rw [if_neg (by omega),if_neg (by omega),if_neg (by omega),if_neg (by omega),if_neg (by omega),if_neg (by omega)]);have hk1:=zh (show 1≤c.kind by omega);have hk7:=zh (show c.kind≤7 by omega);clear h1 h2 h3 h4 h5 h6 h7;go_wp2_with fail
         go_meet;exact⟨⟨hk1.o,hk7.o⟩,by rw [hcs.o];have:=hRh.o;rw [←hzs.o]at this;exact this,hCh.o,Fr.refl _ _⟩
        ·have hb7:(c.kind==7)=false:=by rw [beq_eq_false_iff_ne];exact h7
         have hno:=zh (show mayM c=false by
          rw [mayM_eq,decide_eq_false (by omega)];simp only [Bool.false_and])
         clear h1 h2 h3 h4 h5 h6 h7;go_wp2_with fail
         go_ret;exact⟨ret_eq hno.o.symm,fWh.o⟩
 case rest=>
  obtain⟨⟨hk1,hk7⟩,hR2,hC2,hF2⟩:=hcut;have hk1h:=zh hk1;have hk7h:=zh hk7;have f2:=zh (fWh.o.andThen hF2 (fun x hx=> .inr (by simp at hx;omega)));have hR2h:=zh hR2;have hC2h:=zh hC2;obtain⟨W2,hW2⟩:∃W2:World,W2=wc:=⟨_,rfl⟩
  subst hW2;clear c0 c1 c2 c3 c4 c5 c6 c7 c8 c9 c10 c11 c12 hgl hrl hF2 hC2 hR2 hR hk1 hk7;obtain⟨c0,c1,c2,c3,c4,c5,c6,c7,c8,c9,c10,c11,c12,hgl⟩:=cmdV_cells hC2h.o;go_upto_region 17 with(fail)
  go_cut [4]from 63 to 75 (fun s4 wx=>s4= .bool (scopedM c)∧W2=wx)
  case first=>
   by_cases h1:c.kind=1
   ·have hv:=zh (show scopedM c=true by unfold scopedM;rw [decide_eq_true h1];rfl);have hb1:(c.kind==1)=true:=by rw [beq_iff_eq];exact h1
    clear h1;go_wp2_with fail
    go_meet;exact⟨by rw [hv.o],rfl⟩
   ·have hb1:(c.kind==1)=false:=by rw [beq_eq_false_iff_ne];exact h1
    by_cases h3:c.kind=3
    ·have hv:=zh (show scopedM c=true by unfold scopedM;rw [decide_eq_true h3];simp);have hb3:(c.kind==3)=true:=by rw [beq_iff_eq];exact h3
     clear h1 h3;go_wp2_with fail
     go_meet;exact⟨by rw [hv.o],rfl⟩
    ·have hb3:(c.kind==3)=false:=by rw [beq_eq_false_iff_ne];exact h3
     by_cases h4:c.kind=4
     ·have hv:=zh (show scopedM c=true by unfold scopedM;rw [decide_eq_true h4];simp);have hb4:(c.kind==4)=true:=by rw [beq_iff_eq];exact h4
      clear h1 h3 h4;go_wp2_with fail
      go_meet;exact⟨by rw [hv.o],rfl⟩
     ·have hv:=zh (show scopedM c=false by unfold scopedM;rw [decide_eq_false h1,decide_eq_false h3,decide_eq_false h4];rfl);have hb4:(c.kind==4)=false:=by rw [beq_eq_false_iff_ne];exact h4
      clear h1 h3 h4;go_wp2_with fail
      go_meet;exact⟨by rw [hv.o],rfl⟩
  case rest=>
   obtain⟨rfl,rfl⟩:=hcut;obtain⟨sc,hsc⟩:∃z,Hid (scopedM c=z):=⟨_,zh rfl⟩
   rw [hsc.o];go_upto_region 18 with(fail)
   go_cut [4,112]from 76 to 111 (fun s4 s112 wx=>s112= .bool (!okA c)∧Fr [] W2 wx)
   case first=>
    cases sc with
    |true=>
     have hset:=gset_t W2 A _ d c.scope (Rd.fr hSh.o f2.o (by simp [Off])) hn hl hsh.o;cases h1:setM c.scope with
     |false=>
      have hv:=zh (show okA c=false by unfold okA;rw [h1];simp);rw [h1]at hset;clear h1;go_wp2_with (go_at_call 93;refine hset.mono ?_;rintro e W3 ⟨rfl,F3⟩)
      go_meet;exact⟨by rw [hv.o];rfl,F3⟩
     |true=>
      have h1h:=zh h1;rw [h1]at hset;clear h1;go_wp2_with fail
      refine hset.mono ?_;rintro e W3 ⟨rfl,F3⟩;have f3:=zh F3;obtain⟨c0,c1,c2,c3,c4,c5,c6,c7,c8,c9,c10,c11,c12,hgl⟩:=cmdV_cells (hC2h.o.fr F3 (by simp));have hid:=id_t W3 c.family hfam;clear hset F3;cases h2:idM c.family with
      |false=>
       have hv:=zh (show okA c=false by unfold okA;rw [h2];simp);rw [h2]at hid;clear h2;go_wp2_with (go_at_call 91;refine hid.mono ?_;rintro e W4 ⟨rfl,F4⟩)
       go_meet;exact⟨by rw [hv.o];rfl,f3.o.trans F4⟩
      |true=>
       have h2h:=zh h2;rw [h2]at hid;clear h2;go_wp2_with fail
       refine hid.mono ?_;rintro e W4 ⟨rfl,F4⟩;have f4:=zh (f3.o.trans F4);obtain⟨c0,c1,c2,c3,c4,c5,c6,c7,c8,c9,c10,c11,c12,hgl⟩:=cmdV_cells (hC2h.o.fr f4.o (by simp));have htx:=texts_t (W4.alloc (.cells (strCells [c.client,c.user,c.redirect,c.challenge,c.method,c.verifier]).toArray 9)) (some ⟨W4.heap.size,0,none⟩) 6 6 [c.client,c.user,c.redirect,c.challenge,c.method,c.verifier] (strs_new W4 _ 9) rfl (by decide);have hAl:Fr [] W4 (W4.alloc (.cells (strCells [c.client,c.user,c.redirect,c.challenge,c.method,c.verifier]).toArray 9)):=(Fr.refl _ _).alloc _;have f5:=zh (f4.o.trans hAl);have hv:=zh (show okA c=textsM [c.client,c.user,c.redirect,c.challenge,c.method,c.verifier] by unfold okA;rw [hsc.o,h1h.o,h2h.o];simp);clear hid F4 hAl;go_wp2_with (go_at_call 92;refine Calls.mono (show Calls Tryz.prog 92 _ _ _ from htx) ?_;rintro e W6 ⟨rfl,rfl⟩)
       go_meet;exact⟨by rw [hv.o],f5.o⟩
    |false=>
     rcases Nat.eq_zero_or_pos n with rfl |hn0
     ·have hset:=gset_t W2 A _ d c.scope (Rd.fr hSh.o f2.o (by simp [Off])) hn hl hsh.o;cases h1:setM c.scope with
      |false=>
       have hv:=zh (show okA c=false by unfold okA;rw [h1];simp);rw [h1]at hset;clear h1;go_wp2_with (go_at_call 93;refine hset.mono ?_;rintro e W3 ⟨rfl,F3⟩)
       go_meet;exact⟨by rw [hv.o];rfl,F3⟩
      |true=>
       have h1h:=zh h1;rw [h1]at hset;clear h1;go_wp2_with fail
       refine hset.mono ?_;rintro e W3 ⟨rfl,F3⟩;have f3:=zh F3;obtain⟨c0,c1,c2,c3,c4,c5,c6,c7,c8,c9,c10,c11,c12,hgl⟩:=cmdV_cells (hC2h.o.fr F3 (by simp));have hid:=id_t W3 c.family hfam;clear hset F3;cases h2:idM c.family with
       |false=>
        have hv:=zh (show okA c=false by unfold okA;rw [h2];simp);rw [h2]at hid;clear h2;go_wp2_with (go_at_call 91;refine hid.mono ?_;rintro e W4 ⟨rfl,F4⟩)
        go_meet;exact⟨by rw [hv.o];rfl,f3.o.trans F4⟩
       |true=>
        have h2h:=zh h2;rw [h2]at hid;clear h2;go_wp2_with fail
        refine hid.mono ?_;rintro e W4 ⟨rfl,F4⟩;have f4:=zh (f3.o.trans F4);obtain⟨c0,c1,c2,c3,c4,c5,c6,c7,c8,c9,c10,c11,c12,hgl⟩:=cmdV_cells (hC2h.o.fr f4.o (by simp));have htx:=texts_t (W4.alloc (.cells (strCells [c.client,c.user,c.redirect,c.challenge,c.method,c.verifier]).toArray 9)) (some ⟨W4.heap.size,0,none⟩) 6 6 [c.client,c.user,c.redirect,c.challenge,c.method,c.verifier] (strs_new W4 _ 9) rfl (by decide);have hAl:Fr [] W4 (W4.alloc (.cells (strCells [c.client,c.user,c.redirect,c.challenge,c.method,c.verifier]).toArray 9)):=(Fr.refl _ _).alloc _;have f5:=zh (f4.o.trans hAl);have hv:=zh (show okA c=textsM [c.client,c.user,c.redirect,c.challenge,c.method,c.verifier] by unfold okA;rw [hsc.o,decide_eq_false (show¬0<c.scope.length by omega),h1h.o,h2h.o];simp);clear hid F4 hAl;go_wp2_with (go_at_call 92;refine Calls.mono (show Calls Tryz.prog 92 _ _ _ from htx) ?_;rintro e W6 ⟨rfl,rfl⟩)
        go_meet;exact⟨by rw [hv.o],f5.o⟩
     ·have hn':0<(n:Int):=by omega
      have hv:=zh (show okA c=false by unfold okA;rw [hsc.o,decide_eq_true (by omega)];rfl);clear hn0;go_wp2_with fail
      go_meet;exact⟨by rw [hv.o];rfl,Fr.refl _ _⟩
   case rest=>
    obtain⟨rfl,hFc⟩:=hcut;have fc:=zh (f2.o.trans hFc);have hC3:=hC2h.o.fr hFc (by simp);have hR3:=hR2h.o.fr hFc (by simp);clear c0 c1 c2 c3 c4 c5 c6 c7 c8 c9 c10 c11 c12 hgl hFc;obtain⟨c0,c1,c2,c3,c4,c5,c6,c7,c8,c9,c10,c11,c12,hgl⟩:=cmdV_cells hC3;obtain⟨oa,hoa⟩:∃z,Hid (okA c=z):=⟨_,zh rfl⟩
    rw [hoa.o];cases oa with
    |false=>
     go_wp2_with fail
     go_ret;exact⟨ret_eq (by rw [mayM_eq,hoa.o];simp),fc.o⟩
    |true=>
     have e0:=hR3.cell 0;have e1:=hR3.cell 1;unfold restV at e0 e1;simp only [zG,zH,zI]at e0 e1;have z0:=hR3.frozen 0;have z1:=hR3.frozen 1;have hrl:=hR3.lt;have hR4:=zh ((hR3.set 0 (.int .i64 c.kind)).set 1 (.string c.family)).drew;have hC4:=zh ((hC3.far (p:=⟨gr,0,none⟩) hne (.int .i64 c.kind)).far (p:=⟨gr,1,none⟩) hne (.string c.family)).drew;have f4:=zh (((fc.o.setCell (p:=⟨gr,0,none⟩) (.inr hgw) (.int .i64 c.kind)).setCell (p:=⟨gr,1,none⟩) (.inr hgw) (.string c.family)).drew);go_upto_region 20 with(fail)
     go_region
     go_upto_region 21 with(fail)
     refine wp_gen (fun W=>Blk W gr 70 (rest2V c (restM c))∧Blk W gc 70 (cmdV c A n d)∧Fr [] w W) ⟨hR4.o,hC4.o,f4.o⟩ ?_;rintro W5 ⟨hR5,hC5,f5'⟩;have f5:=zh f5';clear c0 c1 c2 c3 c4 c5 c6 c7 c8 c9 c10 c11 c12 hgl hR4 hC4 f4 e0 e1 z0 z1 hrl hC3 hR3 f5';obtain⟨r,hr⟩:∃z,Hid (restM c=z):=⟨_,zh rfl⟩
     rw [hr.o]at hR5;obtain⟨c0,c1,c2,c3,c4,c5,c6,c7,c8,c9,c10,c11,c12,hgl⟩:=cmdV_cells hC5;obtain⟨r0,r1,r2,r3,r4,r5,r7,r8,r9,r10,r11,r12,hrl⟩:=restV_cells hR5;have hC5h:=zh hC5;clear hC5 hR5;have hkk:(c.kind !=c.kind)=false:=by simp
     refine wp_region_lit ?_;simp only [List.append_eq,List.cons_append,List.nil_append];refine wpList_val (by rfl) (by go_simp;rfl) ?_;simp only [Act.put,zD,zE,zF];refine wpList_val (by rfl) (by go_simp;rfl) ?_;simp only [Act.put,zD,zE,zF];refine wpList_val (by rfl) (by go_simp;rfl) ?_;simp only [Act.put,zD,zE,zF];refine wpList_val (by rfl) (by go_simp;rfl) ?_;simp only [Act.put,zD,zE,zF];refine wpList_val (by rfl) (by go_simp;rfl) ?_;simp only [Act.put,zD,zE,zF];refine wpList_link (m:=124) (f1:=125) (l1:=126) (f2:=127) (l2:=128) (n:=129) (q:=130) (s1:=3) (s2:=1) (i:=5) _ false _ _ rfl rfl rfl (by decide) (by decide) (by rfl) rfl rfl run_move
      (fun e h=>by have h:=ev_at h;go_simp;rfl) (fun e h=>by have h:=ev_at h;go_simp;rfl) (fun e h=>by have h:=ev_at h;go_simp;rfl) (fun e h=>by have h:=ev_at h;go_simp;rfl) (fun e h k=>by have h:=ev_at h;have k:=ev_at k;go_simp;(first |rfl |exact(Bool.not_not _).symm)) (fun e h k=>run_or h k) ?_
     intro v125 v126 v127 v128 v129;simp only [Act.put,zD,zE,zF];refine wpList_link (m:=131) (f1:=132) (l1:=133) (f2:=134) (l2:=135) (n:=136) (q:=137) (s1:=3) (s2:=1) (i:=12) _ false _ _ rfl rfl rfl (by decide) (by decide) (by rfl) rfl rfl run_move
      (fun e h=>by have h:=ev_at h;go_simp;rfl) (fun e h=>by have h:=ev_at h;go_simp;rfl) (fun e h=>by have h:=ev_at h;go_simp;rfl) (fun e h=>by have h:=ev_at h;go_simp;rfl) (fun e h k=>by have h:=ev_at h;have k:=ev_at k;go_simp;(first |rfl |exact(Bool.not_not _).symm)) (fun e h k=>run_or h k) ?_
     intro v132 v133 v134 v135 v136;simp only [Act.put,zD,zE,zF];refine wpList_link (m:=138) (f1:=139) (l1:=140) (f2:=141) (l2:=142) (n:=143) (q:=144) (s1:=3) (s2:=1) (i:=19) _ false _ _ rfl rfl rfl (by decide) (by decide) (by rfl) rfl rfl run_move
      (fun e h=>by have h:=ev_at h;go_simp;rfl) (fun e h=>by have h:=ev_at h;go_simp;rfl) (fun e h=>by have h:=ev_at h;go_simp;rfl) (fun e h=>by have h:=ev_at h;go_simp;rfl) (fun e h k=>by have h:=ev_at h;have k:=ev_at k;go_simp;(first |rfl |exact(Bool.not_not _).symm)) (fun e h k=>run_or h k) ?_
     intro v139 v140 v141 v142 v143;simp only [Act.put,zD,zE,zF];refine wpList_link (m:=145) (f1:=146) (l1:=147) (f2:=148) (l2:=149) (n:=150) (q:=151) (s1:=3) (s2:=1) (i:=26) _ false _ _ rfl rfl rfl (by decide) (by decide) (by rfl) rfl rfl run_move
      (fun e h=>by have h:=ev_at h;go_simp;rfl) (fun e h=>by have h:=ev_at h;go_simp;rfl) (fun e h=>by have h:=ev_at h;go_simp;rfl) (fun e h=>by have h:=ev_at h;go_simp;rfl) (fun e h k=>by have h:=ev_at h;have k:=ev_at k;go_simp;(first |rfl |exact(Bool.not_not _).symm)) (fun e h k=>run_or h k) ?_
     intro v146 v147 v148 v149 v150;simp only [Act.put,zD,zE,zF];refine wpList_link (m:=152) (f1:=153) (l1:=154) (f2:=155) (l2:=156) (n:=157) (q:=158) (s1:=3) (s2:=1) (i:=33) _ false _ _ rfl rfl rfl (by decide) (by decide) (by rfl) rfl rfl run_move
      (fun e h=>by have h:=ev_at h;go_simp;rfl) (fun e h=>by have h:=ev_at h;go_simp;rfl) (fun e h=>by have h:=ev_at h;go_simp;rfl) (fun e h=>by have h:=ev_at h;go_simp;rfl) (fun e h k=>by have h:=ev_at h;have k:=ev_at k;go_simp;(first |rfl |exact(Bool.not_not _).symm)) (fun e h k=>run_or h k) ?_
     intro v153 v154 v155 v156 v157;simp only [Act.put,zD,zE,zF];refine wpList_link (m:=159) (f1:=160) (l1:=161) (f2:=162) (l2:=163) (n:=164) (q:=165) (s1:=3) (s2:=1) (i:=40) _ false _ _ rfl rfl rfl (by decide) (by decide) (by rfl) rfl rfl run_move
      (fun e h=>by have h:=ev_at h;go_simp;rfl) (fun e h=>by have h:=ev_at h;go_simp;rfl) (fun e h=>by have h:=ev_at h;go_simp;rfl) (fun e h=>by have h:=ev_at h;go_simp;rfl) (fun e h k=>by have h:=ev_at h;have k:=ev_at k;go_simp;(first |rfl |exact(Bool.not_not _).symm)) (fun e h k=>run_or h k) ?_
     intro v160 v161 v162 v163 v164;simp only [Act.put,zD,zE,zF];refine wpList_link (m:=166) (f1:=167) (l1:=168) (f2:=169) (l2:=170) (n:=171) (q:=172) (s1:=3) (s2:=1) (i:=47) _ false _ _ rfl rfl rfl (by decide) (by decide) (by rfl) rfl rfl run_move
      (fun e h=>by have h:=ev_at h;go_simp;rfl) (fun e h=>by have h:=ev_at h;go_simp;rfl) (fun e h=>by have h:=ev_at h;go_simp;rfl) (fun e h=>by have h:=ev_at h;go_simp;rfl) (fun e h k=>by have h:=ev_at h;have k:=ev_at k;go_simp;(first |rfl |exact(Bool.not_not _).symm)) (fun e h k=>run_or h k) ?_
     intro v167 v168 v169 v170 v171;simp only [Act.put,zD,zE,zF];refine wpList_link (m:=173) (f1:=174) (l1:=175) (f2:=176) (l2:=177) (n:=178) (q:=179) (s1:=3) (s2:=1) (i:=54) _ false _ _ rfl rfl rfl (by decide) (by decide) (by rfl) rfl rfl run_move
      (fun e h=>by have h:=ev_at h;go_simp;rfl) (fun e h=>by have h:=ev_at h;go_simp;rfl) (fun e h=>by have h:=ev_at h;go_simp;rfl) (fun e h=>by have h:=ev_at h;go_simp;rfl) (fun e h k=>by have h:=ev_at h;have k:=ev_at k;go_simp;(first |rfl |exact(Bool.not_not _).symm)) (fun e h k=>run_or h k) ?_
     intro v174 v175 v176 v177 v178;simp only [Act.put,zD,zE,zF];refine wpList_link (m:=180) (f1:=181) (l1:=182) (f2:=183) (l2:=184) (n:=185) (q:=186) (s1:=3) (s2:=1) (i:=61) _ false _ _ rfl rfl rfl (by decide) (by decide) (by rfl) rfl rfl run_move
      (fun e h=>by have h:=ev_at h;go_simp;rfl) (fun e h=>by have h:=ev_at h;go_simp;rfl) (fun e h=>by have h:=ev_at h;go_simp;rfl) (fun e h=>by have h:=ev_at h;go_simp;rfl) (fun e h k=>by have h:=ev_at h;have k:=ev_at k;go_simp;(first |rfl |exact(Bool.not_not _).symm)) (fun e h k=>run_or h k) ?_
     intro v181 v182 v183 v184 v185;simp only [Act.put,zD,zE,zF];refine wpList_link (m:=187) (f1:=188) (l1:=189) (f2:=190) (l2:=191) (n:=192) (q:=193) (s1:=3) (s2:=1) (i:=68) _ false _ _ rfl rfl rfl (by decide) (by decide) (by rfl) rfl rfl run_move
      (fun e h=>by have h:=ev_at h;go_simp;rfl) (fun e h=>by have h:=ev_at h;go_simp;rfl) (fun e h=>by have h:=ev_at h;go_simp;rfl) (fun e h=>by have h:=ev_at h;go_simp;rfl) (fun e h k=>by have h:=ev_at h;have k:=ev_at k;go_simp;(first |rfl |exact(Bool.not_not _).symm)) (fun e h k=>run_or h k) ?_
     intro v188 v189 v190 v191 v192;simp only [Act.put,zD,zE,zF];refine wpList_nil ?_;rw [show((((((((((false || (r.serial !=c.serial)) || (r.token !=c.token)) || !(r.client.toList==c.client.toList)) || !(r.user.toList==c.user.toList)) || !(r.redirect.toList==c.redirect.toList)) || !(r.challenge.toList==c.challenge.toList)) || !(r.method.toList==c.method.toList)) || !(r.verifier.toList==c.verifier.toList)) || !(r.refresh==c.refresh)) || (r.edge !=c.edge))= !restEq r c by
      rw [Bool.eq_iff_iff];simp only [restEq,Bool.or_eq_true,Bool.not_eq_true',Bool.and_eq_false_iff,bne_iff_ne,ne_eq,decide_eq_false_iff_not,toList_beq,Bool.false_eq_true,false_or,beq_eq_false_iff_ne]]
     obtain⟨re,hre⟩:∃z,Hid (restEq r c=z):=⟨_,zh rfl⟩
     rw [hre.o];cases re with
     |false=>
      go_wp2_with fail
      go_ret;exact⟨ret_eq (by rw [mayM_eq,hr.o,hre.o];simp),f5.o⟩
     |true=>
      go_upto_region 23 with(fail)
      refine wp_region_lit ?_;refine wpList_val (by rfl) (by go_simp;rfl) ?_;simp only [Act.put,zD,zE,zF];refine wpList_val (by rfl) (by go_simp;rfl) ?_;simp only [Act.put,zD,zE,zF];refine wpList_val (by rfl) (by go_simp;rfl) ?_;simp only [Act.put,zD,zE,zF];refine wpList_link1 (m:=197) (f1:=198) (l1:=199) (n:=200) (q:=201) (s1:=1) (i:=3) _ true _ _ rfl rfl rfl (by decide) (by decide) (by rfl) rfl run_move
       (fun e h=>by have h:=ev_at h;go_simp;rfl) (fun e h=>by have h:=ev_at h;go_simp;rfl) (fun e h=>by have h:=ev_at h;go_simp;(first |rfl |exact(Bool.not_not _).symm)) (fun e h k=>run_and h k) ?_
      intro v198 v199 v200;simp only [Act.put,zD,zE,zF];refine wpList_link1 (m:=202) (f1:=203) (l1:=204) (n:=205) (q:=206) (s1:=1) (i:=8) _ false _ _ rfl rfl rfl (by decide) (by decide) (by rfl) rfl run_move
       (fun e h=>by have h:=ev_at h;go_simp;rfl) (fun e h=>by have h:=ev_at h;go_simp;rfl) (fun e h=>by have h:=ev_at h;go_simp;(first |rfl |exact(Bool.not_not _).symm)) (fun e h k=>run_or h k) ?_
      intro v203 v204 v205;simp only [Act.put,zD,zE,zF];refine wpList_link1 (m:=207) (f1:=208) (l1:=209) (n:=210) (q:=211) (s1:=1) (i:=13) _ false _ _ rfl rfl rfl (by decide) (by decide) (by rfl) rfl run_move
       (fun e h=>by have h:=ev_at h;go_simp;rfl) (fun e h=>by have h:=ev_at h;go_simp;rfl) (fun e h=>by have h:=ev_at h;go_simp;(first |rfl |exact(Bool.not_not _).symm)) (fun e h k=>run_or h k) ?_
      intro v208 v209 v210;simp only [Act.put,zD,zE,zF];refine wpList_link1 (m:=212) (f1:=213) (l1:=214) (n:=215) (q:=216) (s1:=1) (i:=18) _ false _ _ rfl rfl rfl (by decide) (by decide) (by rfl) rfl run_move
       (fun e h=>by have h:=ev_at h;go_simp;rfl) (fun e h=>by have h:=ev_at h;go_simp;rfl) (fun e h=>by have h:=ev_at h;go_simp;(first |rfl |exact(Bool.not_not _).symm)) (fun e h k=>run_or h k) ?_
      intro v213 v214 v215;simp only [Act.put,zD,zE,zF];refine wpList_link1 (m:=217) (f1:=218) (l1:=219) (n:=220) (q:=221) (s1:=1) (i:=23) _ false _ _ rfl rfl rfl (by decide) (by decide) (by rfl) rfl run_move
       (fun e h=>by have h:=ev_at h;go_simp;rfl) (fun e h=>by have h:=ev_at h;go_simp;rfl) (fun e h=>by have h:=ev_at h;go_simp;(first |rfl |exact(Bool.not_not _).symm)) (fun e h k=>run_or h k) ?_
      intro v218 v219 v220;simp only [Act.put,zD,zE,zF];refine wpList_nil ?_;rw [show(decide (c.kind≤5)&&c.client.toList.isEmpty ||decide (c.serial<0) ||decide (1099511627776<c.serial) ||decide (c.edge<0) ||decide (32≤c.edge))= !okC c by unfold okC;rw [str_empty,Bool.not_not]];obtain⟨oc,hoc⟩:∃z,Hid (okC c=z):=⟨_,zh rfl⟩
      rw [hoc.o];cases oc with
      |false=>
       go_wp2_with fail
       go_ret;exact⟨ret_eq (by rw [mayM_eq,hoc.o];simp),f5.o⟩
      |true=>
       go_upto_region 25 with(fail)
       refine wp_region_lit ?_;refine wpList_val (by rfl) (by go_simp;rfl) ?_;simp only [Act.put,zD,zE,zF];refine wpList_val (by rfl) (by go_simp;rfl) ?_;simp only [Act.put,zD,zE,zF];refine wpList_val (by rfl) (by go_simp;rfl) ?_;simp only [Act.put,zD,zE,zF];refine wpList_link1 (m:=225) (f1:=226) (l1:=227) (n:=228) (q:=229) (s1:=1) (i:=3) _ false _ _ rfl rfl rfl (by decide) (by decide) (by rfl) rfl run_move
        (fun e h=>by have h:=ev_at h;go_simp;rfl) (fun e h=>by have h:=ev_at h;go_simp;rfl) (fun e h=>by have h:=ev_at h;go_simp;(first |rfl |exact(Bool.not_not _).symm)) (fun e h k=>run_or h k) ?_
       intro v226 v227 v228;simp only [Act.put,zD,zE,zF];obtain⟨kb,hkb⟩:∃z,Hid ((c.kind==5 ||c.kind==6)=z):=⟨_,zh rfl⟩
       rw [hkb.o];refine wpList_val (by rfl) (by go_simp;rfl) ?_;simp only [Act.put,zD,zE,zF];have hsh:=fun(ch me:ByteArray) (h:ch.size≤1000000)=>shown_t W5 ch me h;have hch:c.challenge.size≤1000000:=by have h1:=hoa.o;unfold okA at h1;simp only [Bool.and_eq_true]at h1;have:=textsM_mem h1.2 (s:=c.challenge) (by simp);omega
       have hshown:=zh (shown_t W5 c.challenge c.method hch);clear hsh hch;have hfin:okD c=true→Ending.returned (.bool (shownM c.challenge c.method))= .returned (.bool (mayM c)):=fun h=>ret_eq (by
        rw [mayM_eq,hoa.o,hr.o,hre.o,hoc.o,h,decide_eq_true ⟨hk1h.o,hk7h.o⟩];simp)
       have hno:okD c=false→Ending.returned (.bool false)= .returned (.bool (mayM c)):=fun h=>ret_eq (by
        rw [mayM_eq,h];simp)
       have hfinh:=zh hfin;have hnoh:=zh hno;have hkd:=zh (show(decide (c.kind=5) ||decide (c.kind=6))=kb by rw [←hkb.o];simp [Bool.beq_eq_decide_eq]);clear hfin hno;cases kb with
       |false=>
        have hd:=zh (show okD c=true by unfold okD;rw [hkd.o];rfl);go_wp2_with fail
        refine hshown.o.mono ?_;rintro e W6 ⟨rfl,F6⟩;go_wp2_with fail
        go_ret;exact⟨hfinh.o hd.o,f5.o.trans F6⟩
       |true=>
        by_cases t1:c.token<1
        ·have hd:=zh (show okD c=false by unfold okD;rw [hkd.o,decide_eq_true t1];rfl);have ht1:decide (c.token<1)=true:=decide_eq_true t1;go_wp2_with fail
         go_ret;exact⟨hnoh.o hd.o,f5.o⟩
        ·have ht1:decide (c.token<1)=false:=decide_eq_false t1;by_cases t3:3<c.token
         ·have hd:=zh (show okD c=false by unfold okD;rw [hkd.o,ht1,decide_eq_true t3];rfl);go_wp2_with fail
          go_ret;exact⟨hnoh.o hd.o,f5.o⟩
         ·have hd:=zh (show okD c=true by unfold okD;rw [hkd.o,ht1,decide_eq_false t3];rfl);go_wp2_with fail
          refine hshown.o.mono ?_;rintro e W6 ⟨rfl,F6⟩;go_wp2_with fail
          go_ret;exact⟨hfinh.o hd.o,f5.o.trans F6⟩
end Go.Proofs.YtpmgepijkhaonaaGreat
