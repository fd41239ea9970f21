/- Walks of a roll: a client that's right. Conditions: each theorem's own. -/
import Derived.Test.YtopfcgpeaaehgaaGreatDoorAp
namespace Go.Proofs.YtopfcgpeaaehgaaGreatDoor
open Go.RowKit Go.Sig
structure CliFine (c:GCli):Prop where
 id:printedM c.id 64=true
 reds:c.reds.length≤4
 scopes:c.scopes.length≤32
 grants:c.grants.length≤3
 pub:c.pub=decide (c.secret.size=0)
 secret:c.pub=true∨printedM c.secret 128=true
 each:∀u∈c.reds,printedM u 128=true∧u.data.toList.contains 35=false
 once:c.reds.Nodup
 kinds:∀g∈c.grants,(g=gAuth∨g=gCred∨g=gRefr)∧(c.pub=true→g≠gCred)
 rise:c.grants.Pairwise fun a b=>bl a b=true
 set:setOf c.scopes=c.scopes
 short:printLen c.scopes≤128
theorem CliFine.of {c:GCli}(h:cliOk c=true):CliFine c:=by
 unfold cliOk redsM grantsM at h;simp only [Bool.and_eq_true,Bool.or_eq_true,decide_eq_true_eq,beq_iff_eq,List.all_eq_true,Bool.not_eq_true',Bool.and_eq_false_iff,decide_eq_false_iff_not]at h;obtain⟨⟨⟨⟨⟨⟨⟨⟨⟨h1,h2⟩,h3⟩,h4⟩,h5⟩,h6⟩,h7,h8⟩,h9,h10⟩,h11⟩,h12⟩:=h;refine⟨h1,h2,h3,h4,h5,h6,h7,h8,fun g hg=> ?_,h10,h11,h12⟩;obtain⟨a,b⟩:=h9 g hg;exact⟨by rcases a with(a |a) |a<;>simp [a],fun hp=>b.resolve_left (by simp [hp])⟩
theorem printedM_le {s:ByteArray}{n:Nat}(h:printedM s n=true):1≤s.size∧s.size≤n:=by
 unfold printedM at h;simp only [Bool.and_eq_true,decide_eq_true_eq]at h;exact⟨h.1.2,h.2⟩
theorem CliFine.sz {c:GCli}(h:CliFine c):CliSz c:=by
 refine⟨by have:=h.reds;omega,by have:=h.scopes;omega,by have:=h.grants;omega,fun s hs=> ?_,?_,fun s hs=>by have:=(printedM_le (h.each s hs).1).2;omega⟩
 ·rw [←h.set]at hs;have:=(mem_setOf.1 hs).2;unfold isWord at this;simp only [Bool.and_eq_true,decide_eq_true_eq]at this;omega
 ·rcases h.secret with hp |hp
  ·have:=h.pub;rw [hp]at this;have h0:=of_decide_eq_true this.symm;omega
  ·have:=(printedM_le hp).2;omega
theorem idx_self (l:List ByteArray) (hn:l.Nodup) (i:Nat) (hi:i<l.length):Lib.idxOfS l l[i]=i:=by
 have:=Lib.idxOfS_hit l l.length i l[i] hi (Nat.le_refl _) (by rw [List.getD,List.getElem?_eq_getElem hi];rfl) (fun j hj he=>by
  have hj2:j<l.length:=by omega
  rw [List.getD,List.getElem?_eq_getElem hj2]at he;exact List.pairwise_iff_getElem.1 hn j i hj2 hi hj he)
 rwa [List.take_of_length_le (Nat.le_refl _)]at this
theorem idxS_t (w:World) (A:Option Addr) (n c:Nat) (ls:List ByteArray) (s:ByteArray) (h:Rd w 1 A n (strCells ls)) (hn:ls.length=n) (hmax:n≤1000000):
  Calls Tryz.prog 61 #[.slice A n c,.string s] w fun e w'=>e= .returned (.int .i64 (Lib.idxOfS ls s))∧w'=w:=by
 rcases Nat.eq_zero_or_pos n with h0 |h0
 ·subst h0;obtain rfl:=List.eq_nil_of_length_eq_zero hn;exact Tryz.slices_Index_string_empty A c s w
 ·obtain⟨b,o,rfl,hc⟩:=h.at h0;have:=Tryz.slices_Index_string b o n c ls s w (by omega) (by omega) (fun j hj=>by
   rw [hc j _ (strCells_at hj),List.getD,List.getElem?_eq_getElem hj];rfl)
  rwa [List.take_of_length_le (by omega)]at this
theorem no_sharp {s:ByteArray}(h:s.data.toList.contains 35=false):decide (0≤Lib.indexByte s.data.toList 35)=false:=by
 rw [decide_eq_false_iff_not];intro h0;obtain⟨k,hk⟩:∃k:Nat,Lib.indexByte s.data.toList 35=k:=⟨_,(Int.toNat_of_nonneg h0).symm⟩
 have:=(Lib.indexByte_some hk).1;have hm:=List.mem_of_getElem? this;simp [hm]at h
set_option maxRecDepth 100000 in
set_option maxHeartbeats 8000000 in
theorem cright_t (w:World) (x:CV) (hx:CliIn w x) (hok:CliFine x.c):Calls Tryz.prog 24 #[.agg x.cells] w fun e w'=>e= .returned (.bool true)∧Fr [] w w':=by
 obtain⟨⟨id,secret,pub,reds,scopes,grants⟩,rA,rc,sA,sc,gA,gc⟩:=x;obtain⟨hr,hs,hg⟩:=hx;have hokh:=zh hok;have k1:=hok.id;have k2:=hok.reds;have k3:=hok.scopes;have k4:=hok.grants;have k5:=hok.pub;have k6:=hok.secret;simp only at hr hs hg k1 k2 k3 k4 k5 k6;have hrh:=zh hr;have hsh:=zh hs;have hgh:=zh hg;have hid:=fun w'=>printed_t w' id 64;rw [k1]at hid;have hk2:=zh k2;have hk3:=zh k3;have hk4:=zh k4;have h42:decide ((4:Int)<(reds.length:Nat))=false:=by rw [decide_eq_false_iff_not];omega
 have h32:decide ((32:Int)<(scopes.length:Nat))=false:=by rw [decide_eq_false_iff_not];omega
 have hsc:Hid (pub=false→∀w',Calls Tryz.prog 59 #[.string secret,.int .i64 (128:Nat)] w' fun e w''=>e= .returned (.bool true)∧Fr [] w' w''):=zh fun hp w'=>by have:=printed_t w' secret 128;rwa [k6.resolve_left (by simp [hp])]at this
 have hsb:secret.toList.isEmpty=pub:=by rw [str_empty,k5]
 clear hr hs hg k1 k2 k3 k4 k5 k6 hok;unfold CV.cells;dsimp only;go_enter Tryz.func24,Tryz.ntmps24;go_upto_region 1 with(fail)
 refine wp_gen (fun W=>Blk W w.heap.size 72 #[.string id,.string secret,.bool pub,.slice rA reds.length rc,.slice sA scopes.length sc,.slice gA grants.length gc]∧Fr [] w W) ⟨Blk.new _ _ _,(Fr.refl _ _).alloc _⟩ ?_;rintro W ⟨hB,fW⟩;obtain⟨gf,HGF⟩:∃z,Hid (w.heap.size=z):=⟨_,zh rfl⟩
 rw [HGF.o]at hB⊢;have hBh:=zh hB;have fWh:=zh fW;have hgl:=hB.lt;have c0:=hB.cell 0;have c1:=hB.cell 1;have c2:=hB.cell 2;have c3:=hB.cell 3;have c4:=hB.cell 4;simp only [zG,zH,zI]at c0 c1 c2 c3 c4;clear hB fW;cases pub<;>
 ·go_upto_region 3 with(first
   | (go_at_call 59;refine(hid W).mono ?_;clear hid;rintro e w1 ⟨rfl,F1⟩;have d1:=cell_fr F1 c1;have d2:=cell_fr F1 c2;have d3:=cell_fr F1 c3;have d4:=cell_fr F1 c4;have hgl1:=(hBh.o.fr F1 (by simp)).lt;have f1:=zh F1;clear c0 c1 c2 c3 c4 hgl F1)
   | (go_at_call 59;refine(hsc.o (by trivial) w1).mono ?_;clear hsc;rintro e w2 ⟨rfl,F2⟩;have c1:=cell_fr F2 d1;have c2:=cell_fr F2 d2;have c3:=cell_fr F2 d3;have c4:=cell_fr F2 d4;have hgl2:=Nat.lt_of_lt_of_le hgl1 F2.size;have f1:=zh (f1.o.trans F2);clear d1 d2 d3 d4 hgl1 F2))
  refine wp_gen (fun V=>Fr [] W V) f1.o ?_;rintro V fV;have hBVh:=zh (hBh.o.fr fV (by simp));have e3:=hBVh.o.cell 3;simp only [zG,zH,zI]at e3;have hglV:=hBVh.o.lt;have fVh:=zh fV;have fwVh:=zh (fWh.o.trans fV);clear fV f1 hsb;go_upto_block 0 with(fail)
  go_cut [3,4,55]from 56 to 76 (fun s3 s4 s55 wr=>Fr [] V wr)
  case first=>
   go_wp2_with fail
   go_loopg [3,4,55] (reds.length+1) (fun gk s3 s4 s55 wr=>∃(i:Nat),s55= .int .i64 i∧i≤reds.length∧reds.length - i<gk∧Fr [] V wr)
   case atStart=>exact⟨0,rfl,by omega,by omega,Fr.refl _ _⟩
   case round=>
    obtain⟨i,rfl,hi,hk,hF⟩:=hrel;have hFh:=zh hF;clear hF;by_cases hlt:i<reds.length
    ·have hlt':(i:Int)<(reds.length:Nat):=by omega
     have hir:=idx_self reds hokh.o.once i hlt;have hrr:=hrh.o.fr (fwVh.o.trans hFh.o) (fun _=>off_nil _);obtain⟨u,hu⟩:∃z,Hid (reds[i]'hlt=z):=⟨_,zh rfl⟩
     obtain⟨bl,o,rfl,hcs⟩:=hrr.at (by omega);have cu:=hcs i (.string u) (by rw [strCells_at hlt,hu.o]);rw [hu.o]at hir;have hum:u∈reds:=by rw [←hu.o];exact List.getElem_mem hlt
     obtain⟨hp1,hp2⟩:=hokh.o.each u hum;have hp:=printed_t wr u 128;rw [hp1]at hp;have hcon:=fun v=>Tryz.strings_Contains_one u 35 v;rw [no_sharp hp2]at hcon;have hidx:=fun v (F:Fr [] wr v)=>idxS_t v _ reds.length rc reds u (hrr.fr F (fun _=>off_nil _)) rfl (by have:=hk2.o;omega);rw [hir]at hidx;have e3r:=cell_fr hFh.o e3;have hglr:=Nat.lt_of_lt_of_le hglV hFh.o.size;have hlth:=zh hlt;have hk2v:=hk2.o;have hidxh:=zh hidx;clear hcs hrr hum hp1 hp2 hir hidx;go_wp2_with (first
      | (go_at_call 59;refine hp.mono ?_;clear hp;rintro e v1 ⟨rfl,F1⟩;have e3v:=cell_fr F1 e3r;have hgl1:=Nat.lt_of_lt_of_le hglr F1.size;have hidx:=hidxh.o v1 F1;have hfin:=zh (hFh.o.trans F1);clear e3r hidxh F1)
      | (go_at_call 60;refine(hcon v1).mono ?_;clear hcon;rintro e v2 ⟨rfl,rfl⟩)
      | (go_at_call 61;refine hidx.mono ?_;clear hidx;rintro e v3 ⟨rfl,rfl⟩))
     go_roundg (reds.length - i)
     case measure=>have:=hlth.o;omega
     case rel=>exact⟨i+1,by have:=hlth.o;have:=hk2.o;go_num,by have:=hlth.o;omega,by have:=hlth.o;omega,hfin.o⟩
    ·have hlt':¬(i:Int)<(reds.length:Nat):=by omega
     clear hlt;go_wp2_with fail
     go_meet;exact hFh.o
  case rest=>
   have hB2h:=zh (hBVh.o.fr hcut (by simp));have e2:=hB2h.o.cell 2;have e5:=hB2h.o.cell 5;simp only [zG,zH,zI]at e2 e5;have hgl2:=hB2h.o.lt;have fw2h:=zh (fwVh.o.trans hcut);clear e3 hglV hcut;go_upto_block 2 with(fail)
   go_cut [5,7,81]from 82 to 110 (fun s5 s7 s81 wr=>Fr [] wc wr)
   case first=>
    go_wp2_with fail
    go_loopg [5,7,81] (grants.length+1) (fun gk s5 s7 s81 wr=>∃(i:Nat) (last:ByteArray),s81= .int .i64 i∧s5= .string last∧i≤grants.length∧grants.length - i<gk∧(∀g,grants[i]? =some g→bl last g=true)∧Fr [] wc wr)
    case atStart=>exact⟨0,nilB,rfl,rfl,by omega,by omega,fun g hg=>by
     have hm:=List.mem_of_getElem? hg;rcases(hokh.o.kinds g hm).1 with rfl |rfl |rfl<;>decide+kernel,Fr.refl _ _⟩
    case round=>
     obtain⟨i,last,rfl,rfl,hi,hk,hl,hF⟩:=hrel;have hFh:=zh hF;have hk4v:=hk4.o;clear hF;by_cases hlt:i<grants.length
     ·have hlt':(i:Int)<(grants.length:Nat):=by omega
      have hrr:=hgh.o.fr (fw2h.o.trans hFh.o) (fun _=>off_nil _);have hnext:Hid (∀g,grants[i+1]? =some g→bl (grants[i]'hlt) g=true):=zh fun g hg=>by obtain⟨h1,h2⟩:=List.getElem?_eq_some_iff.1 hg;rw [←h2];exact List.pairwise_iff_getElem.1 hokh.o.rise i (i+1) hlt h1 (by omega)
      have hless:=hl _ (List.getElem?_eq_getElem hlt);have hkind:=hokh.o.kinds _ (List.getElem_mem hlt);obtain⟨g,hg⟩:∃z,Hid (grants[i]'hlt=z):=⟨_,zh rfl⟩
      obtain⟨bl0,o,rfl,hcs⟩:=hrr.at (by omega);have cu:=hcs i (.string g) (by rw [strCells_at hlt,hg.o]);rw [hg.o]at hnext hless hkind;have hgn:Hid (grants[i]'hlt=g):=hg;have hle:Op.bytesLess g.toList last.toList=false:=by
       cases hq:Op.bytesLess g.toList last.toList
       ·rfl
       ·have:=bytesLess_trans _ _ _ hless hq;rw [bytesLess_irrefl]at this;cases this
      have hne:(g.toList==last.toList)=false:=by rw [toList_beq,decide_eq_false_iff_not];intro e;have h0:bl last g=true:=hless;rw [e]at h0;have h1:=bytesLess_irrefl last.toList;unfold bl at h0;rw [h1]at h0;cases h0
      have e2r:=cell_fr hFh.o e2;have hglr:=Nat.lt_of_lt_of_le hgl2 hFh.o.size;have hlth:=zh hlt;obtain⟨hk1,hk2'⟩:=hkind;have hkh:=zh hk2';clear hcs hrr hl hless hg;rcases hk1 with hk1 |hk1 |hk1
      ·have q1:(g.toList== [97,117,116,104,111,114,105,122,97,116,105,111,110,95,99,111,100,101])=true:=by rw [hk1];decide+kernel
       have q2:(g.toList== [99,108,105,101,110,116,95,99,114,101,100,101,110,116,105,97,108,115])=false:=by rw [hk1];decide+kernel
       have q3:(g.toList== [114,101,102,114,101,115,104,95,116,111,107,101,110])=false:=by rw [hk1];decide+kernel
       clear hk1;go_wp2_with fail
       go_roundg (grants.length - i)
       case measure=>have:=hlth.o;omega
       case rel=>exact⟨i+1,g,by go_num,rfl,by have:=hlth.o;omega,by have:=hlth.o;omega,hnext.o,hFh.o⟩
      ·first
       |exact absurd hk1 (hkh.o (by trivial))
       | (
          have q1:(g.toList== [97,117,116,104,111,114,105,122,97,116,105,111,110,95,99,111,100,101])=false:=by rw [hk1];decide+kernel
          have q2:(g.toList== [99,108,105,101,110,116,95,99,114,101,100,101,110,116,105,97,108,115])=true:=by rw [hk1];decide+kernel
          have q3:(g.toList== [114,101,102,114,101,115,104,95,116,111,107,101,110])=false:=by rw [hk1];decide+kernel
          clear hk1;go_wp2_with fail
          go_roundg (grants.length - i)
          case measure=>have:=hlth.o;omega
          case rel=>exact⟨i+1,g,by go_num,rfl,by have:=hlth.o;omega,by have:=hlth.o;omega,hnext.o,hFh.o⟩)
      ·have q1:(g.toList== [97,117,116,104,111,114,105,122,97,116,105,111,110,95,99,111,100,101])=false:=by rw [hk1];decide+kernel
       have q2:(g.toList== [99,108,105,101,110,116,95,99,114,101,100,101,110,116,105,97,108,115])=false:=by rw [hk1];decide+kernel
       have q3:(g.toList== [114,101,102,114,101,115,104,95,116,111,107,101,110])=true:=by rw [hk1];decide+kernel
       clear hk1;go_wp2_with fail
       go_roundg (grants.length - i)
       case measure=>have:=hlth.o;omega
       case rel=>exact⟨i+1,g,by go_num,rfl,by have:=hlth.o;omega,by have:=hlth.o;omega,hnext.o,hFh.o⟩
     ·have hlt':¬(i:Int)<(grants.length:Nat):=by omega
      clear hlt hl;go_wp2_with fail
      go_meet;exact hFh.o
   case rest=>
    have hB3h:=zh (hB2h.o.fr hcut (by simp));have c4:=hB3h.o.cell 4;simp only [zG,zH,zI]at c4;have hgl3:=hB3h.o.lt;have hF3h:=zh (fw2h.o.trans hcut);clear hcut e2 e5 hgl2 hB3h hB2h hBVh hBh;go_upto_region 17 with(fail)
    refine wp_gen (fun V=>Fr [] w V∧V.cell? ⟨gf,4,none⟩=some (.slice sA scopes.length sc)) ⟨hF3h.o,c4⟩ ?_;rintro V3 ⟨hF3,c4d⟩;clear c4 hF3h hgl3;have hset:=fun V (hF:Fr [] w V)=>sset_t V sA scopes.length sc scopes (hsh.o.fr hF (fun _=>off_nil _)) rfl (by have:=hk3.o;omega) (fun s hs=>by have:=hokh.o.sz.each s hs;omega);have heq:=fun V (hF:Fr [] w V) A c (hO:Rd V 1 A (setOf scopes).length (strCells (setOf scopes)))=>eqS_t V A sA (setOf scopes).length scopes.length c sc (setOf scopes) scopes hO rfl (hsh.o.fr hF (fun _=>off_nil _)) rfl (by have:=setOf_length scopes;have:=hk3.o;omega) (by have:=hk3.o;omega);have hpr:=fun V (hF:Fr [] w V)=>sprint_t V sA scopes.length sc scopes (hsh.o.fr hF (fun _=>off_nil _)) rfl (by have:=hk3.o;omega) (fun s hs=>by have:=hokh.o.sz.each s hs;omega);have hso:=hokh.o.set;dsimp only at hso;rw [hso,decide_eq_true rfl]at heq;rw [hso]at hset;have hpl:=zh hokh.o.short;dsimp only at hpl;have hlen:Hid ((setOf scopes).length=scopes.length):=zh (by rw [hso]);clear hso;refine wp_region_z (fun w'=>w'.cell? ⟨gf,4,none⟩=some (.slice sA scopes.length sc)) [] (by kernel_rfl) c4d ?_;intro hHeld;refine wpZ_tk (i:=0) (v:= ?_) hHeld ?_ ?_;rotate_left
    ·(intro w hSw;go_simp<;>with_reducible rfl)
    try simp only [zA,zB,zC,Act.put,zD,zE,zF]
    refine wpZ_tk (i:=1) (v:= ?_) hHeld ?_ ?_;rotate_left
    ·(intro w hSw;go_simp<;>with_reducible rfl)
    try simp only [zA,zB,zC,Act.put,zD,zE,zF]
    refine wpZ_tk (i:=2) (v:= ?_) hHeld ?_ ?_;rotate_left
    ·(intro w hSw;go_simp<;>with_reducible rfl)
    try simp only [zA,zB,zC,Act.put,zD,zE,zF]
    refine wpZ_tk (i:=4) (v:= ?_) hHeld ?_ ?_;rotate_left
    ·(intro w hSw;go_simp<;>with_reducible rfl)
    try simp only [zA,zB,zC,Act.put,zD,zE,zF]
    refine wpZ_tk (i:=5) (v:= ?_) hHeld ?_ ?_;rotate_left
    ·(intro w hSw;go_simp<;>with_reducible rfl)
    try simp only [zA,zB,zC,Act.put,zD,zE,zF]
    refine wpZ_tk (i:=6) (v:= ?_) hHeld ?_ ?_;rotate_left
    ·(intro w hSw;go_simp<;>with_reducible rfl)
    try simp only [zA,zB,zC,Act.put,zD,zE,zF]
    refine wpZ_one (i:=3) (by kernel_rfl) rfl (fun K hK=> ?_);go_simp;refine(hset _ hF3.drew).mono ?_;clear hset;rintro e W4 ⟨v4,rfl,O4,F4,-⟩;obtain⟨A4,m4,rfl,-⟩:=O4.form;have hF4:=hF3.drew.trans F4;have c4':=cell_fr F4 c4d;have he:=heq W4 hF4 A4 m4 O4.rd;dsimp only;refine hK.out _ _ c4' (fun hHeld=> ?_);clear hK K;try simp only [zA,zB,zC,Act.put,zD,zE,zF]
    refine wpZ_one (i:=7) (by kernel_rfl) rfl (fun K hK=> ?_);go_simp;refine he.mono ?_;clear he heq;rintro e W5 ⟨rfl,F5⟩;have hF5:=hF4.trans F5;have c5':=cell_fr F5 c4';have hp:=hpr W5 hF5;dsimp only;refine hK.out _ _ c5' (fun hHeld=> ?_);clear hK K;try simp only [zA,zB,zC,Act.put,zD,zE,zF]
    refine wpZ_tk (i:=8) (v:= ?_) hHeld ?_ ?_;rotate_left
    ·(intro w hSw;go_simp<;>with_reducible rfl)
    try simp only [zA,zB,zC,Act.put,zD,zE,zF]
    refine wpZ_tk (i:=9) (v:= ?_) hHeld ?_ ?_;rotate_left
    ·(intro w hSw;go_simp<;>with_reducible rfl)
    try simp only [zA,zB,zC,Act.put,zD,zE,zF]
    refine wpZ_tk (i:=10) (v:= ?_) hHeld ?_ ?_;rotate_left
    ·(intro w hSw;go_simp<;>with_reducible rfl)
    try simp only [zA,zB,zC,Act.put,zD,zE,zF]
    refine wpZ_tk (i:=11) (v:= ?_) hHeld ?_ ?_;rotate_left
    ·(intro w hSw;go_simp<;>with_reducible rfl)
    try simp only [zA,zB,zC,Act.put,zD,zE,zF]
    refine wpZ_one (i:=12) (by kernel_rfl) rfl (fun K hK=> ?_);go_simp;refine hp.mono ?_;clear hp hpr;rintro e W6 ⟨ps,rfl,hps,F6⟩;have hF6:=hF5.trans F6;have c6':=cell_fr F6 c5';have hps':(ps.size:Int)≤128:=by have:=hpl.o;omega
    dsimp only;refine hK.out _ _ c6' (fun hHeld=> ?_);clear hK K;try simp only [zA,zB,zC,Act.put,zD,zE,zF]
    refine wpZ_tk (i:=13) (v:= ?_) hHeld ?_ ?_;rotate_left
    ·(intro w hSw;go_simp<;>with_reducible rfl)
    try simp only [zA,zB,zC,Act.put,zD,zE,zF]
    refine wpZ_tk (i:=14) (v:= ?_) hHeld ?_ ?_;rotate_left
    ·(intro w hSw;go_simp<;>with_reducible rfl)
    try simp only [zA,zB,zC,Act.put,zD,zE,zF]
    refine wpZ_tk (i:=15) (v:= ?_) hHeld ?_ ?_;rotate_left
    ·(intro w hSw;go_simp<;>with_reducible rfl)
    try simp only [zA,zB,zC,Act.put,zD,zE,zF]
    refine wpZ_tk (i:=16) (v:= ?_) hHeld ?_ ?_;rotate_left
    ·(intro w hSw;go_simp<;>with_reducible rfl)
    try simp only [zA,zB,zC,Act.put,zD,zE,zF]
    refine wpZ_done (by kernel_rfl) ?_ _;go_wp2_with fail
    go_ret;exact⟨ret_eq (by rw [decide_eq_true (by have:=hpl.o;omega)]),hF6⟩
end Go.Proofs.YtopfcgpeaaehgaaGreatDoor
