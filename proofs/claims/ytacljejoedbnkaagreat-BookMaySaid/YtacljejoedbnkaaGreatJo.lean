/- Walk: the document's: may a command be? Conditions: each theorem's own. -/
import Derived.Test.YtacljejoedbnkaaGreatJm
import Derived.Test.YtacljejoedbnkaaGreatJn
import Derived.Test.YtacljejoedbnkaaGreatGn
namespace Go.Proofs.YtacljejoedbnkaaGreat
open Go.RowKit Go.Sig
set_option maxRecDepth 100000 in
set_option maxHeartbeats 8000000 in
theorem rmay_1 (w:World) (c:GCmd) (A:Option Addr) (n d:Nat) (hS:Rd w 1 A n (strCells c.scope)) (hn:c.scope.length=n) (hl:n≤150000000000000) (hs:∀s∈c.scope,s.size≤150000000000000) (hfam:c.family.size≤150000000000000) (hk:c.kind=1):
  Calls Tryz.prog 59 #[.agg (cmdV c A n d)] w fun e w'=>e= .returned (.bool (mayM c))∧Fr [] w w':=by
 have hSh:=zh hS;have hsh:=zh hs;have hnh:=zh hn;have hkh:=zh hk;clear hS hs hn hk;unfold cmdV;go_enter Tryz.func59,Tryz.ntmps59;go_upto_region 1 with(fail)
 refine wp_gen (fun W=>Blk W w.heap.size 24 (cmdV c A n d)∧Fr [] w W) ⟨Blk.new _ _ _,(Fr.refl _ _).alloc _⟩ ?_;rintro W0 ⟨hC,f0⟩;obtain⟨gc,HGC⟩:∃z,Hid (w.heap.size=z):=⟨_,zh rfl⟩
 rw [HGC.o]at hC⊢;have hCh:=zh hC;have F0:=zh f0;have hB0:=zh (Fr.refl [] W0);obtain⟨c0,c1,c2,c3,c4,c5,c6,c7,c8,c9,c10,c11,c12,hgl⟩:=cmdV_cells hC;rw [hkh.o]at c0;clear hC f0;have hc:=rid_t W0 c.family hfam;cases h1:idM c.family with
 |false=>
  have hv:=zh (show mayM c=false from mayM_no (fun r=>by have p:=r.id;rw [h1]at p;cases p));rw [h1]at hc;clear h1;go_wp2_with (go_at_call 128;refine Calls.mono (show Calls Tryz.prog 128 _ _ _ from hc) ?_;rintro e W1 ⟨rfl,G1⟩)
  have F1:=zh (F0.o.trans G1);have hB1:=zh (hB0.o.trans G1);clear G1;go_ret;exact⟨ret_eq hv.o.symm,F1.o⟩
 |true=>
  have e1:=zh h1;rw [h1]at hc;clear h1;go_wp2_with fail
  refine Calls.mono (show Calls Tryz.prog 128 _ _ _ from hc) ?_;rintro e W1 ⟨rfl,G1⟩;have F1:=zh (F0.o.trans G1);have hB1:=zh (hB0.o.trans G1);clear G1;clear hc;clear c0 c1 c2 c3 c4 c5 c6 c7 c8 c9 c10 c11 c12 hgl;obtain⟨c0,c1,c2,c3,c4,c5,c6,c7,c8,c9,c10,c11,c12,hgl⟩:=cmdV_cells (hCh.o.fr hB1.o (by simp));rw [hkh.o]at c0;have hAl:Fr [] W1 (W1.alloc (.cells (strCells [c.client,c.user,c.redirect,c.challenge,c.method,c.verifier]).toArray 9)):=(Fr.refl _ _).alloc _;have hAlh:=zh hAl;have hc:=rtexts_t (W1.alloc (.cells (strCells [c.client,c.user,c.redirect,c.challenge,c.method,c.verifier]).toArray 9)) (some ⟨W1.heap.size,0,none⟩) 6 6 [c.client,c.user,c.redirect,c.challenge,c.method,c.verifier] (strs_new W1 _ 9) rfl (by decide);clear hAl;cases h2:textsM [c.client,c.user,c.redirect,c.challenge,c.method,c.verifier]with
  |false=>
   have hv:=zh (show mayM c=false from mayM_no (fun r=>by have p:=r.texts;rw [h2]at p;cases p));rw [h2]at hc;clear h2;go_wp2_with (go_at_call 129;refine Calls.mono (show Calls Tryz.prog 129 _ _ _ from hc) ?_;rintro e W2 ⟨rfl,G2⟩)
   have G2:Fr [] W1 W2:=by rw [←G2];exact hAlh.o
   have F2:=zh (F1.o.trans G2);have hB2:=zh (hB1.o.trans G2);clear G2 hAlh;go_ret;exact⟨ret_eq hv.o.symm,F2.o⟩
  |true=>
   have e2:=zh h2;rw [h2]at hc;clear h2;go_wp2_with fail
   refine Calls.mono (show Calls Tryz.prog 129 _ _ _ from hc) ?_;rintro e W2 ⟨rfl,G2⟩;have G2:Fr [] W1 W2:=by rw [←G2];exact hAlh.o
   have F2:=zh (F1.o.trans G2);have hB2:=zh (hB1.o.trans G2);clear G2 hAlh;clear hc;clear c0 c1 c2 c3 c4 c5 c6 c7 c8 c9 c10 c11 c12 hgl;obtain⟨c0,c1,c2,c3,c4,c5,c6,c7,c8,c9,c10,c11,c12,hgl⟩:=cmdV_cells (hCh.o.fr hB2.o (by simp));rw [hkh.o]at c0;have hc:=rset17_t W2 A n d c.scope (Rd.fr hSh.o F2.o (by simp [Off])) hnh.o hl hsh.o;cases h3:setM c.scope with
   |false=>
    have hv:=zh (show mayM c=false from mayM_no (fun r=>by have p:=r.set;rw [h3]at p;cases p));rw [h3]at hc;clear h3;go_wp2_with (go_at_call 130;refine Calls.mono (show Calls Tryz.prog 130 _ _ _ from hc) ?_;rintro e W3 ⟨rfl,G3⟩)
    have F3:=zh (F2.o.trans G3);have hB3:=zh (hB2.o.trans G3);clear G3;go_ret;exact⟨ret_eq hv.o.symm,F3.o⟩
   |true=>
    have e3:=zh h3;rw [h3]at hc;clear h3;go_wp2_with fail
    refine Calls.mono (show Calls Tryz.prog 130 _ _ _ from hc) ?_;rintro e W3 ⟨rfl,G3⟩;have F3:=zh (F2.o.trans G3);have hB3:=zh (hB2.o.trans G3);clear G3;clear hc;clear c0 c1 c2 c3 c4 c5 c6 c7 c8 c9 c10 c11 c12 hgl;obtain⟨c0,c1,c2,c3,c4,c5,c6,c7,c8,c9,c10,c11,c12,hgl⟩:=cmdV_cells (hCh.o.fr hB3.o (by simp));rw [hkh.o]at c0;cases h4:decide (c.client.size=0)with
    |true=>
     have hv:=zh (show mayM c=false from mayM_no (fun r=>(by have q:=of_decide_eq_true h4;have p:=r.client (by rw [hkh.o];decide);have w0:=hnh.o;(first |exact q p |omega))));have em_client:=str_empty c.client;rw [h4]at em_client;clear h4;go_wp2_with fail
     go_ret;exact⟨ret_eq hv.o.symm,F3.o⟩
    |false=>
     have e4:=zh h4;have em_client:=str_empty c.client;rw [h4]at em_client;clear h4;cases h5:decide (c.verifier.size=0)with
     |false=>
      have hv:=zh (show mayM c=false from mayM_no (fun r=>(by have q:=of_decide_eq_false h5;have p:=r.ver (by rw [hkh.o];decide);have w0:=hnh.o;(first |exact q p |omega))));have em_verifier:=str_empty c.verifier;rw [h5]at em_verifier;clear h5;go_wp2_with fail
      go_ret;exact⟨ret_eq hv.o.symm,F3.o⟩
     |true=>
      have e5:=zh h5;have em_verifier:=str_empty c.verifier;rw [h5]at em_verifier;clear h5;cases h6:c.refresh with
      |true=>
       have hv:=zh (show mayM c=false from mayM_no (fun r=>by have p:=r.refresh (by rw [hkh.o];decide);rw [h6]at p;cases p));rw [h6]at c11;clear h6;go_wp2_with fail
       go_ret;exact⟨ret_eq hv.o.symm,F3.o⟩
      |false=>
       have e6:=zh h6;rw [h6]at c11;clear h6;cases h7:decide (c.serial=0)with
       |false=>
        have hv:=zh (show mayM c=false from mayM_no (fun r=>(by have q:=of_decide_eq_false h7;have p:=r.noserial (by rw [hkh.o];decide) (by rw [hkh.o];decide) (by rw [hkh.o];decide);have w0:=hnh.o;(first |exact q p |omega))));have z_serial:(c.serial !=0)=true:=by have:=of_decide_eq_false h7;rw [bne_iff_ne];exact this
        clear h7;go_wp2_with fail
        go_ret;exact⟨ret_eq hv.o.symm,F3.o⟩
       |true=>
        have e7:=zh h7;have z_serial:(c.serial !=0)=false:=by have:=of_decide_eq_true h7;rw [bne_eq_false_iff_eq];exact this
        have q_serial:=of_decide_eq_true h7;have s1:decide (0≤c.serial)=true:=decide_eq_true (by omega);have s2:decide (c.serial≤1099511627776)=true:=decide_eq_true (by omega);clear q_serial;clear h7;cases h8:decide (c.edge=0)with
        |false=>
         have hv:=zh (show mayM c=false from mayM_no (fun r=>(by have q:=of_decide_eq_false h8;have p:=r.noedge (by rw [hkh.o];decide);have w0:=hnh.o;(first |exact q p |omega))));have z_edge:(c.edge !=0)=true:=by have:=of_decide_eq_false h8;rw [bne_iff_ne];exact this
         clear h8;go_wp2_with fail
         go_ret;exact⟨ret_eq hv.o.symm,F3.o⟩
        |true=>
         have e8:=zh h8;have z_edge:(c.edge !=0)=false:=by have:=of_decide_eq_true h8;rw [bne_eq_false_iff_eq];exact this
         have q_edge:=of_decide_eq_true h8;have g1:decide (0≤c.edge)=true:=decide_eq_true (by omega);have g2:decide (c.edge<32)=true:=decide_eq_true (by omega);clear q_edge;clear h8;cases h9:decide (c.token=0)with
         |false=>
          have hv:=zh (show mayM c=false from mayM_no (fun r=>(by have q:=of_decide_eq_false h9;have p:=r.notoken (by rw [hkh.o];decide) (by rw [hkh.o];decide);have w0:=hnh.o;(first |exact q p |omega))));have z_token:(c.token !=0)=true:=by have:=of_decide_eq_false h9;rw [bne_iff_ne];exact this
          clear h9;go_wp2_with fail
          go_ret;exact⟨ret_eq hv.o.symm,F3.o⟩
         |true=>
          have e9:=zh h9;have z_token:(c.token !=0)=false:=by have:=of_decide_eq_true h9;rw [bne_eq_false_iff_eq];exact this
          have q_token:=of_decide_eq_true h9;clear q_token;clear h9;have hch:c.challenge.size≤100000:=by have:=textsM_mem e2.o (s:=c.challenge) (by simp);omega
          have hc:=rshown_t W3 c.challenge c.method hch;cases hsn:shownM c.challenge c.method with
          |false=>
           have hv:=zh (show mayM c=false from mayM_no (fun r=>by have p:=r.shown;rw [hsn]at p;cases p));rw [hsn]at hc;clear hsn hch;go_wp2_with (go_at_call 131;refine Calls.mono (show Calls Tryz.prog 131 _ _ _ from hc) ?_;rintro e V9 ⟨rfl,G9⟩)
           go_ret;exact⟨ret_eq hv.o.symm,F3.o.trans G9⟩
          |true=>
           have hv:=zh (show mayM c=true from mayM_iff.2 ⟨by rw [hkh.o];decide,by rw [hkh.o];decide,e1.o,e2.o,e3.o,fun h=>absurd hkh.o (by omega),fun _=>of_decide_eq_false e4.o,fun h=>absurd hkh.o (by omega),fun h=>absurd hkh.o (by omega),fun h=>absurd hkh.o (by omega),fun h=>absurd hkh.o (by omega),fun _=>of_decide_eq_true e5.o,fun _=>e6.o,fun h1 h3 h4=>absurd hkh.o (by omega),fun _ _ _=>of_decide_eq_true e7.o,fun _=>of_decide_eq_true e8.o,fun _ _=>of_decide_eq_true e9.o,fun h=>absurd hkh.o (by omega),by have:=of_decide_eq_true e7.o;omega,by have:=of_decide_eq_true e8.o;omega,hsn⟩);rw [hsn]at hc;clear hsn hch;go_wp2_with (go_at_call 131;refine Calls.mono (show Calls Tryz.prog 131 _ _ _ from hc) ?_;rintro e V9 ⟨rfl,G9⟩)
           go_ret;exact⟨ret_eq hv.o.symm,F3.o.trans G9⟩
set_option maxRecDepth 100000 in
set_option maxHeartbeats 8000000 in
theorem rmay_2 (w:World) (c:GCmd) (A:Option Addr) (n d:Nat) (hS:Rd w 1 A n (strCells c.scope)) (hn:c.scope.length=n) (hl:n≤150000000000000) (hs:∀s∈c.scope,s.size≤150000000000000) (hfam:c.family.size≤150000000000000) (hk:c.kind=2):
  Calls Tryz.prog 59 #[.agg (cmdV c A n d)] w fun e w'=>e= .returned (.bool (mayM c))∧Fr [] w w':=by
 have hSh:=zh hS;have hsh:=zh hs;have hnh:=zh hn;have hkh:=zh hk;clear hS hs hn hk;unfold cmdV;go_enter Tryz.func59,Tryz.ntmps59;go_upto_region 1 with(fail)
 refine wp_gen (fun W=>Blk W w.heap.size 24 (cmdV c A n d)∧Fr [] w W) ⟨Blk.new _ _ _,(Fr.refl _ _).alloc _⟩ ?_;rintro W0 ⟨hC,f0⟩;obtain⟨gc,HGC⟩:∃z,Hid (w.heap.size=z):=⟨_,zh rfl⟩
 rw [HGC.o]at hC⊢;have hCh:=zh hC;have F0:=zh f0;have hB0:=zh (Fr.refl [] W0);obtain⟨c0,c1,c2,c3,c4,c5,c6,c7,c8,c9,c10,c11,c12,hgl⟩:=cmdV_cells hC;rw [hkh.o]at c0;clear hC f0;have hc:=rid_t W0 c.family hfam;cases h1:idM c.family with
 |false=>
  have hv:=zh (show mayM c=false from mayM_no (fun r=>by have p:=r.id;rw [h1]at p;cases p));rw [h1]at hc;clear h1;go_wp2_with (go_at_call 128;refine Calls.mono (show Calls Tryz.prog 128 _ _ _ from hc) ?_;rintro e W1 ⟨rfl,G1⟩)
  have F1:=zh (F0.o.trans G1);have hB1:=zh (hB0.o.trans G1);clear G1;go_ret;exact⟨ret_eq hv.o.symm,F1.o⟩
 |true=>
  have e1:=zh h1;rw [h1]at hc;clear h1;go_wp2_with fail
  refine Calls.mono (show Calls Tryz.prog 128 _ _ _ from hc) ?_;rintro e W1 ⟨rfl,G1⟩;have F1:=zh (F0.o.trans G1);have hB1:=zh (hB0.o.trans G1);clear G1;clear hc;clear c0 c1 c2 c3 c4 c5 c6 c7 c8 c9 c10 c11 c12 hgl;obtain⟨c0,c1,c2,c3,c4,c5,c6,c7,c8,c9,c10,c11,c12,hgl⟩:=cmdV_cells (hCh.o.fr hB1.o (by simp));rw [hkh.o]at c0;have hAl:Fr [] W1 (W1.alloc (.cells (strCells [c.client,c.user,c.redirect,c.challenge,c.method,c.verifier]).toArray 9)):=(Fr.refl _ _).alloc _;have hAlh:=zh hAl;have hc:=rtexts_t (W1.alloc (.cells (strCells [c.client,c.user,c.redirect,c.challenge,c.method,c.verifier]).toArray 9)) (some ⟨W1.heap.size,0,none⟩) 6 6 [c.client,c.user,c.redirect,c.challenge,c.method,c.verifier] (strs_new W1 _ 9) rfl (by decide);clear hAl;cases h2:textsM [c.client,c.user,c.redirect,c.challenge,c.method,c.verifier]with
  |false=>
   have hv:=zh (show mayM c=false from mayM_no (fun r=>by have p:=r.texts;rw [h2]at p;cases p));rw [h2]at hc;clear h2;go_wp2_with (go_at_call 129;refine Calls.mono (show Calls Tryz.prog 129 _ _ _ from hc) ?_;rintro e W2 ⟨rfl,G2⟩)
   have G2:Fr [] W1 W2:=by rw [←G2];exact hAlh.o
   have F2:=zh (F1.o.trans G2);have hB2:=zh (hB1.o.trans G2);clear G2 hAlh;go_ret;exact⟨ret_eq hv.o.symm,F2.o⟩
  |true=>
   have e2:=zh h2;rw [h2]at hc;clear h2;go_wp2_with fail
   refine Calls.mono (show Calls Tryz.prog 129 _ _ _ from hc) ?_;rintro e W2 ⟨rfl,G2⟩;have G2:Fr [] W1 W2:=by rw [←G2];exact hAlh.o
   have F2:=zh (F1.o.trans G2);have hB2:=zh (hB1.o.trans G2);clear G2 hAlh;clear hc;clear c0 c1 c2 c3 c4 c5 c6 c7 c8 c9 c10 c11 c12 hgl;obtain⟨c0,c1,c2,c3,c4,c5,c6,c7,c8,c9,c10,c11,c12,hgl⟩:=cmdV_cells (hCh.o.fr hB2.o (by simp));rw [hkh.o]at c0;have hc:=rset17_t W2 A n d c.scope (Rd.fr hSh.o F2.o (by simp [Off])) hnh.o hl hsh.o;cases h3:setM c.scope with
   |false=>
    have hv:=zh (show mayM c=false from mayM_no (fun r=>by have p:=r.set;rw [h3]at p;cases p));rw [h3]at hc;clear h3;go_wp2_with (go_at_call 130;refine Calls.mono (show Calls Tryz.prog 130 _ _ _ from hc) ?_;rintro e W3 ⟨rfl,G3⟩)
    have F3:=zh (F2.o.trans G3);have hB3:=zh (hB2.o.trans G3);clear G3;go_ret;exact⟨ret_eq hv.o.symm,F3.o⟩
   |true=>
    have e3:=zh h3;rw [h3]at hc;clear h3;go_wp2_with fail
    refine Calls.mono (show Calls Tryz.prog 130 _ _ _ from hc) ?_;rintro e W3 ⟨rfl,G3⟩;have F3:=zh (F2.o.trans G3);have hB3:=zh (hB2.o.trans G3);clear G3;clear hc;clear c0 c1 c2 c3 c4 c5 c6 c7 c8 c9 c10 c11 c12 hgl;obtain⟨c0,c1,c2,c3,c4,c5,c6,c7,c8,c9,c10,c11,c12,hgl⟩:=cmdV_cells (hCh.o.fr hB3.o (by simp));rw [hkh.o]at c0;cases h4:decide (c.client.size=0)with
    |true=>
     have hv:=zh (show mayM c=false from mayM_no (fun r=>(by have q:=of_decide_eq_true h4;have p:=r.client (by rw [hkh.o];decide);have w0:=hnh.o;(first |exact q p |omega))));have em_client:=str_empty c.client;rw [h4]at em_client;clear h4;go_wp2_with fail
     go_ret;exact⟨ret_eq hv.o.symm,F3.o⟩
    |false=>
     have e4:=zh h4;have em_client:=str_empty c.client;rw [h4]at em_client;clear h4;cases h5:decide (c.user.size=0)with
     |false=>
      have hv:=zh (show mayM c=false from mayM_no (fun r=>(by have q:=of_decide_eq_false h5;have p:=r.user (by rw [hkh.o];decide);have w0:=hnh.o;(first |exact q p |omega))));have em_user:=str_empty c.user;rw [h5]at em_user;clear h5;go_wp2_with fail
      go_ret;exact⟨ret_eq hv.o.symm,F3.o⟩
     |true=>
      have e5:=zh h5;have em_user:=str_empty c.user;rw [h5]at em_user;clear h5;cases h6:decide (c.challenge.size=0)with
      |false=>
       have hv:=zh (show mayM c=false from mayM_no (fun r=>(by have q:=of_decide_eq_false h6;have p:=r.chal (by rw [hkh.o];decide);have w0:=hnh.o;(first |exact q p |omega))));have em_challenge:=str_empty c.challenge;rw [h6]at em_challenge;clear h6;go_wp2_with fail
       go_ret;exact⟨ret_eq hv.o.symm,F3.o⟩
      |true=>
       have e6:=zh h6;have em_challenge:=str_empty c.challenge;rw [h6]at em_challenge;clear h6;cases h7:decide (c.method.size=0)with
       |false=>
        have hv:=zh (show mayM c=false from mayM_no (fun r=>(by have q:=of_decide_eq_false h7;have p:=r.meth (by rw [hkh.o];decide);have w0:=hnh.o;(first |exact q p |omega))));have em_method:=str_empty c.method;rw [h7]at em_method;clear h7;go_wp2_with fail
        go_ret;exact⟨ret_eq hv.o.symm,F3.o⟩
       |true=>
        have e7:=zh h7;have em_method:=str_empty c.method;rw [h7]at em_method;clear h7;cases h8:decide (0<n)with
        |true=>
         have hv:=zh (show mayM c=false from mayM_no (fun r=>(by have q:=of_decide_eq_true h8;have p:=r.scope (by rw [hkh.o];decide) (by rw [hkh.o];decide) (by rw [hkh.o];decide);have w0:=hnh.o;(first |exact q p |omega))));have zn:0<(n:Int):=by have:=of_decide_eq_true h8;omega
         clear h8;go_wp2_with fail
         go_ret;exact⟨ret_eq hv.o.symm,F3.o⟩
        |false=>
         have e8:=zh h8;obtain rfl:n=0:=by have:=of_decide_eq_false h8;omega
         clear h8;cases h9:decide (c.serial=0)with
         |false=>
          have hv:=zh (show mayM c=false from mayM_no (fun r=>(by have q:=of_decide_eq_false h9;have p:=r.noserial (by rw [hkh.o];decide) (by rw [hkh.o];decide) (by rw [hkh.o];decide);have w0:=hnh.o;(first |exact q p |omega))));have z_serial:(c.serial !=0)=true:=by have:=of_decide_eq_false h9;rw [bne_iff_ne];exact this
          clear h9;go_wp2_with fail
          go_ret;exact⟨ret_eq hv.o.symm,F3.o⟩
         |true=>
          have e9:=zh h9;have z_serial:(c.serial !=0)=false:=by have:=of_decide_eq_true h9;rw [bne_eq_false_iff_eq];exact this
          have q_serial:=of_decide_eq_true h9;have s1:decide (0≤c.serial)=true:=decide_eq_true (by omega);have s2:decide (c.serial≤1099511627776)=true:=decide_eq_true (by omega);clear q_serial;clear h9;cases h10:decide (c.edge=0)with
          |false=>
           have hv:=zh (show mayM c=false from mayM_no (fun r=>(by have q:=of_decide_eq_false h10;have p:=r.noedge (by rw [hkh.o];decide);have w0:=hnh.o;(first |exact q p |omega))));have z_edge:(c.edge !=0)=true:=by have:=of_decide_eq_false h10;rw [bne_iff_ne];exact this
           clear h10;go_wp2_with fail
           go_ret;exact⟨ret_eq hv.o.symm,F3.o⟩
          |true=>
           have e10:=zh h10;have z_edge:(c.edge !=0)=false:=by have:=of_decide_eq_true h10;rw [bne_eq_false_iff_eq];exact this
           have q_edge:=of_decide_eq_true h10;have g1:decide (0≤c.edge)=true:=decide_eq_true (by omega);have g2:decide (c.edge<32)=true:=decide_eq_true (by omega);clear q_edge;clear h10;cases h11:decide (c.token=0)with
           |false=>
            have hv:=zh (show mayM c=false from mayM_no (fun r=>(by have q:=of_decide_eq_false h11;have p:=r.notoken (by rw [hkh.o];decide) (by rw [hkh.o];decide);have w0:=hnh.o;(first |exact q p |omega))));have z_token:(c.token !=0)=true:=by have:=of_decide_eq_false h11;rw [bne_iff_ne];exact this
            clear h11;go_wp2_with fail
            go_ret;exact⟨ret_eq hv.o.symm,F3.o⟩
           |true=>
            have e11:=zh h11;have z_token:(c.token !=0)=false:=by have:=of_decide_eq_true h11;rw [bne_eq_false_iff_eq];exact this
            have q_token:=of_decide_eq_true h11;clear q_token;clear h11;have hch:c.challenge.size≤100000:=by have:=textsM_mem e2.o (s:=c.challenge) (by simp);omega
            have hc:=rshown_t W3 c.challenge c.method hch;cases hsn:shownM c.challenge c.method with
            |false=>
             have hv:=zh (show mayM c=false from mayM_no (fun r=>by have p:=r.shown;rw [hsn]at p;cases p));rw [hsn]at hc;clear hsn hch;go_wp2_with (go_at_call 131;refine Calls.mono (show Calls Tryz.prog 131 _ _ _ from hc) ?_;rintro e V9 ⟨rfl,G9⟩)
             go_ret;exact⟨ret_eq hv.o.symm,F3.o.trans G9⟩
            |true=>
             have hv:=zh (show mayM c=true from mayM_iff.2 ⟨by rw [hkh.o];decide,by rw [hkh.o];decide,e1.o,e2.o,e3.o,fun h=>absurd hkh.o (by omega),fun _=>of_decide_eq_false e4.o,fun _=>of_decide_eq_true e5.o,fun _=>of_decide_eq_true e6.o,fun _=>of_decide_eq_true e7.o,fun h=>absurd hkh.o (by omega),fun h=>absurd hkh.o (by omega),fun h=>absurd hkh.o h,fun _ _ _=>by have:=of_decide_eq_false e8.o;have:=hnh.o;omega,fun _ _ _=>of_decide_eq_true e9.o,fun _=>of_decide_eq_true e10.o,fun _ _=>of_decide_eq_true e11.o,fun h=>absurd hkh.o (by omega),by have:=of_decide_eq_true e9.o;omega,by have:=of_decide_eq_true e10.o;omega,hsn⟩);rw [hsn]at hc;clear hsn hch;go_wp2_with (go_at_call 131;refine Calls.mono (show Calls Tryz.prog 131 _ _ _ from hc) ?_;rintro e V9 ⟨rfl,G9⟩)
             go_ret;exact⟨ret_eq hv.o.symm,F3.o.trans G9⟩
end Go.Proofs.YtacljejoedbnkaaGreat
