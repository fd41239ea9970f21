/- Walk: the document's May, all kinds. Conditions: each theorem's own. -/
import Derived.Test.YtacljejoedbnkaaGreatJm
import Derived.Test.YtacljejoedbnkaaGreatJn
import Derived.Test.YtacljejoedbnkaaGreatGn
import Derived.Test.YtacljejoedbnkaaGreatJo
import Derived.Test.YtacljejoedbnkaaGreatJp
namespace Go.Proofs.YtacljejoedbnkaaGreat
open Go.RowKit Go.Sig
set_option maxRecDepth 100000 in
set_option maxHeartbeats 8000000 in
theorem rmay_5 (w:World) (c:GCmd) (A:Option Addr) (n d:Nat) (hS:Rd w 1 A n (strCells c.scope)) (hn:c.scope.length=n) (hl:n≤150000000000000) (hs:∀s∈c.scope,s.size≤150000000000000) (hfam:c.family.size≤150000000000000) (hk:c.kind=5):
  Calls Tryz.prog 59 #[.agg (cmdV c A n d)] w fun e w'=>e= .returned (.bool (mayM c))∧Fr [] w w':=by
 have hSh:=zh hS;have hsh:=zh hs;have hnh:=zh hn;have hkh:=zh hk;clear hS hs hn hk;unfold cmdV;go_enter Tryz.func59,Tryz.ntmps59;go_upto_region 1 with(fail)
 refine wp_gen (fun W=>Blk W w.heap.size 24 (cmdV c A n d)∧Fr [] w W) ⟨Blk.new _ _ _,(Fr.refl _ _).alloc _⟩ ?_;rintro W0 ⟨hC,f0⟩;obtain⟨gc,HGC⟩:∃z,Hid (w.heap.size=z):=⟨_,zh rfl⟩
 rw [HGC.o]at hC⊢;have hCh:=zh hC;have F0:=zh f0;have hB0:=zh (Fr.refl [] W0);obtain⟨c0,c1,c2,c3,c4,c5,c6,c7,c8,c9,c10,c11,c12,hgl⟩:=cmdV_cells hC;rw [hkh.o]at c0;clear hC f0;have hc:=rid_t W0 c.family hfam;cases h1:idM c.family with
 |false=>
  have hv:=zh (show mayM c=false from mayM_no (fun r=>by have p:=r.id;rw [h1]at p;cases p));rw [h1]at hc;clear h1;go_wp2_with (go_at_call 128;refine Calls.mono (show Calls Tryz.prog 128 _ _ _ from hc) ?_;rintro e W1 ⟨rfl,G1⟩)
  have F1:=zh (F0.o.trans G1);have hB1:=zh (hB0.o.trans G1);clear G1;go_ret;exact⟨ret_eq hv.o.symm,F1.o⟩
 |true=>
  have e1:=zh h1;rw [h1]at hc;clear h1;go_wp2_with fail
  refine Calls.mono (show Calls Tryz.prog 128 _ _ _ from hc) ?_;rintro e W1 ⟨rfl,G1⟩;have F1:=zh (F0.o.trans G1);have hB1:=zh (hB0.o.trans G1);clear G1;clear hc;clear c0 c1 c2 c3 c4 c5 c6 c7 c8 c9 c10 c11 c12 hgl;obtain⟨c0,c1,c2,c3,c4,c5,c6,c7,c8,c9,c10,c11,c12,hgl⟩:=cmdV_cells (hCh.o.fr hB1.o (by simp));rw [hkh.o]at c0;have hAl:Fr [] W1 (W1.alloc (.cells (strCells [c.client,c.user,c.redirect,c.challenge,c.method,c.verifier]).toArray 9)):=(Fr.refl _ _).alloc _;have hAlh:=zh hAl;have hc:=rtexts_t (W1.alloc (.cells (strCells [c.client,c.user,c.redirect,c.challenge,c.method,c.verifier]).toArray 9)) (some ⟨W1.heap.size,0,none⟩) 6 6 [c.client,c.user,c.redirect,c.challenge,c.method,c.verifier] (strs_new W1 _ 9) rfl (by decide);clear hAl;cases h2:textsM [c.client,c.user,c.redirect,c.challenge,c.method,c.verifier]with
  |false=>
   have hv:=zh (show mayM c=false from mayM_no (fun r=>by have p:=r.texts;rw [h2]at p;cases p));rw [h2]at hc;clear h2;go_wp2_with (go_at_call 129;refine Calls.mono (show Calls Tryz.prog 129 _ _ _ from hc) ?_;rintro e W2 ⟨rfl,G2⟩)
   have G2:Fr [] W1 W2:=by rw [←G2];exact hAlh.o
   have F2:=zh (F1.o.trans G2);have hB2:=zh (hB1.o.trans G2);clear G2 hAlh;go_ret;exact⟨ret_eq hv.o.symm,F2.o⟩
  |true=>
   have e2:=zh h2;rw [h2]at hc;clear h2;go_wp2_with fail
   refine Calls.mono (show Calls Tryz.prog 129 _ _ _ from hc) ?_;rintro e W2 ⟨rfl,G2⟩;have G2:Fr [] W1 W2:=by rw [←G2];exact hAlh.o
   have F2:=zh (F1.o.trans G2);have hB2:=zh (hB1.o.trans G2);clear G2 hAlh;clear hc;clear c0 c1 c2 c3 c4 c5 c6 c7 c8 c9 c10 c11 c12 hgl;obtain⟨c0,c1,c2,c3,c4,c5,c6,c7,c8,c9,c10,c11,c12,hgl⟩:=cmdV_cells (hCh.o.fr hB2.o (by simp));rw [hkh.o]at c0;have hc:=rset17_t W2 A n d c.scope (Rd.fr hSh.o F2.o (by simp [Off])) hnh.o hl hsh.o;cases h3:setM c.scope with
   |false=>
    have hv:=zh (show mayM c=false from mayM_no (fun r=>by have p:=r.set;rw [h3]at p;cases p));rw [h3]at hc;clear h3;go_wp2_with (go_at_call 130;refine Calls.mono (show Calls Tryz.prog 130 _ _ _ from hc) ?_;rintro e W3 ⟨rfl,G3⟩)
    have F3:=zh (F2.o.trans G3);have hB3:=zh (hB2.o.trans G3);clear G3;go_ret;exact⟨ret_eq hv.o.symm,F3.o⟩
   |true=>
    have e3:=zh h3;rw [h3]at hc;clear h3;go_wp2_with fail
    refine Calls.mono (show Calls Tryz.prog 130 _ _ _ from hc) ?_;rintro e W3 ⟨rfl,G3⟩;have F3:=zh (F2.o.trans G3);have hB3:=zh (hB2.o.trans G3);clear G3;clear hc;clear c0 c1 c2 c3 c4 c5 c6 c7 c8 c9 c10 c11 c12 hgl;obtain⟨c0,c1,c2,c3,c4,c5,c6,c7,c8,c9,c10,c11,c12,hgl⟩:=cmdV_cells (hCh.o.fr hB3.o (by simp));rw [hkh.o]at c0;cases h4:decide (c.client.size=0)with
    |true=>
     have hv:=zh (show mayM c=false from mayM_no (fun r=>(by have q:=of_decide_eq_true h4;have p:=r.client (by rw [hkh.o];decide);have w0:=hnh.o;(first |exact q p |omega))));have em_client:=str_empty c.client;rw [h4]at em_client;clear h4;go_wp2_with fail
     go_ret;exact⟨ret_eq hv.o.symm,F3.o⟩
    |false=>
     have e4:=zh h4;have em_client:=str_empty c.client;rw [h4]at em_client;clear h4;cases h5:decide (c.user.size=0)with
     |false=>
      have hv:=zh (show mayM c=false from mayM_no (fun r=>(by have q:=of_decide_eq_false h5;have p:=r.user (by rw [hkh.o];decide);have w0:=hnh.o;(first |exact q p |omega))));have em_user:=str_empty c.user;rw [h5]at em_user;clear h5;go_wp2_with fail
      go_ret;exact⟨ret_eq hv.o.symm,F3.o⟩
     |true=>
      have e5:=zh h5;have em_user:=str_empty c.user;rw [h5]at em_user;clear h5;cases h6:decide (c.challenge.size=0)with
      |false=>
       have hv:=zh (show mayM c=false from mayM_no (fun r=>(by have q:=of_decide_eq_false h6;have p:=r.chal (by rw [hkh.o];decide);have w0:=hnh.o;(first |exact q p |omega))));have em_challenge:=str_empty c.challenge;rw [h6]at em_challenge;clear h6;go_wp2_with fail
       go_ret;exact⟨ret_eq hv.o.symm,F3.o⟩
      |true=>
       have e6:=zh h6;have em_challenge:=str_empty c.challenge;rw [h6]at em_challenge;clear h6;cases h7:decide (c.method.size=0)with
       |false=>
        have hv:=zh (show mayM c=false from mayM_no (fun r=>(by have q:=of_decide_eq_false h7;have p:=r.meth (by rw [hkh.o];decide);have w0:=hnh.o;(first |exact q p |omega))));have em_method:=str_empty c.method;rw [h7]at em_method;clear h7;go_wp2_with fail
        go_ret;exact⟨ret_eq hv.o.symm,F3.o⟩
       |true=>
        have e7:=zh h7;have em_method:=str_empty c.method;rw [h7]at em_method;clear h7;cases h8:decide (c.redirect.size=0)with
        |false=>
         have hv:=zh (show mayM c=false from mayM_no (fun r=>(by have q:=of_decide_eq_false h8;have p:=r.redir (by rw [hkh.o];decide);have w0:=hnh.o;(first |exact q p |omega))));have em_redirect:=str_empty c.redirect;rw [h8]at em_redirect;clear h8;go_wp2_with fail
         go_ret;exact⟨ret_eq hv.o.symm,F3.o⟩
        |true=>
         have e8:=zh h8;have em_redirect:=str_empty c.redirect;rw [h8]at em_redirect;clear h8;cases h9:decide (c.verifier.size=0)with
         |false=>
          have hv:=zh (show mayM c=false from mayM_no (fun r=>(by have q:=of_decide_eq_false h9;have p:=r.ver (by rw [hkh.o];decide);have w0:=hnh.o;(first |exact q p |omega))));have em_verifier:=str_empty c.verifier;rw [h9]at em_verifier;clear h9;go_wp2_with fail
          go_ret;exact⟨ret_eq hv.o.symm,F3.o⟩
         |true=>
          have e9:=zh h9;have em_verifier:=str_empty c.verifier;rw [h9]at em_verifier;clear h9;cases h10:c.refresh with
          |true=>
           have hv:=zh (show mayM c=false from mayM_no (fun r=>by have p:=r.refresh (by rw [hkh.o];decide);rw [h10]at p;cases p));rw [h10]at c11;clear h10;go_wp2_with fail
           go_ret;exact⟨ret_eq hv.o.symm,F3.o⟩
          |false=>
           have e10:=zh h10;rw [h10]at c11;clear h10;cases h11:decide (0<n)with
           |true=>
            have hv:=zh (show mayM c=false from mayM_no (fun r=>(by have q:=of_decide_eq_true h11;have p:=r.scope (by rw [hkh.o];decide) (by rw [hkh.o];decide) (by rw [hkh.o];decide);have w0:=hnh.o;(first |exact q p |omega))));have zn:0<(n:Int):=by have:=of_decide_eq_true h11;omega
            clear h11;go_wp2_with fail
            go_ret;exact⟨ret_eq hv.o.symm,F3.o⟩
           |false=>
            have e11:=zh h11;obtain rfl:n=0:=by have:=of_decide_eq_false h11;omega
            clear h11;cases h12:decide (c.edge=0)with
            |false=>
             have hv:=zh (show mayM c=false from mayM_no (fun r=>(by have q:=of_decide_eq_false h12;have p:=r.noedge (by rw [hkh.o];decide);have w0:=hnh.o;(first |exact q p |omega))));have z_edge:(c.edge !=0)=true:=by have:=of_decide_eq_false h12;rw [bne_iff_ne];exact this
             clear h12;go_wp2_with fail
             go_ret;exact⟨ret_eq hv.o.symm,F3.o⟩
            |true=>
             have e12:=zh h12;have z_edge:(c.edge !=0)=false:=by have:=of_decide_eq_true h12;rw [bne_eq_false_iff_eq];exact this
             have q_edge:=of_decide_eq_true h12;have g1:decide (0≤c.edge)=true:=decide_eq_true (by omega);have g2:decide (c.edge<32)=true:=decide_eq_true (by omega);clear q_edge;clear h12;cases h13:decide (c.token<1)with
             |true=>
              have hv:=zh (show mayM c=false from mayM_no (fun r=>(by have q:=of_decide_eq_true h13;have p:=(r.token (by rw [hkh.o];decide)).1;have w0:=hnh.o;(first |exact q p |omega))));have t1:=h13;clear h13;go_wp2_with fail
              go_ret;exact⟨ret_eq hv.o.symm,F3.o⟩
             |false=>
              have e13:=zh h13;have t1:=h13;clear h13;cases h14:decide (3<c.token)with
              |true=>
               have hv:=zh (show mayM c=false from mayM_no (fun r=>(by have q:=of_decide_eq_true h14;have p:=(r.token (by rw [hkh.o];decide)).2;have w0:=hnh.o;(first |exact q p |omega))));have t2:=h14;clear h14;go_wp2_with fail
               go_ret;exact⟨ret_eq hv.o.symm,F3.o⟩
              |false=>
               have e14:=zh h14;have t2:=h14;clear h14;cases h15:decide (0≤c.serial)with
               |false=>
                have hv:=zh (show mayM c=false from mayM_no (fun r=>(by have q:=of_decide_eq_false h15;have p:=r.serial.1;have w0:=hnh.o;(first |exact q p |omega))));have s1:=h15;clear h15;go_wp2_with fail
                go_ret;exact⟨ret_eq hv.o.symm,F3.o⟩
               |true=>
                have e15:=zh h15;have s1:=h15;clear h15;cases h16:decide (c.serial≤1099511627776)with
                |false=>
                 have hv:=zh (show mayM c=false from mayM_no (fun r=>(by have q:=of_decide_eq_false h16;have p:=r.serial.2;have w0:=hnh.o;(first |exact q p |omega))));have s2:=h16;clear h16;go_wp2_with fail
                 go_ret;exact⟨ret_eq hv.o.symm,F3.o⟩
                |true=>
                 have e16:=zh h16;have s2:=h16;clear h16;have hch:c.challenge.size≤100000:=by have:=textsM_mem e2.o (s:=c.challenge) (by simp);omega
                 have hc:=rshown_t W3 c.challenge c.method hch;cases hsn:shownM c.challenge c.method with
                 |false=>
                  have hv:=zh (show mayM c=false from mayM_no (fun r=>by have p:=r.shown;rw [hsn]at p;cases p));rw [hsn]at hc;clear hsn hch;go_wp2_with (go_at_call 131;refine Calls.mono (show Calls Tryz.prog 131 _ _ _ from hc) ?_;rintro e V9 ⟨rfl,G9⟩)
                  go_ret;exact⟨ret_eq hv.o.symm,F3.o.trans G9⟩
                 |true=>
                  have hv:=zh (show mayM c=true from mayM_iff.2 ⟨by rw [hkh.o];decide,by rw [hkh.o];decide,e1.o,e2.o,e3.o,fun h=>absurd hkh.o (by omega),fun _=>of_decide_eq_false e4.o,fun _=>of_decide_eq_true e5.o,fun _=>of_decide_eq_true e6.o,fun _=>of_decide_eq_true e7.o,fun _=>of_decide_eq_true e8.o,fun _=>of_decide_eq_true e9.o,fun _=>e10.o,fun _ _ _=>by have:=of_decide_eq_false e11.o;have:=hnh.o;omega,fun h1 h3 h4=>absurd hkh.o (by omega),fun _=>of_decide_eq_true e12.o,fun h1 h2=>absurd hkh.o (by omega),fun _=>⟨by have:=of_decide_eq_false e13.o;omega,by have:=of_decide_eq_false e14.o;omega⟩,⟨of_decide_eq_true e15.o,of_decide_eq_true e16.o⟩,by have:=of_decide_eq_true e12.o;omega,hsn⟩);rw [hsn]at hc;clear hsn hch;go_wp2_with (go_at_call 131;refine Calls.mono (show Calls Tryz.prog 131 _ _ _ from hc) ?_;rintro e V9 ⟨rfl,G9⟩)
                  go_ret;exact⟨ret_eq hv.o.symm,F3.o.trans G9⟩
set_option maxRecDepth 100000 in
set_option maxHeartbeats 8000000 in
theorem rmay_6 (w:World) (c:GCmd) (A:Option Addr) (n d:Nat) (hS:Rd w 1 A n (strCells c.scope)) (hn:c.scope.length=n) (hl:n≤150000000000000) (hs:∀s∈c.scope,s.size≤150000000000000) (hfam:c.family.size≤150000000000000) (hk:c.kind=6):
  Calls Tryz.prog 59 #[.agg (cmdV c A n d)] w fun e w'=>e= .returned (.bool (mayM c))∧Fr [] w w':=by
 have hSh:=zh hS;have hsh:=zh hs;have hnh:=zh hn;have hkh:=zh hk;clear hS hs hn hk;unfold cmdV;go_enter Tryz.func59,Tryz.ntmps59;go_upto_region 1 with(fail)
 refine wp_gen (fun W=>Blk W w.heap.size 24 (cmdV c A n d)∧Fr [] w W) ⟨Blk.new _ _ _,(Fr.refl _ _).alloc _⟩ ?_;rintro W0 ⟨hC,f0⟩;obtain⟨gc,HGC⟩:∃z,Hid (w.heap.size=z):=⟨_,zh rfl⟩
 rw [HGC.o]at hC⊢;have hCh:=zh hC;have F0:=zh f0;have hB0:=zh (Fr.refl [] W0);obtain⟨c0,c1,c2,c3,c4,c5,c6,c7,c8,c9,c10,c11,c12,hgl⟩:=cmdV_cells hC;rw [hkh.o]at c0;clear hC f0;have hc:=rid_t W0 c.family hfam;cases h1:idM c.family with
 |false=>
  have hv:=zh (show mayM c=false from mayM_no (fun r=>by have p:=r.id;rw [h1]at p;cases p));rw [h1]at hc;clear h1;go_wp2_with (go_at_call 128;refine Calls.mono (show Calls Tryz.prog 128 _ _ _ from hc) ?_;rintro e W1 ⟨rfl,G1⟩)
  have F1:=zh (F0.o.trans G1);have hB1:=zh (hB0.o.trans G1);clear G1;go_ret;exact⟨ret_eq hv.o.symm,F1.o⟩
 |true=>
  have e1:=zh h1;rw [h1]at hc;clear h1;go_wp2_with fail
  refine Calls.mono (show Calls Tryz.prog 128 _ _ _ from hc) ?_;rintro e W1 ⟨rfl,G1⟩;have F1:=zh (F0.o.trans G1);have hB1:=zh (hB0.o.trans G1);clear G1;clear hc;clear c0 c1 c2 c3 c4 c5 c6 c7 c8 c9 c10 c11 c12 hgl;obtain⟨c0,c1,c2,c3,c4,c5,c6,c7,c8,c9,c10,c11,c12,hgl⟩:=cmdV_cells (hCh.o.fr hB1.o (by simp));rw [hkh.o]at c0;have hAl:Fr [] W1 (W1.alloc (.cells (strCells [c.client,c.user,c.redirect,c.challenge,c.method,c.verifier]).toArray 9)):=(Fr.refl _ _).alloc _;have hAlh:=zh hAl;have hc:=rtexts_t (W1.alloc (.cells (strCells [c.client,c.user,c.redirect,c.challenge,c.method,c.verifier]).toArray 9)) (some ⟨W1.heap.size,0,none⟩) 6 6 [c.client,c.user,c.redirect,c.challenge,c.method,c.verifier] (strs_new W1 _ 9) rfl (by decide);clear hAl;cases h2:textsM [c.client,c.user,c.redirect,c.challenge,c.method,c.verifier]with
  |false=>
   have hv:=zh (show mayM c=false from mayM_no (fun r=>by have p:=r.texts;rw [h2]at p;cases p));rw [h2]at hc;clear h2;go_wp2_with (go_at_call 129;refine Calls.mono (show Calls Tryz.prog 129 _ _ _ from hc) ?_;rintro e W2 ⟨rfl,G2⟩)
   have G2:Fr [] W1 W2:=by rw [←G2];exact hAlh.o
   have F2:=zh (F1.o.trans G2);have hB2:=zh (hB1.o.trans G2);clear G2 hAlh;go_ret;exact⟨ret_eq hv.o.symm,F2.o⟩
  |true=>
   have e2:=zh h2;rw [h2]at hc;clear h2;go_wp2_with fail
   refine Calls.mono (show Calls Tryz.prog 129 _ _ _ from hc) ?_;rintro e W2 ⟨rfl,G2⟩;have G2:Fr [] W1 W2:=by rw [←G2];exact hAlh.o
   have F2:=zh (F1.o.trans G2);have hB2:=zh (hB1.o.trans G2);clear G2 hAlh;clear hc;clear c0 c1 c2 c3 c4 c5 c6 c7 c8 c9 c10 c11 c12 hgl;obtain⟨c0,c1,c2,c3,c4,c5,c6,c7,c8,c9,c10,c11,c12,hgl⟩:=cmdV_cells (hCh.o.fr hB2.o (by simp));rw [hkh.o]at c0;have hc:=rset17_t W2 A n d c.scope (Rd.fr hSh.o F2.o (by simp [Off])) hnh.o hl hsh.o;cases h3:setM c.scope with
   |false=>
    have hv:=zh (show mayM c=false from mayM_no (fun r=>by have p:=r.set;rw [h3]at p;cases p));rw [h3]at hc;clear h3;go_wp2_with (go_at_call 130;refine Calls.mono (show Calls Tryz.prog 130 _ _ _ from hc) ?_;rintro e W3 ⟨rfl,G3⟩)
    have F3:=zh (F2.o.trans G3);have hB3:=zh (hB2.o.trans G3);clear G3;go_ret;exact⟨ret_eq hv.o.symm,F3.o⟩
   |true=>
    have e3:=zh h3;rw [h3]at hc;clear h3;go_wp2_with fail
    refine Calls.mono (show Calls Tryz.prog 130 _ _ _ from hc) ?_;rintro e W3 ⟨rfl,G3⟩;have F3:=zh (F2.o.trans G3);have hB3:=zh (hB2.o.trans G3);clear G3;clear hc;clear c0 c1 c2 c3 c4 c5 c6 c7 c8 c9 c10 c11 c12 hgl;obtain⟨c0,c1,c2,c3,c4,c5,c6,c7,c8,c9,c10,c11,c12,hgl⟩:=cmdV_cells (hCh.o.fr hB3.o (by simp));rw [hkh.o]at c0;cases h4:decide (c.client.size=0)with
    |false=>
     have hv:=zh (show mayM c=false from mayM_no (fun r=>(by have q:=of_decide_eq_false h4;have p:=r.nocl (by rw [hkh.o];decide);have w0:=hnh.o;(first |exact q p |omega))));have em_client:=str_empty c.client;rw [h4]at em_client;clear h4;go_wp2_with fail
     go_ret;exact⟨ret_eq hv.o.symm,F3.o⟩
    |true=>
     have e4:=zh h4;have em_client:=str_empty c.client;rw [h4]at em_client;clear h4;cases h5:decide (c.user.size=0)with
     |false=>
      have hv:=zh (show mayM c=false from mayM_no (fun r=>(by have q:=of_decide_eq_false h5;have p:=r.user (by rw [hkh.o];decide);have w0:=hnh.o;(first |exact q p |omega))));have em_user:=str_empty c.user;rw [h5]at em_user;clear h5;go_wp2_with fail
      go_ret;exact⟨ret_eq hv.o.symm,F3.o⟩
     |true=>
      have e5:=zh h5;have em_user:=str_empty c.user;rw [h5]at em_user;clear h5;cases h6:decide (c.challenge.size=0)with
      |false=>
       have hv:=zh (show mayM c=false from mayM_no (fun r=>(by have q:=of_decide_eq_false h6;have p:=r.chal (by rw [hkh.o];decide);have w0:=hnh.o;(first |exact q p |omega))));have em_challenge:=str_empty c.challenge;rw [h6]at em_challenge;clear h6;go_wp2_with fail
       go_ret;exact⟨ret_eq hv.o.symm,F3.o⟩
      |true=>
       have e6:=zh h6;have em_challenge:=str_empty c.challenge;rw [h6]at em_challenge;clear h6;cases h7:decide (c.method.size=0)with
       |false=>
        have hv:=zh (show mayM c=false from mayM_no (fun r=>(by have q:=of_decide_eq_false h7;have p:=r.meth (by rw [hkh.o];decide);have w0:=hnh.o;(first |exact q p |omega))));have em_method:=str_empty c.method;rw [h7]at em_method;clear h7;go_wp2_with fail
        go_ret;exact⟨ret_eq hv.o.symm,F3.o⟩
       |true=>
        have e7:=zh h7;have em_method:=str_empty c.method;rw [h7]at em_method;clear h7;cases h8:decide (c.redirect.size=0)with
        |false=>
         have hv:=zh (show mayM c=false from mayM_no (fun r=>(by have q:=of_decide_eq_false h8;have p:=r.redir (by rw [hkh.o];decide);have w0:=hnh.o;(first |exact q p |omega))));have em_redirect:=str_empty c.redirect;rw [h8]at em_redirect;clear h8;go_wp2_with fail
         go_ret;exact⟨ret_eq hv.o.symm,F3.o⟩
        |true=>
         have e8:=zh h8;have em_redirect:=str_empty c.redirect;rw [h8]at em_redirect;clear h8;cases h9:decide (c.verifier.size=0)with
         |false=>
          have hv:=zh (show mayM c=false from mayM_no (fun r=>(by have q:=of_decide_eq_false h9;have p:=r.ver (by rw [hkh.o];decide);have w0:=hnh.o;(first |exact q p |omega))));have em_verifier:=str_empty c.verifier;rw [h9]at em_verifier;clear h9;go_wp2_with fail
          go_ret;exact⟨ret_eq hv.o.symm,F3.o⟩
         |true=>
          have e9:=zh h9;have em_verifier:=str_empty c.verifier;rw [h9]at em_verifier;clear h9;cases h10:c.refresh with
          |true=>
           have hv:=zh (show mayM c=false from mayM_no (fun r=>by have p:=r.refresh (by rw [hkh.o];decide);rw [h10]at p;cases p));rw [h10]at c11;clear h10;go_wp2_with fail
           go_ret;exact⟨ret_eq hv.o.symm,F3.o⟩
          |false=>
           have e10:=zh h10;rw [h10]at c11;clear h10;cases h11:decide (0<n)with
           |true=>
            have hv:=zh (show mayM c=false from mayM_no (fun r=>(by have q:=of_decide_eq_true h11;have p:=r.scope (by rw [hkh.o];decide) (by rw [hkh.o];decide) (by rw [hkh.o];decide);have w0:=hnh.o;(first |exact q p |omega))));have zn:0<(n:Int):=by have:=of_decide_eq_true h11;omega
            clear h11;go_wp2_with fail
            go_ret;exact⟨ret_eq hv.o.symm,F3.o⟩
           |false=>
            have e11:=zh h11;obtain rfl:n=0:=by have:=of_decide_eq_false h11;omega
            clear h11;cases h12:decide (c.token<1)with
            |true=>
             have hv:=zh (show mayM c=false from mayM_no (fun r=>(by have q:=of_decide_eq_true h12;have p:=(r.token (by rw [hkh.o];decide)).1;have w0:=hnh.o;(first |exact q p |omega))));have t1:=h12;clear h12;go_wp2_with fail
             go_ret;exact⟨ret_eq hv.o.symm,F3.o⟩
            |false=>
             have e12:=zh h12;have t1:=h12;clear h12;cases h13:decide (3<c.token)with
             |true=>
              have hv:=zh (show mayM c=false from mayM_no (fun r=>(by have q:=of_decide_eq_true h13;have p:=(r.token (by rw [hkh.o];decide)).2;have w0:=hnh.o;(first |exact q p |omega))));have t2:=h13;clear h13;go_wp2_with fail
              go_ret;exact⟨ret_eq hv.o.symm,F3.o⟩
             |false=>
              have e13:=zh h13;have t2:=h13;clear h13;cases h14:decide (0≤c.serial)with
              |false=>
               have hv:=zh (show mayM c=false from mayM_no (fun r=>(by have q:=of_decide_eq_false h14;have p:=r.serial.1;have w0:=hnh.o;(first |exact q p |omega))));have s1:=h14;clear h14;go_wp2_with fail
               go_ret;exact⟨ret_eq hv.o.symm,F3.o⟩
              |true=>
               have e14:=zh h14;have s1:=h14;clear h14;cases h15:decide (c.serial≤1099511627776)with
               |false=>
                have hv:=zh (show mayM c=false from mayM_no (fun r=>(by have q:=of_decide_eq_false h15;have p:=r.serial.2;have w0:=hnh.o;(first |exact q p |omega))));have s2:=h15;clear h15;go_wp2_with fail
                go_ret;exact⟨ret_eq hv.o.symm,F3.o⟩
               |true=>
                have e15:=zh h15;have s2:=h15;clear h15;cases h16:decide (0≤c.edge)with
                |false=>
                 have hv:=zh (show mayM c=false from mayM_no (fun r=>(by have q:=of_decide_eq_false h16;have p:=r.edge.1;have w0:=hnh.o;(first |exact q p |omega))));have g1:=h16;clear h16;go_wp2_with fail
                 go_ret;exact⟨ret_eq hv.o.symm,F3.o⟩
                |true=>
                 have e16:=zh h16;have g1:=h16;clear h16;cases h17:decide (c.edge<32)with
                 |false=>
                  have hv:=zh (show mayM c=false from mayM_no (fun r=>(by have q:=of_decide_eq_false h17;have p:=r.edge.2;have w0:=hnh.o;(first |exact q p |omega))));have g2:=h17;clear h17;go_wp2_with fail
                  go_ret;exact⟨ret_eq hv.o.symm,F3.o⟩
                 |true=>
                  have e17:=zh h17;have g2:=h17;clear h17;have hch:c.challenge.size≤100000:=by have:=textsM_mem e2.o (s:=c.challenge) (by simp);omega
                  have hc:=rshown_t W3 c.challenge c.method hch;cases hsn:shownM c.challenge c.method with
                  |false=>
                   have hv:=zh (show mayM c=false from mayM_no (fun r=>by have p:=r.shown;rw [hsn]at p;cases p));rw [hsn]at hc;clear hsn hch;go_wp2_with (go_at_call 131;refine Calls.mono (show Calls Tryz.prog 131 _ _ _ from hc) ?_;rintro e V9 ⟨rfl,G9⟩)
                   go_ret;exact⟨ret_eq hv.o.symm,F3.o.trans G9⟩
                  |true=>
                   have hv:=zh (show mayM c=true from mayM_iff.2 ⟨by rw [hkh.o];decide,by rw [hkh.o];decide,e1.o,e2.o,e3.o,fun _=>of_decide_eq_true e4.o,fun h=>absurd hkh.o (by omega),fun _=>of_decide_eq_true e5.o,fun _=>of_decide_eq_true e6.o,fun _=>of_decide_eq_true e7.o,fun _=>of_decide_eq_true e8.o,fun _=>of_decide_eq_true e9.o,fun _=>e10.o,fun _ _ _=>by have:=of_decide_eq_false e11.o;have:=hnh.o;omega,fun h1 h3 h4=>absurd hkh.o (by omega),fun h=>absurd hkh.o h,fun h1 h2=>absurd hkh.o (by omega),fun _=>⟨by have:=of_decide_eq_false e12.o;omega,by have:=of_decide_eq_false e13.o;omega⟩,⟨of_decide_eq_true e14.o,of_decide_eq_true e15.o⟩,⟨of_decide_eq_true e16.o,of_decide_eq_true e17.o⟩,hsn⟩);rw [hsn]at hc;clear hsn hch;go_wp2_with (go_at_call 131;refine Calls.mono (show Calls Tryz.prog 131 _ _ _ from hc) ?_;rintro e V9 ⟨rfl,G9⟩)
                   go_ret;exact⟨ret_eq hv.o.symm,F3.o.trans G9⟩
set_option maxRecDepth 100000 in
set_option maxHeartbeats 8000000 in
theorem rmay_7 (w:World) (c:GCmd) (A:Option Addr) (n d:Nat) (hS:Rd w 1 A n (strCells c.scope)) (hn:c.scope.length=n) (hl:n≤150000000000000) (hs:∀s∈c.scope,s.size≤150000000000000) (hfam:c.family.size≤150000000000000) (hk:c.kind=7):
  Calls Tryz.prog 59 #[.agg (cmdV c A n d)] w fun e w'=>e= .returned (.bool (mayM c))∧Fr [] w w':=by
 have hSh:=zh hS;have hsh:=zh hs;have hnh:=zh hn;have hkh:=zh hk;clear hS hs hn hk;unfold cmdV;go_enter Tryz.func59,Tryz.ntmps59;go_upto_region 1 with(fail)
 refine wp_gen (fun W=>Blk W w.heap.size 24 (cmdV c A n d)∧Fr [] w W) ⟨Blk.new _ _ _,(Fr.refl _ _).alloc _⟩ ?_;rintro W0 ⟨hC,f0⟩;obtain⟨gc,HGC⟩:∃z,Hid (w.heap.size=z):=⟨_,zh rfl⟩
 rw [HGC.o]at hC⊢;have hCh:=zh hC;have F0:=zh f0;have hB0:=zh (Fr.refl [] W0);obtain⟨c0,c1,c2,c3,c4,c5,c6,c7,c8,c9,c10,c11,c12,hgl⟩:=cmdV_cells hC;rw [hkh.o]at c0;clear hC f0;have hc:=rid_t W0 c.family hfam;cases h1:idM c.family with
 |false=>
  have hv:=zh (show mayM c=false from mayM_no (fun r=>by have p:=r.id;rw [h1]at p;cases p));rw [h1]at hc;clear h1;go_wp2_with (go_at_call 128;refine Calls.mono (show Calls Tryz.prog 128 _ _ _ from hc) ?_;rintro e W1 ⟨rfl,G1⟩)
  have F1:=zh (F0.o.trans G1);have hB1:=zh (hB0.o.trans G1);clear G1;go_ret;exact⟨ret_eq hv.o.symm,F1.o⟩
 |true=>
  have e1:=zh h1;rw [h1]at hc;clear h1;go_wp2_with fail
  refine Calls.mono (show Calls Tryz.prog 128 _ _ _ from hc) ?_;rintro e W1 ⟨rfl,G1⟩;have F1:=zh (F0.o.trans G1);have hB1:=zh (hB0.o.trans G1);clear G1;clear hc;clear c0 c1 c2 c3 c4 c5 c6 c7 c8 c9 c10 c11 c12 hgl;obtain⟨c0,c1,c2,c3,c4,c5,c6,c7,c8,c9,c10,c11,c12,hgl⟩:=cmdV_cells (hCh.o.fr hB1.o (by simp));rw [hkh.o]at c0;have hAl:Fr [] W1 (W1.alloc (.cells (strCells [c.client,c.user,c.redirect,c.challenge,c.method,c.verifier]).toArray 9)):=(Fr.refl _ _).alloc _;have hAlh:=zh hAl;have hc:=rtexts_t (W1.alloc (.cells (strCells [c.client,c.user,c.redirect,c.challenge,c.method,c.verifier]).toArray 9)) (some ⟨W1.heap.size,0,none⟩) 6 6 [c.client,c.user,c.redirect,c.challenge,c.method,c.verifier] (strs_new W1 _ 9) rfl (by decide);clear hAl;cases h2:textsM [c.client,c.user,c.redirect,c.challenge,c.method,c.verifier]with
  |false=>
   have hv:=zh (show mayM c=false from mayM_no (fun r=>by have p:=r.texts;rw [h2]at p;cases p));rw [h2]at hc;clear h2;go_wp2_with (go_at_call 129;refine Calls.mono (show Calls Tryz.prog 129 _ _ _ from hc) ?_;rintro e W2 ⟨rfl,G2⟩)
   have G2:Fr [] W1 W2:=by rw [←G2];exact hAlh.o
   have F2:=zh (F1.o.trans G2);have hB2:=zh (hB1.o.trans G2);clear G2 hAlh;go_ret;exact⟨ret_eq hv.o.symm,F2.o⟩
  |true=>
   have e2:=zh h2;rw [h2]at hc;clear h2;go_wp2_with fail
   refine Calls.mono (show Calls Tryz.prog 129 _ _ _ from hc) ?_;rintro e W2 ⟨rfl,G2⟩;have G2:Fr [] W1 W2:=by rw [←G2];exact hAlh.o
   have F2:=zh (F1.o.trans G2);have hB2:=zh (hB1.o.trans G2);clear G2 hAlh;clear hc;clear c0 c1 c2 c3 c4 c5 c6 c7 c8 c9 c10 c11 c12 hgl;obtain⟨c0,c1,c2,c3,c4,c5,c6,c7,c8,c9,c10,c11,c12,hgl⟩:=cmdV_cells (hCh.o.fr hB2.o (by simp));rw [hkh.o]at c0;have hc:=rset17_t W2 A n d c.scope (Rd.fr hSh.o F2.o (by simp [Off])) hnh.o hl hsh.o;cases h3:setM c.scope with
   |false=>
    have hv:=zh (show mayM c=false from mayM_no (fun r=>by have p:=r.set;rw [h3]at p;cases p));rw [h3]at hc;clear h3;go_wp2_with (go_at_call 130;refine Calls.mono (show Calls Tryz.prog 130 _ _ _ from hc) ?_;rintro e W3 ⟨rfl,G3⟩)
    have F3:=zh (F2.o.trans G3);have hB3:=zh (hB2.o.trans G3);clear G3;go_ret;exact⟨ret_eq hv.o.symm,F3.o⟩
   |true=>
    have e3:=zh h3;rw [h3]at hc;clear h3;go_wp2_with fail
    refine Calls.mono (show Calls Tryz.prog 130 _ _ _ from hc) ?_;rintro e W3 ⟨rfl,G3⟩;have F3:=zh (F2.o.trans G3);have hB3:=zh (hB2.o.trans G3);clear G3;clear hc;clear c0 c1 c2 c3 c4 c5 c6 c7 c8 c9 c10 c11 c12 hgl;obtain⟨c0,c1,c2,c3,c4,c5,c6,c7,c8,c9,c10,c11,c12,hgl⟩:=cmdV_cells (hCh.o.fr hB3.o (by simp));rw [hkh.o]at c0;cases h4:decide (c.client.size=0)with
    |false=>
     have hv:=zh (show mayM c=false from mayM_no (fun r=>(by have q:=of_decide_eq_false h4;have p:=r.nocl (by rw [hkh.o];decide);have w0:=hnh.o;(first |exact q p |omega))));have em_client:=str_empty c.client;rw [h4]at em_client;clear h4;go_wp2_with fail
     go_ret;exact⟨ret_eq hv.o.symm,F3.o⟩
    |true=>
     have e4:=zh h4;have em_client:=str_empty c.client;rw [h4]at em_client;clear h4;cases h5:decide (c.user.size=0)with
     |false=>
      have hv:=zh (show mayM c=false from mayM_no (fun r=>(by have q:=of_decide_eq_false h5;have p:=r.user (by rw [hkh.o];decide);have w0:=hnh.o;(first |exact q p |omega))));have em_user:=str_empty c.user;rw [h5]at em_user;clear h5;go_wp2_with fail
      go_ret;exact⟨ret_eq hv.o.symm,F3.o⟩
     |true=>
      have e5:=zh h5;have em_user:=str_empty c.user;rw [h5]at em_user;clear h5;cases h6:decide (c.challenge.size=0)with
      |false=>
       have hv:=zh (show mayM c=false from mayM_no (fun r=>(by have q:=of_decide_eq_false h6;have p:=r.chal (by rw [hkh.o];decide);have w0:=hnh.o;(first |exact q p |omega))));have em_challenge:=str_empty c.challenge;rw [h6]at em_challenge;clear h6;go_wp2_with fail
       go_ret;exact⟨ret_eq hv.o.symm,F3.o⟩
      |true=>
       have e6:=zh h6;have em_challenge:=str_empty c.challenge;rw [h6]at em_challenge;clear h6;cases h7:decide (c.method.size=0)with
       |false=>
        have hv:=zh (show mayM c=false from mayM_no (fun r=>(by have q:=of_decide_eq_false h7;have p:=r.meth (by rw [hkh.o];decide);have w0:=hnh.o;(first |exact q p |omega))));have em_method:=str_empty c.method;rw [h7]at em_method;clear h7;go_wp2_with fail
        go_ret;exact⟨ret_eq hv.o.symm,F3.o⟩
       |true=>
        have e7:=zh h7;have em_method:=str_empty c.method;rw [h7]at em_method;clear h7;cases h8:decide (c.redirect.size=0)with
        |false=>
         have hv:=zh (show mayM c=false from mayM_no (fun r=>(by have q:=of_decide_eq_false h8;have p:=r.redir (by rw [hkh.o];decide);have w0:=hnh.o;(first |exact q p |omega))));have em_redirect:=str_empty c.redirect;rw [h8]at em_redirect;clear h8;go_wp2_with fail
         go_ret;exact⟨ret_eq hv.o.symm,F3.o⟩
        |true=>
         have e8:=zh h8;have em_redirect:=str_empty c.redirect;rw [h8]at em_redirect;clear h8;cases h9:decide (c.verifier.size=0)with
         |false=>
          have hv:=zh (show mayM c=false from mayM_no (fun r=>(by have q:=of_decide_eq_false h9;have p:=r.ver (by rw [hkh.o];decide);have w0:=hnh.o;(first |exact q p |omega))));have em_verifier:=str_empty c.verifier;rw [h9]at em_verifier;clear h9;go_wp2_with fail
          go_ret;exact⟨ret_eq hv.o.symm,F3.o⟩
         |true=>
          have e9:=zh h9;have em_verifier:=str_empty c.verifier;rw [h9]at em_verifier;clear h9;cases h10:c.refresh with
          |true=>
           have hv:=zh (show mayM c=false from mayM_no (fun r=>by have p:=r.refresh (by rw [hkh.o];decide);rw [h10]at p;cases p));rw [h10]at c11;clear h10;go_wp2_with fail
           go_ret;exact⟨ret_eq hv.o.symm,F3.o⟩
          |false=>
           have e10:=zh h10;rw [h10]at c11;clear h10;cases h11:decide (0<n)with
           |true=>
            have hv:=zh (show mayM c=false from mayM_no (fun r=>(by have q:=of_decide_eq_true h11;have p:=r.scope (by rw [hkh.o];decide) (by rw [hkh.o];decide) (by rw [hkh.o];decide);have w0:=hnh.o;(first |exact q p |omega))));have zn:0<(n:Int):=by have:=of_decide_eq_true h11;omega
            clear h11;go_wp2_with fail
            go_ret;exact⟨ret_eq hv.o.symm,F3.o⟩
           |false=>
            have e11:=zh h11;obtain rfl:n=0:=by have:=of_decide_eq_false h11;omega
            clear h11;cases h12:decide (c.serial=0)with
            |false=>
             have hv:=zh (show mayM c=false from mayM_no (fun r=>(by have q:=of_decide_eq_false h12;have p:=r.noserial (by rw [hkh.o];decide) (by rw [hkh.o];decide) (by rw [hkh.o];decide);have w0:=hnh.o;(first |exact q p |omega))));have z_serial:(c.serial !=0)=true:=by have:=of_decide_eq_false h12;rw [bne_iff_ne];exact this
             clear h12;go_wp2_with fail
             go_ret;exact⟨ret_eq hv.o.symm,F3.o⟩
            |true=>
             have e12:=zh h12;have z_serial:(c.serial !=0)=false:=by have:=of_decide_eq_true h12;rw [bne_eq_false_iff_eq];exact this
             have q_serial:=of_decide_eq_true h12;have s1:decide (0≤c.serial)=true:=decide_eq_true (by omega);have s2:decide (c.serial≤1099511627776)=true:=decide_eq_true (by omega);clear q_serial;clear h12;cases h13:decide (c.edge=0)with
             |false=>
              have hv:=zh (show mayM c=false from mayM_no (fun r=>(by have q:=of_decide_eq_false h13;have p:=r.noedge (by rw [hkh.o];decide);have w0:=hnh.o;(first |exact q p |omega))));have z_edge:(c.edge !=0)=true:=by have:=of_decide_eq_false h13;rw [bne_iff_ne];exact this
              clear h13;go_wp2_with fail
              go_ret;exact⟨ret_eq hv.o.symm,F3.o⟩
             |true=>
              have e13:=zh h13;have z_edge:(c.edge !=0)=false:=by have:=of_decide_eq_true h13;rw [bne_eq_false_iff_eq];exact this
              have q_edge:=of_decide_eq_true h13;have g1:decide (0≤c.edge)=true:=decide_eq_true (by omega);have g2:decide (c.edge<32)=true:=decide_eq_true (by omega);clear q_edge;clear h13;cases h14:decide (c.token=0)with
              |false=>
               have hv:=zh (show mayM c=false from mayM_no (fun r=>(by have q:=of_decide_eq_false h14;have p:=r.notoken (by rw [hkh.o];decide) (by rw [hkh.o];decide);have w0:=hnh.o;(first |exact q p |omega))));have z_token:(c.token !=0)=true:=by have:=of_decide_eq_false h14;rw [bne_iff_ne];exact this
               clear h14;go_wp2_with fail
               go_ret;exact⟨ret_eq hv.o.symm,F3.o⟩
              |true=>
               have e14:=zh h14;have z_token:(c.token !=0)=false:=by have:=of_decide_eq_true h14;rw [bne_eq_false_iff_eq];exact this
               have q_token:=of_decide_eq_true h14;clear q_token;clear h14;have hch:c.challenge.size≤100000:=by have:=textsM_mem e2.o (s:=c.challenge) (by simp);omega
               have hc:=rshown_t W3 c.challenge c.method hch;cases hsn:shownM c.challenge c.method with
               |false=>
                have hv:=zh (show mayM c=false from mayM_no (fun r=>by have p:=r.shown;rw [hsn]at p;cases p));rw [hsn]at hc;clear hsn hch;go_wp2_with (go_at_call 131;refine Calls.mono (show Calls Tryz.prog 131 _ _ _ from hc) ?_;rintro e V9 ⟨rfl,G9⟩)
                go_ret;exact⟨ret_eq hv.o.symm,F3.o.trans G9⟩
               |true=>
                have hv:=zh (show mayM c=true from mayM_iff.2 ⟨by rw [hkh.o];decide,by rw [hkh.o];decide,e1.o,e2.o,e3.o,fun _=>of_decide_eq_true e4.o,fun h=>absurd hkh.o (by omega),fun _=>of_decide_eq_true e5.o,fun _=>of_decide_eq_true e6.o,fun _=>of_decide_eq_true e7.o,fun _=>of_decide_eq_true e8.o,fun _=>of_decide_eq_true e9.o,fun _=>e10.o,fun _ _ _=>by have:=of_decide_eq_false e11.o;have:=hnh.o;omega,fun _ _ _=>of_decide_eq_true e12.o,fun _=>of_decide_eq_true e13.o,fun _ _=>of_decide_eq_true e14.o,fun h=>absurd hkh.o (by omega),by have:=of_decide_eq_true e12.o;omega,by have:=of_decide_eq_true e13.o;omega,hsn⟩);rw [hsn]at hc;clear hsn hch;go_wp2_with (go_at_call 131;refine Calls.mono (show Calls Tryz.prog 131 _ _ _ from hc) ?_;rintro e V9 ⟨rfl,G9⟩)
                go_ret;exact⟨ret_eq hv.o.symm,F3.o.trans G9⟩
end Go.Proofs.YtacljejoedbnkaaGreat
namespace Go.Proofs.YtacljejoedbnkaaGreat
open Go.RowKit Go.Sig
set_option maxRecDepth 100000 in
set_option maxHeartbeats 2000000 in
theorem rmay_out (w:World) (c:GCmd) (A:Option Addr) (n d:Nat) (hk:c.kind<1∨7<c.kind):Calls Tryz.prog 59 #[.agg (cmdV c A n d)] w fun e w'=>e= .returned (.bool (mayM c))∧Fr [] w w':=by
 have hv:=zh (show mayM c=false from mayM_no (fun r=>by have:=r.lo;have:=r.hi;omega));obtain⟨k,hkd⟩:∃z,Hid (c.kind=z):=⟨_,zh rfl⟩
 rw [hkd.o]at hk;have hkh:=zh hk;clear hk;unfold cmdV;go_enter Tryz.func59,Tryz.ntmps59;go_upto_region 1 with(fail)
 refine wp_gen (fun W=>Blk W w.heap.size 24 (cmdV c A n d)∧Fr [] w W) ⟨Blk.new _ _ _,(Fr.refl _ _).alloc _⟩ ?_;rintro W0 ⟨hC,f0⟩;obtain⟨gc,HGC⟩:∃z,Hid (w.heap.size=z):=⟨_,zh rfl⟩
 rw [HGC.o]at hC⊢;have F0:=zh f0;obtain⟨c0,c1,c2,c3,c4,c5,c6,c7,c8,c9,c10,c11,c12,hgl⟩:=cmdV_cells hC;rw [hkd.o]at c0;clear hC f0;by_cases h1:k<1
 ·have d1:decide (k<1)=true:=decide_eq_true h1;clear h1;go_wp2_with fail
  go_ret;exact⟨ret_eq hv.o.symm,F0.o⟩
 ·have d1:decide (k<1)=false:=decide_eq_false h1;have d2:decide (7<k)=true:=decide_eq_true (by have:=hkh.o;omega);clear h1;go_wp2_with fail
  go_ret;exact⟨ret_eq hv.o.symm,F0.o⟩
theorem rmay17_t (w:World) (c:GCmd) (A:Option Addr) (n d:Nat) (hS:Rd w 1 A n (strCells c.scope)) (hn:c.scope.length=n) (hl:n≤150000000000000) (hs:∀s∈c.scope,s.size≤150000000000000) (hfam:c.family.size≤150000000000000):
  Calls Tryz.prog 59 #[.agg (cmdV c A n d)] w fun e w'=>e= .returned (.bool (mayM c))∧Fr [] w w':=by
 by_cases ho:c.kind<1∨7<c.kind
 ·exact rmay_out w c A n d ho
 ·have hk:c.kind=1∨c.kind=2∨c.kind=3∨c.kind=4∨c.kind=5∨c.kind=6∨c.kind=7:=by omega
  rcases hk with h |h |h |h |h |h |h
  ·exact rmay_1 w c A n d hS hn hl hs hfam h
  ·exact rmay_2 w c A n d hS hn hl hs hfam h
  ·exact rmay_3 w c A n d hS hn hl hs hfam h
  ·exact rmay_4 w c A n d hS hn hl hs hfam h
  ·exact rmay_5 w c A n d hS hn hl hs hfam h
  ·exact rmay_6 w c A n d hS hn hl hs hfam h
  ·exact rmay_7 w c A n d hS hn hl hs hfam h
end Go.Proofs.YtacljejoedbnkaaGreat
