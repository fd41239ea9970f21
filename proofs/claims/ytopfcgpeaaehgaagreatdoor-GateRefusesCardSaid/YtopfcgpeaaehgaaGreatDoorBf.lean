/- Walks of the gate: what a request for tokens plans. Conditions: each theorem's own. -/
import Derived.Test.YtopfcgpeaaehgaaGreatDoorBe
namespace Go.Proofs.YtopfcgpeaaehgaaGreatDoor
open Go.RowKit Go.Sig
theorem str_dec (a b:ByteArray):(a.toList==b.toList)=decide (a=b):=by
 rw [Lib.toList_data,Lib.toList_data];have:=secret_eq a b;rw [←this,Bool.eq_iff_iff,beq_iff_eq,decide_eq_true_eq]
theorem whys_rd {V:World}{g:Nat}{t:TypeId}{l:List Int}(h:Blk V g t (intCells l).toArray):Rd V 1 (some ⟨g,0,none⟩) l.length (intCells l):=
 ⟨by simp [intCells],fun _=>⟨g,0,rfl,fun j u hu=>by rw [Nat.zero_add,h.cell,zG];exact hu⟩⟩
def tokHead (l:List GCli) (a:ByteArray×Int) (G:ByteArray):Int:=
 firstM [a.2,if G.size=0 then 1 else 0,if G=gAuth∨G=gCred∨G=gRefr then 0 else 5,if mayG l a.1 G=true then 0 else 4]
theorem token_no {l:List GCli}{sec:List UInt8}{family hdr:ByteArray}{form:Prs}(h:tokHead l (authM l hdr form) (fg form nGrant)≠0):
  tokenM l sec family hdr form=(gNone,tokHead l (authM l hdr form) (fg form nGrant)):=by
 unfold tokHead firstM firstM firstM firstM firstM at*
 unfold tokenM;by_cases h1:(authM l hdr form).2=0
 ·rw [if_neg (by simpa using h1)];rw [if_pos h1]at h⊢;by_cases h2:(fg form nGrant).size=0
  ·simp [h2]
  ·rw [if_neg h2]at h⊢;rw [if_neg h2,if_pos rfl];rw [if_pos rfl]at h;by_cases h3:fg form nGrant=gAuth∨fg form nGrant=gCred∨fg form nGrant=gRefr
   ·rw [if_pos h3,if_pos rfl]at h⊢;rw [if_neg (by rintro⟨x,y,z⟩;rcases h3 with k |k |k<;>contradiction)];by_cases h4:mayG l (authM l hdr form).1 (fg form nGrant)=true
    ·rw [if_pos h4]at h;exact absurd rfl h
    ·rw [if_neg h4,if_pos (by simpa using h4),if_neg (show¬(4:Int)=0 by decide)]
   ·rw [if_neg h3,if_neg (show¬(5:Int)=0 by decide),if_pos (by simp only [not_or]at h3;exact h3)]
 ·rw [if_pos h1,if_neg h1]
theorem token_yes {l:List GCli}{a:ByteArray×Int}{G:ByteArray}(h:tokHead l a G=0):a.2=0∧G.size≠0∧(G=gAuth∨G=gCred∨G=gRefr)∧mayG l a.1 G=true:=by
 unfold tokHead firstM firstM firstM firstM firstM at h;by_cases h1:a.2=0
 ·rw [if_pos h1]at h;by_cases h2:G.size=0
  ·simp [h2]at h
  ·rw [if_neg h2,if_pos rfl]at h;by_cases h3:G=gAuth∨G=gCred∨G=gRefr
   ·rw [if_pos h3,if_pos rfl]at h;by_cases h4:mayG l a.1 G=true
    ·exact⟨h1,h2,h3,h4⟩
    ·simp [h4]at h
   ·simp [h3]at h
 ·rw [if_neg h1]at h;exact absurd h h1
theorem token_C {l:List GCli}{sec:List UInt8}{family hdr:ByteArray}{form:Prs}(h:tokHead l (authM l hdr form) (fg form nGrant)=0) (hG:fg form nGrant=gCred):
  tokenM l sec family hdr form=(givenM l (authM l hdr form).1 form).elim (gNone,6) fun s=>(⟨4,family,0,0,(authM l hdr form).1,nilB,s,nilB,nilB,nilB,nilB,false,0⟩,0):=by
 obtain⟨h1,h2,h3,h4⟩:=token_yes h;unfold tokenM;rw [if_neg (by simpa using h1),if_neg h2,if_neg (by rintro⟨x,y,z⟩;rcases h3 with k |k |k<;>contradiction),if_neg (by simpa using h4),if_neg (by rw [hG];decide),if_neg (by rw [hG];decide)];cases givenM l (authM l hdr form).1 form<;>rfl
section
variable {w:World}{g r:Nat}{q:GReq}{l:List GCli}{sA:Option Addr}{sc:Nat}{sec:List UInt8}{family:ByteArray}{edge:Int}{fA:Option Addr}{fc:Nat}{form:Prs}
set_option maxRecDepth 100000 in
set_option maxHeartbeats 4000000 in
theorem tokenC_t (h:RdrIn w g r q l sA sc sec family edge fA fc form) (hz:RdrSz q l sc sec form) (hk:fg form nGrant=gCred):Calls Tryz.prog 27 #[.pointer (some ⟨g,0,none⟩)] w (SubPost w (tokenM l sec family q.header form)):=by
 have hau:=fun V (hF:Fr [] w V)=>gauth_t (h.fr hF) hz;have hget:=fun V (hF:Fr [] w V)=>get_t (h.fr hF) hz nGrant;have hh:=zh h;have hzh:=zh hz;obtain⟨R,hR⟩:∃z,Hid (tokenM l sec family q.header form=z):=⟨_,zh rfl⟩
 rw [hR.o];obtain⟨a,hae⟩:∃z,Hid (authM l q.header form=z):=⟨_,zh rfl⟩
 rw [hae.o]at hau;unfold AuthPost at hau;obtain⟨G,hG⟩:∃z,Hid (fg form nGrant=z):=⟨_,zh rfl⟩
 rw [hG.o]at hget;unfold nGrant at hget;clear h hz;go_enter Tryz.func27,Tryz.ntmps27;go_upto_region 1 with(fail)
 refine wp_gen (fun W=>Blk W w.heap.size 35 (cmdV gNone none 0 0)∧Fr [] w W) ⟨Blk.new _ _ _,(Fr.refl _ _).alloc _⟩ ?_;rintro W ⟨hB,fW⟩;obtain⟨gr,HR⟩:∃z,Hid (w.heap.size=z):=⟨_,zh rfl⟩
 rw [HR.o]at hB⊢;have hgr:w.heap.size≤gr:=by have:=HR.o;omega
 have h1:=hh.o.fr fW;have c4:=h1.hB.cell 4;have c1:=h1.hB.cell 1;have c8:=h1.hB.cell 8;simp only [zG,zH,zI]at c4 c1 c8;have hgl:=h1.hB.lt;have hBh:=zh hB;clear hB h1;refine wp_region_z (fun v=>v.cell? ⟨g,4,none⟩=some (.pointer (some ⟨r,0,none⟩))∧v.cell? ⟨g,1,none⟩=some (.string q.header)∧v.cell? ⟨g,8,none⟩=some (.slice fA form.length fc)) [] (by kernel_rfl) ⟨c4,c1,c8⟩ ?_;intro hHeld;refine wpZ_tk (i:=0) (v:= ?_) hHeld ?_ ?_;rotate_left
 ·(intro w hSw;go_simp<;>with_reducible rfl)
 try simp only [zA,zB,zC,Act.put,zD,zE,zF]
 refine wpZ_tk (i:=1) (v:= ?_) hHeld ?_ ?_;rotate_left
 ·(intro w hSw;go_simp<;>with_reducible rfl)
 try simp only [zA,zB,zC,Act.put,zD,zE,zF]
 refine wpZ_tk (i:=2) (v:= ?_) hHeld ?_ ?_;rotate_left
 ·(intro w hSw;go_simp<;>with_reducible rfl)
 try simp only [zA,zB,zC,Act.put,zD,zE,zF]
 refine wpZ_tk (i:=3) (v:= ?_) hHeld ?_ ?_;rotate_left
 ·(intro w hSw;go_simp<;>with_reducible rfl)
 try simp only [zA,zB,zC,Act.put,zD,zE,zF]
 refine wpZ_tk (i:=4) (v:= ?_) hHeld ?_ ?_;rotate_left
 ·(intro w hSw;go_simp<;>with_reducible rfl)
 try simp only [zA,zB,zC,Act.put,zD,zE,zF]
 refine wpZ_tk (i:=5) (v:= ?_) hHeld ?_ ?_;rotate_left
 ·(intro w hSw;go_simp<;>with_reducible rfl)
 try simp only [zA,zB,zC,Act.put,zD,zE,zF]
 refine wpZ_tk (i:=6) (v:= ?_) hHeld ?_ ?_;rotate_left
 ·(intro w hSw;go_simp<;>with_reducible rfl)
 try simp only [zA,zB,zC,Act.put,zD,zE,zF]
 refine wpZ_tk (i:=7) (v:= ?_) hHeld ?_ ?_;rotate_left
 ·(intro w hSw;go_simp<;>with_reducible rfl)
 try simp only [zA,zB,zC,Act.put,zD,zE,zF]
 refine wpZ_tk (i:=8) (v:= ?_) hHeld ?_ ?_;rotate_left
 ·(intro w hSw;go_simp<;>with_reducible rfl)
 try simp only [zA,zB,zC,Act.put,zD,zE,zF]
 refine wpZ_tk (i:=9) (v:= ?_) hHeld ?_ ?_;rotate_left
 ·(intro w hSw;go_simp<;>with_reducible rfl)
 try simp only [zA,zB,zC,Act.put,zD,zE,zF]
 refine wpZ_tk (i:=10) (v:= ?_) hHeld ?_ ?_;rotate_left
 ·(intro w hSw;go_simp<;>with_reducible rfl)
 try simp only [zA,zB,zC,Act.put,zD,zE,zF]
 refine wpZ_tk (i:=11) (v:= ?_) hHeld ?_ ?_;rotate_left
 ·(intro w hSw;go_simp<;>with_reducible rfl)
 try simp only [zA,zB,zC,Act.put,zD,zE,zF]
 refine wpZ_tk (i:=12) (v:= ?_) hHeld ?_ ?_;rotate_left
 ·(intro w hSw;go_simp<;>with_reducible rfl)
 try simp only [zA,zB,zC,Act.put,zD,zE,zF]
 refine wpZ_one (i:=13) (by kernel_rfl) rfl (fun K hK=> ?_);go_simp;refine(hau _ fW.drew).mono ?_;clear hau;rintro e W2 ⟨rfl,F2⟩;have fW2:=fW.drew.trans F2;have fW2a:=Fr.of_drew F2;dsimp only;refine hK.out _ _ ⟨cell_fr F2 c4,cell_fr F2 c1,cell_fr F2 c8⟩ (fun hHeld=> ?_);clear hK K;try simp only [zA,zB,zC,Act.put,zD,zE,zF]
 refine wpZ_tk (i:=14) (v:= ?_) hHeld ?_ ?_;rotate_left
 ·(intro w hSw;go_simp<;>with_reducible rfl)
 try simp only [zA,zB,zC,Act.put,zD,zE,zF]
 refine wpZ_tk (i:=15) (v:= ?_) hHeld ?_ ?_;rotate_left
 ·(intro w hSw;go_simp<;>with_reducible rfl)
 try simp only [zA,zB,zC,Act.put,zD,zE,zF]
 refine wpZ_tk (i:=16) (v:= ?_) hHeld ?_ ?_;rotate_left
 ·(intro w hSw;go_simp<;>with_reducible rfl)
 try simp only [zA,zB,zC,Act.put,zD,zE,zF]
 refine wpZ_tk (i:=17) (v:= ?_) hHeld ?_ ?_;rotate_left
 ·(intro w hSw;go_simp<;>with_reducible rfl)
 try simp only [zA,zB,zC,Act.put,zD,zE,zF]
 refine wpZ_tk (i:=18) (v:= ?_) hHeld ?_ ?_;rotate_left
 ·(intro w hSw;go_simp<;>with_reducible rfl)
 try simp only [zA,zB,zC,Act.put,zD,zE,zF]
 refine wpZ_done (by kernel_rfl) ?_ _;have hget:=hget W2 fW2;have fW2h:=zh fW2;have hB2:=zh (hBh.o.fr fW2a (by simp));clear fW F2 c4 c1 c8 fW2 fW2a;go_upto_region 3 with(go_at_call 66;refine hget.mono ?_;clear hget;rintro e w3 ⟨rfl,rfl⟩)
 have hGk:Hid (G=gCred):=zh (by rw [←hG.o];exact hk);have q1:(G.toList== [97,117,116,104,111,114,105,122,97,116,105,111,110,95,99,111,100,101])=false:=by rw [hGk.o];decide+kernel
 have q2:(G.toList== [99,108,105,101,110,116,95,99,114,101,100,101,110,116,105,97,108,115])=true:=by rw [hGk.o];decide+kernel
 have q3:(G.toList== [114,101,102,114,101,115,104,95,116,111,107,101,110])=false:=by rw [hGk.o];decide+kernel
 have qe:G.toList.isEmpty=false:=by rw [hGk.o];decide+kernel
 have hu1:∀V,Calls Tryz.prog 72 #[.bool true,.int .i64 1] V fun e w'=>e= .returned (.int .i64 0)∧V=w':=fun V=>unless_t V true 1;have hu2:∀V,Calls Tryz.prog 72 #[.bool true,.int .i64 5] V fun e w'=>e= .returned (.int .i64 0)∧V=w':=fun V=>unless_t V true 5;have hkk:Hid (tokHead l a G=firstM [a.2,0,0,if mayG l a.1 G=true then 0 else 4]):=zh (by rw [hGk.o];rfl);obtain⟨x1,hx1⟩:∃z:Int,Hid (0=z):=⟨_,zh rfl⟩
 obtain⟨x2,hx2⟩:∃z:Int,Hid (0=z):=⟨_,zh rfl⟩
 rw [hx1.o]at hu1;rw [hx2.o]at hu2;obtain⟨m,hm⟩:∃z,Hid (mayG l a.1 G=z):=⟨_,zh rfl⟩
 have hmay:=fun V (hF:Fr [] w V)=>rmay_t V r l a.1 G (hh.o.fr hF).roll hzh.o.cli;obtain⟨x3,hx3⟩:∃z,Hid ((if m=true then(0:Int)else 4)=z):=⟨_,zh rfl⟩
 have hu3:=fun V=>unless_t V m 4;rw [hx3.o]at hu3;rw [hm.o]at hmay hkk;go_upto_region 4 with(fail)
 have q1h:=zh q1;have q3h:=zh q3;have qeh:=zh qe;clear q1 q2 q3;have c4:=(hh.o.fr fW2h.o).hB.cell 4;simp only [zG,zH,zI]at c4;have hgl2:=(hh.o.fr fW2h.o).hB.lt;have hfi:∀V g',Blk V g' 36 #[.int .i64 a.2,.int .i64 x1,.int .i64 x2,.int .i64 x3]→Calls Tryz.prog 71 #[.slice (some ⟨g',0,none⟩) 4 4] V fun e w'=>e= .returned (.int .i64 (firstM [a.2,x1,x2,x3]))∧V=w':=fun V g' hB=>first_t V _ 4 4 [a.2,x1,x2,x3] (whys_rd hB) rfl (by decide);obtain⟨k,hkv⟩:∃z,Hid (firstM [a.2,x1,x2,x3]=z):=⟨_,zh rfl⟩
 rw [hkv.o]at hfi;refine wp_region_z (fun v=>v.cell? ⟨g,4,none⟩=some (.pointer (some ⟨r,0,none⟩))) [] (by kernel_rfl) c4 ?_;intro hHeld;refine wpZ_tk (i:=0) (v:= ?_) hHeld ?_ ?_;rotate_left
 ·(intro w hSw;go_simp<;>with_reducible rfl)
 try simp only [zA,zB,zC,Act.put,zD,zE,zF]
 refine wpZ_tk (i:=1) (v:= ?_) hHeld ?_ ?_;rotate_left
 ·(intro w hSw;go_simp<;>with_reducible rfl)
 try simp only [zA,zB,zC,Act.put,zD,zE,zF]
 refine wpZ_tk (i:=2) (v:= ?_) hHeld ?_ ?_;rotate_left
 ·(intro w hSw;go_simp<;>with_reducible rfl)
 try simp only [zA,zB,zC,Act.put,zD,zE,zF]
 refine wpZ_call [] (by kernel_rfl) (i:=3) rfl (by kernel_rfl) (by kernel_rfl) (by kernel_rfl) (by kernel_rfl) (fun _ _ _ h=>h) (by rfl) (fun w hSw=> ?_) (fun w hSw=>(hu1 w)) hHeld ?_
 ·((try dsimp only at hSw);go_simp<;>with_reducible rfl)
 try simp only [zA,zB,zC,Act.put,zD,zE,zF]
 refine wpZ_tk (i:=4) (v:= ?_) hHeld ?_ ?_;rotate_left
 ·(intro w hSw;go_simp<;>with_reducible rfl)
 try simp only [zA,zB,zC,Act.put,zD,zE,zF]
 refine wpZ_call [] (by kernel_rfl) (i:=5) rfl (by kernel_rfl) (by kernel_rfl) (by kernel_rfl) (by kernel_rfl) (fun _ _ _ h=>h) (by rfl) (fun w hSw=> ?_) (fun w hSw=>(hu2 w)) hHeld ?_
 ·((try dsimp only at hSw);go_simp<;>with_reducible rfl)
 try simp only [zA,zB,zC,Act.put,zD,zE,zF]
 refine wpZ_tk (i:=6) (v:= ?_) hHeld ?_ ?_;rotate_left
 ·(intro w hSw;go_simp<;>with_reducible rfl)
 try simp only [zA,zB,zC,Act.put,zD,zE,zF]
 refine wpZ_tk (i:=7) (v:= ?_) hHeld ?_ ?_;rotate_left
 ·(intro w hSw;go_simp<;>with_reducible rfl)
 try simp only [zA,zB,zC,Act.put,zD,zE,zF]
 refine wpZ_tk (i:=8) (v:= ?_) hHeld ?_ ?_;rotate_left
 ·(intro w hSw;go_simp<;>with_reducible rfl)
 try simp only [zA,zB,zC,Act.put,zD,zE,zF]
 refine wpZ_tk (i:=9) (v:= ?_) hHeld ?_ ?_;rotate_left
 ·(intro w hSw;go_simp<;>with_reducible rfl)
 try simp only [zA,zB,zC,Act.put,zD,zE,zF]
 refine wpZ_tk (i:=10) (v:= ?_) hHeld ?_ ?_;rotate_left
 ·(intro w hSw;go_simp<;>with_reducible rfl)
 try simp only [zA,zB,zC,Act.put,zD,zE,zF]
 refine wpZ_tk (i:=11) (v:= ?_) hHeld ?_ ?_;rotate_left
 ·(intro w hSw;go_simp<;>with_reducible rfl)
 try simp only [zA,zB,zC,Act.put,zD,zE,zF]
 refine wpZ_one (i:=12) (by kernel_rfl) rfl (fun K hK=> ?_);go_simp;refine(hmay _ fW2h.o.drew).mono ?_;clear hmay;rintro e W4 ⟨rfl,F4⟩;have F4a:=Fr.of_drew F4;dsimp only;refine hK.out _ _ (cell_fr F4 c4) (fun hHeld=> ?_);clear hK K;try simp only [zA,zB,zC,Act.put,zD,zE,zF]
 refine wpZ_call [] (by kernel_rfl) (i:=13) rfl (by kernel_rfl) (by kernel_rfl) (by kernel_rfl) (by kernel_rfl) (fun _ _ _ h=>h) (by rfl) (fun w hSw=> ?_) (fun w hSw=>(hu3 w)) hHeld ?_
 ·((try dsimp only at hSw);go_simp<;>with_reducible rfl)
 try simp only [zA,zB,zC,Act.put,zD,zE,zF]
 refine wpZ_one (i:=14) (by kernel_rfl) rfl (fun K hK=> ?_);go_simp;refine hK.out _ _ (cell_fr ((Fr.refl [] _).alloc _) (cell_fr F4a c4)) (fun hHeld=> ?_);clear hK K;try simp only [zA,zB,zC,Act.put,zD,zE,zF]
 refine wpZ_one (i:=15) (by kernel_rfl) rfl (fun K hK=> ?_);go_simp;refine(hfi _ _ (Blk.new _ _ _)).mono ?_;clear hfi;rintro e W7 ⟨rfl,rfl⟩;dsimp only;refine hK.out _ _ (cell_fr ((Fr.refl [] _).alloc _) (cell_fr F4a c4)) (fun hHeld=> ?_);clear hK K;try simp only [zA,zB,zC,Act.put,zD,zE,zF]
 refine wpZ_tk (i:=16) (v:= ?_) hHeld ?_ ?_;rotate_left
 ·(intro w hSw;go_simp<;>with_reducible rfl)
 try simp only [zA,zB,zC,Act.put,zD,zE,zF]
 refine wpZ_done (by kernel_rfl) ?_ _;clear c4;go_upto_region 5 with(fail)
 refine wp_gen (fun V=>Fr [] W2 V) (F4a.alloc _) ?_;rintro W9 F9;have hF9:=zh (fW2h.o.trans F9);have hR9:=hB2.o.fr F9 (by simp);have hkt:Hid (tokHead l (authM l q.header form) (fg form nGrant)=k):=zh (by rw [hae.o,hG.o,hkk.o,←hkv.o,←hx1.o,←hx2.o,←hx3.o]);clear F9 F4a F4 hu1 hu2 hu3 hHeld qe hkk hx1 hx2 hx3 hm;by_cases hk0:k=0
 ·subst hk0;have hgv:=ggiven_t (hh.o.fr hF9.o) hzh.o a.1;have hRe:Hid (R=(givenM l a.1 form).elim (gNone,6) fun s=>(⟨4,family,0,0,a.1,nilB,s,nilB,nilB,nilB,nilB,false,0⟩,0)):=zh (by rw [←hR.o,←hae.o];exact token_C hkt.o hk);obtain⟨v,hv⟩:∃z,Hid (givenM l a.1 form=z):=⟨_,zh rfl⟩
  rw [hv.o]at hgv hRe;have q1:=q1h.o;have q3:=q3h.o;have hR9h:=zh hR9;clear hR9 hkv hkt hR hk q1h q3h;cases v with
  |none=>
   have hR6:Hid (R.2=6):=zh (by rw [hRe.o];rfl);unfold GivenPost at hgv;dsimp only at hgv;go_upto_region 18 with(go_at_call 69;refine hgv.mono ?_;clear hgv;rintro e W10 ⟨A,n,d,rfl,F10⟩)
   have c6:=(hh.o.fr (hF9.o.trans F10)).hB.cell 6;simp only [zG,zH,zI]at c6;have hgl3:=(hh.o.fr (hF9.o.trans F10)).hB.lt;have hR10:=hR9h.o.fr F10 (by simp);have F10h:=zh F10;clear F10 q1 q3 qeh;go_wp2_with (refine wpList_store_row rfl 35 _ _ rfl gr (cmdV ⟨4,family,0,0,a.1,nilB,[],nilB,nilB,nilB,nilB,false,0⟩ A n d) rfl rfl 35 (cmdV gNone none 0 0) hR10 (cmdI _ _ _ _) (by rfl) (cmdO _ _ _ _) ?_)
   refine bodyPost_ret (v:= .tuple #[.agg (cmdV ⟨4,family,0,0,a.1,nilB,[],nilB,nilB,nilB,nilB,false,0⟩ A n d),.int .i64 6]) (results_ct (p:=2) (q:=3) rfl _ _ gr 35 _ (0,0) _ rfl (Blk.setRow hR10 _) cmdU rfl (cmdI _ _ _ _) rfl) rfl ?_;exact⟨(⟨4,family,0,0,a.1,nilB,[],nilB,nilB,nilB,nilB,false,0⟩:GCmd),A,n,d,by rw [hR6.o],fun hz=>absurd (hR6.o.symm.trans hz) (by decide),(hF9.o.trans F10h.o).setRow (.inr hgr) _⟩
  |some ls=>
   have hR0:Hid (R=(⟨4,family,0,0,a.1,nilB,ls,nilB,nilB,nilB,nilB,false,0⟩,0)):=zh hRe.o;unfold GivenPost at hgv;dsimp only at hgv;go_upto_region 18 with(go_at_call 69;refine hgv.mono ?_;clear hgv;rintro e W10 ⟨A,d,rfl,hRd,hAd,F10⟩)
   have c6:=(hh.o.fr (hF9.o.trans F10)).hB.cell 6;simp only [zG,zH,zI]at c6;have hgl3:=(hh.o.fr (hF9.o.trans F10)).hB.lt;have hR10:=hR9h.o.fr F10 (by simp);have F10h:=zh F10;have hRdh:=zh hRd;have hAdh:=zh hAd;have hgl9:=hR9h.o.lt;clear F10 q1 q3 qeh hRd hAd;go_wp2_with (refine wpList_store_row rfl 35 _ _ rfl gr (cmdV ⟨4,family,0,0,a.1,nilB,ls,nilB,nilB,nilB,nilB,false,0⟩ A ls.length d) rfl rfl 35 (cmdV gNone none 0 0) hR10 (cmdI _ _ _ _) (by rfl) (cmdO _ _ _ _) ?_)
   refine bodyPost_ret (v:= .tuple #[.agg (cmdV ⟨4,family,0,0,a.1,nilB,ls,nilB,nilB,nilB,nilB,false,0⟩ A ls.length d),.int .i64 0]) (results_ct (p:=2) (q:=3) rfl _ _ gr 35 _ (0,0) _ rfl (Blk.setRow hR10 _) cmdU rfl (cmdI _ _ _ _) rfl) rfl ?_;refine⟨(⟨4,family,0,0,a.1,nilB,ls,nilB,nilB,nilB,nilB,false,0⟩:GCmd),A,ls.length,d,by rw [hR0.o],fun hz=>⟨by rw [hR0.o],rfl,?_,hAdh.o.mono hF9.o.size⟩,(hF9.o.trans F10h.o).setRow (.inr hgr) _⟩;exact hRdh.o.fr ((Fr.refl [gr] _).setRow (.inl (by simp)) _) (fun _=>hAdh.o.off (by simpa using hgl9))
 ·have hkb:(k !=0)=true:=by simpa using hk0
  have hRe:Hid (R=(gNone,k)):=zh (by rw [←hR.o,←hkt.o];exact token_no (by rw [hkt.o];exact hk0));clear hk0 hkt hR hk;go_wp2_with (refine wpList_store_row rfl 35 _ _ rfl gr (cmdV gNone none 0 0) rfl rfl 35 (cmdV gNone none 0 0) hR9 (cmdI _ _ _ _) (by rfl) (cmdO _ _ _ _) ?_)
  refine bodyPost_ret (v:= .tuple #[.agg (cmdV gNone none 0 0),.int .i64 k]) (results_ct (p:=2) (q:=3) rfl _ _ gr 35 _ (0,0) _ rfl (Blk.setRow hR9 _) cmdU rfl (cmdI _ _ _ _) rfl) rfl ?_;exact⟨gNone,none,0,0,by rw [hRe.o],fun hz=>⟨by rw [hRe.o],rfl,Rd.nil _ _ _,from_none _⟩,hF9.o.setRow (.inr hgr) _⟩
set_option maxRecDepth 100000 in
set_option maxHeartbeats 4000000 in
theorem tokenD_t (h:RdrIn w g r q l sA sc sec family edge fA fc form) (hz:RdrSz q l sc sec form) (hk:fg form nGrant≠gAuth∧fg form nGrant≠gCred∧fg form nGrant≠gRefr):Calls Tryz.prog 27 #[.pointer (some ⟨g,0,none⟩)] w (SubPost w (tokenM l sec family q.header form)):=by
 have hau:=fun V (hF:Fr [] w V)=>gauth_t (h.fr hF) hz;have hget:=fun V (hF:Fr [] w V)=>get_t (h.fr hF) hz nGrant;have hh:=zh h;have hzh:=zh hz;obtain⟨R,hR⟩:∃z,Hid (tokenM l sec family q.header form=z):=⟨_,zh rfl⟩
 rw [hR.o];obtain⟨a,hae⟩:∃z,Hid (authM l q.header form=z):=⟨_,zh rfl⟩
 rw [hae.o]at hau;unfold AuthPost at hau;obtain⟨G,hG⟩:∃z,Hid (fg form nGrant=z):=⟨_,zh rfl⟩
 rw [hG.o]at hget;unfold nGrant at hget;clear h hz;go_enter Tryz.func27,Tryz.ntmps27;go_upto_region 1 with(fail)
 refine wp_gen (fun W=>Blk W w.heap.size 35 (cmdV gNone none 0 0)∧Fr [] w W) ⟨Blk.new _ _ _,(Fr.refl _ _).alloc _⟩ ?_;rintro W ⟨hB,fW⟩;obtain⟨gr,HR⟩:∃z,Hid (w.heap.size=z):=⟨_,zh rfl⟩
 rw [HR.o]at hB⊢;have hgr:w.heap.size≤gr:=by have:=HR.o;omega
 have h1:=hh.o.fr fW;have c4:=h1.hB.cell 4;have c1:=h1.hB.cell 1;have c8:=h1.hB.cell 8;simp only [zG,zH,zI]at c4 c1 c8;have hgl:=h1.hB.lt;have hBh:=zh hB;clear hB h1;refine wp_region_z (fun v=>v.cell? ⟨g,4,none⟩=some (.pointer (some ⟨r,0,none⟩))∧v.cell? ⟨g,1,none⟩=some (.string q.header)∧v.cell? ⟨g,8,none⟩=some (.slice fA form.length fc)) [] (by kernel_rfl) ⟨c4,c1,c8⟩ ?_;intro hHeld;refine wpZ_tk (i:=0) (v:= ?_) hHeld ?_ ?_;rotate_left
 ·(intro w hSw;go_simp<;>with_reducible rfl)
 try simp only [zA,zB,zC,Act.put,zD,zE,zF]
 refine wpZ_tk (i:=1) (v:= ?_) hHeld ?_ ?_;rotate_left
 ·(intro w hSw;go_simp<;>with_reducible rfl)
 try simp only [zA,zB,zC,Act.put,zD,zE,zF]
 refine wpZ_tk (i:=2) (v:= ?_) hHeld ?_ ?_;rotate_left
 ·(intro w hSw;go_simp<;>with_reducible rfl)
 try simp only [zA,zB,zC,Act.put,zD,zE,zF]
 refine wpZ_tk (i:=3) (v:= ?_) hHeld ?_ ?_;rotate_left
 ·(intro w hSw;go_simp<;>with_reducible rfl)
 try simp only [zA,zB,zC,Act.put,zD,zE,zF]
 refine wpZ_tk (i:=4) (v:= ?_) hHeld ?_ ?_;rotate_left
 ·(intro w hSw;go_simp<;>with_reducible rfl)
 try simp only [zA,zB,zC,Act.put,zD,zE,zF]
 refine wpZ_tk (i:=5) (v:= ?_) hHeld ?_ ?_;rotate_left
 ·(intro w hSw;go_simp<;>with_reducible rfl)
 try simp only [zA,zB,zC,Act.put,zD,zE,zF]
 refine wpZ_tk (i:=6) (v:= ?_) hHeld ?_ ?_;rotate_left
 ·(intro w hSw;go_simp<;>with_reducible rfl)
 try simp only [zA,zB,zC,Act.put,zD,zE,zF]
 refine wpZ_tk (i:=7) (v:= ?_) hHeld ?_ ?_;rotate_left
 ·(intro w hSw;go_simp<;>with_reducible rfl)
 try simp only [zA,zB,zC,Act.put,zD,zE,zF]
 refine wpZ_tk (i:=8) (v:= ?_) hHeld ?_ ?_;rotate_left
 ·(intro w hSw;go_simp<;>with_reducible rfl)
 try simp only [zA,zB,zC,Act.put,zD,zE,zF]
 refine wpZ_tk (i:=9) (v:= ?_) hHeld ?_ ?_;rotate_left
 ·(intro w hSw;go_simp<;>with_reducible rfl)
 try simp only [zA,zB,zC,Act.put,zD,zE,zF]
 refine wpZ_tk (i:=10) (v:= ?_) hHeld ?_ ?_;rotate_left
 ·(intro w hSw;go_simp<;>with_reducible rfl)
 try simp only [zA,zB,zC,Act.put,zD,zE,zF]
 refine wpZ_tk (i:=11) (v:= ?_) hHeld ?_ ?_;rotate_left
 ·(intro w hSw;go_simp<;>with_reducible rfl)
 try simp only [zA,zB,zC,Act.put,zD,zE,zF]
 refine wpZ_tk (i:=12) (v:= ?_) hHeld ?_ ?_;rotate_left
 ·(intro w hSw;go_simp<;>with_reducible rfl)
 try simp only [zA,zB,zC,Act.put,zD,zE,zF]
 refine wpZ_one (i:=13) (by kernel_rfl) rfl (fun K hK=> ?_);go_simp;refine(hau _ fW.drew).mono ?_;clear hau;rintro e W2 ⟨rfl,F2⟩;have fW2:=fW.drew.trans F2;have fW2a:=Fr.of_drew F2;dsimp only;refine hK.out _ _ ⟨cell_fr F2 c4,cell_fr F2 c1,cell_fr F2 c8⟩ (fun hHeld=> ?_);clear hK K;try simp only [zA,zB,zC,Act.put,zD,zE,zF]
 refine wpZ_tk (i:=14) (v:= ?_) hHeld ?_ ?_;rotate_left
 ·(intro w hSw;go_simp<;>with_reducible rfl)
 try simp only [zA,zB,zC,Act.put,zD,zE,zF]
 refine wpZ_tk (i:=15) (v:= ?_) hHeld ?_ ?_;rotate_left
 ·(intro w hSw;go_simp<;>with_reducible rfl)
 try simp only [zA,zB,zC,Act.put,zD,zE,zF]
 refine wpZ_tk (i:=16) (v:= ?_) hHeld ?_ ?_;rotate_left
 ·(intro w hSw;go_simp<;>with_reducible rfl)
 try simp only [zA,zB,zC,Act.put,zD,zE,zF]
 refine wpZ_tk (i:=17) (v:= ?_) hHeld ?_ ?_;rotate_left
 ·(intro w hSw;go_simp<;>with_reducible rfl)
 try simp only [zA,zB,zC,Act.put,zD,zE,zF]
 refine wpZ_tk (i:=18) (v:= ?_) hHeld ?_ ?_;rotate_left
 ·(intro w hSw;go_simp<;>with_reducible rfl)
 try simp only [zA,zB,zC,Act.put,zD,zE,zF]
 refine wpZ_done (by kernel_rfl) ?_ _;have hget:=hget W2 fW2;have fW2h:=zh fW2;have hB2:=zh (hBh.o.fr fW2a (by simp));clear fW F2 c4 c1 c8 fW2 fW2a;go_upto_region 3 with(go_at_call 66;refine hget.mono ?_;clear hget;rintro e w3 ⟨rfl,rfl⟩)
 have hGn:G≠gAuth∧G≠gCred∧G≠gRefr:=by rw [←hG.o];exact hk
 have q1:=str_dec G gAuth;rw [show gAuth.toList= [97,117,116,104,111,114,105,122,97,116,105,111,110,95,99,111,100,101] by decide+kernel,decide_eq_false (by first |exact hGn.1 |exact hGn.2.1 |exact hGn.2.2)]at q1;have q2:=str_dec G gCred;rw [show gCred.toList= [99,108,105,101,110,116,95,99,114,101,100,101,110,116,105,97,108,115] by decide+kernel,decide_eq_false (by first |exact hGn.1 |exact hGn.2.1 |exact hGn.2.2)]at q2;have q3:=str_dec G gRefr;rw [show gRefr.toList= [114,101,102,114,101,115,104,95,116,111,107,101,110] by decide+kernel,decide_eq_false (by first |exact hGn.1 |exact hGn.2.1 |exact hGn.2.2)]at q3;have qe:=str_empty G;obtain⟨te,hte⟩:∃z,Hid (decide (G.size=0)=z):=⟨_,zh rfl⟩
 rw [hte.o]at qe;have hu1:=fun V=>unless_t V (!te) 1;obtain⟨x1,hx1⟩:∃z,Hid ((if(!te)=true then(0:Int)else 1)=z):=⟨_,zh rfl⟩
 obtain⟨x2,hx2⟩:∃z:Int,Hid (5=z):=⟨_,zh rfl⟩
 rw [hx1.o]at hu1;have hu2:∀V,Calls Tryz.prog 72 #[.bool false,.int .i64 5] V fun e w'=>e= .returned (.int .i64 x2)∧V=w':=fun V=>by rw [←hx2.o];exact unless_t V false 5
 have hkk:Hid (tokHead l a G=firstM [a.2,if(!te)=true then(0:Int)else 1,5,if mayG l a.1 G=true then 0 else 4]):=zh (by
  unfold tokHead;rw [if_neg (show¬(G=gAuth∨G=gCred∨G=gRefr) by simp only [not_or];exact hGn),←hte.o];by_cases hs:G.size=0<;>simp [hs])
 clear hGn;obtain⟨m,hm⟩:∃z,Hid (mayG l a.1 G=z):=⟨_,zh rfl⟩
 have hmay:=fun V (hF:Fr [] w V)=>rmay_t V r l a.1 G (hh.o.fr hF).roll hzh.o.cli;obtain⟨x3,hx3⟩:∃z,Hid ((if m=true then(0:Int)else 4)=z):=⟨_,zh rfl⟩
 have hu3:=fun V=>unless_t V m 4;rw [hx3.o]at hu3;rw [hm.o]at hmay hkk;go_upto_region 4 with(fail)
 have q1h:=zh q1;have q3h:=zh q3;have qeh:=zh qe;clear q1 q2 q3;have c4:=(hh.o.fr fW2h.o).hB.cell 4;simp only [zG,zH,zI]at c4;have hgl2:=(hh.o.fr fW2h.o).hB.lt;have hfi:∀V g',Blk V g' 36 #[.int .i64 a.2,.int .i64 x1,.int .i64 x2,.int .i64 x3]→Calls Tryz.prog 71 #[.slice (some ⟨g',0,none⟩) 4 4] V fun e w'=>e= .returned (.int .i64 (firstM [a.2,x1,x2,x3]))∧V=w':=fun V g' hB=>first_t V _ 4 4 [a.2,x1,x2,x3] (whys_rd hB) rfl (by decide);obtain⟨k,hkv⟩:∃z,Hid (firstM [a.2,x1,x2,x3]=z):=⟨_,zh rfl⟩
 rw [hkv.o]at hfi;refine wp_region_z (fun v=>v.cell? ⟨g,4,none⟩=some (.pointer (some ⟨r,0,none⟩))) [] (by kernel_rfl) c4 ?_;intro hHeld;refine wpZ_tk (i:=0) (v:= ?_) hHeld ?_ ?_;rotate_left
 ·(intro w hSw;go_simp<;>with_reducible rfl)
 try simp only [zA,zB,zC,Act.put,zD,zE,zF]
 refine wpZ_tk (i:=1) (v:= ?_) hHeld ?_ ?_;rotate_left
 ·(intro w hSw;go_simp<;>with_reducible rfl)
 try simp only [zA,zB,zC,Act.put,zD,zE,zF]
 refine wpZ_tk (i:=2) (v:= ?_) hHeld ?_ ?_;rotate_left
 ·(intro w hSw;go_simp<;>with_reducible rfl)
 try simp only [zA,zB,zC,Act.put,zD,zE,zF]
 refine wpZ_call [] (by kernel_rfl) (i:=3) rfl (by kernel_rfl) (by kernel_rfl) (by kernel_rfl) (by kernel_rfl) (fun _ _ _ h=>h) (by rfl) (fun w hSw=> ?_) (fun w hSw=>(hu1 w)) hHeld ?_
 ·((try dsimp only at hSw);go_simp<;>with_reducible rfl)
 try simp only [zA,zB,zC,Act.put,zD,zE,zF]
 refine wpZ_tk (i:=4) (v:= ?_) hHeld ?_ ?_;rotate_left
 ·(intro w hSw;go_simp<;>with_reducible rfl)
 try simp only [zA,zB,zC,Act.put,zD,zE,zF]
 refine wpZ_call [] (by kernel_rfl) (i:=5) rfl (by kernel_rfl) (by kernel_rfl) (by kernel_rfl) (by kernel_rfl) (fun _ _ _ h=>h) (by rfl) (fun w hSw=> ?_) (fun w hSw=>(hu2 w)) hHeld ?_
 ·((try dsimp only at hSw);go_simp<;>with_reducible rfl)
 try simp only [zA,zB,zC,Act.put,zD,zE,zF]
 refine wpZ_tk (i:=6) (v:= ?_) hHeld ?_ ?_;rotate_left
 ·(intro w hSw;go_simp<;>with_reducible rfl)
 try simp only [zA,zB,zC,Act.put,zD,zE,zF]
 refine wpZ_tk (i:=7) (v:= ?_) hHeld ?_ ?_;rotate_left
 ·(intro w hSw;go_simp<;>with_reducible rfl)
 try simp only [zA,zB,zC,Act.put,zD,zE,zF]
 refine wpZ_tk (i:=8) (v:= ?_) hHeld ?_ ?_;rotate_left
 ·(intro w hSw;go_simp<;>with_reducible rfl)
 try simp only [zA,zB,zC,Act.put,zD,zE,zF]
 refine wpZ_tk (i:=9) (v:= ?_) hHeld ?_ ?_;rotate_left
 ·(intro w hSw;go_simp<;>with_reducible rfl)
 try simp only [zA,zB,zC,Act.put,zD,zE,zF]
 refine wpZ_tk (i:=10) (v:= ?_) hHeld ?_ ?_;rotate_left
 ·(intro w hSw;go_simp<;>with_reducible rfl)
 try simp only [zA,zB,zC,Act.put,zD,zE,zF]
 refine wpZ_tk (i:=11) (v:= ?_) hHeld ?_ ?_;rotate_left
 ·(intro w hSw;go_simp<;>with_reducible rfl)
 try simp only [zA,zB,zC,Act.put,zD,zE,zF]
 refine wpZ_one (i:=12) (by kernel_rfl) rfl (fun K hK=> ?_);go_simp;refine(hmay _ fW2h.o.drew).mono ?_;clear hmay;rintro e W4 ⟨rfl,F4⟩;have F4a:=Fr.of_drew F4;dsimp only;refine hK.out _ _ (cell_fr F4 c4) (fun hHeld=> ?_);clear hK K;try simp only [zA,zB,zC,Act.put,zD,zE,zF]
 refine wpZ_call [] (by kernel_rfl) (i:=13) rfl (by kernel_rfl) (by kernel_rfl) (by kernel_rfl) (by kernel_rfl) (fun _ _ _ h=>h) (by rfl) (fun w hSw=> ?_) (fun w hSw=>(hu3 w)) hHeld ?_
 ·((try dsimp only at hSw);go_simp<;>with_reducible rfl)
 try simp only [zA,zB,zC,Act.put,zD,zE,zF]
 refine wpZ_one (i:=14) (by kernel_rfl) rfl (fun K hK=> ?_);go_simp;refine hK.out _ _ (cell_fr ((Fr.refl [] _).alloc _) (cell_fr F4a c4)) (fun hHeld=> ?_);clear hK K;try simp only [zA,zB,zC,Act.put,zD,zE,zF]
 refine wpZ_one (i:=15) (by kernel_rfl) rfl (fun K hK=> ?_);go_simp;refine(hfi _ _ (Blk.new _ _ _)).mono ?_;clear hfi;rintro e W7 ⟨rfl,rfl⟩;dsimp only;refine hK.out _ _ (cell_fr ((Fr.refl [] _).alloc _) (cell_fr F4a c4)) (fun hHeld=> ?_);clear hK K;try simp only [zA,zB,zC,Act.put,zD,zE,zF]
 refine wpZ_tk (i:=16) (v:= ?_) hHeld ?_ ?_;rotate_left
 ·(intro w hSw;go_simp<;>with_reducible rfl)
 try simp only [zA,zB,zC,Act.put,zD,zE,zF]
 refine wpZ_done (by kernel_rfl) ?_ _;clear c4;go_upto_region 5 with(fail)
 refine wp_gen (fun V=>Fr [] W2 V) (F4a.alloc _) ?_;rintro W9 F9;have hF9:=zh (fW2h.o.trans F9);have hR9:=hB2.o.fr F9 (by simp);have hkt:Hid (tokHead l (authM l q.header form) (fg form nGrant)=k):=zh (by rw [hae.o,hG.o,hkk.o,←hkv.o,←hx1.o,←hx2.o,←hx3.o]);clear F9 F4a F4 hu1 hu2 hu3 hHeld qe hkk hx1 hx2 hx3 hm;have hk0:k≠0:=fun h0=>by
  have h1:=(token_yes (hkt.o.trans h0)).2.2.1;rcases h1 with h1 |h1 |h1
  ·exact hk.1 h1
  ·exact hk.2.1 h1
  ·exact hk.2.2 h1
 have hkb:(k !=0)=true:=by simpa using hk0
 have hRe:Hid (R=(gNone,k)):=zh (by rw [←hR.o,←hkt.o];exact token_no (by rw [hkt.o];exact hk0));clear hk0 hkt hR hk;go_wp2_with (refine wpList_store_row rfl 35 _ _ rfl gr (cmdV gNone none 0 0) rfl rfl 35 (cmdV gNone none 0 0) hR9 (cmdI _ _ _ _) (by rfl) (cmdO _ _ _ _) ?_)
 refine bodyPost_ret (v:= .tuple #[.agg (cmdV gNone none 0 0),.int .i64 k]) (results_ct (p:=2) (q:=3) rfl _ _ gr 35 _ (0,0) _ rfl (Blk.setRow hR9 _) cmdU rfl (cmdI _ _ _ _) rfl) rfl ?_;exact⟨gNone,none,0,0,by rw [hRe.o],fun hz=>⟨by rw [hRe.o],rfl,Rd.nil _ _ _,from_none _⟩,hF9.o.setRow (.inr hgr) _⟩
end
end Go.Proofs.YtopfcgpeaaehgaaGreatDoor
