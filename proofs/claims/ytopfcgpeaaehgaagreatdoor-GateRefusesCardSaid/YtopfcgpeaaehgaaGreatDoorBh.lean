/- The chapter's examples of the gate, walked. Conditions: each theorem's own. -/
import Derived.Test.YtopfcgpeaaehgaaGreatDoorBg
import Derived.Test.YtopfcgpeaaehgaaGreatDoorBd
namespace Go.Proofs.YtopfcgpeaaehgaaGreatDoor
open Go.RowKit Go.Sig
def kcli:GCli:=⟨⟨#[97]⟩,⟨#[115]⟩,false,[],[],[gCred]⟩
theorem kcli_sz:∀c∈ [kcli],CliSz c:=by
 intro c hc;rw [List.mem_singleton]at hc;subst hc;exact⟨by decide,by decide,by decide,by simp [kcli],by decide,by simp [kcli]⟩
theorem krdr_sz (hdr path body:ByteArray) (hh:hdr.size≤1000):RdrSz ⟨path,hdr,body,nilB⟩ [kcli] 0 [] (parseF body).1:=
 ⟨kcli_sz,by simp,by simp,(parseF_sz body).1,(parseF_sz body).2,by show hdr.size≤_;omega⟩
theorem show_none {l:List GCli}{sec:List UInt8}{hdr:ByteArray}{form:Prs}{f:ByteArray→GTk→GCmd}(h:(showM l sec hdr form f).2≠0):(showM l sec hdr form f).1=gNone:=by
 unfold showM at*
 split
 ·rfl
 ·split
  ·rfl
  ·next h1 h2=>
   rw [if_neg h1,if_neg h2]at h;split
   ·rfl
   ·next t ht=>rw [ht]at h;exact absurd rfl h
def fB:ByteArray:=⟨#[102]⟩
def revF:ByteArray→GTk→GCmd:=fun id t=>⟨5,t.family,t.serial,t.kind,id,nilB,[],nilB,nilB,nilB,nilB,false,0⟩
theorem kn_rev (V:World) (r:Nat) (hroll:RollAt V r [kcli]) (hg:Glob V) (hdr body:ByteArray) (hh:hdr.size≤1000) (hb:body.size≤1000):
  Calls Tryz.prog 12 #[.pointer (some ⟨r,0,none⟩),.slice none 0 0,.string ⟨#[102]⟩,.int .i64 0,.agg #[.string pRevoke,.string hdr,.string body,.string nilB]] V (PlanPost V (planX [nTok,nHint] (parseF body) fB 0 (showM [kcli] [] hdr (parseF body).1 revF))):=
 planRevoke_t (q:=⟨pRevoke,hdr,body,nilB⟩) (sA:=none) (sc:=0) (sec:= []) (family:=fB) (edge:=0) hroll (Rd.nil _ _ _) hg (by decide) (by show body.size≤_;omega) rfl _ show_none
  (fun W g fA fc h=>revoke_t h (krdr_sz hdr pRevoke body hh))
theorem kn_tok (V:World) (r:Nat) (hroll:RollAt V r [kcli]) (hg:Glob V) (hdr body:ByteArray) (hh:hdr.size≤1000) (hb:body.size≤1000)
  (hk:fg (parseF body).1 nGrant=gCred∨(fg (parseF body).1 nGrant≠gAuth∧fg (parseF body).1 nGrant≠gCred∧fg (parseF body).1 nGrant≠gRefr)) (h0:(tokenM [kcli] [] fB hdr (parseF body).1).2≠0→(tokenM [kcli] [] fB hdr (parseF body).1).1=gNone):
  Calls Tryz.prog 12 #[.pointer (some ⟨r,0,none⟩),.slice none 0 0,.string ⟨#[102]⟩,.int .i64 0,.agg #[.string pToken,.string hdr,.string body,.string nilB]] V (PlanPost V (planX [nGrant,nCode,nRuri,nVer,nRefr,nScope] (parseF body) fB 0 (tokenM [kcli] [] fB hdr (parseF body).1))):=
 planToken_t (q:=⟨pToken,hdr,body,nilB⟩) (sA:=none) (sc:=0) (sec:= []) (family:=fB) (edge:=0) hroll (Rd.nil _ _ _) hg (by decide) (by show body.size≤_;omega) rfl _ h0
  (fun W g fA fc h=>hk.elim (tokenC_t h (krdr_sz hdr pToken body hh)) (tokenD_t h (krdr_sz hdr pToken body hh)))
def KnPost (V:World) (k:Int) (kind:Int) (fam:ByteArray) (e:Ending) (w':World):Prop:=
 ∃(c:GCmd) (A:Option Addr) (n d:Nat),e= .returned (.tuple #[.agg (cmdV c A n d),.int .i64 k])∧c.kind=kind∧c.family=fam∧Fr [] V w'
theorem kn_post {V:World}{R:GCmd×Int}{k kind:Int}{fam:ByteArray}(h1:R.2=k) (h2:R.1.kind=kind) (h3:R.1.family=fam) {e:Ending}{w':World}(h:PlanPost V R e w'):KnPost V k kind fam e w':=by
 obtain⟨A,d,rfl,-,hF⟩:=h;exact⟨R.1,A,_,d,by rw [h1],h2,h3,hF⟩
def bTok:ByteArray:=⟨#[116,111,107,101,110,61,120]⟩
def bPass:ByteArray:=⟨#[103,114,97,110,116,95,116,121,112,101,61,112,97,115,115,119,111,114,100]⟩
def bCred:ByteArray:=⟨#[103,114,97,110,116,95,116,121,112,101,61,99,108,105,101,110,116,95,99,114,101,100,101,110,116,105,97,108,115]⟩
theorem kn1 (V:World) (r:Nat) (hroll:RollAt V r [kcli]) (hg:Glob V):
  Calls Tryz.prog 12 #[.pointer (some ⟨r,0,none⟩),.slice none 0 0,.string ⟨#[102]⟩,.int .i64 0,.agg #[.string pRevoke,.string hdrAS,.string bTok,.string nilB]] V (KnPost V 0 0 nilB):=
 (kn_rev V r hroll hg hdrAS bTok (by decide) (by decide)).mono fun _ _=>kn_post (by decide+kernel) (by decide+kernel) (by decide+kernel)
theorem kn2 (V:World) (r:Nat) (hroll:RollAt V r [kcli]) (hg:Glob V):
  Calls Tryz.prog 12 #[.pointer (some ⟨r,0,none⟩),.slice none 0 0,.string ⟨#[102]⟩,.int .i64 0,.agg #[.string pRevoke,.string hdrAS,.string nilB,.string nilB]] V (KnPost V 1 0 nilB):=
 (kn_rev V r hroll hg hdrAS nilB (by decide) (by decide)).mono fun _ _=>kn_post (by decide+kernel) (by decide+kernel) (by decide+kernel)
theorem kn3 (V:World) (r:Nat) (hroll:RollAt V r [kcli]) (hg:Glob V):
  Calls Tryz.prog 12 #[.pointer (some ⟨r,0,none⟩),.slice none 0 0,.string ⟨#[102]⟩,.int .i64 0,.agg #[.string pRevoke,.string nilB,.string bTok,.string nilB]] V (KnPost V 2 0 nilB):=
 (kn_rev V r hroll hg nilB bTok (by decide) (by decide)).mono fun _ _=>kn_post (by decide+kernel) (by decide+kernel) (by decide+kernel)
theorem kn4 (V:World) (r:Nat) (hroll:RollAt V r [kcli]) (hg:Glob V):
  Calls Tryz.prog 12 #[.pointer (some ⟨r,0,none⟩),.slice none 0 0,.string ⟨#[102]⟩,.int .i64 0,.agg #[.string pToken,.string hdrAS,.string bPass,.string nilB]] V (KnPost V 5 0 nilB):=by
 refine(kn_tok V r hroll hg hdrAS bPass (by decide) (by decide) (.inr (by decide+kernel)) (fun _=> ?_)).mono fun _ _=>kn_post (by decide+kernel) (by decide+kernel) (by decide+kernel);have h:tokHead [kcli] (authM [kcli] hdrAS (parseF bPass).1) (fg (parseF bPass).1 nGrant)≠0:=by decide+kernel
 rw [token_no h]
theorem kn5 (V:World) (r:Nat) (hroll:RollAt V r [kcli]) (hg:Glob V):
  Calls Tryz.prog 12 #[.pointer (some ⟨r,0,none⟩),.slice none 0 0,.string ⟨#[102]⟩,.int .i64 0,.agg #[.string pToken,.string hdrAS,.string bCred,.string nilB]] V (KnPost V 0 4 fB):=
 (kn_tok V r hroll hg hdrAS bCred (by decide) (by decide) (.inl (by decide+kernel)) (fun h=>absurd (by decide+kernel) h)).mono fun _ _=>kn_post (by decide+kernel) (by decide+kernel) (by decide+kernel)
def kcv (g:Nat):CV:=⟨kcli,none,0,none,0,some ⟨g,0,none⟩,1⟩
theorem build_kcli (g:Nat) (w:World):(Instr.build 65 #[(0,.string ⟨#[97]⟩),(1,.string ⟨#[115]⟩),(5,.slice (some ⟨g,0,none⟩) 1 1)]).run Tryz.prog w= .ok (.agg (kcv g).cells) w:=by kernel_rfl
theorem build_req (a b c:ByteArray) (w:World):(Instr.build 25 #[(0,.string a),(1,.string b),(2,.string c)]).run Tryz.prog w= .ok (.agg #[.string a,.string b,.string c,.string nilB]) w:=by kernel_rfl
theorem build_req2 (a b:ByteArray) (w:World):(Instr.build 25 #[(0,.string a),(1,.string b)]).run Tryz.prog w= .ok (.agg #[.string a,.string b,.string nilB,.string nilB]) w:=by kernel_rfl
theorem build_req3 (a c:ByteArray) (w:World):(Instr.build 25 #[(0,.string a),(2,.string c)]).run Tryz.prog w= .ok (.agg #[.string a,.string nilB,.string c,.string nilB]) w:=by kernel_rfl
theorem kn_new (w:World):Calls Tryz.prog 11 #[.slice (some ⟨w.heap.size+1,0,none⟩) 1 1] ((w.alloc (.cells #[.string gCred] 9)).alloc (.cells (kcv w.heap.size).cells 65)) fun e w'=>∃r,e= .returned (.tuple #[.pointer (some ⟨r,0,none⟩),.int .i64 0])∧RollAt w' r [kcli]∧Fr [] w w':=by
 have hg:Blk ((w.alloc (.cells #[.string gCred] 9)).alloc (.cells (kcv w.heap.size).cells 65)) w.heap.size 9 (strCells [gCred]).toArray:=(Blk.new w 9 #[.string gCred]).alloc _;have hb:Blk ((w.alloc (.cells #[.string gCred] 9)).alloc (.cells (kcv w.heap.size).cells 65)) (w.heap.size+1) 65 (kcv w.heap.size).cells:=Blk.new' _ _ (by simp);have hF:Fr [] w ((w.alloc (.cells #[.string gCred] 9)).alloc (.cells (kcv w.heap.size).cells 65)):=((Fr.refl _ _).alloc _).alloc _;refine(rnew_t _ (some ⟨w.heap.size+1,0,none⟩) 1 1 [kcv w.heap.size] ⟨⟨rfl,fun _=>⟨_,0,rfl,fun j u hu=> ?_⟩⟩,rfl,?_⟩ ?_).mono ?_
 ·rw [hb.cell,Nat.zero_add];simpa [cvCells]using hu
 ·intro x hx;rw [List.mem_singleton]at hx;subst hx;exact⟨Rd.nil _ _ _,Rd.nil _ _ _,strs_rd hg⟩
 ·show rollOk [kcli]=true;decide+kernel
 ·rintro e w' ⟨r,rfl,h1,-,h3⟩;exact⟨r,rfl,h1,hF.trans h3⟩
theorem cmdV_c (c:GCmd) (A:Option Addr) (n d:Nat) {w:World}{g:Nat}{t:TypeId}(h:Blk w g t (cmdV c A n d)):w.cell? ⟨g,0,none⟩=some (.int .i64 c.kind)∧w.cell? ⟨g,1,none⟩=some (.string c.family):=
 ⟨by rw [h.cell];rfl,by rw [h.cell];rfl⟩
set_option maxRecDepth 100000 in
set_option maxHeartbeats 8000000 in
theorem known_t (w:World) (hg:Glob w):Calls Tryz.prog 9 #[] w fun e w'=>e= .returned (.bool true)∧Fr [] w w':=by
 have hgh:=zh hg;have hb0:=build_kcli;go_enter Tryz.func9,Tryz.ntmps9;go_upto_region 2 with(go_at_call 11;refine(kn_new w).mono ?_;rintro e W1 ⟨r,rfl,hRo,F1⟩)
 have hhd:=header_t W1;have hRoh:=zh hRo;have F1h:=zh F1;clear hRo F1 hb0;go_upto_region 3 with(go_at_call 22;refine hhd.mono ?_;clear hhd;rintro e W2 ⟨rfl,F2⟩)
 have F2h:=zh (F1h.o.trans F2);have hR2:=zh (hRoh.o.fr0 F2);clear F2;have hb1:=build_req;have hb2:=build_req2;have hb3:=build_req3;unfold hdrAS at*
 have hk:=kn1 W2 r hR2.o (hgh.o.fr F2h.o);unfold KnPost at hk;go_upto_region 4 with(first
  | (go_at_call 12;refine hk.mono ?_;clear hk;rintro e V1 ⟨c1,A1,n1,d1,rfl,k1,m1,G1⟩)
  | (refine wpList_store_row rfl 35 _ _ rfl V1.heap.size (cmdV c1 A1 n1 d1) rfl rfl 35 _ (Blk.new _ _ _) (cmdI _ _ _ _) (by rfl) (cmdO _ _ _ _) ?_))
 refine wp_gen (fun V=>Blk V V1.heap.size 35 (cmdV c1 A1 n1 d1)∧Fr [] V1 V) ⟨Blk.setRow (Blk.new _ _ _) _,((Fr.refl [] V1).alloc _).setRow (.inr (Nat.le_refl _)) _⟩ ?_;rintro W3 ⟨B1,H1⟩;obtain⟨g1,J1⟩:∃z,Hid (V1.heap.size=z):=⟨_,zh rfl⟩
 rw [J1.o]at B1⊢;have F3h:=zh (F2h.o.trans (G1.trans H1));have hR3:=zh (hR2.o.fr0 (G1.trans H1));have B1h:=zh B1;clear B1 G1 H1;have hk:=kn2 W3 r hR3.o (hgh.o.fr F3h.o);unfold KnPost at hk;go_upto_region 5 with(first
  | (go_at_call 12;refine hk.mono ?_;clear hk;rintro e V2 ⟨c2,A2,n2,d2,rfl,k2,m2,G2⟩)
  | (refine wpList_store_row rfl 35 _ _ rfl V2.heap.size (cmdV c2 A2 n2 d2) rfl rfl 35 _ (Blk.new _ _ _) (cmdI _ _ _ _) (by rfl) (cmdO _ _ _ _) ?_))
 refine wp_gen (fun V=>Blk V V2.heap.size 35 (cmdV c2 A2 n2 d2)∧Fr [] V2 V) ⟨Blk.setRow (Blk.new _ _ _) _,((Fr.refl [] V2).alloc _).setRow (.inr (Nat.le_refl _)) _⟩ ?_;rintro W4 ⟨B2,H2⟩;obtain⟨g2,J2⟩:∃z,Hid (V2.heap.size=z):=⟨_,zh rfl⟩
 rw [J2.o]at B2⊢;have F4h:=zh (F3h.o.trans (G2.trans H2));have hR4:=zh (hR3.o.fr0 (G2.trans H2));have B1h:=zh (B1h.o.fr (G2.trans H2) (by simp));clear B2 G2 H2;have hk:=kn3 W4 r hR4.o (hgh.o.fr F4h.o);unfold KnPost at hk;go_upto_region 6 with(first
  | (go_at_call 12;refine hk.mono ?_;clear hk;rintro e V3 ⟨c3,A3,n3,d3,rfl,k3,m3,G3⟩)
  | (refine wpList_store_row rfl 35 _ _ rfl V3.heap.size (cmdV c3 A3 n3 d3) rfl rfl 35 _ (Blk.new _ _ _) (cmdI _ _ _ _) (by rfl) (cmdO _ _ _ _) ?_))
 refine wp_gen (fun V=>Blk V V3.heap.size 35 (cmdV c3 A3 n3 d3)∧Fr [] V3 V) ⟨Blk.setRow (Blk.new _ _ _) _,((Fr.refl [] V3).alloc _).setRow (.inr (Nat.le_refl _)) _⟩ ?_;rintro W5 ⟨B3,H3⟩;obtain⟨g3,J3⟩:∃z,Hid (V3.heap.size=z):=⟨_,zh rfl⟩
 rw [J3.o]at B3⊢;have F5h:=zh (F4h.o.trans (G3.trans H3));have hR5:=zh (hR4.o.fr0 (G3.trans H3));have B1h:=zh (B1h.o.fr (G3.trans H3) (by simp));clear B3 G3 H3;have hk:=kn4 W5 r hR5.o (hgh.o.fr F5h.o);unfold KnPost at hk;go_upto_region 7 with(first
  | (go_at_call 12;refine hk.mono ?_;clear hk;rintro e V4 ⟨c4,A4,n4,d4,rfl,k4,m4,G4⟩)
  | (refine wpList_store_row rfl 35 _ _ rfl V4.heap.size (cmdV c4 A4 n4 d4) rfl rfl 35 _ (Blk.new _ _ _) (cmdI _ _ _ _) (by rfl) (cmdO _ _ _ _) ?_))
 refine wp_gen (fun V=>Blk V V4.heap.size 35 (cmdV c4 A4 n4 d4)∧Fr [] V4 V) ⟨Blk.setRow (Blk.new _ _ _) _,((Fr.refl [] V4).alloc _).setRow (.inr (Nat.le_refl _)) _⟩ ?_;rintro W6 ⟨B4,H4⟩;obtain⟨g4,J4⟩:∃z,Hid (V4.heap.size=z):=⟨_,zh rfl⟩
 rw [J4.o]at B4⊢;have F6h:=zh (F5h.o.trans (G4.trans H4));have hR6:=zh (hR5.o.fr0 (G4.trans H4));have B1h:=zh (B1h.o.fr (G4.trans H4) (by simp));clear B4 G4 H4;have hk:=kn5 W6 r hR6.o (hgh.o.fr F6h.o);unfold KnPost at hk;go_upto_region 8 with(first
  | (go_at_call 12;refine hk.mono ?_;clear hk;rintro e V5 ⟨c5,A5,n5,d5,rfl,k5,m5,G5⟩)
  | (refine wpList_store_row rfl 35 _ _ rfl V5.heap.size (cmdV c5 A5 n5 d5) rfl rfl 35 _ (Blk.new _ _ _) (cmdI _ _ _ _) (by rfl) (cmdO _ _ _ _) ?_))
 refine wp_gen (fun V=>Blk V V5.heap.size 35 (cmdV c5 A5 n5 d5)∧Fr [] V5 V) ⟨Blk.setRow (Blk.new _ _ _) _,((Fr.refl [] V5).alloc _).setRow (.inr (Nat.le_refl _)) _⟩ ?_;rintro W7 ⟨B5,H5⟩;obtain⟨g5,J5⟩:∃z,Hid (V5.heap.size=z):=⟨_,zh rfl⟩
 rw [J5.o]at B5⊢;have F7h:=zh (F6h.o.trans (G5.trans H5));have hR7:=zh (hR6.o.fr0 (G5.trans H5));have B1h:=zh (B1h.o.fr (G5.trans H5) (by simp));clear G5 H5;obtain⟨x0,-⟩:=cmdV_c _ _ _ _ B1h.o;obtain⟨y0,y1⟩:=cmdV_c _ _ _ _ B5;rw [k1]at x0;rw [k5]at y0;rw [m5]at y1;unfold fB at y1;clear k1 k5 m5 B5;go_wp2_with fail
 go_ret;exact⟨rfl,F7h.o⟩
end Go.Proofs.YtopfcgpeaaehgaaGreatDoor
