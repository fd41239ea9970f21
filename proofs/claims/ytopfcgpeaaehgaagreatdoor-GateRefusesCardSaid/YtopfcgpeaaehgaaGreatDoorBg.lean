/- Walks of the gate: Plan, path by path. Conditions: each theorem's own. -/
import Derived.Test.YtopfcgpeaaehgaaGreatDoorBf
namespace Go.Proofs.YtopfcgpeaaehgaaGreatDoor
open Go.RowKit Go.Sig
theorem pcs_len:∀(l cur:List UInt8),∀p∈pcs l cur,p.length≤l.length+cur.length
 | [],cur,p,h=>by
  unfold pcs at h;split at h
  ·cases h
  ·rw [List.mem_singleton]at h;subst h;simp
 |c::r,cur,p,h=>by
  unfold pcs at h;rw [List.length_cons];split at h
  ·split at h
   ·have:=pcs_len r [] p h;simp at this;omega
   ·rcases List.mem_cons.1 h with h |h
    ·subst h;omega
    ·have:=pcs_len r [] p h;simp at this;omega
  ·have:=pcs_len r _ p h;rw [List.length_append,List.length_singleton]at this;omega
theorem pairF_len {p:List UInt8}{x:ByteArray×ByteArray}(h:pairF p=some x):x.1.size≤p.length∧x.2.size≤p.length:=by
 unfold pairF at h;split at h
 ·next a b ha hb=>
  injection h with h
  subst h;have e1:=unqL_len _ _ _ (Nat.le_refl _) ha;have e2:=unqL_len _ _ _ (Nat.le_refl _) hb;have e3:=cutL_len (c:=61) p;simp only [bA_size];exact⟨Nat.le_trans e1 e3.1,Nat.le_trans e2 e3.2.1⟩
 ·cases h
theorem parseGo_sz {N:Nat}:∀(ps:List (List UInt8)) (acc:Prs),(∀p∈ps,p.length≤N)→acc.length≤64→(∀x∈acc,x.1.size≤N∧x.2.size≤N)→
  (parseGo ps acc).1.length≤64∧∀x∈(parseGo ps acc).1,x.1.size≤N∧x.2.size≤N
 | [],acc,_,h1,h2=>⟨h1,h2⟩
 |p::ps,acc,h0,h1,h2=>by
  rw [parseGo_cons];split
  ·exact⟨by simp,by simp⟩
  ·split
   ·exact⟨by simp,by simp⟩
   ·next x hx=>
    have e:=pairF_len hx;have ep:=h0 p List.mem_cons_self;refine parseGo_sz ps (acc++ [x]) (fun y hy=>h0 y (List.mem_cons_of_mem _ hy)) (by rw [List.length_append,List.length_singleton];omega) (fun y hy=> ?_);rcases List.mem_append.1 hy with hy |hy
    ·exact h2 y hy
    ·rw [List.mem_singleton]at hy;subst hy;omega
theorem parseF_sz (s:ByteArray):(parseF s).1.length≤64∧∀x∈(parseF s).1,x.1.size≤16384∧x.2.size≤16384:=by
 unfold parseF;split
 ·exact⟨by simp,by simp⟩
 ·refine parseGo_sz _ [] (fun p hp=> ?_) (by simp) (by simp);have:=pcs_len _ _ p hp;rw [Array.length_toList]at this;have e:s.data.size=s.size:=rfl;simp at this;omega
def planX (ns:List ByteArray) (form:Prs×Int) (family:ByteArray) (edge:Int) (sub:GCmd×Int):GCmd×Int:=
 if form.2≠0∨idM family=false∨edge<0∨31<edge then(gNone,1)else if ns.any (fun n=>decide (1<(fget form.1 n).2))=true then(gNone,1)else sub
def PlanPost (w:World) (r:GCmd×Int) (e:Ending) (w':World):Prop:=
 ∃(A:Option Addr) (d:Nat),e= .returned (.tuple #[.agg (cmdV r.1 A r.1.scope.length d),.int .i64 r.2])∧Rd w' 1 A r.1.scope.length (strCells r.1.scope)∧Fr [] w w'
def reqCells (q:GReq):Array Value:=#[.string q.path,.string q.header,.string q.body,.string q.user]
theorem uReq:Tryz.prog.underlying 25=some (.struct (Tryz.prog.fieldsOf 25)):=by kernel_rfl
theorem infoReqL (q:GReq):(Tryz.prog.info? 25).map (·.size)=some (reqCells q).toList.length:=by kernel_rfl
theorem build_rdr (a b c d f:ByteArray) (p:Option Addr) (sA:Option Addr) (n m:Nat) (e:Int) (w:World):(Instr.build 77 #[(0,.agg #[.string a,.string b,.string c,.string d]),(1,.pointer p),(2,.slice sA n m),(3,.string f),(4,.int .i64 e)]).run Tryz.prog w= .ok (.agg #[.string a,.string b,.string c,.string d,.pointer p,.slice sA n m,.string f,.int .i64 e,.slice none 0 0]) w:=by kernel_rfl
theorem rightT_code (s:ByteArray):rightT 1 s 0=idM s:=by
 unfold rightT;simp
theorem nil_func (fn:Fn) (a b:Array Value) (w:World):(binOp .eql 78 (.func fn a b) .nilFunc).run Tryz.prog w= .ok (.bool false) w:=by
 have h:Tryz.prog.underlying 78=some (.func #[] #[35,36] false):=by kernel_rfl
 have h2:∀d:Nat,(Op.equalIn (d+1) 78 (.func fn a b) .nilFunc).run Tryz.prog w= .ok false w:=fun d=>by simp [Op.equalIn,run_underlying h]
 simp only [binOp];simp [Op.equal,Op.maxDepth,h2 9999]
theorem strs_rd {w:World}{g:Nat}{t:TypeId}{ls:List ByteArray}(h:Blk w g t (strCells ls).toArray):Rd w 1 (some ⟨g,0,none⟩) ls.length (strCells ls):=by
 refine⟨by rw [strCells_length,Nat.mul_one],fun _=>⟨_,0,rfl,fun j u hu=> ?_⟩⟩;rw [h.cell,Nat.zero_add,zG];exact hu
set_option maxRecDepth 100000 in
set_option maxHeartbeats 8000000 in
theorem planToken_t {w:World}{r:Nat}{q:GReq}{l:List GCli}{sA:Option Addr}{sc:Nat}{sec:List UInt8}{family:ByteArray}{edge:Int}(hroll:RollAt w r l) (hsec:Byts w sA sec.length sec) (hglob:Glob w)
  (hfam:family.size≤150000000000000) (hbody:q.body.size≤140737488351232) (hp:q.path=pToken) (sub:GCmd×Int) (hs0:sub.2≠0→sub.1=gNone)
  (hsub:∀V g fA fc,RdrIn V g r q l sA sc sec family edge fA fc (parseF q.body).1→Calls Tryz.prog 27 #[.pointer (some ⟨g,0,none⟩)] V (SubPost V sub)):
  Calls Tryz.prog 12 #[.pointer (some ⟨r,0,none⟩),.slice sA sec.length sc,.string family,.int .i64 edge,.agg (reqCells q)] w (PlanPost w (planX [nGrant,nCode,nRuri,nVer,nRefr,nScope] (parseF q.body) family edge sub)):=by
 have hmf:∀(fn:Fn) (first cap:Array Value) (w:World),(Instr.makeFunc fn first cap).run Tryz.prog w= .ok (.func fn first cap) w:=fun _ _ _ _=>rfl;have hbr:=build_rdr;have hnf:=nil_func;have p0:(q.path.toList== [47,97,117,116,104,111,114,105,122,101])=false:=by rw [hp];decide+kernel
 have p1:(q.path.toList== [47,116,111,107,101,110])=true:=by rw [hp];decide+kernel
 have p2:(q.path.toList== [47,114,101,118,111,107,101])=false:=by rw [hp];decide+kernel
 have p3:(q.path.toList== [47,105,110,116,114,111,115,112,101,99,116])=false:=by rw [hp];decide+kernel
 clear hp;have hpa:=fun V=>fparse_t V q.body hbody;have hfz:=parseF_sz q.body;obtain⟨pf,hpf⟩:∃z,Hid (parseF q.body=z):=⟨_,zh rfl⟩
 rw [hpf.o]at hpa hsub hfz⊢;obtain⟨form,er⟩:=pf;dsimp only at hpa hsub hfz⊢;have hsubh:=zh hsub;have hrollh:=zh hroll;have hsech:=zh hsec;have hglobh:=zh hglob;have hfzh:=zh hfz;have hs0h:=zh hs0;obtain⟨R,hR⟩:∃z,Hid (planX [nGrant,nCode,nRuri,nVer,nRefr,nScope] (form,er) family edge sub=z):=⟨_,zh rfl⟩
 rw [hR.o];clear hroll hsec hglob hfz hsub hs0 hbody;unfold reqCells;go_enter Tryz.func12,Tryz.ntmps12;go_upto_region 1 with(fail)
 refine wp_gen (fun W=>Blk W w.heap.size 25 (reqCells q)∧Blk W (w.heap.size+1) 35 (cmdV gNone none 0 0)∧Fr [] w W∧W.heap.size=w.heap.size+2) ⟨(Blk.new _ _ _).alloc _,Blk.new' _ _ (by simp),((Fr.refl _ _).alloc _).alloc _,by simp⟩ ?_;rintro W ⟨hQ,hB,fW,hsz⟩;obtain⟨gq,HQ⟩:∃z,Hid (w.heap.size=z):=⟨_,zh rfl⟩
 rw [HQ.o]at hQ hB hsz⊢;obtain⟨gr,HR⟩:∃z,Hid (gq+1=z):=⟨_,zh rfl⟩
 rw [HR.o]at hB⊢;have hql:=hQ.lt;have fWh:=zh fW;have hBh:=zh hB;have hQh:=zh hQ;have hq0:=hQ.cell 0;have hq2:=hQ.cell 2;simp only [reqCells,zG,zH,zI]at hq0 hq2;clear hB fW;go_upto_region 4 with(refine wpList_load_at rfl 25 _ rfl rfl hQ (sub_self _) uReq rfl (infoReqL _) ?_;rw [Array.toArray_toList];unfold reqCells)
 refine wp_gen (fun V=>Blk V W.heap.size 77 #[.string q.path,.string q.header,.string q.body,.string q.user,.pointer (some ⟨r,0,none⟩),.slice sA sec.length sc,.string family,.int .i64 edge,.slice none 0 0]∧Fr [] W V) ⟨Blk.new _ _ _,(Fr.refl _ _).alloc _⟩ ?_;rintro W1 ⟨hX,f1⟩;rw [hsz]at hX;obtain⟨gx,HX⟩:∃z,Hid (gq+2=z):=⟨_,zh rfl⟩
 rw [HX.o]at hX⊢;have hszh:=zh hsz;clear hsz;have hq0:=cell_fr f1 hq0;have hq2:=zh (cell_fr f1 hq2);have hQ1:=zh (hQh.o.fr f1 (by simp));have hql:=hQ1.o.lt;have hB1:=zh (hBh.o.fr f1 (by simp));have fW1:=zh (fWh.o.trans f1);have hXh:=zh hX;have hxl:=hX.lt;clear hX f1 hQ;go_upto_region 13 with(fail)
 refine wp_gen (fun V=>Blk V W1.heap.size 9 (strCells [nGrant,nCode,nRuri,nVer,nRefr,nScope]).toArray∧Fr [] W1 V) ⟨Blk.new _ _ _,(Fr.refl _ _).alloc _⟩ ?_;rintro W2 ⟨hN,f2⟩;obtain⟨gn,HN⟩:∃z,Hid (W1.heap.size=z):=⟨_,zh rfl⟩
 rw [HN.o]at hN⊢;have hq2:=cell_fr f2 hq2.o;have hql:=(hQ1.o.fr f2 (by simp)).lt;have hX2:=zh (hXh.o.fr f2 (by simp));have hB2:=zh (hB1.o.fr f2 (by simp));have fW2:=zh (fW1.o.trans f2);have hNh:=zh hN;clear hN f2 p0 p1 p2 p3 hq0;have hri:∀V,Calls Tryz.prog 31 #[.agg #[.int .i64 1,.string family,.int .i64 0]] V fun e w'=>e= .returned (.bool (idM family))∧Fr [] V w':=fun V=>by have:=sright_t V 1 0 family hfam;rw [rightT_code]at this;exact this
 go_upto_region 14 with(go_at_call 30;refine(hpa _).mono ?_;clear hpa;rintro e W3 ⟨A3,c3,rfl,O3,R3,F3⟩)
 have hX3:=zh (hX2.o.fr F3 (by simp));have hB3:=hB2.o.fr F3 (by simp);have fW3:=zh (fW2.o.trans F3);have hN3:=zh (hNh.o.fr F3 (by simp));have O3h:=zh O3;have R3h:=zh R3;have hgr2:w.heap.size≤gr:=by have:=HQ.o;have:=HR.o;omega
 clear O3 R3 F3 hq2;by_cases her:er=0;case neg=>
  have herb:(er !=0)=true:=by simpa using her
  have hRe:Hid (R=(gNone,1)):=zh (by rw [←hR.o];unfold planX;rw [if_pos (.inl her)]);clear her hri;go_wp2_with (refine wpList_store_row rfl 35 _ _ rfl gr (cmdV gNone none 0 0) rfl rfl 35 (cmdV gNone none 0 0) hB3 (cmdI _ _ _ _) (by rfl) (cmdO _ _ _ _) ?_)
  refine bodyPost_ret (v:= .tuple #[.agg (cmdV gNone none 0 0),.int .i64 1]) (results_ct (p:=10) (q:=11) rfl _ _ gr 35 _ (0,0) _ rfl (Blk.setRow hB3 _) cmdU rfl (cmdI _ _ _ _) rfl) rfl ?_;rw [hRe.o];exact⟨none,0,rfl,Rd.nil _ _ _,fW3.o.setRow (.inr hgr2) _⟩
 subst her;by_cases hid0:idM family=false;case pos=>
  rw [hid0]at hri;have hRe:Hid (R=(gNone,1)):=zh (by rw [←hR.o];unfold planX;rw [if_pos (.inr (.inl hid0))]);clear hid0;go_wp2_with (first
   | (go_at_call 31;refine(hri _).mono ?_;clear hri;rintro e W4 ⟨rfl,F4⟩;have hB4:=hB3.fr F4 (by simp);have fW4:=zh (fW3.o.trans F4);clear F4)
   | (refine wpList_store_row rfl 35 _ _ rfl gr (cmdV gNone none 0 0) rfl rfl 35 (cmdV gNone none 0 0) hB4 (cmdI _ _ _ _) (by rfl) (cmdO _ _ _ _) ?_))
  refine bodyPost_ret (v:= .tuple #[.agg (cmdV gNone none 0 0),.int .i64 1]) (results_ct (p:=10) (q:=11) rfl _ _ gr 35 _ (0,0) _ rfl (Blk.setRow hB4 _) cmdU rfl (cmdI _ _ _ _) rfl) rfl ?_;rw [hRe.o];exact⟨none,0,rfl,Rd.nil _ _ _,fW4.o.setRow (.inr hgr2) _⟩
 have hid1:idM family=true:=by simpa using hid0
 rw [hid1]at hri;by_cases hed:edge<0∨31<edge;case pos=>
  have hRe:Hid (R=(gNone,1)):=zh (by rw [←hR.o];unfold planX;rw [if_pos (.inr (.inr hed))]);clear hid0 hid1;rcases hed with hed |hed
  ·go_wp2_with (first
    | (go_at_call 31;refine(hri _).mono ?_;clear hri;rintro e W4 ⟨rfl,F4⟩;have hB4:=hB3.fr F4 (by simp);have fW4:=zh (fW3.o.trans F4);clear F4)
    | (refine wpList_store_row rfl 35 _ _ rfl gr (cmdV gNone none 0 0) rfl rfl 35 (cmdV gNone none 0 0) hB4 (cmdI _ _ _ _) (by rfl) (cmdO _ _ _ _) ?_))
   refine bodyPost_ret (v:= .tuple #[.agg (cmdV gNone none 0 0),.int .i64 1]) (results_ct (p:=10) (q:=11) rfl _ _ gr 35 _ (0,0) _ rfl (Blk.setRow hB4 _) cmdU rfl (cmdI _ _ _ _) rfl) rfl ?_;rw [hRe.o];exact⟨none,0,rfl,Rd.nil _ _ _,fW4.o.setRow (.inr hgr2) _⟩
  ·have hed1:¬edge<0:=by omega
   have hed2:32≤edge:=by omega
   clear hed;go_wp2_with (first
    | (go_at_call 31;refine(hri _).mono ?_;clear hri;rintro e W4 ⟨rfl,F4⟩;have hB4:=hB3.fr F4 (by simp);have fW4:=zh (fW3.o.trans F4);clear F4)
    | (refine wpList_store_row rfl 35 _ _ rfl gr (cmdV gNone none 0 0) rfl rfl 35 (cmdV gNone none 0 0) hB4 (cmdI _ _ _ _) (by rfl) (cmdO _ _ _ _) ?_))
   refine bodyPost_ret (v:= .tuple #[.agg (cmdV gNone none 0 0),.int .i64 1]) (results_ct (p:=10) (q:=11) rfl _ _ gr 35 _ (0,0) _ rfl (Blk.setRow hB4 _) cmdU rfl (cmdI _ _ _ _) rfl) rfl ?_;rw [hRe.o];exact⟨none,0,rfl,Rd.nil _ _ _,fW4.o.setRow (.inr hgr2) _⟩
 have hed1:¬edge<0:=by omega
 have hed2:¬32≤edge:=by omega
 have hRe:Hid (R=if List.any [nGrant,nCode,nRuri,nVer,nRefr,nScope] (fun n=>decide (1<(fget form n).2))=true then(gNone,1)else sub):=zh (by rw [←hR.o];unfold planX;rw [if_neg (by rw [hid1];simp only [ne_eq,not_true_eq_false,false_or,Bool.true_eq_false];exact hed)]);clear hed hid0 hid1 hR;go_upto_region 16 with(go_at_call 31;refine(hri _).mono ?_;clear hri;rintro e W4 ⟨rfl,F4⟩)
 have hX4:=hX3.o.fr F4 (by simp);have hN4:=hN3.o.fr F4 (by simp);have hB4:=hB3.fr F4 (by simp);have fW4:=zh (fW3.o.trans F4);have O4:=O3h.o.fr F4 (by simp);have hA3:∀g,g∈rowOf (.slice A3 form.length c3)→gx<g:=fun g hg=>by have h1:=R3h.o g hg;have h2:=hX2.o.lt;omega
 have hxl:=hX4.lt;have hxr:gx≠gr:=by have:=HX.o;have:=HR.o;omega
 have hgn:gn≠gx:=by have:=hXh.o.lt;have:=HN.o;omega
 have ex8:=hX4.cell 8;have zx8:=hX4.frozen 8;simp only [zG,zH,zI]at ex8;go_upto_region 17 with(fail)
 have hrdr:=hX4.set 8 (.slice A3 form.length c3);refine wp_gen (fun V=>Blk V gx 77 #[.string q.path,.string q.header,.string q.body,.string q.user,.pointer (some ⟨r,0,none⟩),.slice sA sec.length sc,.string family,.int .i64 edge,.slice A3 form.length c3]∧Fr [gx] W4 V) ⟨by simpa using hrdr,(Fr.refl _ _).setCell (.inl (by simp)) _⟩ ?_;rintro W5 ⟨hX5,F5⟩;have hN5:=hN4.fr F5 (by simpa using hgn);have hB5:=zh (hB4.fr F5 (by simpa using hxr.symm));have O5:=O4.fr F5 (fun g hg=>by have:=hA3 g hg;simp;omega);have fW5:Fr [] w W5:=fW4.o.andThen F5 (fun g hg=> .inr (by simp at hg;have:=HX.o;have:=HQ.o;omega));have hRd5:=O5.rd;have hrd:RdrIn W5 gx r q l sA sc sec family edge A3 c3 form:=⟨hX5,hrollh.o.fr0 fW5,Rd.fr hsech.o fW5 (fun _=>off_nil _),hRd5,hglobh.o.fr fW5⟩
 have hsub:=hsubh.o W5 gx A3 c3 hrd;have hge:=fun k=>fget_t W5 A3 form.length c3 form hRd5 rfl (by have:=hfzh.o.1;omega) k;unfold GetPost at hge;have hNR:Rd W5 1 (some ⟨gn,0,none⟩) (List.length [nGrant,nCode,nRuri,nVer,nRefr,nScope]) (strCells [nGrant,nCode,nRuri,nVer,nRefr,nScope]):=strs_rd hN5;have fW5h:=zh fW5;clear ex8 zx8 hrdr hX4 hN4 hB4 O4 F4 F5 hX5 hN5 O5 fW5 hRd5 hrd hA3 hB3;obtain⟨ls,hls⟩:∃z,Hid ([nGrant,nCode,nRuri,nVer,nRefr,nScope]=z):=⟨_,zh rfl⟩
 have hln:ls.length=6:=by rw [←hls.o];rfl
 rw [hls.o]at hNR hRe;rw [hln]at hNR;have eg:∀args w,(callFunc 27 args).run Tryz.prog w= .ok (.enter 27 args) w:=enters_of Tryz.func27 (by kernel_rfl) rfl;have hsubH:=zh hsub;have hgeH:=zh hge;clear hsub hge hN3 hX3 hX2;go_wp2_with fail
 go_loopg [18,19,20,85] (6+1) (fun gk s18 s19 s20 s85 wr=>∃(i:Nat),s85= .int .i64 i∧i≤6∧6 - i<gk∧(∀x∈ls.take i,¬1<(fget form x).2)∧W5=wr)
 case atStart=>exact⟨0,rfl,by omega,by omega,by simp,rfl⟩
 case round=>
  obtain⟨i,rfl,hi,hk,hno,rfl⟩:=hrel;have hnoh:=zh hno;clear hno;by_cases hlt:i<6
  ·have hlt':(i:Int)<6:=by omega
   have hlth:=zh hlt;have hi':i<ls.length:=by omega
   obtain⟨b,o,hbo,hcell⟩:=hNR.2 (by omega);obtain⟨rfl,rfl⟩:gn=b∧0=o:=by injection hbo with h1;injection h1 with h1 h2;exact⟨h1,h2⟩
   have cs:=hcell i (.string (ls[i]'hi')) (by unfold strCells;rw [List.getElem?_map,List.getElem?_eq_getElem hi'];rfl);have htk:=zh (List.take_succ_eq_append_getElem hi');have hmem:=zh (List.getElem_mem hi');obtain⟨x,hx⟩:∃z,Hid (ls[i]'hi'=z):=⟨_,zh rfl⟩
   rw [hx.o]at cs htk hmem;have hge:=hgeH.o x;obtain⟨⟨fs,fn⟩,hfn⟩:∃z,Hid (fget form x=z):=⟨_,zh rfl⟩
   rw [hfn.o]at hge;dsimp only at hge;rw [Nat.zero_add]at cs;have hB5:=hB5.o;clear hcell hx hbo hi;by_cases h1:1<fn
   ·have h1b:decide ((1:Int)<(fn:Nat))=true:=by rw [decide_eq_true_eq];omega
    have hR1:Hid (R=(gNone,1)):=zh (by rw [hRe.o,if_pos];rw [List.any_eq_true];exact⟨x,hmem.o,by rw [hfn.o];simpa using h1⟩);clear h1 hk;go_wp2_with (first
     | (go_at_call 32;refine hge.mono ?_;clear hge;rintro e w6 ⟨rfl,rfl⟩)
     | (refine wpList_store_row rfl 35 _ _ rfl gr (cmdV gNone none 0 0) rfl rfl 35 (cmdV gNone none 0 0) hB5 (cmdI _ _ _ _) (by rfl) (cmdO _ _ _ _) ?_))
    refine bodyPost_ret (v:= .tuple #[.agg (cmdV gNone none 0 0),.int .i64 1]) (results_ct (p:=10) (q:=11) rfl _ _ gr 35 _ (0,0) _ rfl (Blk.setRow hB5 _) cmdU rfl (cmdI _ _ _ _) rfl) rfl ?_;rw [hR1.o];exact⟨none,0,rfl,Rd.nil _ _ _,fW5h.o.setRow (.inr hgr2) _⟩
   ·have h1b:decide ((1:Int)<(fn:Nat))=false:=by rw [decide_eq_false_iff_not];omega
    have h1h:=zh h1;clear h1;go_wp2_with (go_at_call 32;refine hge.mono ?_;clear hge;rintro e w6 ⟨rfl,rfl⟩)
    go_roundg (6 - i)
    case measure=>have:=hlth.o;omega
    case rel=>
     refine⟨i+1,by go_num,by have:=hlth.o;omega,by have:=hlth.o;omega,?_,rfl⟩;rw [htk.o];intro y hy;rcases List.mem_append.1 hy with hy |hy
     ·exact hnoh.o y hy
     ·rw [List.mem_singleton]at hy;rw [hy,hfn.o];exact h1h.o
  ·have hge':¬(i:Int)<6:=by omega
   have hall:=hnoh.o;rw [List.take_of_length_le (show ls.length≤i by omega)]at hall;have hR1:Hid (R=sub):=zh (by rw [hRe.o,if_neg];rw [List.any_eq_true];rintro⟨x,hx,h1⟩;exact hall x hx (by simpa using h1));have hsub:=hsubH.o;unfold SubPost at hsub;clear hlt hi hk hall;go_upto_region 25 with(first
    | (go_at_fn 27;refine hsub.mono ?_;clear hsub;rintro e W6 ⟨c,A,n,d,rfl,hc,F6⟩)
    | (refine wpList_store_row rfl 35 _ _ rfl W6.heap.size (cmdV c A n d) rfl rfl 35 _ (Blk.new _ _ _) (cmdI _ _ _ _) (by rfl) (cmdO _ _ _ _) ?_))
   refine wp_gen (fun V=>Blk V W6.heap.size 35 (cmdV c A n d)∧Fr [] W6 V) ⟨Blk.setRow (Blk.new _ _ _) _,((Fr.refl [] W6).alloc _).setRow (.inr (Nat.le_refl _)) _⟩ ?_;rintro W7 ⟨hC7,F7⟩;obtain⟨g21,H21⟩:∃z,Hid (W6.heap.size=z):=⟨_,zh rfl⟩
   rw [H21.o]at hC7⊢;have hB7:=hB5.o.fr (F6.trans F7) (by simp);have fW7:=zh (fW5h.o.trans (F6.trans F7));have hch:=zh hc;have F7h:=zh F7;obtain⟨k,hk⟩:∃z,Hid (sub.2=z):=⟨_,zh rfl⟩
   rw [hk.o]at hch⊢;clear F6 F7 hc;by_cases hk0:k=0
   ·subst hk0;obtain⟨rfl,rfl,hRd,hAd⟩:=hch.o rfl;have hAdh:=zh hAd;have hgl7:=hB5.o.lt;have hRd7:=zh (hRd.fr F7h.o (fun _=>off_nil _));clear hRd hAd;go_wp2_with (first
     | (refine wpList_load_at rfl 35 _ rfl rfl hC7 (sub_self _) cmdU rfl (cmdIL _ _ _ _) ?_;rw [Array.toArray_toList])
     | (refine wpList_store_row rfl 35 _ _ rfl gr (cmdV sub.1 A sub.1.scope.length d) rfl rfl 35 (cmdV gNone none 0 0) hB7 (cmdI _ _ _ _) (by rfl) (cmdO _ _ _ _) ?_))
    refine bodyPost_ret (v:= .tuple #[.agg (cmdV sub.1 A sub.1.scope.length d),.int .i64 0]) (results_ct (p:=10) (q:=11) rfl _ _ gr 35 _ (0,0) _ rfl (Blk.setRow hB7 _) cmdU rfl (cmdI _ _ _ _) rfl) rfl ?_;rw [hR1.o];exact⟨A,d,by rw [hk.o],hRd7.o.fr ((Fr.refl [gr] _).setRow (.inl (by simp)) _) (fun _=>hAdh.o.off (by simpa using hgl7)),fW7.o.setRow (.inr hgr2) _⟩
   ·have hkb:(k !=0)=true:=by simpa using hk0
    have hs1:Hid (sub=(gNone,k)):=zh (by
     have:=hs0h.o (by rw [hk.o];exact hk0);rw [←this,←hk.o])
    clear hk0;go_wp2_with (refine wpList_store_row rfl 35 _ _ rfl gr (cmdV gNone none 0 0) rfl rfl 35 (cmdV gNone none 0 0) hB7 (cmdI _ _ _ _) (by rfl) (cmdO _ _ _ _) ?_)
    refine bodyPost_ret (v:= .tuple #[.agg (cmdV gNone none 0 0),.int .i64 k]) (results_ct (p:=10) (q:=11) rfl _ _ gr 35 _ (0,0) _ rfl (Blk.setRow hB7 _) cmdU rfl (cmdI _ _ _ _) rfl) rfl ?_;rw [hR1.o,hs1.o];exact⟨none,0,rfl,Rd.nil _ _ _,fW7.o.setRow (.inr hgr2) _⟩
set_option maxRecDepth 100000 in
set_option maxHeartbeats 8000000 in
theorem planRevoke_t {w:World}{r:Nat}{q:GReq}{l:List GCli}{sA:Option Addr}{sc:Nat}{sec:List UInt8}{family:ByteArray}{edge:Int}(hroll:RollAt w r l) (hsec:Byts w sA sec.length sec) (hglob:Glob w)
  (hfam:family.size≤150000000000000) (hbody:q.body.size≤140737488351232) (hp:q.path=pRevoke) (sub:GCmd×Int) (hs0:sub.2≠0→sub.1=gNone)
  (hsub:∀V g fA fc,RdrIn V g r q l sA sc sec family edge fA fc (parseF q.body).1→Calls Tryz.prog 28 #[.pointer (some ⟨g,0,none⟩)] V (SubPost V sub)):
  Calls Tryz.prog 12 #[.pointer (some ⟨r,0,none⟩),.slice sA sec.length sc,.string family,.int .i64 edge,.agg (reqCells q)] w (PlanPost w (planX [nTok,nHint] (parseF q.body) family edge sub)):=by
 have hmf:∀(fn:Fn) (first cap:Array Value) (w:World),(Instr.makeFunc fn first cap).run Tryz.prog w= .ok (.func fn first cap) w:=fun _ _ _ _=>rfl;have hbr:=build_rdr;have hnf:=nil_func;have p0:(q.path.toList== [47,97,117,116,104,111,114,105,122,101])=false:=by rw [hp];decide+kernel
 have p1:(q.path.toList== [47,116,111,107,101,110])=false:=by rw [hp];decide+kernel
 have p2:(q.path.toList== [47,114,101,118,111,107,101])=true:=by rw [hp];decide+kernel
 have p3:(q.path.toList== [47,105,110,116,114,111,115,112,101,99,116])=false:=by rw [hp];decide+kernel
 clear hp;have hpa:=fun V=>fparse_t V q.body hbody;have hfz:=parseF_sz q.body;obtain⟨pf,hpf⟩:∃z,Hid (parseF q.body=z):=⟨_,zh rfl⟩
 rw [hpf.o]at hpa hsub hfz⊢;obtain⟨form,er⟩:=pf;dsimp only at hpa hsub hfz⊢;have hsubh:=zh hsub;have hrollh:=zh hroll;have hsech:=zh hsec;have hglobh:=zh hglob;have hfzh:=zh hfz;have hs0h:=zh hs0;obtain⟨R,hR⟩:∃z,Hid (planX [nTok,nHint] (form,er) family edge sub=z):=⟨_,zh rfl⟩
 rw [hR.o];clear hroll hsec hglob hfz hsub hs0 hbody;unfold reqCells;go_enter Tryz.func12,Tryz.ntmps12;go_upto_region 1 with(fail)
 refine wp_gen (fun W=>Blk W w.heap.size 25 (reqCells q)∧Blk W (w.heap.size+1) 35 (cmdV gNone none 0 0)∧Fr [] w W∧W.heap.size=w.heap.size+2) ⟨(Blk.new _ _ _).alloc _,Blk.new' _ _ (by simp),((Fr.refl _ _).alloc _).alloc _,by simp⟩ ?_;rintro W ⟨hQ,hB,fW,hsz⟩;obtain⟨gq,HQ⟩:∃z,Hid (w.heap.size=z):=⟨_,zh rfl⟩
 rw [HQ.o]at hQ hB hsz⊢;obtain⟨gr,HR⟩:∃z,Hid (gq+1=z):=⟨_,zh rfl⟩
 rw [HR.o]at hB⊢;have hql:=hQ.lt;have fWh:=zh fW;have hBh:=zh hB;have hQh:=zh hQ;have hq0:=hQ.cell 0;have hq2:=hQ.cell 2;simp only [reqCells,zG,zH,zI]at hq0 hq2;clear hB fW;go_upto_region 4 with(refine wpList_load_at rfl 25 _ rfl rfl hQ (sub_self _) uReq rfl (infoReqL _) ?_;rw [Array.toArray_toList];unfold reqCells)
 refine wp_gen (fun V=>Blk V W.heap.size 77 #[.string q.path,.string q.header,.string q.body,.string q.user,.pointer (some ⟨r,0,none⟩),.slice sA sec.length sc,.string family,.int .i64 edge,.slice none 0 0]∧Fr [] W V) ⟨Blk.new _ _ _,(Fr.refl _ _).alloc _⟩ ?_;rintro W1 ⟨hX,f1⟩;rw [hsz]at hX;obtain⟨gx,HX⟩:∃z,Hid (gq+2=z):=⟨_,zh rfl⟩
 rw [HX.o]at hX⊢;have hszh:=zh hsz;clear hsz;have hq0:=cell_fr f1 hq0;have hq2:=zh (cell_fr f1 hq2);have hQ1:=zh (hQh.o.fr f1 (by simp));have hql:=hQ1.o.lt;have hB1:=zh (hBh.o.fr f1 (by simp));have fW1:=zh (fWh.o.trans f1);have hXh:=zh hX;have hxl:=hX.lt;clear hX f1 hQ;go_upto_region 13 with(fail)
 refine wp_gen (fun V=>Blk V W1.heap.size 9 (strCells [nTok,nHint]).toArray∧Fr [] W1 V) ⟨Blk.new _ _ _,(Fr.refl _ _).alloc _⟩ ?_;rintro W2 ⟨hN,f2⟩;obtain⟨gn,HN⟩:∃z,Hid (W1.heap.size=z):=⟨_,zh rfl⟩
 rw [HN.o]at hN⊢;have hq2:=cell_fr f2 hq2.o;have hql:=(hQ1.o.fr f2 (by simp)).lt;have hX2:=zh (hXh.o.fr f2 (by simp));have hB2:=zh (hB1.o.fr f2 (by simp));have fW2:=zh (fW1.o.trans f2);have hNh:=zh hN;clear hN f2 p0 p1 p2 p3 hq0;have hri:∀V,Calls Tryz.prog 31 #[.agg #[.int .i64 1,.string family,.int .i64 0]] V fun e w'=>e= .returned (.bool (idM family))∧Fr [] V w':=fun V=>by have:=sright_t V 1 0 family hfam;rw [rightT_code]at this;exact this
 go_upto_region 14 with(go_at_call 30;refine(hpa _).mono ?_;clear hpa;rintro e W3 ⟨A3,c3,rfl,O3,R3,F3⟩)
 have hX3:=zh (hX2.o.fr F3 (by simp));have hB3:=hB2.o.fr F3 (by simp);have fW3:=zh (fW2.o.trans F3);have hN3:=zh (hNh.o.fr F3 (by simp));have O3h:=zh O3;have R3h:=zh R3;have hgr2:w.heap.size≤gr:=by have:=HQ.o;have:=HR.o;omega
 clear O3 R3 F3 hq2;by_cases her:er=0;case neg=>
  have herb:(er !=0)=true:=by simpa using her
  have hRe:Hid (R=(gNone,1)):=zh (by rw [←hR.o];unfold planX;rw [if_pos (.inl her)]);clear her hri;go_wp2_with (refine wpList_store_row rfl 35 _ _ rfl gr (cmdV gNone none 0 0) rfl rfl 35 (cmdV gNone none 0 0) hB3 (cmdI _ _ _ _) (by rfl) (cmdO _ _ _ _) ?_)
  refine bodyPost_ret (v:= .tuple #[.agg (cmdV gNone none 0 0),.int .i64 1]) (results_ct (p:=10) (q:=11) rfl _ _ gr 35 _ (0,0) _ rfl (Blk.setRow hB3 _) cmdU rfl (cmdI _ _ _ _) rfl) rfl ?_;rw [hRe.o];exact⟨none,0,rfl,Rd.nil _ _ _,fW3.o.setRow (.inr hgr2) _⟩
 subst her;by_cases hid0:idM family=false;case pos=>
  rw [hid0]at hri;have hRe:Hid (R=(gNone,1)):=zh (by rw [←hR.o];unfold planX;rw [if_pos (.inr (.inl hid0))]);clear hid0;go_wp2_with (first
   | (go_at_call 31;refine(hri _).mono ?_;clear hri;rintro e W4 ⟨rfl,F4⟩;have hB4:=hB3.fr F4 (by simp);have fW4:=zh (fW3.o.trans F4);clear F4)
   | (refine wpList_store_row rfl 35 _ _ rfl gr (cmdV gNone none 0 0) rfl rfl 35 (cmdV gNone none 0 0) hB4 (cmdI _ _ _ _) (by rfl) (cmdO _ _ _ _) ?_))
  refine bodyPost_ret (v:= .tuple #[.agg (cmdV gNone none 0 0),.int .i64 1]) (results_ct (p:=10) (q:=11) rfl _ _ gr 35 _ (0,0) _ rfl (Blk.setRow hB4 _) cmdU rfl (cmdI _ _ _ _) rfl) rfl ?_;rw [hRe.o];exact⟨none,0,rfl,Rd.nil _ _ _,fW4.o.setRow (.inr hgr2) _⟩
 have hid1:idM family=true:=by simpa using hid0
 rw [hid1]at hri;by_cases hed:edge<0∨31<edge;case pos=>
  have hRe:Hid (R=(gNone,1)):=zh (by rw [←hR.o];unfold planX;rw [if_pos (.inr (.inr hed))]);clear hid0 hid1;rcases hed with hed |hed
  ·go_wp2_with (first
    | (go_at_call 31;refine(hri _).mono ?_;clear hri;rintro e W4 ⟨rfl,F4⟩;have hB4:=hB3.fr F4 (by simp);have fW4:=zh (fW3.o.trans F4);clear F4)
    | (refine wpList_store_row rfl 35 _ _ rfl gr (cmdV gNone none 0 0) rfl rfl 35 (cmdV gNone none 0 0) hB4 (cmdI _ _ _ _) (by rfl) (cmdO _ _ _ _) ?_))
   refine bodyPost_ret (v:= .tuple #[.agg (cmdV gNone none 0 0),.int .i64 1]) (results_ct (p:=10) (q:=11) rfl _ _ gr 35 _ (0,0) _ rfl (Blk.setRow hB4 _) cmdU rfl (cmdI _ _ _ _) rfl) rfl ?_;rw [hRe.o];exact⟨none,0,rfl,Rd.nil _ _ _,fW4.o.setRow (.inr hgr2) _⟩
  ·have hed1:¬edge<0:=by omega
   have hed2:32≤edge:=by omega
   clear hed;go_wp2_with (first
    | (go_at_call 31;refine(hri _).mono ?_;clear hri;rintro e W4 ⟨rfl,F4⟩;have hB4:=hB3.fr F4 (by simp);have fW4:=zh (fW3.o.trans F4);clear F4)
    | (refine wpList_store_row rfl 35 _ _ rfl gr (cmdV gNone none 0 0) rfl rfl 35 (cmdV gNone none 0 0) hB4 (cmdI _ _ _ _) (by rfl) (cmdO _ _ _ _) ?_))
   refine bodyPost_ret (v:= .tuple #[.agg (cmdV gNone none 0 0),.int .i64 1]) (results_ct (p:=10) (q:=11) rfl _ _ gr 35 _ (0,0) _ rfl (Blk.setRow hB4 _) cmdU rfl (cmdI _ _ _ _) rfl) rfl ?_;rw [hRe.o];exact⟨none,0,rfl,Rd.nil _ _ _,fW4.o.setRow (.inr hgr2) _⟩
 have hed1:¬edge<0:=by omega
 have hed2:¬32≤edge:=by omega
 have hRe:Hid (R=if List.any [nTok,nHint] (fun n=>decide (1<(fget form n).2))=true then(gNone,1)else sub):=zh (by rw [←hR.o];unfold planX;rw [if_neg (by rw [hid1];simp only [ne_eq,not_true_eq_false,false_or,Bool.true_eq_false];exact hed)]);clear hed hid0 hid1 hR;go_upto_region 16 with(go_at_call 31;refine(hri _).mono ?_;clear hri;rintro e W4 ⟨rfl,F4⟩)
 have hX4:=hX3.o.fr F4 (by simp);have hN4:=hN3.o.fr F4 (by simp);have hB4:=hB3.fr F4 (by simp);have fW4:=zh (fW3.o.trans F4);have O4:=O3h.o.fr F4 (by simp);have hA3:∀g,g∈rowOf (.slice A3 form.length c3)→gx<g:=fun g hg=>by have h1:=R3h.o g hg;have h2:=hX2.o.lt;omega
 have hxl:=hX4.lt;have hxr:gx≠gr:=by have:=HX.o;have:=HR.o;omega
 have hgn:gn≠gx:=by have:=hXh.o.lt;have:=HN.o;omega
 have ex8:=hX4.cell 8;have zx8:=hX4.frozen 8;simp only [zG,zH,zI]at ex8;go_upto_region 17 with(fail)
 have hrdr:=hX4.set 8 (.slice A3 form.length c3);refine wp_gen (fun V=>Blk V gx 77 #[.string q.path,.string q.header,.string q.body,.string q.user,.pointer (some ⟨r,0,none⟩),.slice sA sec.length sc,.string family,.int .i64 edge,.slice A3 form.length c3]∧Fr [gx] W4 V) ⟨by simpa using hrdr,(Fr.refl _ _).setCell (.inl (by simp)) _⟩ ?_;rintro W5 ⟨hX5,F5⟩;have hN5:=hN4.fr F5 (by simpa using hgn);have hB5:=zh (hB4.fr F5 (by simpa using hxr.symm));have O5:=O4.fr F5 (fun g hg=>by have:=hA3 g hg;simp;omega);have fW5:Fr [] w W5:=fW4.o.andThen F5 (fun g hg=> .inr (by simp at hg;have:=HX.o;have:=HQ.o;omega));have hRd5:=O5.rd;have hrd:RdrIn W5 gx r q l sA sc sec family edge A3 c3 form:=⟨hX5,hrollh.o.fr0 fW5,Rd.fr hsech.o fW5 (fun _=>off_nil _),hRd5,hglobh.o.fr fW5⟩
 have hsub:=hsubh.o W5 gx A3 c3 hrd;have hge:=fun k=>fget_t W5 A3 form.length c3 form hRd5 rfl (by have:=hfzh.o.1;omega) k;unfold GetPost at hge;have hNR:Rd W5 1 (some ⟨gn,0,none⟩) (List.length [nTok,nHint]) (strCells [nTok,nHint]):=strs_rd hN5;have fW5h:=zh fW5;clear ex8 zx8 hrdr hX4 hN4 hB4 O4 F4 F5 hX5 hN5 O5 fW5 hRd5 hrd hA3 hB3;obtain⟨ls,hls⟩:∃z,Hid ([nTok,nHint]=z):=⟨_,zh rfl⟩
 have hln:ls.length=2:=by rw [←hls.o];rfl
 rw [hls.o]at hNR hRe;rw [hln]at hNR;have eg:∀args w,(callFunc 28 args).run Tryz.prog w= .ok (.enter 28 args) w:=enters_of Tryz.func28 (by kernel_rfl) rfl;have hsubH:=zh hsub;have hgeH:=zh hge;clear hsub hge hN3 hX3 hX2;go_wp2_with fail
 go_loopg [18,19,20,85] (2+1) (fun gk s18 s19 s20 s85 wr=>∃(i:Nat),s85= .int .i64 i∧i≤2∧2 - i<gk∧(∀x∈ls.take i,¬1<(fget form x).2)∧W5=wr)
 case atStart=>exact⟨0,rfl,by omega,by omega,by simp,rfl⟩
 case round=>
  obtain⟨i,rfl,hi,hk,hno,rfl⟩:=hrel;have hnoh:=zh hno;clear hno;by_cases hlt:i<2
  ·have hlt':(i:Int)<2:=by omega
   have hlth:=zh hlt;have hi':i<ls.length:=by omega
   obtain⟨b,o,hbo,hcell⟩:=hNR.2 (by omega);obtain⟨rfl,rfl⟩:gn=b∧0=o:=by injection hbo with h1;injection h1 with h1 h2;exact⟨h1,h2⟩
   have cs:=hcell i (.string (ls[i]'hi')) (by unfold strCells;rw [List.getElem?_map,List.getElem?_eq_getElem hi'];rfl);have htk:=zh (List.take_succ_eq_append_getElem hi');have hmem:=zh (List.getElem_mem hi');obtain⟨x,hx⟩:∃z,Hid (ls[i]'hi'=z):=⟨_,zh rfl⟩
   rw [hx.o]at cs htk hmem;have hge:=hgeH.o x;obtain⟨⟨fs,fn⟩,hfn⟩:∃z,Hid (fget form x=z):=⟨_,zh rfl⟩
   rw [hfn.o]at hge;dsimp only at hge;rw [Nat.zero_add]at cs;have hB5:=hB5.o;clear hcell hx hbo hi;by_cases h1:1<fn
   ·have h1b:decide ((1:Int)<(fn:Nat))=true:=by rw [decide_eq_true_eq];omega
    have hR1:Hid (R=(gNone,1)):=zh (by rw [hRe.o,if_pos];rw [List.any_eq_true];exact⟨x,hmem.o,by rw [hfn.o];simpa using h1⟩);clear h1 hk;go_wp2_with (first
     | (go_at_call 32;refine hge.mono ?_;clear hge;rintro e w6 ⟨rfl,rfl⟩)
     | (refine wpList_store_row rfl 35 _ _ rfl gr (cmdV gNone none 0 0) rfl rfl 35 (cmdV gNone none 0 0) hB5 (cmdI _ _ _ _) (by rfl) (cmdO _ _ _ _) ?_))
    refine bodyPost_ret (v:= .tuple #[.agg (cmdV gNone none 0 0),.int .i64 1]) (results_ct (p:=10) (q:=11) rfl _ _ gr 35 _ (0,0) _ rfl (Blk.setRow hB5 _) cmdU rfl (cmdI _ _ _ _) rfl) rfl ?_;rw [hR1.o];exact⟨none,0,rfl,Rd.nil _ _ _,fW5h.o.setRow (.inr hgr2) _⟩
   ·have h1b:decide ((1:Int)<(fn:Nat))=false:=by rw [decide_eq_false_iff_not];omega
    have h1h:=zh h1;clear h1;go_wp2_with (go_at_call 32;refine hge.mono ?_;clear hge;rintro e w6 ⟨rfl,rfl⟩)
    go_roundg (2 - i)
    case measure=>have:=hlth.o;omega
    case rel=>
     refine⟨i+1,by go_num,by have:=hlth.o;omega,by have:=hlth.o;omega,?_,rfl⟩;rw [htk.o];intro y hy;rcases List.mem_append.1 hy with hy |hy
     ·exact hnoh.o y hy
     ·rw [List.mem_singleton]at hy;rw [hy,hfn.o];exact h1h.o
  ·have hge':¬(i:Int)<2:=by omega
   have hall:=hnoh.o;rw [List.take_of_length_le (show ls.length≤i by omega)]at hall;have hR1:Hid (R=sub):=zh (by rw [hRe.o,if_neg];rw [List.any_eq_true];rintro⟨x,hx,h1⟩;exact hall x hx (by simpa using h1));have hsub:=hsubH.o;unfold SubPost at hsub;clear hlt hi hk hall;go_upto_region 25 with(first
    | (go_at_fn 28;refine hsub.mono ?_;clear hsub;rintro e W6 ⟨c,A,n,d,rfl,hc,F6⟩)
    | (refine wpList_store_row rfl 35 _ _ rfl W6.heap.size (cmdV c A n d) rfl rfl 35 _ (Blk.new _ _ _) (cmdI _ _ _ _) (by rfl) (cmdO _ _ _ _) ?_))
   refine wp_gen (fun V=>Blk V W6.heap.size 35 (cmdV c A n d)∧Fr [] W6 V) ⟨Blk.setRow (Blk.new _ _ _) _,((Fr.refl [] W6).alloc _).setRow (.inr (Nat.le_refl _)) _⟩ ?_;rintro W7 ⟨hC7,F7⟩;obtain⟨g21,H21⟩:∃z,Hid (W6.heap.size=z):=⟨_,zh rfl⟩
   rw [H21.o]at hC7⊢;have hB7:=hB5.o.fr (F6.trans F7) (by simp);have fW7:=zh (fW5h.o.trans (F6.trans F7));have hch:=zh hc;have F7h:=zh F7;obtain⟨k,hk⟩:∃z,Hid (sub.2=z):=⟨_,zh rfl⟩
   rw [hk.o]at hch⊢;clear F6 F7 hc;by_cases hk0:k=0
   ·subst hk0;obtain⟨rfl,rfl,hRd,hAd⟩:=hch.o rfl;have hAdh:=zh hAd;have hgl7:=hB5.o.lt;have hRd7:=zh (hRd.fr F7h.o (fun _=>off_nil _));clear hRd hAd;go_wp2_with (first
     | (refine wpList_load_at rfl 35 _ rfl rfl hC7 (sub_self _) cmdU rfl (cmdIL _ _ _ _) ?_;rw [Array.toArray_toList])
     | (refine wpList_store_row rfl 35 _ _ rfl gr (cmdV sub.1 A sub.1.scope.length d) rfl rfl 35 (cmdV gNone none 0 0) hB7 (cmdI _ _ _ _) (by rfl) (cmdO _ _ _ _) ?_))
    refine bodyPost_ret (v:= .tuple #[.agg (cmdV sub.1 A sub.1.scope.length d),.int .i64 0]) (results_ct (p:=10) (q:=11) rfl _ _ gr 35 _ (0,0) _ rfl (Blk.setRow hB7 _) cmdU rfl (cmdI _ _ _ _) rfl) rfl ?_;rw [hR1.o];exact⟨A,d,by rw [hk.o],hRd7.o.fr ((Fr.refl [gr] _).setRow (.inl (by simp)) _) (fun _=>hAdh.o.off (by simpa using hgl7)),fW7.o.setRow (.inr hgr2) _⟩
   ·have hkb:(k !=0)=true:=by simpa using hk0
    have hs1:Hid (sub=(gNone,k)):=zh (by
     have:=hs0h.o (by rw [hk.o];exact hk0);rw [←this,←hk.o])
    clear hk0;go_wp2_with (refine wpList_store_row rfl 35 _ _ rfl gr (cmdV gNone none 0 0) rfl rfl 35 (cmdV gNone none 0 0) hB7 (cmdI _ _ _ _) (by rfl) (cmdO _ _ _ _) ?_)
    refine bodyPost_ret (v:= .tuple #[.agg (cmdV gNone none 0 0),.int .i64 k]) (results_ct (p:=10) (q:=11) rfl _ _ gr 35 _ (0,0) _ rfl (Blk.setRow hB7 _) cmdU rfl (cmdI _ _ _ _) rfl) rfl ?_;rw [hR1.o,hs1.o];exact⟨none,0,rfl,Rd.nil _ _ _,fW7.o.setRow (.inr hgr2) _⟩
end Go.Proofs.YtopfcgpeaaehgaaGreatDoor
