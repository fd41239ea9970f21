/- Walks of the gate: revoke. Conditions: each theorem's own. -/
import Derived.Test.YtopfcgpeaaehgaaGreatDoorBc
import Derived.Test.YtopfcgpeaaehgaaGreatDoorGn
namespace Go.Proofs.YtopfcgpeaaehgaaGreatDoor
open Go.RowKit Go.Sig
theorem cmdU:Tryz.prog.underlying 35=some (.struct (Tryz.prog.fieldsOf 35)):=by kernel_rfl
theorem cmdI (c:GCmd) (A:Option Addr) (n d:Nat):(Tryz.prog.info? 35).map (·.size)=some (cmdV c A n d).size:=by kernel_rfl
theorem cmdIL (c:GCmd) (A:Option Addr) (n d:Nat):(Tryz.prog.info? 35).map (·.size)=some (cmdV c A n d).toList.length:=by kernel_rfl
theorem cmdO (c:GCmd) (A:Option Addr) (n d:Nat):(cmdV c A n d).all (·.oneCell')=true:=by simp [cmdV,Value.oneCell']
def SubPost (w:World) (r:GCmd×Int) (e:Ending) (w':World):Prop:=
 ∃(c:GCmd) (A:Option Addr) (n d:Nat),e= .returned (.tuple #[.agg (cmdV c A n d),.int .i64 r.2])∧(r.2=0→c=r.1∧c.scope.length=n∧Rd w' 1 A n (strCells c.scope)∧From w.heap.size A)∧Fr [] w w'
theorem show_eq (l:List GCli) (sec:List UInt8) (hdr:ByteArray) (form:Prs) (f:ByteArray→GTk→GCmd):
  (showM l sec hdr form f).2=firstM [(authM l hdr form).2,if(fg form nTok).size=0 then 1 else 0]∧
  ((showM l sec hdr form f).2=0→(showM l sec hdr form f).1=(openM sec (fg form nTok).data.toList).elim gNone (f (authM l hdr form).1)):=by
 unfold showM firstM firstM firstM;by_cases h1:(authM l hdr form).2=0
 ·rw [if_neg (by simp [h1]),if_pos h1];by_cases h2:(fg form nTok).size=0
  ·rw [if_pos h2];simp [h2]
  ·rw [if_neg h2];cases openM sec (fg form nTok).data.toList<;>simp [h2]
 ·rw [if_pos h1,if_neg h1];exact⟨rfl,fun h=>absurd h h1⟩
theorem from_none (B:Nat):From B none:=fun ad h=>by cases h
section
variable {w:World}{g r:Nat}{q:GReq}{l:List GCli}{sA:Option Addr}{sc:Nat}{sec:List UInt8}{family:ByteArray}{edge:Int}{fA:Option Addr}{fc:Nat}{form:Prs}
set_option maxRecDepth 100000 in
set_option maxHeartbeats 2000000 in
theorem revoke_t (h:RdrIn w g r q l sA sc sec family edge fA fc form) (hz:RdrSz q l sc sec form):Calls Tryz.prog 28 #[.pointer (some ⟨g,0,none⟩)] w (SubPost w (showM l sec q.header form fun id t=>⟨5,t.family,t.serial,t.kind,id,nilB,[],nilB,nilB,nilB,nilB,false,0⟩)):=by
 have hop:=fun V (hF:Fr [] w V)=>opened_t (h.fr hF) hz;have hh:=zh h;obtain⟨R,hR⟩:∃z,Hid (showM l sec q.header form (fun id t=>(⟨5,t.family,t.serial,t.kind,id,nilB,[],nilB,nilB,nilB,nilB,false,0⟩:GCmd))=z):=⟨_,zh rfl⟩
 rw [hR.o];obtain⟨a,hae⟩:∃z,Hid (authM l q.header form=z):=⟨_,zh rfl⟩
 obtain⟨T,hT⟩:∃z,Hid (fg form nTok=z):=⟨_,zh rfl⟩
 obtain⟨o,ho⟩:∃z,Hid (openM sec T.data.toList=z):=⟨_,zh rfl⟩
 rw [hae.o,hT.o,ho.o]at hop;unfold OpenedPost at hop;obtain⟨k,hk⟩:∃z,Hid (firstM [a.2,if T.size=0 then 1 else 0]=z):=⟨_,zh rfl⟩
 rw [hk.o]at hop;obtain⟨e1,e2⟩:=show_eq l sec q.header form (fun id t=>(⟨5,t.family,t.serial,t.kind,id,nilB,[],nilB,nilB,nilB,nilB,false,0⟩:GCmd));rw [hR.o,hae.o,hT.o]at e1 e2;rw [hk.o]at e1;rw [ho.o]at e2;have e1h:=zh e1;have e2h:=zh e2;clear e1 e2 ho hk hT hae hR;clear h hz;cases o with
 |none=>
  have hop':=fun V (hF:Fr [] w V)=>hop V hF;clear hop;dsimp only [Option.getD_none,Option.isSome_none]at hop';go_enter Tryz.func28,Tryz.ntmps28;go_upto_region 1 with(fail)
  refine wp_gen (fun W=>Blk W w.heap.size 35 (cmdV gNone none 0 0)∧Fr [] w W) ⟨Blk.new _ _ _,(Fr.refl _ _).alloc _⟩ ?_;rintro W ⟨hB,fW⟩;obtain⟨gr,HR⟩:∃z,Hid (w.heap.size=z):=⟨_,zh rfl⟩
  rw [HR.o]at hB⊢;have hgr:w.heap.size≤gr:=by have:=HR.o;omega
  have hop:=hop' W fW;have fWh:=zh fW;have hBh:=zh hB;clear hop' hB fW;go_upto_region 2 with(first
   | (go_at_call 75;refine hop.mono ?_;clear hop;rintro e w1 ⟨rfl,F1⟩)
   | (refine wpList_store_row rfl 47 _ _ rfl w1.heap.size (tkCells tk0) rfl rfl 47 _ (Blk.new _ _ _) (infoTk _) (by rfl) (tk_one _) ?_))
  refine wp_gen (fun V=>Fr [] w1 V) (((Fr.refl [] w1).alloc _).setRow (.inr (Nat.le_refl _)) _) ?_;rintro W2 F2;have hR2:=hBh.o.fr (F1.trans F2) (by simp);have hF2:=zh (fWh.o.trans (F1.trans F2));clear F1 F2;go_wp2_with (refine wpList_store_row rfl 35 _ _ rfl gr (cmdV gNone none 0 0) rfl rfl 35 (cmdV gNone none 0 0) hR2 (cmdI _ _ _ _) (by rfl) (cmdO _ _ _ _) ?_)
  refine bodyPost_ret (v:= .tuple #[.agg (cmdV gNone none 0 0),.int .i64 k]) (results_ct (p:=2) (q:=3) rfl _ _ gr 35 _ (0,0) _ rfl (Blk.setRow hR2 _) cmdU rfl (cmdI _ _ _ _) rfl) rfl ?_;exact⟨gNone,none,0,0,by rw [e1h.o],fun hz=>⟨(e2h.o hz).symm,rfl,Rd.nil _ _ _,from_none _⟩,hF2.o.setRow (.inr hgr) _⟩
 |some t=>
  have hop':=fun V (hF:Fr [] w V)=>hop V hF;clear hop;dsimp only [Option.getD_some,Option.isSome_some]at hop';go_enter Tryz.func28,Tryz.ntmps28;go_upto_region 1 with(fail)
  refine wp_gen (fun W=>Blk W w.heap.size 35 (cmdV gNone none 0 0)∧Fr [] w W) ⟨Blk.new _ _ _,(Fr.refl _ _).alloc _⟩ ?_;rintro W ⟨hB,fW⟩;obtain⟨gr,HR⟩:∃z,Hid (w.heap.size=z):=⟨_,zh rfl⟩
  rw [HR.o]at hB⊢;have hgr:w.heap.size≤gr:=by have:=HR.o;omega
  have hop:=hop' W fW;have fWh:=zh fW;have hBh:=zh hB;clear hop' hB fW;go_upto_region 2 with(first
   | (go_at_call 75;refine hop.mono ?_;clear hop;rintro e w1 ⟨rfl,F1⟩)
   | (refine wpList_store_row rfl 47 _ _ rfl w1.heap.size (tkCells t) rfl rfl 47 _ (Blk.new _ _ _) (infoTk _) (by rfl) (tk_one _) ?_))
  refine wp_gen (fun V=>Blk V w1.heap.size 47 (tkCells t)∧Fr [] w1 V) ⟨Blk.setRow (Blk.new _ _ _) _,((Fr.refl [] w1).alloc _).setRow (.inr (Nat.le_refl _)) _⟩ ?_;rintro W2 ⟨hB2,F2⟩;obtain⟨g5,H5⟩:∃z,Hid (w1.heap.size=z):=⟨_,zh rfl⟩
  rw [H5.o]at hB2⊢;have hR2:=hBh.o.fr (F1.trans F2) (by simp);have hF2:=zh (fWh.o.trans (F1.trans F2));have d0:=hB2.cell 0;have d1:=hB2.cell 1;have d2:=hB2.cell 2;simp only [tkCells,zG,zH,zI]at d0 d1 d2;have hgl:=hB2.lt;clear F1 F2 hB2;go_wp2_with (refine wpList_store_row rfl 35 _ _ rfl gr (cmdV ⟨5,t.family,t.serial,t.kind,a.1,nilB,[],nilB,nilB,nilB,nilB,false,0⟩ none 0 0) rfl rfl 35 (cmdV gNone none 0 0) hR2 (cmdI _ _ _ _) (by rfl) (cmdO _ _ _ _) ?_)
  refine bodyPost_ret (v:= .tuple #[.agg (cmdV ⟨5,t.family,t.serial,t.kind,a.1,nilB,[],nilB,nilB,nilB,nilB,false,0⟩ none 0 0),.int .i64 k]) (results_ct (p:=2) (q:=3) rfl _ _ gr 35 _ (0,0) _ rfl (Blk.setRow hR2 _) cmdU rfl (cmdI _ _ _ _) rfl) rfl ?_;exact⟨(⟨5,t.family,t.serial,t.kind,a.1,nilB,[],nilB,nilB,nilB,nilB,false,0⟩:GCmd),none,0,0,by rw [e1h.o],fun hz=>⟨(e2h.o hz).symm,rfl,Rd.nil _ _ _,from_none _⟩,hF2.o.setRow (.inr hgr) _⟩
end
end Go.Proofs.YtopfcgpeaaehgaaGreatDoor
