/- signetlaw19.GateRefuses returns true for every input, and its argument reads afterwards as it read before; the libraries' variables that the row lists start as the program's text lays them. Conditions: none besides the row's own. -/
import Derived.Test.YtopfcgpeaaehgaaGreatDoorBi
import Derived.Test.YtopfcgpeaaehgaaGreatDoorBj
namespace Go.Proofs.YtopfcgpeaaehgaaGreatDoor
open Go.ChangeShapes Go.WideShapes Go.ChangeAt Go.RowKit Go.Sig
open Go.ChangeMaps (open_string shut_string)
theorem gaLaidOut:laidOutB Tryz.prog=true:=by kernel_rfl
set_option maxRecDepth 100000 in
theorem refuses_contract (H:Type) (enc:TypeId×Value→H) (W:World) (base:Nat) (args:Array Value) (ds gs:List (DataW H)) (before:List MemPlace)
  (hval0:∀(j:Nat) t v,Tryz.f6.params[j]? =some t→args[j]? =some v→Value.okWide Tryz.prog W .any base t v)
  (hW:DataW.Whole enc Tryz.prog Tryz.f6.params.toList Rows.gateRefusesSpec.vars false W args.toList ds gs before) (hg:Glob W):
  Calls Tryz.prog 6 args W fun e W'=>∃v,e= .returned v∧Rows.gateRefusesSpec.post enc Tryz.prog Tryz.f6 false true false false W args v W':=by
 have hval:∀(j:Nat) t v,Tryz.f6.params[j]? =some t→args[j]? =some v→Value.okWide Tryz.prog W .any base t v:=hval0;have hW':=hW;obtain⟨p,q,hA0,hV,rfl,hfz,hnd⟩:=hW;have hA:DataW.TrodAll enc Tryz.prog W 0 (fun _=>true) true Tryz.f6.params.toList args.toList ds p:=hA0;rw [Tryz.params6]at hA hval;obtain⟨v0,vs0,d0,ds0,p0,q0,hargs,rfl,rfl,h0,r0⟩:=trodAll_cons hA;obtain⟨rfl,rfl,rfl⟩:=trodAll_nil r0;obtain rfl:args=#[v0]:=by cases args;simp_all
 obtain⟨rfl,rfl⟩:=trodVars_none hV;obtain⟨a0,rfl,rfl,rfl,w0⟩:=open_string Tryz.underlying9 (hval 0 9 v0 rfl rfl) h0;clear hA0 hval0;refine(refuses_t W a0 hg).mono fun e W' ⟨he,hF⟩=> ?_;have bel:=hF.below (Nat.le_refl _) (by simp);subst he;exact⟨_,rfl,_,_,_,[],_,[],hW',trodAll_mk1 (shut_bool Tryz.underlying4 _),(trodAll_cons_mk (shut_string Tryz.underlying9 w0) trodAll_mk0),rfl,bel.frame _,fun h=>by cases h⟩
theorem refuses_reads (os:Os) {H:Type}(enc:TypeId×Value→H):∃places,DataW.whole enc Tryz.prog ((glWorld os).forCall (fun _ _=>0) ⟨#[],#[.string ⟨#[]⟩],[]⟩).memory Tryz.f6.params.toList Rows.gateRefusesSpec.vars false #[Value.string ⟨#[]⟩].toList 8=some ([.lit (.string [])],[],places):=
 ⟨[],by kernel_rfl⟩
set_option maxRecDepth 100000 in
theorem refuses_lifted (os:Os) (started:os.Started) (H:Type) (enc:TypeId×Value→H) (F:Stop.Interp):
  ReturnsInHanded {} Tryz.checked os 6 .any ((OpenSpec.ofChange Rows.gateRefusesSpec).preRow enc Tryz.prog Tryz.f6 Rows.gateRefusesRow.domain false Rows.gateRefusesRow.laid) (((OpenSpec.ofChange Rows.gateRefusesSpec).at F).post enc Tryz.prog Tryz.f6 false true false false):=by
 obtain⟨places,hx⟩:=refuses_reads os enc;refine returnsInHanded_of_row (C:=Tryz.checked) (s:=OpenSpec.ofChange Rows.gateRefusesSpec) glOwn started (by kernel_rfl) Tryz.func6
  (witness_row_atRef (enc:=enc) (C:=Tryz.checked) false (glWorld os) #[.string ⟨#[]⟩] rfl (by kernel_rfl) (by kernel_rfl) (by kernel_rfl)
    (OpenSpec.preRow_of_cond 8 hx (by kernel_rfl) (fun k hk=>by cases hk) (by kernel_rfl) (gl_met os _))) ?_
 intro W base args ds gs before hval hW _ _ _ hL hsh _;exact refuses_contract H enc W base args ds gs before hval hW (glob_of hL hsh)
set_option maxRecDepth 100000 in
theorem refuses_said:Rows.GateRefusesSaid:=
 OpenClaim.holds_of_cond 6 Tryz.f6 rfl rfl rfl rfl rfl rfl rfl ⟨rfl,rfl,rfl,rfl,rfl⟩ rfl rfl rfl rfl rfl (by kernel_rfl) Tryz.func6 (by kernel_rfl)
  (of_decide_eq_true (by kernel_rfl)) (by unfold Func.isWrapper;first | (rw [if_pos (by decide+kernel)];kernel_rfl) | (rw [if_neg (by decide+kernel)];exact⟨rfl,rfl⟩))
  (fun os started H enc _ F=>by rw [OpenClaim.pre_eq_preRow];exact refuses_lifted os started H enc F)
theorem refuses_plain (f:FuncId) (fn:Func) (hf:Tryz.pinned.checked.prog.funcNamed "signet/signetlaw19.GateRefuses"=some f) (hfn:Tryz.pinned.checked.prog.funcs[f]? =some fn):
  true=Tryz.pinned.checked.prog.looks []∧∀(j:Nat) t,fn.params[j]? =some t→Tryz.pinned.checked.prog.wantsStandIn t=false:=by
 obtain rfl:f=6:=Option.some.inj ((show Tryz.prog.funcNamed "signet/signetlaw19.GateRefuses"=some 6 by kernel_rfl).symm.trans hf) |>.symm
 obtain rfl:fn=Tryz.f6:=(Option.some.inj (Tryz.func6.symm.trans hfn)).symm;refine⟨by kernel_rfl,fun j t ht=> ?_⟩;rw [Tryz.params6]at ht;obtain rfl:t=9:=by simpa using Array.mem_of_getElem? ht
 exact(show Tryz.prog.wantsStandIn 9=false by kernel_rfl)
theorem refuses_proved:Rows.GateRefusesCardSaid:=
 Claim7.holds_tied_plain_at .later [] _ _ _ _ refuses_said (fun _ h=>by cases h) (by kernel_rfl) (fun _ h=>by cases h) gateRefuses_row_tie rfl ⟨rfl,rfl⟩ (by kernel_rfl) rfl refuses_plain (by kernel_rfl)
#print axioms refuses_proved
end Go.Proofs.YtopfcgpeaaehgaaGreatDoor
