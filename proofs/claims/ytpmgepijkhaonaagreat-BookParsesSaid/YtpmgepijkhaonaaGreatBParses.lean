/- signetlaw18.BookParses returns true for every input, and its argument reads afterwards as it read before. Conditions: none besides the row's own. -/
import Derived.Test.YtpmgepijkhaonaaGreatRows
import Derived.Test.YtpmgepijkhaonaaGreatHp
import Derived.Test.YtpmgepijkhaonaaGreatOm
namespace Go.Proofs.YtpmgepijkhaonaaGreat
open Go.ChangeShapes Go.WideShapes Go.ChangeAt Go.RowKit Go.Sig
open Go.ChangeMaps (open_string shut_string)
theorem own4:ownKnob Tryz.prog.godebug=none:=by kernel_rfl
theorem laidOut4:laidOutB Tryz.prog=true:=by kernel_rfl
set_option maxRecDepth 100000 in
theorem bparses_lifted (os:Os) (started:os.Started) (H:Type) (enc:TypeId×Value→H):
  ReturnsInHanded {} Tryz.checked os 4 .any (Rows.bookParsesSpec.pre6 enc Tryz.prog Tryz.f4 Rows.bookParsesRow.domain false) (Rows.bookParsesSpec.post enc Tryz.prog Tryz.f4 false true false false):=by
 refine returnsInHanded_of_change_sized (C:=Tryz.checked) own4 started (by kernel_rfl) Tryz.func4
  (ChangeSpec.witness6 (enc:=enc) (C:=Tryz.checked) false ⟨#[],#[.string ⟨#[]⟩],[]⟩ 8 (by kernel_rfl) (by kernel_rfl) (by kernel_rfl) (by kernel_rfl)) ?_
 intro W base args ds gs before hval0 hW hcnd hsz0 _;have hval:∀(j:Nat) t v,Tryz.f4.params[j]? =some t→args[j]? =some v→Value.okWide Tryz.prog W .any base t v:=hval0;have hW':=hW;obtain⟨p,q,hA0,hV,rfl,hfz,hnd⟩:=hW;have hA:DataW.TrodAll enc Tryz.prog W 0 (fun _=>true) true Tryz.f4.params.toList args.toList ds p:=hA0;rw [Tryz.params4]at hA hval;obtain⟨v0,vs0,d0,ds0,p0,q0,hargs,rfl,rfl,h0,r0⟩:=trodAll_cons hA;obtain⟨rfl,rfl,rfl⟩:=trodAll_nil r0;obtain rfl:args=#[v0]:=by cases args;simp_all
 obtain⟨rfl,rfl⟩:=trodVars_none hV;obtain⟨a0,rfl,rfl,rfl,w0⟩:=open_string uuStr (hval 0 9 v0 rfl rfl) h0;clear hA0 hval0;refine(bparsesL_t W a0).mono fun e W' ⟨he,hF⟩=> ?_;have bel:=hF.below (Nat.le_refl _) (by simp);subst he;exact⟨_,rfl,_,_,_,[],_,[],hW',trodAll_mk1 (shut_bool uuBool _),(trodAll_cons_mk (shut_string uuStr w0) trodAll_mk0),rfl,bel.frame _,fun h=>by cases h⟩
theorem and_t {a b:Bool}(ha:a=true) (hb:b=true):(a&&b)=true:=by rw [ha,hb];rfl
theorem cf2:(mapsRowed Tryz.prog)=true:=by kernel_rfl
theorem cf9:(Rows.bookParsesRow.inPlace==Tryz.prog.inPlace 4)=true:=by kernel_rfl
theorem cf10:(Rows.bookParsesRow.unfollowed==Tryz.prog.unfollowed 4)=true:=by kernel_rfl
theorem cf11:(Rows.bookParsesRow.recurses==Tryz.prog.recurses 4)=true:=by kernel_rfl
theorem cf12:(Rows.bookParsesRow.named==Tryz.prog.varsNamed 4)=true:=by kernel_rfl
theorem cf22:(Rows.bookParsesRow.plainKeys==Tryz.prog.plainKeys)=true:=by kernel_rfl
theorem cf24:(Tryz.prog.stopsHeard)=true:=by kernel_rfl
theorem cf25:(Tryz.prog.mayEnter)=true:=by kernel_rfl
theorem cf26:(Rows.bookParsesRow.lifted==Tryz.prog.liftsFinal)=true:=by kernel_rfl
theorem cf27:(Tryz.prog.make==some Rows.bookParsesRow.make)=true:=by kernel_rfl
theorem closed_t:joinedFacts Tryz.prog 4 Tryz.f4 Rows.bookParsesSpec Rows.bookParsesRow=true:=by
 unfold joinedFacts;exact(and_t (and_t (and_t (and_t (and_t (and_t (and_t (and_t (and_t (and_t (and_t (and_t (and_t (and_t (and_t (and_t (and_t (and_t (and_t (and_t (and_t (and_t (and_t (and_t (and_t (and_t (and_t (and_t (and_t (and_t (and_t (by kernel_rfl) laidOut4) cf2) (by kernel_rfl)) (by kernel_rfl)) (by kernel_rfl)) (by kernel_rfl)) (by kernel_rfl)) (by kernel_rfl)) cf9) cf10) cf11) cf12) (by kernel_rfl)) (by kernel_rfl)) (by kernel_rfl)) (by kernel_rfl)) (by kernel_rfl)) (by kernel_rfl)) (by kernel_rfl)) (by kernel_rfl)) (by kernel_rfl)) cf22) (by kernel_rfl)) cf24) cf25) cf26) cf27) (by kernel_rfl)) (by kernel_rfl)) (by kernel_rfl)) (by kernel_rfl))
theorem named_t:Tryz.prog.funcNamed Rows.bookParsesRow.func=some 4:=by kernel_rfl
theorem inst_t:Tryz.f4.isInstance Tryz.prog Rows.bookParsesRow.origin Rows.bookParsesRow.targs:=of_decide_eq_true (by kernel_rfl)
theorem wrap_t:Tryz.f4.isWrapper Tryz.prog Rows.bookParsesRow.wrapper Rows.bookParsesRow.mainSum:=by unfold Func.isWrapper;first | (rw [if_pos (by decide+kernel)];kernel_rfl) | (rw [if_neg (by decide+kernel)];exact⟨rfl,rfl⟩)
theorem bparses_over:Rows.bookParsesRow.holds Tryz.pinned (OpenSpec.ofChange Rows.bookParsesSpec):=
 OpenClaim.holds_of_wide 4 Tryz.f4 rfl rfl rfl rfl rfl rfl rfl ⟨rfl,rfl,rfl,rfl,rfl⟩ rfl rfl rfl rfl rfl named_t Tryz.func4 closed_t inst_t wrap_t (fun os started H enc _=>bparses_lifted os started H enc)
theorem bparses_proved:Rows.BookParsesSaid:=bparses_over
#print axioms bparses_proved
end Go.Proofs.YtpmgepijkhaonaaGreat
