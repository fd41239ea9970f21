/- signetlaw18.BookTexts returns true for every input, and its argument reads afterwards as it read before. Conditions: none besides the row's own. -/
import Derived.Test.YtpmgepijkhaonaaGreatRows
import Derived.Test.YtpmgepijkhaonaaGreatJu
import Derived.Test.YtpmgepijkhaonaaGreatOk
namespace Go.Proofs.YtpmgepijkhaonaaGreat
open Go.ChangeShapes Go.WideShapes Go.ChangeAt Go.RowKit Go.Sig
open Go.ChangeMaps (open_string shut_string)
theorem own3:ownKnob Tryz.prog.godebug=none:=by kernel_rfl
theorem laidOut3:laidOutB Tryz.prog=true:=by kernel_rfl
set_option maxRecDepth 100000 in
theorem btexts_lifted (os:Os) (started:os.Started) (H:Type) (enc:TypeId×Value→H):
  ReturnsInHanded {} Tryz.checked os 3 .any (Rows.bookTextsSpec.pre6 enc Tryz.prog Tryz.f3 Rows.bookTextsRow.domain false) (Rows.bookTextsSpec.post enc Tryz.prog Tryz.f3 false true false false):=by
 refine returnsInHanded_of_change_sized (C:=Tryz.checked) own3 started (by kernel_rfl) Tryz.func3
  (ChangeSpec.witness6 (enc:=enc) (C:=Tryz.checked) false ⟨#[],#[.agg #[.string ⟨#[]⟩,.string ⟨#[]⟩,.string ⟨#[]⟩,.slice none 0 0,.string ⟨#[]⟩,.string ⟨#[]⟩,.string ⟨#[]⟩,.int .i64 0,.slice none 0 0,.bool false,.slice none 0 0]],[]⟩ 8 (by kernel_rfl) (by kernel_rfl) (by kernel_rfl) (by kernel_rfl)) ?_
 intro W base args ds gs before hval0 hW hcnd hsz0 _;have hval:∀(j:Nat) t v,Tryz.f3.params[j]? =some t→args[j]? =some v→Value.okWide Tryz.prog W .any base t v:=hval0;have hW':=hW;obtain⟨p,q,hA0,hV,rfl,hfz,hnd⟩:=hW;have hA:DataW.TrodAll enc Tryz.prog W 0 (fun _=>true) true Tryz.f3.params.toList args.toList ds p:=hA0;rw [Tryz.params3]at hA hval;obtain⟨v0,vs0,d0,ds0,p0,q0,hargs,rfl,rfl,h0,r0⟩:=trodAll_cons hA;obtain⟨rfl,rfl,rfl⟩:=trodAll_nil r0;obtain rfl:args=#[v0]:=by cases args;simp_all
 obtain⟨rfl,rfl⟩:=trodVars_none hV;have hw0:∀m∈d0.weights Tryz.prog 26,m≤140737488351232:=reach_each (j:=0) hsz0 (by kernel_rfl) rfl;have k0:=h0;have lt0:∀x∈p0,x.block<W.heap.size:=by obtain⟨m,hm⟩:=k0;exact DataW.trod_lt m _ _ _ hm
 obtain⟨cs0,rfl,hcs0⟩:=okWide_struct uuFam (hval 0 26 v0 rfl rfl);obtain⟨x0,hv0,hx0,hz0⟩:=(by
  obtain⟨fuel,hf⟩:=h0;exact open_fam (by simpa [Value.cells]using hf) hw0:∃x:FA,cs0.toList=x.cells.toList∧FamIn W [] x∧FamSz x)
 obtain rfl:cs0=x0.cells:=Array.toList_inj.1 hv0;clear hA0 hval0;refine(btextsL_t W x0 hx0 hz0).mono fun e W' ⟨he,hF⟩=> ?_;have bel:=hF.below (Nat.le_refl _) (by simp);subst he;exact⟨_,rfl,_,_,_,[],_,[],hW',trodAll_mk1 (shut_bool uuBool _),(trodAll_cons_mk (Below.trod laidOut3 (by kernel_rfl) (of_decide_eq_true (by kernel_rfl)) k0 bel lt0) trodAll_mk0),rfl,bel.frame _,fun h=>by cases h⟩
theorem and_t {a b:Bool}(ha:a=true) (hb:b=true):(a&&b)=true:=by rw [ha,hb];rfl
theorem cf2:(mapsRowed Tryz.prog)=true:=by kernel_rfl
theorem cf9:(Rows.bookTextsRow.inPlace==Tryz.prog.inPlace 3)=true:=by kernel_rfl
theorem cf10:(Rows.bookTextsRow.unfollowed==Tryz.prog.unfollowed 3)=true:=by kernel_rfl
theorem cf11:(Rows.bookTextsRow.recurses==Tryz.prog.recurses 3)=true:=by kernel_rfl
theorem cf12:(Rows.bookTextsRow.named==Tryz.prog.varsNamed 3)=true:=by kernel_rfl
theorem cf22:(Rows.bookTextsRow.plainKeys==Tryz.prog.plainKeys)=true:=by kernel_rfl
theorem cf24:(Tryz.prog.stopsHeard)=true:=by kernel_rfl
theorem cf25:(Tryz.prog.mayEnter)=true:=by kernel_rfl
theorem cf26:(Rows.bookTextsRow.lifted==Tryz.prog.liftsFinal)=true:=by kernel_rfl
theorem cf27:(Tryz.prog.make==some Rows.bookTextsRow.make)=true:=by kernel_rfl
theorem closed_t:joinedFacts Tryz.prog 3 Tryz.f3 Rows.bookTextsSpec Rows.bookTextsRow=true:=by
 unfold joinedFacts;exact(and_t (and_t (and_t (and_t (and_t (and_t (and_t (and_t (and_t (and_t (and_t (and_t (and_t (and_t (and_t (and_t (and_t (and_t (and_t (and_t (and_t (and_t (and_t (and_t (and_t (and_t (and_t (and_t (and_t (and_t (and_t (by kernel_rfl) laidOut3) cf2) (by kernel_rfl)) (by kernel_rfl)) (by kernel_rfl)) (by kernel_rfl)) (by kernel_rfl)) (by kernel_rfl)) cf9) cf10) cf11) cf12) (by kernel_rfl)) (by kernel_rfl)) (by kernel_rfl)) (by kernel_rfl)) (by kernel_rfl)) (by kernel_rfl)) (by kernel_rfl)) (by kernel_rfl)) (by kernel_rfl)) cf22) (by kernel_rfl)) cf24) cf25) cf26) cf27) (by kernel_rfl)) (by kernel_rfl)) (by kernel_rfl)) (by kernel_rfl))
theorem named_t:Tryz.prog.funcNamed Rows.bookTextsRow.func=some 3:=by kernel_rfl
theorem inst_t:Tryz.f3.isInstance Tryz.prog Rows.bookTextsRow.origin Rows.bookTextsRow.targs:=of_decide_eq_true (by kernel_rfl)
theorem wrap_t:Tryz.f3.isWrapper Tryz.prog Rows.bookTextsRow.wrapper Rows.bookTextsRow.mainSum:=by unfold Func.isWrapper;first | (rw [if_pos (by decide+kernel)];kernel_rfl) | (rw [if_neg (by decide+kernel)];exact⟨rfl,rfl⟩)
theorem btexts_over:Rows.bookTextsRow.holds Tryz.pinned (OpenSpec.ofChange Rows.bookTextsSpec):=
 OpenClaim.holds_of_wide 3 Tryz.f3 rfl rfl rfl rfl rfl rfl rfl ⟨rfl,rfl,rfl,rfl,rfl⟩ rfl rfl rfl rfl rfl named_t Tryz.func3 closed_t inst_t wrap_t (fun os started H enc _=>btexts_lifted os started H enc)
theorem btexts_proved:Rows.BookTextsSaid:=btexts_over
#print axioms btexts_proved
end Go.Proofs.YtpmgepijkhaonaaGreat
