/- signetlaw18.BookOnce returns true for every input, and its arguments read afterwards as they read before. Conditions: none besides the row's own. -/
import Derived.Test.YtacljejoedbnkaaGreatRows
import Derived.Test.YtacljejoedbnkaaGreatMc
import Derived.Test.YtacljejoedbnkaaGreatMf
namespace Go.Proofs.YtacljejoedbnkaaGreat
open Go.ChangeShapes Go.WideShapes Go.ChangeAt Go.RowKit Go.Sig
open Go.ChangeMaps (open_string shut_string)
theorem own5:ownKnob Tryz.prog.godebug=none:=by kernel_rfl
theorem laidOut5:laidOutB Tryz.prog=true:=by kernel_rfl
set_option maxRecDepth 100000 in
theorem bonce_lifted (os:Os) (started:os.Started) (H:Type) (enc:TypeId×Value→H):
  ReturnsInHanded {} Tryz.checked os 5 .any (Rows.bookOnceSpec.pre6 enc Tryz.prog Tryz.f5 Rows.bookOnceRow.domain false) (Rows.bookOnceSpec.post enc Tryz.prog Tryz.f5 false true false false):=by
 refine returnsInHanded_of_change_sized (C:=Tryz.checked) own5 started (by kernel_rfl) Tryz.func5
  (ChangeSpec.witness6 (enc:=enc) (C:=Tryz.checked) false ⟨#[],#[.int .i64 0,.slice none 0 0,.agg #[.int .i64 0,.int .i64 0,.int .i64 0,.int .i64 0,.string ⟨#[]⟩,.int .i64 0,.int .i64 0,.string ⟨#[]⟩,.string ⟨#[]⟩,.slice none 0 0,.string ⟨#[]⟩,.string ⟨#[]⟩,.string ⟨#[]⟩,.string ⟨#[]⟩,.bool false,.int .i64 0],.slice none 0 0],[]⟩ 8 (by kernel_rfl) (by kernel_rfl) (by kernel_rfl) (by kernel_rfl)) ?_
 intro W base args ds gs before hval0 hW hcnd hsz0 _;have hval:∀(j:Nat) t v,Tryz.f5.params[j]? =some t→args[j]? =some v→Value.okWide Tryz.prog W .any base t v:=hval0;have hW':=hW;obtain⟨p,q,hA0,hV,rfl,hfz,hnd⟩:=hW;have hA:DataW.TrodAll enc Tryz.prog W 0 (fun _=>true) true Tryz.f5.params.toList args.toList ds p:=hA0;rw [Tryz.params5]at hA hval;obtain⟨v0,vs0,d0,ds0,p0,q0,hargs,rfl,rfl,h0,r0⟩:=trodAll_cons hA;obtain⟨v1,vs1,d1,ds1,p1,q1,rfl,rfl,rfl,h1,r1⟩:=trodAll_cons r0;obtain⟨v2,vs2,d2,ds2,p2,q2,rfl,rfl,rfl,h2,r2⟩:=trodAll_cons r1;obtain⟨v3,vs3,d3,ds3,p3,q3,rfl,rfl,rfl,h3,r3⟩:=trodAll_cons r2;obtain⟨rfl,rfl,rfl⟩:=trodAll_nil r3;obtain rfl:args=#[v0,v1,v2,v3]:=by cases args;simp_all
 obtain⟨rfl,rfl⟩:=trodVars_none hV;have hw1:∀m∈d1.weights Tryz.prog 34,m≤140737488351232:=reach_each (j:=1) hsz0 (by kernel_rfl) rfl;have k1:=h1;have lt1:∀x∈p1,x.block<W.heap.size:=by obtain⟨m,hm⟩:=k1;exact DataW.trod_lt m _ _ _ hm
 have hw2:∀m∈d2.weights Tryz.prog 26,m≤140737488351232:=reach_each (j:=2) hsz0 (by kernel_rfl) rfl;have k2:=h2;have lt2:∀x∈p2,x.block<W.heap.size:=by obtain⟨m,hm⟩:=k2;exact DataW.trod_lt m _ _ _ hm
 have hw3:∀m∈d3.weights Tryz.prog 34,m≤140737488351232:=reach_each (j:=3) hsz0 (by kernel_rfl) rfl;have k3:=h3;have lt3:∀x∈p3,x.block<W.heap.size:=by obtain⟨m,hm⟩:=k3;exact DataW.trod_lt m _ _ _ hm
 obtain⟨a0,rfl,rfl,rfl,w0⟩:=open_int uuInt (hval 0 3 v0 rfl rfl) h0;obtain⟨a1,len1,cap1,rfl⟩:=okWide_slice uuOps (hval 1 34 v1 rfl rfl);obtain⟨A1,m1,c1,l1,hv1,hl1⟩:=(by
  obtain⟨fuel,hf⟩:=h1;exact open_ops (by simpa [Value.cells]using hf) hw1:∃A n c,∃l:List OA,Value.slice a1 len1 cap1= .slice A n c∧OpsIn W A n l)
 injection hv1 with e1 e2 e3
 subst e1 e2 e3;obtain⟨cs2,rfl,hcs2⟩:=okWide_struct uuOp (hval 2 26 v2 rfl rfl);obtain⟨x2,hv2,hx2⟩:=(by
  obtain⟨fuel,hf⟩:=h2;obtain⟨y,e1,e2⟩:=open_op (by simpa [Value.cells]using hf);exact⟨y,e1,e2.op hw2⟩:∃x:OA,cs2.toList=x.cells.toList∧OpIn W x)
 obtain rfl:cs2=x2.cells:=Array.toList_inj.1 hv2;obtain⟨a3,len3,cap3,rfl⟩:=okWide_slice uuOps (hval 3 34 v3 rfl rfl);obtain⟨A3,m3,c3,l3,hv3,hl3⟩:=(by
  obtain⟨fuel,hf⟩:=h3;exact open_ops (by simpa [Value.cells]using hf) hw3:∃A n c,∃l:List OA,Value.slice a3 len3 cap3= .slice A n c∧OpsIn W A n l)
 injection hv3 with e1 e2 e3
 subst e1 e2 e3;clear hA0 hval0;refine(bonce_t W a0 a1 len1 cap1 l1 hl1 x2 hx2 a3 len3 cap3 l3 hl3).mono fun e W' ⟨he,hF⟩=> ?_;have bel:=hF.below (Nat.le_refl _) (by simp);subst he;exact⟨_,rfl,_,_,_,[],_,[],hW',trodAll_mk1 (shut_bool uuBool _),(trodAll_cons_mk (shut_int uuInt w0) (trodAll_cons_mk (Below.trod laidOut5 (by kernel_rfl) (of_decide_eq_true (by kernel_rfl)) k1 bel lt1) (trodAll_cons_mk (Below.trod laidOut5 (by kernel_rfl) (of_decide_eq_true (by kernel_rfl)) k2 bel lt2) (trodAll_cons_mk (Below.trod laidOut5 (by kernel_rfl) (of_decide_eq_true (by kernel_rfl)) k3 bel lt3) trodAll_mk0)))),rfl,bel.frame _,fun h=>by cases h⟩
theorem and_t {a b:Bool}(ha:a=true) (hb:b=true):(a&&b)=true:=by rw [ha,hb];rfl
theorem cf2:(mapsRowed Tryz.prog)=true:=by kernel_rfl
theorem cf9:(Rows.bookOnceRow.inPlace==Tryz.prog.inPlace 5)=true:=by kernel_rfl
theorem cf10:(Rows.bookOnceRow.unfollowed==Tryz.prog.unfollowed 5)=true:=by kernel_rfl
theorem cf11:(Rows.bookOnceRow.recurses==Tryz.prog.recurses 5)=true:=by kernel_rfl
theorem cf12:(Rows.bookOnceRow.named==Tryz.prog.varsNamed 5)=true:=by kernel_rfl
theorem cf22:(Rows.bookOnceRow.plainKeys==Tryz.prog.plainKeys)=true:=by kernel_rfl
theorem cf24:(Tryz.prog.stopsHeard)=true:=by kernel_rfl
theorem cf25:(Tryz.prog.mayEnter)=true:=by kernel_rfl
theorem cf26:(Rows.bookOnceRow.lifted==Tryz.prog.liftsFinal)=true:=by kernel_rfl
theorem cf27:(Tryz.prog.make==some Rows.bookOnceRow.make)=true:=by kernel_rfl
theorem closed_t:joinedFacts Tryz.prog 5 Tryz.f5 Rows.bookOnceSpec Rows.bookOnceRow=true:=by
 unfold joinedFacts;exact(and_t (and_t (and_t (and_t (and_t (and_t (and_t (and_t (and_t (and_t (and_t (and_t (and_t (and_t (and_t (and_t (and_t (and_t (and_t (and_t (and_t (and_t (and_t (and_t (and_t (and_t (and_t (and_t (and_t (and_t (and_t (by kernel_rfl) laidOut5) cf2) (by kernel_rfl)) (by kernel_rfl)) (by kernel_rfl)) (by kernel_rfl)) (by kernel_rfl)) (by kernel_rfl)) cf9) cf10) cf11) cf12) (by kernel_rfl)) (by kernel_rfl)) (by kernel_rfl)) (by kernel_rfl)) (by kernel_rfl)) (by kernel_rfl)) (by kernel_rfl)) (by kernel_rfl)) (by kernel_rfl)) cf22) (by kernel_rfl)) cf24) cf25) cf26) cf27) (by kernel_rfl)) (by kernel_rfl)) (by kernel_rfl)) (by kernel_rfl))
theorem named_t:Tryz.prog.funcNamed Rows.bookOnceRow.func=some 5:=by kernel_rfl
theorem inst_t:Tryz.f5.isInstance Tryz.prog Rows.bookOnceRow.origin Rows.bookOnceRow.targs:=of_decide_eq_true (by kernel_rfl)
theorem wrap_t:Tryz.f5.isWrapper Tryz.prog Rows.bookOnceRow.wrapper Rows.bookOnceRow.mainSum:=by unfold Func.isWrapper;first | (rw [if_pos (by decide+kernel)];kernel_rfl) | (rw [if_neg (by decide+kernel)];exact⟨rfl,rfl⟩)
theorem bonce_over:Rows.bookOnceRow.holds Tryz.pinned (OpenSpec.ofChange Rows.bookOnceSpec):=
 OpenClaim.holds_of_wide 5 Tryz.f5 rfl rfl rfl rfl rfl rfl rfl ⟨rfl,rfl,rfl,rfl,rfl⟩ rfl rfl rfl rfl rfl named_t Tryz.func5 closed_t inst_t wrap_t (fun os started H enc _=>bonce_lifted os started H enc)
theorem bonce_proved:Rows.BookOnceSaid:=bonce_over
#print axioms bonce_proved
end Go.Proofs.YtacljejoedbnkaaGreat
