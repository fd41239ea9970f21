/- signetlaw17.GrantCopies returns true for every input, and its arguments read afterwards as they read before. Conditions: none besides the row's own. -/
import Derived.Test.YtdeoinjjphdbmaaGreatRows
import Derived.Test.YtdeoinjjphdbmaaGreatHo
import Derived.Test.YtdeoinjjphdbmaaGreatKu
namespace Go.Proofs.YtdeoinjjphdbmaaGreat
open Go.ChangeShapes Go.WideShapes Go.ChangeAt Go.RowKit Go.Sig
open Go.ChangeMaps (open_string shut_string)
theorem own11:ownKnob Tryz.prog.godebug=none:=by kernel_rfl
theorem laidOut11:laidOutB Tryz.prog=true:=by kernel_rfl
set_option maxRecDepth 100000 in
theorem copies_lifted (os:Os) (started:os.Started) (H:Type) (enc:TypeId×Value→H):
  ReturnsInHanded {} Tryz.checked os 11 .any (Rows.grantCopiesSpec.pre6 enc Tryz.prog Tryz.f11 Rows.grantCopiesRow.domain false) (Rows.grantCopiesSpec.post enc Tryz.prog Tryz.f11 false true false false):=by
 refine returnsInHanded_of_change_sized (C:=Tryz.checked) own11 started (by kernel_rfl) Tryz.func11
  (ChangeSpec.witness6 (enc:=enc) (C:=Tryz.checked) false ⟨#[],#[.int .i64 0,.slice none 0 0,.slice none 0 0],[]⟩ 8 (by kernel_rfl) (by kernel_rfl) (by kernel_rfl) (by kernel_rfl)) ?_
 intro W base args ds gs before hval0 hW hcnd hsz0 _
 have hval:∀(j:Nat) t v,Tryz.f11.params[j]? =some t→args[j]? =some v→Value.okWide Tryz.prog W .any base t v:=hval0
 have hW':=hW
 obtain⟨p,q,hA0,hV,rfl,hfz,hnd⟩:=hW
 have hA:DataW.TrodAll enc Tryz.prog W 0 (fun _=>true) true Tryz.f11.params.toList args.toList ds p:=hA0
 rw [Tryz.params11]at hA hval
 obtain⟨v0,vs0,d0,ds0,p0,q0,hargs,rfl,rfl,h0,r0⟩:=trodAll_cons hA
 obtain⟨v1,vs1,d1,ds1,p1,q1,rfl,rfl,rfl,h1,r1⟩:=trodAll_cons r0
 obtain⟨v2,vs2,d2,ds2,p2,q2,rfl,rfl,rfl,h2,r2⟩:=trodAll_cons r1
 obtain⟨rfl,rfl,rfl⟩:=trodAll_nil r2
 obtain rfl:args=#[v0,v1,v2]:=by cases args;simp_all
 obtain⟨rfl,rfl⟩:=trodVars_none hV
 have hw1:∀m∈d1.weights Tryz.prog 22,m≤140737488351232:=reach_each (j:=1) hsz0 (by kernel_rfl) rfl
 have k1:=h1
 have lt1:∀x∈p1,x.block<W.heap.size:=by obtain⟨m,hm⟩:=k1;exact DataW.trod_lt m _ _ _ hm
 have hw2:∀m∈d2.weights Tryz.prog 22,m≤140737488351232:=reach_each (j:=2) hsz0 (by kernel_rfl) rfl
 have k2:=h2
 have lt2:∀x∈p2,x.block<W.heap.size:=by obtain⟨m,hm⟩:=k2;exact DataW.trod_lt m _ _ _ hm
 obtain⟨a0,rfl,rfl,rfl,w0⟩:=open_int uuInt (hval 0 3 v0 rfl rfl) h0
 obtain⟨a1,len1,cap1,rfl⟩:=okWide_slice uuCmds (hval 1 22 v1 rfl rfl)
 obtain⟨A1,m1,c1,l1,hv1,hl1⟩:=(by
  obtain⟨fuel,hf⟩:=h1
  exact open_cmds (by simpa [Value.cells]using hf) hw1:∃A n c,∃l:List CA,Value.slice a1 len1 cap1= .slice A n c∧CmdsIn W A n l)
 injection hv1 with e1 e2 e3
 subst e1 e2 e3
 obtain⟨a2,len2,cap2,rfl⟩:=okWide_slice uuCmds (hval 2 22 v2 rfl rfl)
 obtain⟨A2,m2,c2,l2,hv2,hl2,hb2⟩:=(by
  obtain⟨fuel,hf⟩:=h2
  exact open_cmds2 (by simpa [Value.cells]using hf) hw2:∃A n c,∃l:List CA,Value.slice a2 len2 cap2= .slice A n c∧CmdsIn W A n l∧∀y∈l,y.c.scope.length≤8796093022208)
 injection hv2 with e1 e2 e3
 subst e1 e2 e3
 clear hA0 hval0
 refine(gcopies_t W a0 a1 len1 cap1 l1 a2 len2 cap2 l2 hl1 hl2 hb2).mono fun e W' ⟨he,hF⟩=> ?_
 have bel:=hF.below (Nat.le_refl _) (by simp)
 subst he
 exact⟨_,rfl,_,_,_,[],_,[],hW',trodAll_mk1 (shut_bool uuBool _),(trodAll_cons_mk (shut_int uuInt w0) (trodAll_cons_mk (Below.trod laidOut11 (by kernel_rfl) (of_decide_eq_true (by kernel_rfl)) k1 bel lt1) (trodAll_cons_mk (Below.trod laidOut11 (by kernel_rfl) (of_decide_eq_true (by kernel_rfl)) k2 bel lt2) trodAll_mk0))),rfl,bel.frame _,fun h=>by cases h⟩
theorem copies_over:Rows.grantCopiesRow.holds Tryz.pinned (OpenSpec.ofChange Rows.grantCopiesSpec):=
 OpenClaim.holds_of_wide 11 Tryz.f11 rfl rfl rfl rfl rfl rfl rfl ⟨rfl,rfl,rfl,rfl,rfl⟩ rfl rfl rfl rfl rfl (by kernel_rfl) Tryz.func11 (by kernel_rfl)
  (of_decide_eq_true (by kernel_rfl)) (by unfold Func.isWrapper;first | (rw [if_pos (by decide+kernel)];kernel_rfl) | (rw [if_neg (by decide+kernel)];exact⟨rfl,rfl⟩))
  (fun os started H enc _=>copies_lifted os started H enc)
theorem copies_proved:Rows.GrantCopiesSaid:=copies_over
#print axioms copies_proved
end Go.Proofs.YtdeoinjjphdbmaaGreat
