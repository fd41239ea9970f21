/- signetlaw17.GrantPuts returns true for every input, and its arguments read afterwards as they read before. Conditions: none besides the row's own. -/
import Derived.Test.YtdeoinjjphdbmaaGreatRows
import Derived.Test.YtdeoinjjphdbmaaGreatJu
import Derived.Test.YtdeoinjjphdbmaaGreatJu
import Derived.Test.YtdeoinjjphdbmaaGreatKq
namespace Go.Proofs.YtdeoinjjphdbmaaGreat
open Go.ChangeShapes Go.WideShapes Go.ChangeAt Go.RowKit Go.Sig
open Go.ChangeMaps (open_string shut_string)
theorem own10:ownKnob Tryz.prog.godebug=none:=by kernel_rfl
theorem laidOut10:laidOutB Tryz.prog=true:=by kernel_rfl
set_option maxRecDepth 100000 in
theorem puts_lifted (os:Os) (started:os.Started) (H:Type) (enc:TypeId×Value→H):
  ReturnsInHanded {} Tryz.checked os 10 .any (Rows.grantPutsSpec.pre6 enc Tryz.prog Tryz.f10 Rows.grantPutsRow.domain false) (Rows.grantPutsSpec.post enc Tryz.prog Tryz.f10 false true false false):=by
 refine returnsInHanded_of_change_sized (C:=Tryz.checked) own10 started (by kernel_rfl) Tryz.func10
  (ChangeSpec.witness6 (enc:=enc) (C:=Tryz.checked) false ⟨#[],#[.int .i64 0,.slice none 0 0,.agg #[.string ⟨#[]⟩,.string ⟨#[]⟩,.string ⟨#[]⟩,.slice none 0 0,.string ⟨#[]⟩,.string ⟨#[]⟩,.string ⟨#[]⟩,.int .i64 0,.slice none 0 0,.bool false,.slice none 0 0],.string ⟨#[]⟩],[]⟩ 8 (by kernel_rfl) (by kernel_rfl) (by kernel_rfl) (by kernel_rfl)) ?_
 intro W base args ds gs before hval0 hW hcnd hsz0 _
 have hval:∀(j:Nat) t v,Tryz.f10.params[j]? =some t→args[j]? =some v→Value.okWide Tryz.prog W .any base t v:=hval0
 have hW':=hW
 obtain⟨p,q,hA0,hV,rfl,hfz,hnd⟩:=hW
 have hA:DataW.TrodAll enc Tryz.prog W 0 (fun _=>true) true Tryz.f10.params.toList args.toList ds p:=hA0
 rw [Tryz.params10]at hA hval
 obtain⟨v0,vs0,d0,ds0,p0,q0,hargs,rfl,rfl,h0,r0⟩:=trodAll_cons hA
 obtain⟨v1,vs1,d1,ds1,p1,q1,rfl,rfl,rfl,h1,r1⟩:=trodAll_cons r0
 obtain⟨v2,vs2,d2,ds2,p2,q2,rfl,rfl,rfl,h2,r2⟩:=trodAll_cons r1
 obtain⟨v3,vs3,d3,ds3,p3,q3,rfl,rfl,rfl,h3,r3⟩:=trodAll_cons r2
 obtain⟨rfl,rfl,rfl⟩:=trodAll_nil r3
 obtain rfl:args=#[v0,v1,v2,v3]:=by cases args;simp_all
 obtain⟨rfl,rfl⟩:=trodVars_none hV
 have hw1:∀m∈d1.weights Tryz.prog 22,m≤140737488351232:=reach_each (j:=1) hsz0 (by kernel_rfl) rfl
 have k1:=h1
 have lt1:∀x∈p1,x.block<W.heap.size:=by obtain⟨m,hm⟩:=k1;exact DataW.trod_lt m _ _ _ hm
 have hw2:∀m∈d2.weights Tryz.prog 39,m≤140737488351232:=reach_each (j:=2) hsz0 (by kernel_rfl) rfl
 have k2:=h2
 have lt2:∀x∈p2,x.block<W.heap.size:=by obtain⟨m,hm⟩:=k2;exact DataW.trod_lt m _ _ _ hm
 obtain⟨a0,rfl,rfl,rfl,w0⟩:=open_int uuInt (hval 0 3 v0 rfl rfl) h0
 obtain⟨a1,len1,cap1,rfl⟩:=okWide_slice uuCmds (hval 1 22 v1 rfl rfl)
 obtain⟨A1,m1,c1,l1,hv1,hl1⟩:=(by
  obtain⟨fuel,hf⟩:=h1
  exact open_cmds (by simpa [Value.cells]using hf) hw1:∃A n c,∃l:List CA,Value.slice a1 len1 cap1= .slice A n c∧CmdsIn W A n l)
 injection hv1 with e1 e2 e3
 subst e1 e2 e3
 obtain⟨cs2,rfl,hcs2⟩:=okWide_struct uuFam (hval 2 39 v2 rfl rfl)
 obtain⟨x2,hv2,hx2,hz2⟩:=(by
  obtain⟨fuel,hf⟩:=h2
  exact open_fam (by simpa [Value.cells]using hf) hw2:∃x:FA,cs2.toList=x.cells.toList∧FamIn W [] x∧FamSz x)
 obtain rfl:cs2=x2.cells:=Array.toList_inj.1 hv2
 obtain⟨a3,rfl,rfl,rfl,w3⟩:=open_string uuStr (hval 3 9 v3 rfl rfl) h3
 clear hA0 hval0
 refine(gputs_t W a0 a1 len1 cap1 l1 x2 a3 hl1 hx2 hz2).mono fun e W' ⟨he,hF⟩=> ?_
 have bel:=hF.below (Nat.le_refl _) (by simp)
 subst he
 exact⟨_,rfl,_,_,_,[],_,[],hW',trodAll_mk1 (shut_bool uuBool _),(trodAll_cons_mk (shut_int uuInt w0) (trodAll_cons_mk (Below.trod laidOut10 (by kernel_rfl) (of_decide_eq_true (by kernel_rfl)) k1 bel lt1) (trodAll_cons_mk (Below.trod laidOut10 (by kernel_rfl) (of_decide_eq_true (by kernel_rfl)) k2 bel lt2) (trodAll_cons_mk (shut_string uuStr w3) trodAll_mk0)))),rfl,bel.frame _,fun h=>by cases h⟩
theorem puts_over:Rows.grantPutsRow.holds Tryz.pinned (OpenSpec.ofChange Rows.grantPutsSpec):=
 OpenClaim.holds_of_wide 10 Tryz.f10 rfl rfl rfl rfl rfl rfl rfl ⟨rfl,rfl,rfl,rfl,rfl⟩ rfl rfl rfl rfl rfl (by kernel_rfl) Tryz.func10 (by kernel_rfl)
  (of_decide_eq_true (by kernel_rfl)) (by unfold Func.isWrapper;first | (rw [if_pos (by decide+kernel)];kernel_rfl) | (rw [if_neg (by decide+kernel)];exact⟨rfl,rfl⟩))
  (fun os started H enc _=>puts_lifted os started H enc)
theorem puts_proved:Rows.GrantPutsSaid:=puts_over
#print axioms puts_proved
end Go.Proofs.YtdeoinjjphdbmaaGreat
