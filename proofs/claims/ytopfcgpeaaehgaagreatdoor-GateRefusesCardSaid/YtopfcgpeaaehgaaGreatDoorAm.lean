/- Walks: a client in memory of its own; the client of an Id. Conditions: each theorem's own. -/
import Derived.Test.YtopfcgpeaaehgaaGreatDoorAl
namespace Go.Sig
open Go
section
variable {P:Program}{ops:Array Oper}{Q:Exit→Act→World→Prop}{md:Region.Mode}{S:World→Prop}{Z K:List Nat}
def waitsBy (md:Region.Mode) (ops:Array Oper) (Z K:List Nat) (i:Nat):Bool:=
 (Z.all fun z=>match ops[z]? with |none=>true |some o=>o.after.any fun e=>Region.binds md e&&(e.on==i ||K.contains e.on))&&
 K.all fun k=>match ops[k]? with |none=>false |some o=>o.after.any fun e=>Region.binds md e&&e.on==i
def unlisted (listed:Array Bool) (K:List Nat):Prop:=∀k∈K,listed.getD k true=false
theorem wpZ_first2 {i:Nat}{oi:Oper}{v:Value}(hi:ops[i]? =some oi) (hsel:∀(j:Nat) (o:Oper) cs b,ops[j]? =some o→o.op≠ .select cs b)
  (hQ:∀c a w,Q (.panic c) (a.put oi.dst v) w→Q (.panic c) a w) (hZ:waitsBy md ops Z K i=true):
  ∀(fuel:Nat) (listed:Array Bool) (a:Act) (w:World),
   (∀j oj,ops[j]? =some oj→j≠i→listed.getD j true=false→(∀e∈oj.after,Region.binds md e=true→e.on≠i)→oi.apart ops oj=true)→
   i∈Region.ready md ops listed→unlisted listed K→YieldsIf P ops S oi v a→S w→
   wpZ P md ops Q S Z fuel (listed.setIfInBounds i true) (a.put oi.dst v) w→wpZ P md ops Q S Z (fuel+1) listed a w
 | 0,listed,a,w,_,hr,_,hy,hS,H=>by
  refine⟨fun h=>absurd hr (by rw [h];exact List.not_mem_nil),fun j hj=> ?_⟩;rcases Decidable.em (j=i)with e |e
  ·subst e;exact hy.wpOp hi hS ⟨.inr hS,H⟩
  ·have hm:=ready_mono hj e;rw [H.1]at hm;exact absurd hm List.not_mem_nil
 |fuel+1,listed,a,w,hfree,hr,hK,hy,hS,H=>by
  refine⟨fun h=>absurd hr (by rw [h];exact List.not_mem_nil),fun j hj=> ?_⟩;rcases Decidable.em (j=i)with e |e
  ·subst e;exact hy.wpOp hi hS ⟨.inr hS,H⟩
  obtain⟨hun,oj,hoj,hall⟩:=mem_ready.1 hj;have hil:=(mem_ready.1 hr).1;have hgen:∀m,listed.getD m true=false→∀x∈oj.after,Region.binds md x=true→x.on≠m:=fun m hm x hx hb hxi=>by
   have h1:=hall x hx hb;rw [hxi]at h1;rcases Nat.lt_or_ge m listed.size with hl |hl
   ·simp [hl]at hm h1;rw [hm]at h1;cases h1
   ·simp [Array.getElem?_eq_none hl]at h1
  have hnot:=hgen i hil;have hZ2:=hZ;rw [waitsBy,Bool.and_eq_true]at hZ2;have hjK:j∉K:=fun hjk=>by have h1:=List.all_eq_true.1 hZ2.2 j hjk;rw [hoj]at h1;obtain⟨x,hx,h2⟩:=Array.any_eq_true'.1 h1;rw [Bool.and_eq_true,beq_iff_eq]at h2;exact hnot x hx h2.1 h2.2
  have hzj:Z.contains j=false:=by
   rw [Bool.eq_false_iff];intro hz;have h1:=List.all_eq_true.1 hZ2.1 j (by simpa using hz);rw [hoj]at h1;obtain⟨x,hx,h2⟩:=Array.any_eq_true'.1 h1;rw [Bool.and_eq_true,Bool.or_eq_true,beq_iff_eq]at h2;rcases h2.2 with h3 |h3
   ·exact hnot x hx h2.1 h3
   ·exact hgen x.on (hK _ (by simpa using h3)) x hx h2.1 rfl
  have hstep:=wpOp_putIf hoj (hfree j oj hoj e hun hnot) (fun cs b=>hsel i oi cs b hi) (fun cs b=>hsel j oj cs b hoj) hQ hy (H.2 j (ready_mono hj e));have hset:∀k,j≠k→(listed.setIfInBounds j true).getD k true=listed.getD k true:=fun k q=>getD_set_ne true q;have hfree2:∀k ok,ops[k]? =some ok→k≠i→(listed.setIfInBounds j true).getD k true=false→(∀x∈ok.after,Region.binds md x=true→x.on≠i)→oi.apart ops ok=true:=fun k ok hk hki hu hno=>by
   refine hfree k ok hk hki ?_ hno;rcases Decidable.em (j=k)with q |q
   ·subst q;exact hun
   ·rwa [hset k q]at hu
  refine wpOp_mono (fun a' w' k=> ?_) hstep;obtain⟨k1,k2,k3⟩:=k;have hS':S w':=k2.resolve_left (by rw [hzj];decide);refine⟨.inr hS',wpZ_first2 hi hsel hQ hZ fuel _ a' w' hfree2 (ready_mono hr (Ne.symm e)) (fun k hk=>by rw [hset k (fun q=>hjK (q▸hk))];exact hK k hk) k1 hS' ?_⟩;rw [Array.setIfInBounds_comm _ _ e];exact k3
theorem wpZ_take2 (K:List Nat) {listed:Array Bool}(hK:K.all (fun k=> !listed.getD k true)=true) {i:Nat}{oi:Oper}{v:Value}{fuel:Nat}{a:Act}{w:World}(hi:ops[i]? =some oi)
  (hs:Region.noSelect ops=true) (hf:Region.free md ops listed i=true) (hr:(Region.ready md ops listed).contains i=true) (hZ:waitsBy md ops Z K i=true)
  (hQ:∀c a w,Q (.panic c) (a.put oi.dst v) w→Q (.panic c) a w) (hy:YieldsIf P ops S oi v a) (hS:S w)
  (h:wpZ P md ops Q S Z fuel (listed.setIfInBounds i true) (a.put oi.dst v) w):wpZ P md ops Q S Z (fuel+1) listed a w:=
 wpZ_first2 hi (Region.noSelect_spec hs) hQ hZ fuel listed a w (Region.free_spec hi hf) (by simpa using hr) (fun k hk=>by have:=List.all_eq_true.1 hK k hk;simpa using this) hy hS h
end
end Go.Sig
namespace Go.Proofs.YtopfcgpeaaehgaaGreatDoor
open Go.RowKit Go.Sig
theorem results_c {P:Program}{fn:Func}{p:Tmp}{ty:TypeId}(h:fn.results=#[.cell p ty]) (tmps:Array Value) (w:World) (g:Nat) (t:TypeId) (cs:Array Value) (fr:Nat×Nat) (d:TypeDesc)
  (hp:tmps.getD p undef= .pointer (some ⟨g,0,none⟩)) (hg:w.heap[g]? =some (.cells cs t fr))
  (hu:P.underlying ty=some d) (hd:(match d with | .struct _ | .array _ _=>true |_=>false)=true) (hi:(P.info? ty).map (·.size)=some cs.size):
  (results fn tmps).run P w= .ok (.agg cs) w:=by
 have hp':tmps[p]?.getD undef= .pointer (some ⟨g,0,none⟩):=by simpa using hp
 simp [results,h,hp',asAddr,run_loadVar_row w g t ty cs fr d hg hu hd hi]
def CliFrom (B:Nat) (y:CV):Prop:=From B y.rA∧From B y.sA∧From B y.gA
theorem CliIn.frS {S:List Nat}{B:Nat}{w w':World}{x:CV}(h:CliIn w x) (hF:Fr S w w') (hB:CliFrom B x) (hS:∀g∈S,g<B):CliIn w' x:=
 ⟨h.r.fr hF fun _=>hB.1.off hS,h.s.fr hF fun _=>hB.2.1.off hS,h.g.fr hF fun _=>hB.2.2.off hS⟩
def COwnPost (w:World) (c:GCli) (e:Ending) (w':World):Prop:=∃y:CV,e= .returned (.agg y.cells)∧y.c=c∧CliIn w' y∧CliFrom w.heap.size y∧Fr [] w w'
set_option maxRecDepth 100000 in
set_option maxHeartbeats 4000000 in
theorem cown_t (w:World) (x:CV) (hx:CliIn w x) (hz:CliSz x.c):Calls Tryz.prog 25 #[.agg x.cells] w (COwnPost w x.c):=by
 obtain⟨⟨id,secret,pub,reds,scopes,grants⟩,rA,rc,sA,sc,gA,gc⟩:=x;obtain⟨hr,hs,hg⟩:=hx;obtain⟨z1,z2,z3,-⟩:=hz;simp only at hr hs hg z1 z2 z3;have hrh:=zh hr;have hsh:=zh hs;have hgh:=zh hg;clear hr hs hg;unfold CV.cells;dsimp only;have hzs:∃zs:Array Value,zs.size=6∧Hid (zs=zeroCV.cells):=⟨_,rfl,zh rfl⟩
 obtain⟨zs,hz,hzh⟩:=hzs;go_enter Tryz.func25,Tryz.ntmps25;go_upto_region 1 with(fail)
 refine wp_gen (fun W=>Blk W w.heap.size 72 #[.string id,.string secret,.bool pub,.slice rA reds.length rc,.slice sA scopes.length sc,.slice gA grants.length gc]∧Blk W (w.heap.size+1) 72 zs∧Fr [] w W) ⟨(Blk.new _ _ _).alloc _,by rw [hzh.o];exact Blk.new' _ _ (by simp),((Fr.refl _ _).alloc _).alloc _⟩ ?_;rintro W ⟨hB,hR,fW⟩;obtain⟨gf,HGF⟩:∃z,Hid (w.heap.size=z):=⟨_,zh rfl⟩
 rw [HGF.o]at hB hR⊢;obtain⟨gr,HGR⟩:∃z,Hid (gf+1=z):=⟨_,zh rfl⟩
 rw [HGR.o]at hR⊢;have hne:gf≠gr:=by have:=HGR.o;omega
 have hgw:w.heap.size≤gf:=by have:=HGF.o;omega
 have hgr:w.heap.size≤gr:=by have:=HGF.o;have:=HGR.o;omega
 have c3:=hB.cell 3;have c4:=hB.cell 4;have c5:=hB.cell 5;simp only [zG,zH,zI]at c3 c4 c5;have hgl:=hB.lt;have hglh:=zh hB.lt;have hrlh:=zh hR.lt;refine wp_region_z (fun w'=>w'.cell? ⟨gf,3,none⟩=some (.slice rA reds.length rc)∧w'.cell? ⟨gf,4,none⟩=some (.slice sA scopes.length sc)∧w'.cell? ⟨gf,5,none⟩=some (.slice gA grants.length gc)) [14,15,16,17,18,19,20] (by kernel_rfl) ⟨c3,c4,c5⟩ ?_;intro hHeld;refine wpZ_tk (i:=0) (v:= ?_) hHeld ?_ ?_;rotate_left
 ·(intro w hSw;go_simp<;>with_reducible rfl)
 try simp only [zA,zB,zC,Act.put,zD,zE,zF]
 refine wpZ_tk (i:=1) (v:= ?_) hHeld ?_ ?_;rotate_left
 ·(intro w hSw;go_simp<;>with_reducible rfl)
 try simp only [zA,zB,zC,Act.put,zD,zE,zF]
 refine wpZ_tk (i:=2) (v:= ?_) hHeld ?_ ?_;rotate_left
 ·(intro w hSw;go_simp<;>with_reducible rfl)
 try simp only [zA,zB,zC,Act.put,zD,zE,zF]
 refine wpZ_tk (i:=4) (v:= ?_) hHeld ?_ ?_;rotate_left
 ·(intro w hSw;go_simp<;>with_reducible rfl)
 try simp only [zA,zB,zC,Act.put,zD,zE,zF]
 refine wpZ_tk (i:=5) (v:= ?_) hHeld ?_ ?_;rotate_left
 ·(intro w hSw;go_simp<;>with_reducible rfl)
 try simp only [zA,zB,zC,Act.put,zD,zE,zF]
 refine wpZ_tk (i:=6) (v:= ?_) hHeld ?_ ?_;rotate_left
 ·(intro w hSw;go_simp<;>with_reducible rfl)
 try simp only [zA,zB,zC,Act.put,zD,zE,zF]
 refine wpZ_tk (i:=8) (v:= ?_) hHeld ?_ ?_;rotate_left
 ·(intro w hSw;go_simp<;>with_reducible rfl)
 try simp only [zA,zB,zC,Act.put,zD,zE,zF]
 refine wpZ_tk (i:=9) (v:= ?_) hHeld ?_ ?_;rotate_left
 ·(intro w hSw;go_simp<;>with_reducible rfl)
 try simp only [zA,zB,zC,Act.put,zD,zE,zF]
 refine wpZ_tk (i:=10) (v:= ?_) hHeld ?_ ?_;rotate_left
 ·(intro w hSw;go_simp<;>with_reducible rfl)
 try simp only [zA,zB,zC,Act.put,zD,zE,zF]
 refine wpZ_one (i:=3) (by kernel_rfl) rfl (fun K hK=> ?_);go_simp;refine(cloneS_t W.drew rA reds.length rc reds (Rd.fr hrh.o fW.drew (by simp [Off])) rfl (by omega)).mono ?_;rintro e W2 ⟨A2,m2,rfl,hO2,hA2,f2⟩;have f2:Fr [] W W2:=f2.of_drew;dsimp only;refine hK.out _ _ ⟨cell_fr f2 c3,cell_fr f2 c4,cell_fr f2 c5⟩ (fun hHeld=> ?_);clear hK K;try simp only [zA,zB,zC,Act.put,zD,zE,zF]
 refine wpZ_take2 [13] (by kernel_rfl) (i:=12) (v:= ?_) rfl (by kernel_rfl) (by kernel_rfl) (by kernel_rfl) (by kernel_rfl) (fun _ _ _ h=>h) (Or.inl ⟨by rfl,?_⟩) hHeld ?_;rotate_left
 ·(intro w hSw;go_simp<;>with_reducible rfl)
 try simp only [zA,zB,zC,Act.put,zD,zE,zF]
 refine wpZ_tk (i:=13) (v:= ?_) hHeld ?_ ?_;rotate_left
 ·(intro w hSw;go_simp<;>with_reducible rfl)
 try simp only [zA,zB,zC,Act.put,zD,zE,zF]
 refine wpZ_one (i:=7) (by kernel_rfl) rfl (fun K hK=> ?_);go_simp;refine(cloneS_t W2 sA scopes.length sc scopes (Rd.fr hsh.o (fW.trans f2) (by simp [Off])) rfl (by omega)).mono ?_;rintro e W3 ⟨A3,m3,rfl,hO3,hA3,f3⟩;have f23:=f2.trans f3;dsimp only;refine hK.out _ _ ⟨cell_fr f23 c3,cell_fr f23 c4,cell_fr f23 c5⟩ (fun hHeld=> ?_);clear hK K;try simp only [zA,zB,zC,Act.put,zD,zE,zF]
 refine wpZ_one (i:=11) (by kernel_rfl) rfl (fun K hK=> ?_);go_simp;refine(cloneS_t W3 gA grants.length gc grants (Rd.fr hgh.o (fW.trans f23) (by simp [Off])) rfl (by omega)).mono ?_;rintro e W4 ⟨A4,m4,rfl,hO4,hA4,f4⟩;have f24:=f23.trans f4;have hB4:=hB.fr f24 (by simp);have d3:=hB4.cell 3;have d4:=hB4.cell 4;have d5:=hB4.cell 5;simp only [zG,zH,zI]at d3 d4 d5;have q3:=hB4.frozen 3;have q4:=hB4.frozen 4;have q5:=hB4.frozen 5;have hgl4:=hB4.lt;dsimp only;refine hK.out _ _ ⟨cell_fr f24 c3,cell_fr f24 c4,cell_fr f24 c5⟩ (fun hHeld=> ?_);clear hK K;try simp only [zA,zB,zC,Act.put,zD,zE,zF]
 refine wpZ_end (i:=14) (by kernel_rfl) rfl rfl (fun K hK=> ?_);go_simp;refine hK.out _ _ ?_;clear hK K;try simp only [zA,zB,zC,Act.put,zD,zE,zF]
 refine wpZ_end (i:=15) (by kernel_rfl) rfl rfl (fun K hK=> ?_);go_simp;refine hK.out _ _ ?_;clear hK K;try simp only [zA,zB,zC,Act.put,zD,zE,zF]
 refine wpZ_end (i:=16) (by kernel_rfl) rfl rfl (fun K hK=> ?_);go_simp;refine hK.out _ _ ?_;clear hK K;try simp only [zA,zB,zC,Act.put,zD,zE,zF]
 refine wpZ_end (i:=17) (by kernel_rfl) rfl rfl (fun K hK=> ?_);go_simp;refine hK.out _ _ ?_;clear hK K;try simp only [zA,zB,zC,Act.put,zD,zE,zF]
 refine wpZ_end (i:=18) (by kernel_rfl) rfl rfl (fun K hK=> ?_);go_simp;refine hK.out _ _ ?_;clear hK K;try simp only [zA,zB,zC,Act.put,zD,zE,zF]
 refine wpZ_end (i:=19) (by kernel_rfl) rfl rfl (fun K hK=> ?_);go_simp;refine hK.out _ _ ?_;clear hK K;try simp only [zA,zB,zC,Act.put,zD,zE,zF]
 refine wpZ_end (i:=20) (by kernel_rfl) rfl rfl (fun K hK=> ?_);go_simp;refine hK.out _ _ ?_;clear hK K;try simp only [zA,zB,zC,Act.put,zD,zE,zF]
 refine wpZ_done (by kernel_rfl) ?_ _;have hh2:=zh hA2;have hh3:=zh hA3;have hh4:=zh hA4;have hO2h:=zh hO2;have hO3h:=zh hO3;have hO4h:=zh hO4;have f2h:=zh f2;have f3h:=zh f3;have f4h:=zh f4;have fWh:=zh fW;have hB4h:=zh hB4;have hRh:=zh (hR.fr f24 (by simp));have f24h:=zh f24;clear hA2 hA3 hA4 hO2 hO3 hO4 f2 f3 f4 fW hB4 hR f24 f23 hB;go_upto_region 2 with(fail)
 refine wp_gen (fun W5=>Blk W5 gf 72 (CV.mk ⟨id,secret,pub,reds,scopes,grants⟩ A2 m2 A3 m3 A4 m4).cells∧Fr [gf] W4 W5) ⟨by
  have h:=((hB4h.o.set 3 (.slice A2 reds.length m2)).set 4 (.slice A3 scopes.length m3)).set 5 (.slice A4 grants.length m4);simpa [CV.cells]using h,(((Fr.refl [gf] W4).setCell (.inl (by simp)) _).setCell (.inl (by simp)) _).setCell (.inl (by simp)) _⟩ ?_
 rintro W5 ⟨hB5,F5⟩;have hR5:=hRh.o.fr F5 (by simpa using Ne.symm hne);go_wp2_with (first
  | (refine wpList_load_at rfl 72 _ rfl rfl hB5 (sub_self _) uRcli rfl (infoRcliL _) ?_;rw [Array.toArray_toList])
  | (refine wpList_store_row rfl 72 _ _ rfl gr _ rfl rfl 72 zs hR5 (infoRcli _) (by rw [hz];rfl) (CV.all1 _) ?_))
 refine bodyPost_ret (v:= .agg _) (results_c (p:=2) rfl _ _ gr 72 _ (0,0) _ rfl (Blk.setRow hR5 _) uRcli rfl (infoRcli _)) rfl ?_;have F0:Fr [] w W4:=fWh.o.trans f24h.o;have G5:Fr [gf,gr] W4 (W5.setRow gr (CV.mk ⟨id,secret,pub,reds,scopes,grants⟩ A2 m2 A3 m3 A4 m4).cells):=(F5.mono (fun i h=>by simp at h;simp [h])).setRow (.inl (by simp)) _;have F:Fr [] w (W5.setRow gr (CV.mk ⟨id,secret,pub,reds,scopes,grants⟩ A2 m2 A3 m3 A4 m4).cells):=F0.andThen G5 (fun i hi=> .inr (by simp at hi;omega));have hof:∀A,From W.heap.size A→Off [gf,gr] A:=fun A hA a e hm=>by have:=hA a e;have h1:=hglh.o;have h2:=hrlh.o;simp at hm;omega
 refine⟨⟨⟨id,secret,pub,reds,scopes,grants⟩,A2,m2,A3,m3,A4,m4⟩,rfl,rfl,⟨?_,?_,?_⟩,⟨hh2.o.mono fWh.o.size,hh3.o.mono (fWh.o.trans f2h.o).size,hh4.o.mono (fWh.o.trans (f2h.o.trans f3h.o)).size⟩,F⟩
 ·exact Rd.fr (hO2h.o.rd) (Fr.trans (f3h.o.trans f4h.o).nil G5) (fun _=>hof _ hh2.o)
 ·exact Rd.fr (hO3h.o.rd) (Fr.trans f4h.o.nil G5) (fun _=>hof _ (From.mono hh3.o f2h.o.size))
 ·exact Rd.fr (hO4h.o.rd) G5 (fun _=>hof _ (From.mono hh4.o (f2h.o.trans f3h.o).size))
end Go.Proofs.YtopfcgpeaaehgaaGreatDoor
