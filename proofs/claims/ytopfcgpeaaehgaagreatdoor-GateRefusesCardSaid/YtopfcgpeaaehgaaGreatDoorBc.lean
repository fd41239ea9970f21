/- Walks of the gate: who asks, and for what token. Conditions: each theorem's own. -/
import Derived.Test.YtopfcgpeaaehgaaGreatDoorBb
namespace Go.Sig
open Go
section
variable {P:Program}{ops:Array Oper}{Q:Exit→Act→World→Prop}{md:Region.Mode}{S:World→Prop}{Z K:List Nat}
structure CallsIf (P:Program) (ops:Array Oper) (S:World→Prop) (o:Oper) (f:FuncId) (args:Array Value) (v:Value) (a:Act):Prop where
 want:Region.wanted o (yielded ops a.tmps)=true
 enter:∀w,S w→(execOp a.eval o).run P w= .ok (.enter f args) w
 tells:∀w,S w→Calls P f args w fun e w'=>e= .returned v∧w=w'
theorem CallsIf.wpOp {i:Nat}{o:Oper}{f:FuncId}{args:Array Value}{v:Value}{a:Act}(hi:ops[i]? =some o) (hy:CallsIf P ops S o f args v a)
  {K:Act→World→Prop}{w:World}(hS:S w) (h:K (a.put o.dst v) w):wpOp P ops Q i K a w:=by
 unfold Go.wpOp;simp only [hi,hy.want,if_true,Oper.wp,hy.enter w hS,Oper.upon_enter];refine .inl ((hy.tells w hS).mono ?_);rintro e w' ⟨rfl,rfl⟩;exact h
theorem CallsIf.same {o:Oper}{f:FuncId}{args:Array Value}{v:Value}{a a':Act}(hy:CallsIf P ops S o f args v a) (he:execOp a'.eval o=execOp a.eval o)
  (hw:Region.wanted o (yielded ops a'.tmps)=Region.wanted o (yielded ops a.tmps)):CallsIf P ops S o f args v a':=
 ⟨by rw [hw];exact hy.want,by rw [he];exact hy.enter,hy.tells⟩
theorem wpOp_keeps {j:Nat}{oj:Oper}(hj:ops[j]? =some oj) {Y:Act→Prop}(hput:∀b u,Y b→Y (b.put oj.dst u)) (hdef:∀b d,Y b→Y {b with defers:=d::b.defers}) {K:Act→World→Prop}{a:Act}{w:World}(hy:Y a)
  (h:wpOp P ops Q j K a w):wpOp P ops Q j (fun a' w'=>Y a'∧K a' w') a w:=by
 unfold Go.wpOp at*
 simp only [hj]at*;split
 ·next hw=>
  rw [if_pos hw]at h;rcases h with h |h
  ·refine .inl ?_;unfold Oper.wp at*
   revert h
   cases(execOp a.eval oj).run P w with
   |ok n w'=>
    cases n with
    |value u=>exact fun h=>⟨hput _ _ hy,h⟩
    |skip=>exact fun h=>⟨hput _ _ hy,h⟩
    |defer d=>exact fun h=>⟨hput _ _ (hdef _ _ hy),h⟩
    |enter f args=>
     intro h;refine Calls.mono h fun e w2 he=> ?_;cases e with
     |returned u=>exact⟨hput _ _ hy,he⟩
     |panicked c=>exact he
     |outgrown=>exact he
    |row r args=>exact fun h=>Rows.mono h fun u w2 he=>⟨hput _ _ hy,he⟩
    |_=>exact fun h=>h
   |halt x w'=>
    cases x with
    |panic u=>exact fun h=>h
    |_=>exact fun h=>h
  ·exact .inr h
 ·next hw=>rw [if_neg hw]at h;exact⟨hput _ _ hy,h⟩
theorem wpOp_putC {j:Nat}{oi oj:Oper}{f:FuncId}{args:Array Value}{v:Value}(hj:ops[j]? =some oj) (hap:oi.apart ops oj=true)
  (hsi:∀cs b,oi.op≠ .select cs b) (hsj:∀cs b,oj.op≠ .select cs b) (hQ:∀c a w,Q (.panic c) (a.put oi.dst v) w→Q (.panic c) a w)
  {K:Act→World→Prop}{a:Act}{w:World}(hy:CallsIf P ops S oi f args v a) (h:wpOp P ops Q j K (a.put oi.dst v) w):
  wpOp P ops Q j (fun a' w'=>CallsIf P ops S oi f args v a'∧K (a'.put oi.dst v) w') a w:=by
 have h3:=(Oper.apart_spec hap).2.2;have h0:YieldsIf P ops (fun _=>False) oi v a:= .inl ⟨hy.want,fun _ h=>h.elim⟩;exact wpOp_mono (fun a' w' k=>⟨k.1,k.2.2⟩) (wpOp_keeps hj (Y:=CallsIf P ops S oi f args v) (fun b u hb=>hb.same (execOp_put oi hsi b oj.dst u h3) (wanted_put oi b oj.dst u h3)) (fun b d hb=>hb.same rfl rfl) hy (wpOp_putIf hj hap hsi hsj hQ h0 h))
theorem wpZ_firstC {i:Nat}{oi:Oper}{f:FuncId}{args:Array Value}{v:Value}(hi:ops[i]? =some oi) (hsel:∀(j:Nat) (o:Oper) cs b,ops[j]? =some o→o.op≠ .select cs b)
  (hQ:∀c a w,Q (.panic c) (a.put oi.dst v) w→Q (.panic c) a w) (hZ:waitsBy md ops Z K i=true):
  ∀(fuel:Nat) (listed:Array Bool) (a:Act) (w:World),
   (∀j oj,ops[j]? =some oj→j≠i→listed.getD j true=false→(∀e∈oj.after,Region.binds md e=true→e.on≠i)→oi.apart ops oj=true)→
   i∈Region.ready md ops listed→unlisted listed K→CallsIf P ops S oi f args v a→S w→
   wpZ P md ops Q S Z fuel (listed.setIfInBounds i true) (a.put oi.dst v) w→wpZ P md ops Q S Z (fuel+1) listed a w
 | 0,listed,a,w,_,hr,_,hy,hS,H=>by
  refine⟨fun h=>absurd hr (by rw [h];exact List.not_mem_nil),fun j hj=> ?_⟩;rcases Decidable.em (j=i)with e |e
  ·subst e;exact hy.wpOp hi hS ⟨.inr hS,H⟩
  ·have hm:=ready_mono hj e;rw [H.1]at hm;exact absurd hm List.not_mem_nil
 |fuel+1,listed,a,w,hfree,hr,hK,hy,hS,H=>by
  refine⟨fun h=>absurd hr (by rw [h];exact List.not_mem_nil),fun j hj=> ?_⟩;rcases Decidable.em (j=i)with e |e
  ·subst e;exact hy.wpOp hi hS ⟨.inr hS,H⟩
  obtain⟨hun,oj,hoj,hall⟩:=mem_ready.1 hj;have hil:=(mem_ready.1 hr).1;have hgen:∀m,listed.getD m true=false→∀x∈oj.after,Region.binds md x=true→x.on≠m:=fun m hm x hx hb hxi=>by
   have h1:=hall x hx hb;rw [hxi]at h1;rcases Nat.lt_or_ge m listed.size with hl |hl
   ·simp [hl]at hm h1;rw [hm]at h1;cases h1
   ·simp [Array.getElem?_eq_none hl]at h1
  have hnot:=hgen i hil;have hZ2:=hZ;rw [waitsBy,Bool.and_eq_true]at hZ2;have hjK:j∉K:=fun hjk=>by have h1:=List.all_eq_true.1 hZ2.2 j hjk;rw [hoj]at h1;obtain⟨x,hx,h2⟩:=Array.any_eq_true'.1 h1;rw [Bool.and_eq_true,beq_iff_eq]at h2;exact hnot x hx h2.1 h2.2
  have hzj:Z.contains j=false:=by
   rw [Bool.eq_false_iff];intro hz;have h1:=List.all_eq_true.1 hZ2.1 j (by simpa using hz);rw [hoj]at h1;obtain⟨x,hx,h2⟩:=Array.any_eq_true'.1 h1;rw [Bool.and_eq_true,Bool.or_eq_true,beq_iff_eq]at h2;rcases h2.2 with h3 |h3
   ·exact hnot x hx h2.1 h3
   ·exact hgen x.on (hK _ (by simpa using h3)) x hx h2.1 rfl
  have hstep:=wpOp_putC hoj (hfree j oj hoj e hun hnot) (fun cs b=>hsel i oi cs b hi) (fun cs b=>hsel j oj cs b hoj) hQ hy (H.2 j (ready_mono hj e));have hset:∀k,j≠k→(listed.setIfInBounds j true).getD k true=listed.getD k true:=fun k q=>getD_set_ne true q;have hfree2:∀k ok,ops[k]? =some ok→k≠i→(listed.setIfInBounds j true).getD k true=false→(∀x∈ok.after,Region.binds md x=true→x.on≠i)→oi.apart ops ok=true:=fun k ok hk hki hu hno=>by
   refine hfree k ok hk hki ?_ hno;rcases Decidable.em (j=k)with q |q
   ·subst q;exact hun
   ·rwa [hset k q]at hu
  refine wpOp_mono (fun a' w' k=> ?_) hstep;obtain⟨k1,k2,k3⟩:=k;have hS':S w':=k2.resolve_left (by rw [hzj];decide);refine⟨.inr hS',wpZ_firstC hi hsel hQ hZ fuel _ a' w' hfree2 (ready_mono hr (Ne.symm e)) (fun k hk=>by rw [hset k (fun q=>hjK (q▸hk))];exact hK k hk) k1 hS' ?_⟩;rw [Array.setIfInBounds_comm _ _ e];exact k3
theorem wpZ_call (K:List Nat) {listed:Array Bool}(hK:K.all (fun k=> !listed.getD k true)=true) {i:Nat}{oi:Oper}{f:FuncId}{args:Array Value}{v:Value}{fuel:Nat}{a:Act}{w:World}(hi:ops[i]? =some oi)
  (hs:Region.noSelect ops=true) (hf:Region.free md ops listed i=true) (hr:(Region.ready md ops listed).contains i=true) (hZ:waitsBy md ops Z K i=true)
  (hQ:∀c a w,Q (.panic c) (a.put oi.dst v) w→Q (.panic c) a w) (hw:Region.wanted oi (yielded ops a.tmps)=true) (he:∀w,S w→(execOp a.eval oi).run P w= .ok (.enter f args) w)
  (hc:∀w,S w→Calls P f args w fun e w'=>e= .returned v∧w=w') (hS:S w)
  (h:wpZ P md ops Q S Z fuel (listed.setIfInBounds i true) (a.put oi.dst v) w):wpZ P md ops Q S Z (fuel+1) listed a w:=
 wpZ_firstC hi (Region.noSelect_spec hs) hQ hZ fuel listed a w (Region.free_spec hi hf) (by simpa using hr) (fun k hk=>by have:=List.all_eq_true.1 hK k hk;simpa using this) ⟨hw,he,hc⟩ hS h
end
end Go.Sig
namespace Go.Proofs.YtopfcgpeaaehgaaGreatDoor
open Go.RowKit Go.Sig
theorem unqL_len:∀(n:Nat) (l m:List UInt8),l.length≤n→unqL l=some m→m.length≤l.length:=by
 intro n;induction n with
 |zero=>
  intro l m hn h;obtain rfl:=List.eq_nil_of_length_eq_zero (Nat.le_zero.1 hn);unfold unqL at h;injection h with h
  subst h;simp
 |succ n ih=>
  intro l m hn h;cases l with
  |nil=>
   unfold unqL at h;injection h with h
   subst h;simp
  |cons c r=>
   simp only [List.length_cons]at hn⊢;unfold unqL at h;split at h
   ·cases h
   ·split at h
    ·split at h
     ·next hh ll r'=>
      simp only [List.length_cons]at hn⊢;split at h
      ·obtain⟨k,hk,rfl⟩:=Option.map_eq_some_iff.1 h;have:=ih r' k (by omega) hk;simp only [List.length_cons];omega
      ·cases h
     ·cases h
    ·obtain⟨k,hk,rfl⟩:=Option.map_eq_some_iff.1 h;have:=ih r k (by omega) hk;simp only [List.length_cons];omega
theorem hdrM_sz {h x y:ByteArray}(hm:hdrM h=some (x,y)):y.size≤h.size:=by
 unfold hdrM at hm;split at hm
 ·split at hm
  ·cases hm
  ·next b hb=>
   split at hm
   ·next x' y' h1 h2 h3=>
    injection hm with hm
    injection hm with _ hm
    subst hm;rw [bA_size];have e1:=unqL_len _ _ _ (Nat.le_refl _) h3;have e2:=(cutL_len (c:=58) b).2.1;have e3:=unbasM_len (s:=bA (h.data.toList.drop 6)) hb;rw [bA_size,List.length_drop]at e3;have e4:h.data.toList.length=h.size:=Array.length_toList;omega
   ·cases hm
 ·cases hm
theorem results_tctt {P:Program}{fn:Func}{p q r s:Tmp}{ty:TypeId}(h:fn.results=#[.tmp p,.cell q ty,.tmp r,.tmp s]) (tmps:Array Value) (w:World) (g:Nat) (t:TypeId) (cs:Array Value) (d:TypeDesc) {v u x:Value}
  (hq:tmps.getD q undef= .pointer (some ⟨g,0,none⟩)) (hg:Blk w g t cs) (hu:P.underlying ty=some d) (hd:(match d with | .struct _ | .array _ _=>true |_=>false)=true) (hi:(P.info? ty).map (·.size)=some cs.size) (hp:tmps.getD p undef=v) (hr:tmps.getD r undef=u) (hs:tmps.getD s undef=x):
  (results fn tmps).run P w= .ok (.tuple #[v,.agg cs,u,x]) w:=by
 subst hp;subst hr;subst hs;have hq':tmps[q]?.getD undef= .pointer (some ⟨g,0,none⟩):=by simpa using hq
 simp [results,h,hq',asAddr,run_loadVar_row w g t ty cs (0,0) d hg hu hd hi]
section
variable {w:World}{g r:Nat}{q:GReq}{l:List GCli}{sA:Option Addr}{sc:Nat}{sec:List UInt8}{family:ByteArray}{edge:Int}{fA:Option Addr}{fc:Nat}{form:Prs}
theorem gauth_t (h:RdrIn w g r q l sA sc sec family edge fA fc form) (hz:RdrSz q l sc sec form):Calls Tryz.prog 16 #[.pointer (some ⟨r,0,none⟩),.string q.header,.slice fA form.length fc] w (AuthPost w (authM l q.header form)):=
 auth_t w r l q.header fA form.length fc form h.roll hz.cli hz.hdr h.form rfl (by have:=hz.len;omega) (by have:=fget_sz (k:=nCsec) hz.each;omega) (fun x y hm=>by have:=hdrM_sz hm;have:=hz.hdr;omega)
def OpenedPost (w:World) (a:ByteArray×Int) (tok:ByteArray) (o:Option GTk) (e:Ending) (w':World):Prop:=
 e= .returned (.tuple #[.string a.1,.agg (tkCells (o.getD tk0)),.bool o.isSome,.int .i64 (firstM [a.2,if tok.size=0 then 1 else 0])])∧Fr [] w w'
set_option maxRecDepth 100000 in
set_option maxHeartbeats 2000000 in
theorem opened_t (h:RdrIn w g r q l sA sc sec family edge fA fc form) (hz:RdrSz q l sc sec form):Calls Tryz.prog 75 #[.pointer (some ⟨g,0,none⟩)] w (OpenedPost w (authM l q.header form) (fg form nTok) (openM sec (fg form nTok).data.toList)):=by
 have hau:=fun V (hF:Fr [] w V)=>gauth_t (h.fr hF) hz;have hget:=fun V (hF:Fr [] w V)=>get_t (h.fr hF) hz nTok;have hop:=fun V (hF:Fr [] w V)=>open_t V sA sec.length sc sec (h.fr hF).sec hz.cap hz.secl (fg form nTok) (by have:=fget_sz (k:=nTok) hz.each;unfold fg;omega) (h.fr hF).glob;have hh:=zh h;obtain⟨a,hae⟩:∃z,Hid (authM l q.header form=z):=⟨_,zh rfl⟩
 rw [hae.o]at hau⊢;unfold AuthPost at hau;obtain⟨T,hT⟩:∃z,Hid (fg form nTok=z):=⟨_,zh rfl⟩
 rw [hT.o]at hget hop⊢;obtain⟨o,ho⟩:∃z,Hid (openM sec T.data.toList=z):=⟨_,zh rfl⟩
 rw [ho.o]at hop⊢;unfold nTok at hget;clear h hz;go_enter Tryz.func75,Tryz.ntmps75;go_upto_region 1 with(fail)
 refine wp_gen (fun W=>Blk W w.heap.size 47 (tkCells tk0)∧Fr [] w W) ⟨Blk.new _ _ _,(Fr.refl _ _).alloc _⟩ ?_;rintro W ⟨hB,fW⟩;obtain⟨gr,HR⟩:∃z,Hid (w.heap.size=z):=⟨_,zh rfl⟩
 rw [HR.o]at hB⊢;have hgr:w.heap.size≤gr:=by have:=HR.o;omega
 have h1:=hh.o.fr fW;have c4:=h1.hB.cell 4;have c1:=h1.hB.cell 1;have c8:=h1.hB.cell 8;simp only [zG,zH,zI]at c4 c1 c8;have hgl:=h1.hB.lt;have hBh:=zh hB;clear hB h1;refine wp_region_z (fun v=>v.cell? ⟨g,4,none⟩=some (.pointer (some ⟨r,0,none⟩))∧v.cell? ⟨g,1,none⟩=some (.string q.header)∧v.cell? ⟨g,8,none⟩=some (.slice fA form.length fc)) [] (by kernel_rfl) ⟨c4,c1,c8⟩ ?_;intro hHeld;refine wpZ_tk (i:=0) (v:= ?_) hHeld ?_ ?_;rotate_left
 ·(intro w hSw;go_simp<;>with_reducible rfl)
 try simp only [zA,zB,zC,Act.put,zD,zE,zF]
 refine wpZ_tk (i:=1) (v:= ?_) hHeld ?_ ?_;rotate_left
 ·(intro w hSw;go_simp<;>with_reducible rfl)
 try simp only [zA,zB,zC,Act.put,zD,zE,zF]
 refine wpZ_tk (i:=2) (v:= ?_) hHeld ?_ ?_;rotate_left
 ·(intro w hSw;go_simp<;>with_reducible rfl)
 try simp only [zA,zB,zC,Act.put,zD,zE,zF]
 refine wpZ_tk (i:=3) (v:= ?_) hHeld ?_ ?_;rotate_left
 ·(intro w hSw;go_simp<;>with_reducible rfl)
 try simp only [zA,zB,zC,Act.put,zD,zE,zF]
 refine wpZ_tk (i:=4) (v:= ?_) hHeld ?_ ?_;rotate_left
 ·(intro w hSw;go_simp<;>with_reducible rfl)
 try simp only [zA,zB,zC,Act.put,zD,zE,zF]
 refine wpZ_tk (i:=5) (v:= ?_) hHeld ?_ ?_;rotate_left
 ·(intro w hSw;go_simp<;>with_reducible rfl)
 try simp only [zA,zB,zC,Act.put,zD,zE,zF]
 refine wpZ_tk (i:=6) (v:= ?_) hHeld ?_ ?_;rotate_left
 ·(intro w hSw;go_simp<;>with_reducible rfl)
 try simp only [zA,zB,zC,Act.put,zD,zE,zF]
 refine wpZ_tk (i:=7) (v:= ?_) hHeld ?_ ?_;rotate_left
 ·(intro w hSw;go_simp<;>with_reducible rfl)
 try simp only [zA,zB,zC,Act.put,zD,zE,zF]
 refine wpZ_tk (i:=8) (v:= ?_) hHeld ?_ ?_;rotate_left
 ·(intro w hSw;go_simp<;>with_reducible rfl)
 try simp only [zA,zB,zC,Act.put,zD,zE,zF]
 refine wpZ_tk (i:=9) (v:= ?_) hHeld ?_ ?_;rotate_left
 ·(intro w hSw;go_simp<;>with_reducible rfl)
 try simp only [zA,zB,zC,Act.put,zD,zE,zF]
 refine wpZ_tk (i:=10) (v:= ?_) hHeld ?_ ?_;rotate_left
 ·(intro w hSw;go_simp<;>with_reducible rfl)
 try simp only [zA,zB,zC,Act.put,zD,zE,zF]
 refine wpZ_tk (i:=11) (v:= ?_) hHeld ?_ ?_;rotate_left
 ·(intro w hSw;go_simp<;>with_reducible rfl)
 try simp only [zA,zB,zC,Act.put,zD,zE,zF]
 refine wpZ_tk (i:=12) (v:= ?_) hHeld ?_ ?_;rotate_left
 ·(intro w hSw;go_simp<;>with_reducible rfl)
 try simp only [zA,zB,zC,Act.put,zD,zE,zF]
 refine wpZ_one (i:=13) (by kernel_rfl) rfl (fun K hK=> ?_);go_simp;refine(hau _ fW.drew).mono ?_;clear hau;rintro e W2 ⟨rfl,F2⟩;have fW2:=fW.drew.trans F2;have fW2a:=Fr.of_drew F2;dsimp only;refine hK.out _ _ ⟨cell_fr F2 c4,cell_fr F2 c1,cell_fr F2 c8⟩ (fun hHeld=> ?_);clear hK K;try simp only [zA,zB,zC,Act.put,zD,zE,zF]
 refine wpZ_tk (i:=14) (v:= ?_) hHeld ?_ ?_;rotate_left
 ·(intro w hSw;go_simp<;>with_reducible rfl)
 try simp only [zA,zB,zC,Act.put,zD,zE,zF]
 refine wpZ_tk (i:=15) (v:= ?_) hHeld ?_ ?_;rotate_left
 ·(intro w hSw;go_simp<;>with_reducible rfl)
 try simp only [zA,zB,zC,Act.put,zD,zE,zF]
 refine wpZ_tk (i:=16) (v:= ?_) hHeld ?_ ?_;rotate_left
 ·(intro w hSw;go_simp<;>with_reducible rfl)
 try simp only [zA,zB,zC,Act.put,zD,zE,zF]
 refine wpZ_tk (i:=17) (v:= ?_) hHeld ?_ ?_;rotate_left
 ·(intro w hSw;go_simp<;>with_reducible rfl)
 try simp only [zA,zB,zC,Act.put,zD,zE,zF]
 refine wpZ_tk (i:=18) (v:= ?_) hHeld ?_ ?_;rotate_left
 ·(intro w hSw;go_simp<;>with_reducible rfl)
 try simp only [zA,zB,zC,Act.put,zD,zE,zF]
 refine wpZ_done (by kernel_rfl) ?_ _;have hget:=hget W2 fW2;have hop:=hop W2 fW2;have fW2h:=zh fW2;have hB2:=hBh.o.fr fW2a (by simp);clear fW F2 c4 c1 c8 fW2;go_upto_region 3 with(go_at_call 66;refine hget.mono ?_;clear hget;rintro e w3 ⟨rfl,rfl⟩)
 have c5:=(hh.o.fr fW2h.o).hB.cell 5;simp only [zG,zH,zI]at c5;have hgl2:=(hh.o.fr fW2h.o).hB.lt;unfold OpenPost at hop;have hop':Calls Tryz.prog 17 #[.slice sA sec.length sc,.string T] W2 fun e w'=>∃k:Int,e= .returned (.tuple #[.agg (tkCells (o.getD tk0)),.int .i64 k])∧(k==0)=o.isSome∧Fr [] W2 w':=hop.mono (by
  rintro e w' ⟨h1,h2⟩;cases o with
  |none=>obtain⟨k,rfl,hk⟩:=h1;exact⟨k,rfl,hk,h2⟩
  |some t=>exact⟨0,h1,rfl,h2⟩)
 clear hop;go_upto_region 4 with(first
  | (go_at_call 17;refine hop'.mono ?_;clear hop';rintro e w4 ⟨k,rfl,hk,F4⟩)
  | (refine wpList_store_row rfl 47 _ _ rfl w4.heap.size (tkCells (o.getD tk0)) rfl rfl 47 _ (Blk.new _ _ _) (infoTk _) (by rfl) (tk_one _) ?_))
 obtain⟨t,hte⟩:∃z,Hid (o.getD tk0=z):=⟨_,zh rfl⟩
 obtain⟨is,hise⟩:∃z,Hid (o.isSome=z):=⟨_,zh rfl⟩
 rw [hise.o]at hk;rw [hte.o];refine wp_gen (fun V=>Blk V w4.heap.size 47 (tkCells t)∧Fr [] w4 V) ⟨Blk.setRow (Blk.new _ _ _) _,((Fr.refl [] w4).alloc _).setRow (.inr (Nat.le_refl _)) _⟩ ?_;rintro W5 ⟨hB5,F5⟩;obtain⟨g9,H9⟩:∃z,Hid (w4.heap.size=z):=⟨_,zh rfl⟩
 rw [H9.o]at hB5⊢;have F25:=F4.trans F5;have fW5:=zh (fW2h.o.trans F25);have hR5:=zh (hB2.fr F25 (by simp));have e9:=range_cells hB5;have hg9:=hB5.lt;have hte2:=str_empty T;have hfi:∀V g' a b,Blk V g' 36 #[.int .i64 a,.int .i64 b]→Calls Tryz.prog 71 #[.slice (some ⟨g',0,none⟩) 2 2] V fun e w'=>e= .returned (.int .i64 (firstM [a,b]))∧V=w':=fun V g' a b hB=>first_t V _ 2 2 [a,b] (two_rd hB) rfl (by decide);obtain⟨te,hteq⟩:∃z,Hid (decide (T.size=0)=z):=⟨_,zh rfl⟩
 rw [hteq.o]at hte2;have hun:=fun V=>unless_t V (!te) 1;obtain⟨uv,huv⟩:∃z,Hid ((if(!te)=true then(0:Int)else 1)=z):=⟨_,zh rfl⟩
 rw [huv.o]at hun;have hne:gr≠g9:=by have:=hB2.lt;have:=H9.o;have:=F4.size;omega
 have hB5h:=zh hB5;clear hB5 F4 F5 hB2 c5 hgl2;refine wp_region_z (fun v=>v.rangeAt g9 0 (tkCells t).toList) [] (by kernel_rfl) e9 ?_;intro hHeld;refine wpZ_tk (i:=0) (v:= ?_) hHeld ?_ ?_;rotate_left
 ·(intro w hSw;go_simp<;>with_reducible rfl)
 try simp only [zA,zB,zC,Act.put,zD,zE,zF]
 refine wpZ_take (i:=1) rfl (by kernel_rfl) (by kernel_rfl) (by kernel_rfl) (by kernel_rfl) (fun _ _ _ h=>h) (yieldsIf_load_mid (by kernel_rfl) 47 _ rfl g9 0 rfl ((tkCells t).toList) _ (fun w h=>h) uTk rfl (infoTkL _)) hHeld ?_;try simp only [zA,zB,zC,Act.put,zD,zE,zF]
 refine wpZ_tk (i:=2) (v:= ?_) hHeld ?_ ?_;rotate_left
 ·(intro w hSw;go_simp<;>with_reducible rfl)
 try simp only [zA,zB,zC,Act.put,zD,zE,zF]
 refine wpZ_tk (i:=3) (v:= ?_) hHeld ?_ ?_;rotate_left
 ·(intro w hSw;go_simp<;>with_reducible rfl)
 try simp only [zA,zB,zC,Act.put,zD,zE,zF]
 refine wpZ_tk (i:=4) (v:= ?_) hHeld ?_ ?_;rotate_left
 ·(intro w hSw;go_simp<;>with_reducible rfl)
 try simp only [zA,zB,zC,Act.put,zD,zE,zF]
 refine wpZ_tk (i:=5) (v:= ?_) hHeld ?_ ?_;rotate_left
 ·(intro w hSw;go_simp<;>with_reducible rfl)
 try simp only [zA,zB,zC,Act.put,zD,zE,zF]
 refine wpZ_tk (i:=6) (v:= ?_) hHeld ?_ ?_;rotate_left
 ·(intro w hSw;go_simp<;>with_reducible rfl)
 try simp only [zA,zB,zC,Act.put,zD,zE,zF]
 refine wpZ_one (i:=7) (by kernel_rfl) rfl (fun K hK=> ?_);go_simp;refine(hun _).mono ?_;clear hun;rintro e W6 ⟨rfl,rfl⟩;dsimp only;refine hK.out _ _ e9 (fun hHeld=> ?_);clear hK K;try simp only [zA,zB,zC,Act.put,zD,zE,zF]
 refine wpZ_one (i:=8) (by kernel_rfl) rfl (fun K hK=> ?_);go_simp;refine hK.out _ _ (range_fr1 ((Fr.refl [] _).drew.alloc _) e9) (fun hHeld=> ?_);clear hK K;try simp only [zA,zB,zC,Act.put,zD,zE,zF]
 refine wpZ_one (i:=9) (by kernel_rfl) rfl (fun K hK=> ?_);go_simp;refine(hfi _ _ _ _ (Blk.drew (Blk.new _ _ _))).mono ?_;clear hfi;rintro e W7 ⟨rfl,rfl⟩;dsimp only;refine hK.out _ _ (range_fr1 ((Fr.refl [] _).drew.alloc _) e9) (fun hHeld=> ?_);clear hK K;try simp only [zA,zB,zC,Act.put,zD,zE,zF]
 refine wpZ_tk (i:=10) (v:= ?_) hHeld ?_ ?_;rotate_left
 ·(intro w hSw;go_simp<;>with_reducible rfl)
 try simp only [zA,zB,zC,Act.put,zD,zE,zF]
 refine wpZ_one (i:=11) (by kernel_rfl) rfl (fun K hK=> ?_);rw [if_pos (wanted_none rfl)];refine wp_store_row 47 _ _ rfl gr (tkCells t) rfl rfl 47 (tkCells tk0) (hR5.o.fr ((Fr.refl [] _).drew.alloc _) (by simp)) (infoTk _) (by rfl) (tk_one _) ?_;show K (Act.put _ none undef) _;refine hK.out _ _ (range_cells ((hB5h.o.fr ((Fr.refl [] _).drew.alloc _) (by simp)).farRow (Ne.symm hne) _)) (fun hHeld=> ?_);clear hK K;try simp only [zA,zB,zC,Act.put,zD,zE,zF]
 refine wpZ_tk (i:=12) (v:= ?_) hHeld ?_ ?_;rotate_left
 ·(intro w hSw;go_simp<;>with_reducible rfl)
 try simp only [zA,zB,zC,Act.put,zD,zE,zF]
 refine wpZ_tk (i:=13) (v:= ?_) hHeld ?_ ?_;rotate_left
 ·(intro w hSw;go_simp<;>with_reducible rfl)
 try simp only [zA,zB,zC,Act.put,zD,zE,zF]
 refine wpZ_done (by kernel_rfl) ?_ _;obtain⟨fv,hfv⟩:∃z,Hid (firstM [a.2,uv]=z):=⟨_,zh rfl⟩
 rw [hfv.o];go_wp2_with fail
 refine bodyPost_ret (v:= .tuple #[.string a.1,.agg (tkCells t),.bool is,.int .i64 fv]) (results_tctt (p:=2) (q:=3) (r:=4) (s:=5) rfl _ _ gr 47 _ _ rfl (Blk.setRow (hR5.o.fr ((Fr.refl [] _).alloc _).drew (by simp)) _) uTk rfl (infoTk _) rfl rfl rfl) rfl ?_;rw [OpenedPost,←hte.o,←hise.o];refine⟨?_,((fW5.o.alloc _).drew).setRow (.inr hgr) _⟩;rw [←hfv.o,←huv.o,show(if(!te)=true then(0:Int)else 1)=if T.size=0 then 1 else 0 by rw [←hteq.o];by_cases hz:T.size=0<;>simp [hz]]
end
end Go.Proofs.YtopfcgpeaaehgaaGreatDoor
