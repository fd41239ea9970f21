/- From an argument that can be read as data to what the walks ask: a family. Conditions: none. -/
import Derived.Test.YtdeoinjjphdbmaaGreatOpen
import Derived.Test.YtdeoinjjphdbmaaGreatHm
import Derived.Test.YtdeoinjjphdbmaaGreatIb
namespace Go.Proofs.YtdeoinjjphdbmaaGreat
open Go.RowKit Go.Sig Go.ChangeShapes Go.WideShapes
theorem uuStr:Tryz.prog.underlying 9=some .string:=by kernel_rfl
theorem uuBool:Tryz.prog.underlying 4=some .bool:=by kernel_rfl
theorem uuInt:Tryz.prog.underlying 3=some (.int .i64):=by kernel_rfl
theorem uuStrs:Tryz.prog.underlying 28=some (.slice 9):=by kernel_rfl
theorem uuCmd:Tryz.prog.underlying 30=some (.struct (Tryz.prog.fieldsOf 30)):=by kernel_rfl
theorem uuCmds:Tryz.prog.underlying 22=some (.slice 30):=by kernel_rfl
theorem ccStr:Tryz.prog.cellsOf 9=1:=by kernel_rfl
theorem ccInt:Tryz.prog.cellsOf 3=1:=by kernel_rfl
theorem ccBool:Tryz.prog.cellsOf 4=1:=by kernel_rfl
theorem ccStrs:Tryz.prog.cellsOf 28=1:=by kernel_rfl
theorem ccCmd:Tryz.prog.cellsOf 30=13:=by kernel_rfl
theorem bbStr:Tryz.prog.bytesOf 9=16:=by kernel_rfl
theorem bbCmd:1≤Tryz.prog.bytesOf 30:=by decide+kernel
theorem strCells_flat:∀l:List ByteArray,l.flatMap (fun s=> [Value.string s])=strCells l
 | []=>rfl
 |s::l=>by rw [List.flatMap_cons,strCells_flat l];rfl
section
variable {H:Type}{enc:TypeId×Value→H}{w:World}{base:Nat}{spare:Nat→Bool}{held:Bool}
theorem open_str1 {fuel:Nat}{cs:List Value}{x:DataW H×List MemPlace}(h:DataW.trod enc Tryz.prog w base spare held fuel 9 cs=some x):∃s:ByteArray,cs= [.string s]∧s.size∈x.1.weights Tryz.prog 9:=by
 obtain⟨s,e,d,_⟩:=DataW.trod_string uuStr h
 exact⟨s,e,by rw [d];simp [DataW.weights,Array.length_toList]⟩
structure CmdRead (w:World) (x:CA) (d:DataW H):Prop where
 scope:Rd w 1 x.A x.c.scope.length (strCells x.c.scope)
 many:0<x.c.scope.length→∃m∈d.weights Tryz.prog 30,x.c.scope.length*16≤m
 each:∀s∈x.c.scope,s.size∈d.weights Tryz.prog 30
 family:x.c.family.size∈d.weights Tryz.prog 30
theorem CmdRead.cmd {x:CA}{d:DataW H}(h:CmdRead w x d) (hw:∀m∈d.weights Tryz.prog 30,m≤140737488351232):CmdIn w x.c x.A x.c.scope.length:=by
 refine⟨h.scope,rfl,?_,fun s hs=>Nat.le_trans (hw _ (h.each s hs)) (by decide),Nat.le_trans (hw _ h.family) (by decide)⟩
 rcases Nat.eq_zero_or_pos x.c.scope.length with h0 |h0
 ·omega
 ·obtain⟨m,hm,hb⟩:=h.many h0
  have:=hw m hm
  omega
set_option maxRecDepth 100000 in
set_option maxHeartbeats 1000000 in
theorem open_cmd {fuel:Nat}{cs:List Value}{x:DataW H×List MemPlace}(h:DataW.trod enc Tryz.prog w base spare held fuel 30 cs=some x):∃y:CA,cs=y.cells.toList∧CmdRead w y x.1:=by
 obtain⟨xs,n,_,hx,hlen,hxl,hf⟩:=DataW.trod_struct uuCmd h
 rw [ccCmd]at hlen
 match cs,hlen with
 | [v0,v1,v2,v3,v4,v5,v6,v7,v8,v9,v10,v11,v12],_=>
  obtain⟨y0,i0,g0⟩:=field_at hf hxl (i:=0) (t:=3) (o:=0) (by kernel_rfl) ccInt
  obtain⟨y1,i1,g1⟩:=field_at hf hxl (i:=1) (t:=9) (o:=1) (by kernel_rfl) ccStr
  obtain⟨y2,i2,g2⟩:=field_at hf hxl (i:=2) (t:=3) (o:=2) (by kernel_rfl) ccInt
  obtain⟨y3,i3,g3⟩:=field_at hf hxl (i:=3) (t:=3) (o:=3) (by kernel_rfl) ccInt
  obtain⟨y4,i4,g4⟩:=field_at hf hxl (i:=4) (t:=9) (o:=4) (by kernel_rfl) ccStr
  obtain⟨y5,i5,g5⟩:=field_at hf hxl (i:=5) (t:=9) (o:=5) (by kernel_rfl) ccStr
  obtain⟨y6,i6,g6⟩:=field_at hf hxl (i:=6) (t:=28) (o:=6) (by kernel_rfl) ccStrs
  obtain⟨y7,i7,g7⟩:=field_at hf hxl (i:=7) (t:=9) (o:=7) (by kernel_rfl) ccStr
  obtain⟨y8,i8,g8⟩:=field_at hf hxl (i:=8) (t:=9) (o:=8) (by kernel_rfl) ccStr
  obtain⟨y9,i9,g9⟩:=field_at hf hxl (i:=9) (t:=9) (o:=9) (by kernel_rfl) ccStr
  obtain⟨y10,i10,g10⟩:=field_at hf hxl (i:=10) (t:=9) (o:=10) (by kernel_rfl) ccStr
  obtain⟨y11,i11,g11⟩:=field_at hf hxl (i:=11) (t:=4) (o:=11) (by kernel_rfl) ccBool
  obtain⟨y12,i12,g12⟩:=field_at hf hxl (i:=12) (t:=3) (o:=12) (by kernel_rfl) ccInt
  simp only [List.drop_succ_cons,List.drop_zero,List.take_succ_cons,List.take_zero]at g0 g1 g2 g3 g4 g5 g6 g7 g8 g9 g10 g11 g12
  obtain⟨n0,e0,_,_⟩:=DataW.trod_int uuInt g0
  obtain⟨s1,e1,d1,_⟩:=DataW.trod_string uuStr g1
  obtain⟨n2,e2,_,_⟩:=DataW.trod_int uuInt g2
  obtain⟨n3,e3,_,_⟩:=DataW.trod_int uuInt g3
  obtain⟨s4,e4,d4,_⟩:=DataW.trod_string uuStr g4
  obtain⟨s5,e5,d5,_⟩:=DataW.trod_string uuStr g5
  obtain⟨A,n,k,l,rfl,h2,h3,h4,h5,h6,h7,h8⟩:=open_rows uuStrs ccStr (by decide) (fun s:ByteArray=> [Value.string s]) (fun _=>rfl) (fun s d=>s.size∈d.weights Tryz.prog 9) (fun fuel cs x hx=>open_str1 hx) g6
  obtain⟨s7,e7,d7,_⟩:=DataW.trod_string uuStr g7
  obtain⟨s8,e8,d8,_⟩:=DataW.trod_string uuStr g8
  obtain⟨s9,e9,d9,_⟩:=DataW.trod_string uuStr g9
  obtain⟨s10,e10,d10,_⟩:=DataW.trod_string uuStr g10
  obtain⟨b11,e11,_⟩:=DataW.trod_bool uuBool g11
  obtain⟨n12,e12,_,_⟩:=DataW.trod_int uuInt g12
  simp only [List.cons.injEq,and_true]at e0 e1 e2 e3 e4 e5 e7 e8 e9 e10 e11 e12
  subst e0 e1 e2 e3 e4 e5 e7 e8 e9 e10 e11 e12 hx
  refine⟨⟨⟨n0,s1,n2,n3,s4,s5,l,s7,s8,s9,s10,b11,n12⟩,A,k⟩,?_,?_,?_,?_,?_⟩
  ·rw [←h3];rfl
  ·rw [strCells_flat,←h3]at h2
   exact h2
  ·intro h0
   obtain⟨m,hm,hb⟩:=h8 (by rw [←h3];exact h0)
   rw [bbStr,←h3]at hb
   exact⟨m,weights_field uuCmd (i:=6) (t:=28) (o:=6) (by kernel_rfl) i6 m hm,hb⟩
  ·intro s hs
   obtain⟨d,hd,hm⟩:=h7 s hs
   exact weights_field uuCmd (i:=6) (t:=28) (o:=6) (by kernel_rfl) i6 _ (hm _ hd)
  ·subst d1
   exact weights_field uuCmd (i:=1) (t:=9) (o:=1) (by kernel_rfl) i1 _ (by simp [DataW.weights,Array.length_toList])
theorem open_cmds {fuel:Nat}{v:Value}{x:DataW H×List MemPlace}(h:DataW.trod enc Tryz.prog w base spare held fuel 22 [v]=some x) (hw:∀m∈x.1.weights Tryz.prog 22,m≤140737488351232):
  ∃A n c,∃l:List CA,v= .slice A n c∧CmdsIn w A n l:=by
 obtain⟨A,n,c,l,h1,h2,h3,h4,h5,h6,h7,h8⟩:=open_rows uuCmds ccCmd (by decide) (fun y:CA=>y.cells.toList) (fun _=>rfl) (fun y d=>CmdRead w y d) (fun fuel cs x hx=>open_cmd hx) h
 refine⟨A,n,c,l,h1,h2,h3,?_,fun s hs=> ?_⟩
 ·rcases Nat.eq_zero_or_pos n with h0 |h0
  ·omega
  ·obtain⟨m,hm,hb⟩:=h8 h0
   have:=hw m hm
   have:=Nat.le_trans (Nat.le_mul_of_pos_right n bbCmd) hb
   omega
 ·obtain⟨d,hd,hm⟩:=h7 s hs
  exact hd.cmd fun m hm2=>hw m (hm m hm2)
end
theorem CmdRead.len {H:Type}{w:World}{x:CA}{d:DataW H}(h:CmdRead w x d) (hw:∀m∈d.weights Tryz.prog 30,m≤140737488351232):x.c.scope.length≤8796093022208:=by
 rcases Nat.eq_zero_or_pos x.c.scope.length with h0 |h0
 ·omega
 ·obtain⟨m,hm,hb⟩:=h.many h0
  have:=hw m hm
  omega
section
variable {H:Type}{enc:TypeId×Value→H}{w:World}{base:Nat}{spare:Nat→Bool}{held:Bool}
theorem open_cmds2 {fuel:Nat}{v:Value}{x:DataW H×List MemPlace}(h:DataW.trod enc Tryz.prog w base spare held fuel 22 [v]=some x) (hw:∀m∈x.1.weights Tryz.prog 22,m≤140737488351232):
  ∃A n c,∃l:List CA,v= .slice A n c∧CmdsIn w A n l∧∀y∈l,y.c.scope.length≤8796093022208:=by
 obtain⟨A,n,c,l,h1,h2,h3,h4,h5,h6,h7,h8⟩:=open_rows uuCmds ccCmd (by decide) (fun y:CA=>y.cells.toList) (fun _=>rfl) (fun y d=>CmdRead w y d) (fun fuel cs x hx=>open_cmd hx) h
 refine⟨A,n,c,l,h1,⟨h2,h3,?_,fun s hs=> ?_⟩,fun s hs=>by
  obtain⟨d,hd,hm⟩:=h7 s hs
  exact hd.len fun m hm2=>hw m (hm m hm2)⟩
 ·rcases Nat.eq_zero_or_pos n with h0 |h0
  ·omega
  ·obtain⟨m,hm,hb⟩:=h8 h0
   have:=hw m hm
   have:=Nat.le_trans (Nat.le_mul_of_pos_right n bbCmd) hb
   omega
 ·obtain⟨d,hd,hm⟩:=h7 s hs
  exact hd.cmd fun m hm2=>hw m (hm m hm2)
end
end Go.Proofs.YtdeoinjjphdbmaaGreat
namespace Go.Proofs.YtdeoinjjphdbmaaGreat
open Go.RowKit Go.Sig Go.ChangeShapes Go.WideShapes
theorem uuIss:Tryz.prog.underlying 55=some (.struct (Tryz.prog.fieldsOf 55)):=by kernel_rfl
theorem uuIsss:Tryz.prog.underlying 36=some (.slice 55):=by kernel_rfl
theorem uuInts:Tryz.prog.underlying 37=some (.slice 3):=by kernel_rfl
theorem uuFam:Tryz.prog.underlying 39=some (.struct (Tryz.prog.fieldsOf 39)):=by kernel_rfl
theorem ccIss:Tryz.prog.cellsOf 55=3:=by kernel_rfl
theorem ccIsss:Tryz.prog.cellsOf 36=1:=by kernel_rfl
theorem ccInts:Tryz.prog.cellsOf 37=1:=by kernel_rfl
theorem ccFam:Tryz.prog.cellsOf 39=11:=by kernel_rfl
theorem bbIss:1≤Tryz.prog.bytesOf 55:=by decide+kernel
theorem bbInt:1≤Tryz.prog.bytesOf 3:=by decide+kernel
section
variable {H:Type}{enc:TypeId×Value→H}{w:World}{base:Nat}{spare:Nat→Bool}{held:Bool}
structure TokRead (w:World) (t:TA) (d:DataW H):Prop where
 scope:Rd w 1 t.A t.tok.scope.length (strCells t.tok.scope)
 many:0<t.tok.scope.length→∃m∈d.weights Tryz.prog 55,t.tok.scope.length*16≤m
 each:∀s∈t.tok.scope,s.size∈d.weights Tryz.prog 55
set_option maxRecDepth 100000 in
theorem open_tok {fuel:Nat}{cs:List Value}{x:DataW H×List MemPlace}(h:DataW.trod enc Tryz.prog w base spare held fuel 55 cs=some x):∃t:TA,cs=t.cells∧TokRead w t x.1:=by
 obtain⟨xs,n,_,hx,hlen,hxl,hf⟩:=DataW.trod_struct uuIss h
 rw [ccIss]at hlen
 match cs,hlen with
 | [v0,v1,v2],_=>
  obtain⟨y0,i0,g0⟩:=field_at hf hxl (i:=0) (t:=3) (o:=0) (by kernel_rfl) ccInt
  obtain⟨y1,i1,g1⟩:=field_at hf hxl (i:=1) (t:=28) (o:=1) (by kernel_rfl) ccStrs
  obtain⟨y2,i2,g2⟩:=field_at hf hxl (i:=2) (t:=4) (o:=2) (by kernel_rfl) ccBool
  simp only [List.drop_succ_cons,List.drop_zero,List.take_succ_cons,List.take_zero]at g0 g1 g2
  obtain⟨n0,e0,_,_⟩:=DataW.trod_int uuInt g0
  obtain⟨A,n,k,l,rfl,h2,h3,h4,h5,h6,h7,h8⟩:=open_rows uuStrs ccStr (by decide) (fun s:ByteArray=> [Value.string s]) (fun _=>rfl) (fun s d=>s.size∈d.weights Tryz.prog 9) (fun fuel cs x hx=>open_str1 hx) g1
  obtain⟨b2,e2,_⟩:=DataW.trod_bool uuBool g2
  simp only [List.cons.injEq,and_true]at e0 e2
  subst e0 e2 hx
  refine⟨⟨⟨n0,l,b2⟩,A,k⟩,by rw [←h3];rfl,?_,?_,?_⟩
  ·rw [strCells_flat,←h3]at h2
   exact h2
  ·intro h0
   obtain⟨m,hm,hb⟩:=h8 (by rw [←h3];exact h0)
   rw [bbStr,←h3]at hb
   exact⟨m,weights_field uuIss (i:=1) (t:=28) (o:=1) (by kernel_rfl) i1 m hm,hb⟩
  ·intro s hs
   obtain⟨d,hd,hm⟩:=h7 s hs
   exact weights_field uuIss (i:=1) (t:=28) (o:=1) (by kernel_rfl) i1 _ (hm _ hd)
set_option maxRecDepth 100000 in
set_option maxHeartbeats 2000000 in
theorem open_fam {fuel:Nat}{cs:List Value}{x:DataW H×List MemPlace}(h:DataW.trod enc Tryz.prog w base spare held fuel 39 cs=some x) (hw:∀m∈x.1.weights Tryz.prog 39,m≤140737488351232):∃y:FA,cs=y.cells.toList∧FamIn w [] y∧FamSz y:=by
 obtain⟨xs,n,_,hx,hlen,hxl,hf⟩:=DataW.trod_struct uuFam h
 rw [ccFam]at hlen
 match cs,hlen with
 | [v0,v1,v2,v3,v4,v5,v6,v7,v8,v9,v10],_=>
  obtain⟨y0,i0,g0⟩:=field_at hf hxl (i:=0) (t:=9) (o:=0) (by kernel_rfl) ccStr
  obtain⟨y1,i1,g1⟩:=field_at hf hxl (i:=1) (t:=9) (o:=1) (by kernel_rfl) ccStr
  obtain⟨y2,i2,g2⟩:=field_at hf hxl (i:=2) (t:=9) (o:=2) (by kernel_rfl) ccStr
  obtain⟨y3,i3,g3⟩:=field_at hf hxl (i:=3) (t:=28) (o:=3) (by kernel_rfl) ccStrs
  obtain⟨y4,i4,g4⟩:=field_at hf hxl (i:=4) (t:=9) (o:=4) (by kernel_rfl) ccStr
  obtain⟨y5,i5,g5⟩:=field_at hf hxl (i:=5) (t:=9) (o:=5) (by kernel_rfl) ccStr
  obtain⟨y6,i6,g6⟩:=field_at hf hxl (i:=6) (t:=9) (o:=6) (by kernel_rfl) ccStr
  obtain⟨y7,i7,g7⟩:=field_at hf hxl (i:=7) (t:=3) (o:=7) (by kernel_rfl) ccInt
  obtain⟨y8,i8,g8⟩:=field_at hf hxl (i:=8) (t:=36) (o:=8) (by kernel_rfl) ccIsss
  obtain⟨y9,i9,g9⟩:=field_at hf hxl (i:=9) (t:=4) (o:=9) (by kernel_rfl) ccBool
  obtain⟨y10,i10,g10⟩:=field_at hf hxl (i:=10) (t:=37) (o:=10) (by kernel_rfl) ccInts
  simp only [List.drop_succ_cons,List.drop_zero,List.take_succ_cons,List.take_zero]at g0 g1 g2 g3 g4 g5 g6 g7 g8 g9 g10
  obtain⟨s0,e0,d0,_⟩:=DataW.trod_string uuStr g0
  obtain⟨s1,e1,d1,_⟩:=DataW.trod_string uuStr g1
  obtain⟨s2,e2,d2,_⟩:=DataW.trod_string uuStr g2
  obtain⟨A,n,k,l,rfl,h2,h3,h4,h5,h6,h7,h8⟩:=open_rows uuStrs ccStr (by decide) (fun s:ByteArray=> [Value.string s]) (fun _=>rfl) (fun s d=>s.size∈d.weights Tryz.prog 9) (fun fuel cs x hx=>open_str1 hx) g3
  obtain⟨s4,e4,d4,_⟩:=DataW.trod_string uuStr g4
  obtain⟨s5,e5,d5,_⟩:=DataW.trod_string uuStr g5
  obtain⟨s6,e6,d6,_⟩:=DataW.trod_string uuStr g6
  obtain⟨n7,e7,_,_⟩:=DataW.trod_int uuInt g7
  obtain⟨B,bn,bk,bl,rfl,p2,p3,p4,p5,p6,p7,p8⟩:=open_rows uuIsss ccIss (by decide) (fun t:TA=>t.cells) (fun _=>rfl) (fun t d=>TokRead w t d) (fun fuel cs x hx=>open_tok hx) g8
  obtain⟨b9,e9,_⟩:=DataW.trod_bool uuBool g9
  obtain⟨C,cn,ck,cl,rfl,q2,q3,q4,q5,q6,q7,q8⟩:=open_nums uuInts uuInt ccInt g10
  simp only [List.cons.injEq,and_true]at e0 e1 e2 e4 e5 e6 e7 e9
  subst e0 e1 e2 e4 e5 e6 e7 e9 hx
  have w3:=fun m hm=>hw m (weights_field uuFam (i:=3) (t:=28) (o:=3) (by kernel_rfl) i3 m hm)
  have w8:=fun m hm=>hw m (weights_field uuFam (i:=8) (t:=36) (o:=8) (by kernel_rfl) i8 m hm)
  have w10:=fun m hm=>hw m (weights_field uuFam (i:=10) (t:=37) (o:=10) (by kernel_rfl) i10 m hm)
  refine⟨⟨⟨s0,s1,s2,l,s4,s5,s6,n7,bl.map (·.tok),b9,cl⟩,A,k,B,bk,bl,C,ck⟩,by rw [←h3,←p3,←q3];rfl,⟨rfl,⟨by rw [strCells_flat,←h3]at h2;exact h2,fun _=>by simp [Off]⟩,⟨by rw [←p3]at p2;exact p2,fun _=>by simp [Off]⟩,⟨by rw [←q3]at q2;exact q2,fun _=>by simp [Off]⟩,fun t ht=> ?_⟩,⟨?_,?_,?_,?_,?_,?_⟩⟩
  ·obtain⟨d,hd,hm⟩:=p7 t ht
   exact⟨hd.scope,fun _=>by simp [Off]⟩
  ·refine Nat.le_trans (hw _ (weights_field uuFam (i:=0) (t:=9) (o:=0) (by kernel_rfl) i0 _ ?_)) (by decide)
   subst d0
   simp [DataW.weights,Array.length_toList]
  ·simp only
   rcases Nat.eq_zero_or_pos n with h0 |h0
   ·omega
   ·obtain⟨m,hm,hb⟩:=h8 h0
    rw [bbStr]at hb
    have:=w3 m hm
    omega
  ·intro s hs
   obtain⟨d,hd,hm⟩:=h7 s hs
   exact Nat.le_trans (w3 _ (hm _ hd)) (by decide)
  ·simp only
   rcases Nat.eq_zero_or_pos bn with h0 |h0
   ·omega
   ·obtain⟨m,hm,hb⟩:=p8 h0
    have:=w8 m hm
    have:=Nat.le_trans (Nat.le_mul_of_pos_right bn bbIss) hb
    omega
  ·intro t ht
   obtain⟨d,hd,hm⟩:=p7 t ht
   refine⟨?_,fun s hs=>Nat.le_trans (w8 _ (hm _ (hd.each s hs))) (by decide)⟩
   rcases Nat.eq_zero_or_pos t.tok.scope.length with h0 |h0
   ·omega
   ·obtain⟨m,hm2,hb⟩:=hd.many h0
    have:=w8 m (hm m hm2)
    omega
  ·simp only
   rcases Nat.eq_zero_or_pos cn with h0 |h0
   ·omega
   ·obtain⟨m,hm,hb⟩:=q8 h0
    have:=w10 m hm
    have:=Nat.le_trans (Nat.le_mul_of_pos_right cn bbInt) hb
    omega
end
end Go.Proofs.YtdeoinjjphdbmaaGreat
