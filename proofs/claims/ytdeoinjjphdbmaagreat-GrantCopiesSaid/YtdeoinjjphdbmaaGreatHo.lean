/- From arguments that can be read as data to what the walks ask: commands. Conditions: none. -/
import Derived.Test.YtdeoinjjphdbmaaGreatOpen
import Derived.Test.YtdeoinjjphdbmaaGreatHm
namespace Go.Proofs.YtdeoinjjphdbmaaGreat
open Go.RowKit Go.Sig Go.ChangeShapes Go.WideShapes
theorem uuStr:Tryz.prog.underlying 9=some .string:=by kernel_rfl
theorem uuBool:Tryz.prog.underlying 4=some .bool:=by kernel_rfl
theorem uuInt:Tryz.prog.underlying 3=some (.int .i64):=by kernel_rfl
theorem uuStrs:Tryz.prog.underlying 28=some (.slice 9):=by kernel_rfl
theorem uuCmd:Tryz.prog.underlying 30=some (.struct (Tryz.prog.fieldsOf 30)):=by kernel_rfl
theorem uuCmds:Tryz.prog.underlying 22=some (.slice 30):=by kernel_rfl
theorem ccStr:Tryz.prog.cellsOf 9=1:=by kernel_rfl
theorem ccInt:Tryz.prog.cellsOf 3=1:=by kernel_rfl
theorem ccBool:Tryz.prog.cellsOf 4=1:=by kernel_rfl
theorem ccStrs:Tryz.prog.cellsOf 28=1:=by kernel_rfl
theorem ccCmd:Tryz.prog.cellsOf 30=13:=by kernel_rfl
theorem bbStr:Tryz.prog.bytesOf 9=16:=by kernel_rfl
theorem bbCmd:1≤Tryz.prog.bytesOf 30:=by decide+kernel
theorem strCells_flat:∀l:List ByteArray,l.flatMap (fun s=> [Value.string s])=strCells l
 | []=>rfl
 |s::l=>by rw [List.flatMap_cons,strCells_flat l];rfl
section
variable {H:Type}{enc:TypeId×Value→H}{w:World}{base:Nat}{spare:Nat→Bool}{held:Bool}
theorem open_str1 {fuel:Nat}{cs:List Value}{x:DataW H×List MemPlace}(h:DataW.trod enc Tryz.prog w base spare held fuel 9 cs=some x):∃s:ByteArray,cs= [.string s]∧s.size∈x.1.weights Tryz.prog 9:=by
 obtain⟨s,e,d,_⟩:=DataW.trod_string uuStr h
 exact⟨s,e,by rw [d];simp [DataW.weights,Array.length_toList]⟩
structure CmdRead (w:World) (x:CA) (d:DataW H):Prop where
 scope:Rd w 1 x.A x.c.scope.length (strCells x.c.scope)
 many:0<x.c.scope.length→∃m∈d.weights Tryz.prog 30,x.c.scope.length*16≤m
 each:∀s∈x.c.scope,s.size∈d.weights Tryz.prog 30
 family:x.c.family.size∈d.weights Tryz.prog 30
theorem CmdRead.cmd {x:CA}{d:DataW H}(h:CmdRead w x d) (hw:∀m∈d.weights Tryz.prog 30,m≤140737488351232):CmdIn w x.c x.A x.c.scope.length:=by
 refine⟨h.scope,rfl,?_,fun s hs=>Nat.le_trans (hw _ (h.each s hs)) (by decide),Nat.le_trans (hw _ h.family) (by decide)⟩
 rcases Nat.eq_zero_or_pos x.c.scope.length with h0 |h0
 ·omega
 ·obtain⟨m,hm,hb⟩:=h.many h0
  have:=hw m hm
  omega
set_option maxRecDepth 100000 in
set_option maxHeartbeats 1000000 in
theorem open_cmd {fuel:Nat}{cs:List Value}{x:DataW H×List MemPlace}(h:DataW.trod enc Tryz.prog w base spare held fuel 30 cs=some x):∃y:CA,cs=y.cells.toList∧CmdRead w y x.1:=by
 obtain⟨xs,n,_,hx,hlen,hxl,hf⟩:=DataW.trod_struct uuCmd h
 rw [ccCmd]at hlen
 match cs,hlen with
 | [v0,v1,v2,v3,v4,v5,v6,v7,v8,v9,v10,v11,v12],_=>
  obtain⟨y0,i0,g0⟩:=field_at hf hxl (i:=0) (t:=3) (o:=0) (by kernel_rfl) ccInt
  obtain⟨y1,i1,g1⟩:=field_at hf hxl (i:=1) (t:=9) (o:=1) (by kernel_rfl) ccStr
  obtain⟨y2,i2,g2⟩:=field_at hf hxl (i:=2) (t:=3) (o:=2) (by kernel_rfl) ccInt
  obtain⟨y3,i3,g3⟩:=field_at hf hxl (i:=3) (t:=3) (o:=3) (by kernel_rfl) ccInt
  obtain⟨y4,i4,g4⟩:=field_at hf hxl (i:=4) (t:=9) (o:=4) (by kernel_rfl) ccStr
  obtain⟨y5,i5,g5⟩:=field_at hf hxl (i:=5) (t:=9) (o:=5) (by kernel_rfl) ccStr
  obtain⟨y6,i6,g6⟩:=field_at hf hxl (i:=6) (t:=28) (o:=6) (by kernel_rfl) ccStrs
  obtain⟨y7,i7,g7⟩:=field_at hf hxl (i:=7) (t:=9) (o:=7) (by kernel_rfl) ccStr
  obtain⟨y8,i8,g8⟩:=field_at hf hxl (i:=8) (t:=9) (o:=8) (by kernel_rfl) ccStr
  obtain⟨y9,i9,g9⟩:=field_at hf hxl (i:=9) (t:=9) (o:=9) (by kernel_rfl) ccStr
  obtain⟨y10,i10,g10⟩:=field_at hf hxl (i:=10) (t:=9) (o:=10) (by kernel_rfl) ccStr
  obtain⟨y11,i11,g11⟩:=field_at hf hxl (i:=11) (t:=4) (o:=11) (by kernel_rfl) ccBool
  obtain⟨y12,i12,g12⟩:=field_at hf hxl (i:=12) (t:=3) (o:=12) (by kernel_rfl) ccInt
  simp only [List.drop_succ_cons,List.drop_zero,List.take_succ_cons,List.take_zero]at g0 g1 g2 g3 g4 g5 g6 g7 g8 g9 g10 g11 g12
  obtain⟨n0,e0,_,_⟩:=DataW.trod_int uuInt g0
  obtain⟨s1,e1,d1,_⟩:=DataW.trod_string uuStr g1
  obtain⟨n2,e2,_,_⟩:=DataW.trod_int uuInt g2
  obtain⟨n3,e3,_,_⟩:=DataW.trod_int uuInt g3
  obtain⟨s4,e4,d4,_⟩:=DataW.trod_string uuStr g4
  obtain⟨s5,e5,d5,_⟩:=DataW.trod_string uuStr g5
  obtain⟨A,n,k,l,rfl,h2,h3,h4,h5,h6,h7,h8⟩:=open_rows uuStrs ccStr (by decide) (fun s:ByteArray=> [Value.string s]) (fun _=>rfl) (fun s d=>s.size∈d.weights Tryz.prog 9) (fun fuel cs x hx=>open_str1 hx) g6
  obtain⟨s7,e7,d7,_⟩:=DataW.trod_string uuStr g7
  obtain⟨s8,e8,d8,_⟩:=DataW.trod_string uuStr g8
  obtain⟨s9,e9,d9,_⟩:=DataW.trod_string uuStr g9
  obtain⟨s10,e10,d10,_⟩:=DataW.trod_string uuStr g10
  obtain⟨b11,e11,_⟩:=DataW.trod_bool uuBool g11
  obtain⟨n12,e12,_,_⟩:=DataW.trod_int uuInt g12
  simp only [List.cons.injEq,and_true]at e0 e1 e2 e3 e4 e5 e7 e8 e9 e10 e11 e12
  subst e0 e1 e2 e3 e4 e5 e7 e8 e9 e10 e11 e12 hx
  refine⟨⟨⟨n0,s1,n2,n3,s4,s5,l,s7,s8,s9,s10,b11,n12⟩,A,k⟩,?_,?_,?_,?_,?_⟩
  ·rw [←h3];rfl
  ·rw [strCells_flat,←h3]at h2
   exact h2
  ·intro h0
   obtain⟨m,hm,hb⟩:=h8 (by rw [←h3];exact h0)
   rw [bbStr,←h3]at hb
   exact⟨m,weights_field uuCmd (i:=6) (t:=28) (o:=6) (by kernel_rfl) i6 m hm,hb⟩
  ·intro s hs
   obtain⟨d,hd,hm⟩:=h7 s hs
   exact weights_field uuCmd (i:=6) (t:=28) (o:=6) (by kernel_rfl) i6 _ (hm _ hd)
  ·subst d1
   exact weights_field uuCmd (i:=1) (t:=9) (o:=1) (by kernel_rfl) i1 _ (by simp [DataW.weights,Array.length_toList])
theorem open_cmds {fuel:Nat}{v:Value}{x:DataW H×List MemPlace}(h:DataW.trod enc Tryz.prog w base spare held fuel 22 [v]=some x) (hw:∀m∈x.1.weights Tryz.prog 22,m≤140737488351232):
  ∃A n c,∃l:List CA,v= .slice A n c∧CmdsIn w A n l:=by
 obtain⟨A,n,c,l,h1,h2,h3,h4,h5,h6,h7,h8⟩:=open_rows uuCmds ccCmd (by decide) (fun y:CA=>y.cells.toList) (fun _=>rfl) (fun y d=>CmdRead w y d) (fun fuel cs x hx=>open_cmd hx) h
 refine⟨A,n,c,l,h1,h2,h3,?_,fun s hs=> ?_⟩
 ·rcases Nat.eq_zero_or_pos n with h0 |h0
  ·omega
  ·obtain⟨m,hm,hb⟩:=h8 h0
   have:=hw m hm
   have:=Nat.le_trans (Nat.le_mul_of_pos_right n bbCmd) hb
   omega
 ·obtain⟨d,hd,hm⟩:=h7 s hs
  exact hd.cmd fun m hm2=>hw m (hm m hm2)
end
theorem CmdRead.len {H:Type}{w:World}{x:CA}{d:DataW H}(h:CmdRead w x d) (hw:∀m∈d.weights Tryz.prog 30,m≤140737488351232):x.c.scope.length≤8796093022208:=by
 rcases Nat.eq_zero_or_pos x.c.scope.length with h0 |h0
 ·omega
 ·obtain⟨m,hm,hb⟩:=h.many h0
  have:=hw m hm
  omega
section
variable {H:Type}{enc:TypeId×Value→H}{w:World}{base:Nat}{spare:Nat→Bool}{held:Bool}
theorem open_cmds2 {fuel:Nat}{v:Value}{x:DataW H×List MemPlace}(h:DataW.trod enc Tryz.prog w base spare held fuel 22 [v]=some x) (hw:∀m∈x.1.weights Tryz.prog 22,m≤140737488351232):
  ∃A n c,∃l:List CA,v= .slice A n c∧CmdsIn w A n l∧∀y∈l,y.c.scope.length≤8796093022208:=by
 obtain⟨A,n,c,l,h1,h2,h3,h4,h5,h6,h7,h8⟩:=open_rows uuCmds ccCmd (by decide) (fun y:CA=>y.cells.toList) (fun _=>rfl) (fun y d=>CmdRead w y d) (fun fuel cs x hx=>open_cmd hx) h
 refine⟨A,n,c,l,h1,⟨h2,h3,?_,fun s hs=> ?_⟩,fun s hs=>by
  obtain⟨d,hd,hm⟩:=h7 s hs
  exact hd.len fun m hm2=>hw m (hm m hm2)⟩
 ·rcases Nat.eq_zero_or_pos n with h0 |h0
  ·omega
  ·obtain⟨m,hm,hb⟩:=h8 h0
   have:=hw m hm
   have:=Nat.le_trans (Nat.le_mul_of_pos_right n bbCmd) hb
   omega
 ·obtain⟨d,hd,hm⟩:=h7 s hs
  exact hd.cmd fun m hm2=>hw m (hm m hm2)
end
end Go.Proofs.YtdeoinjjphdbmaaGreat
