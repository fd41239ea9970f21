/- Walks: Peek of a token. Conditions: each theorem's own. -/
import Derived.Test.YtopfcgpeaaehgaaGreatDoorAw
namespace Go.Proofs.YtopfcgpeaaehgaaGreatDoor
open Go.RowKit Go.Sig
theorem results_ce {P:Program}{fn:Func}{p q:Tmp}{ty tz:TypeId}(h:fn.results=#[.cell p ty,.cell q tz]) (tmps:Array Value) (w:World) (g g2:Nat) (t t2:TypeId) (cs:Array Value) (d:TypeDesc) {v:Value}
  (hp:tmps.getD p undef= .pointer (some ⟨g,0,none⟩)) (hg:w.heap[g]? =some (.cells cs t (0,0)))
  (hu:P.underlying ty=some d) (hd:(match d with | .struct _ | .array _ _=>true |_=>false)=true) (hi:(P.info? ty).map (·.size)=some cs.size)
  (hq:tmps.getD q undef= .pointer (some ⟨g2,0,none⟩)) (hl:(loadVar tz ⟨g2,0,none⟩).run P w= .ok v w):
  (results fn tmps).run P w= .ok (.tuple #[.agg cs,v]) w:=by
 have hp':tmps[p]?.getD undef= .pointer (some ⟨g,0,none⟩):=by simpa using hp
 have hq':tmps[q]?.getD undef= .pointer (some ⟨g2,0,none⟩):=by simpa using hq
 simp [results,h,hp',hq',asAddr,run_loadVar_row w g t ty cs (0,0) d hg hu hd hi,hl]
def PeekPost (w:World) (r:Option GTk) (e:Ending) (w':World):Prop:=
 (match r with
 |none=>∃t:GTk,e= .returned (.tuple #[.agg (tkCells t),.int .i64 3])
 |some t=>e= .returned (.tuple #[.agg (tkCells t),.int .i64 0]))∧Fr [] w w'
structure PkAt (w W:World) (g1 g2 g3:Nat) (s:ByteArray):Prop where
 h1:Blk W g1 9 #[.string s]
 h2:∃zs:Array Value,zs.size=3∧Blk W g2 47 zs
 h3:∃y,Blk W g3 30 #[y]
 fr:Fr [] w W
theorem leaves_congr {P:Program}{fn:Func}{t1 t2:Array Value}{R:Ending→World→Prop}(h:results fn t1=results fn t2):∀(ds:List Deferred) (u:FrameMode) (w:World),Leaves P fn t1 R ds u w→Leaves P fn t2 R ds u w
 | [],.returning,w,hL=>by unfold Leaves at hL⊢;rw [←h];exact hL
 | [],.panicking _,w,hL=>hL
 | [],.run,w,hL=>hL
 |d::ds,u,w,⟨hu,fv,cap,f,args,e1,e2,hc⟩=>⟨hu,fv,cap,f,args,e1,e2,hc.mono fun e u' w' hL=>by
  cases e with
  |returned v=>exact leaves_congr h ds _ _ hL
  |panicked c=>exact leaves_congr h ds _ _ hL
  |outgrown=>exact hL⟩
theorem peek_put {a:Act}{i:Nat}{v:Value}{R:Ending→World→Prop}{c:List PanicEntry}{w:World}(h2:i≠2) (h3:i≠3) (h:bodyPostD Tryz.prog Tryz.f46 R (.panic c) (a.put (some i) v) w):bodyPostD Tryz.prog Tryz.f46 R (.panic c) a w:=by
 refine leaves_congr ?_ _ _ _ h;have e2:(a.put (some i) v).tmps[2]?.getD undef=a.tmps[2]?.getD undef:=by simp [Act.put,Array.getElem?_setIfInBounds,h2]
 have e3:(a.put (some i) v).tmps[3]?.getD undef=a.tmps[3]?.getD undef:=by simp [Act.put,Array.getElem?_setIfInBounds,h3]
 have hr:Tryz.f46.results=#[.cell 2 47,.cell 3 30]:=rfl;simp only [results,hr];simp [e2,e3]
theorem loadErr {w:World}{g:Nat}{v:Value}(h:Blk w g 30 #[v]):(loadVar 30 ⟨g,0,none⟩).run Tryz.prog w= .ok v w:=by
 have hc:=h.cell 0;simp only [zG,zH]at hc;simp [go_sem,hc]
theorem peek_fail {w W:World}{g1 g2 g3:Nat}{s:ByteArray}(hP:PkAt w W g1 g2 g3 s) (hg:w.heap.size≤g1∧g1<g2∧g2<g3) (tmps:Array Value) (t2:tmps.getD 2 undef= .pointer (some ⟨g2,0,none⟩)) (t3:tmps.getD 3 undef= .pointer (some ⟨g3,0,none⟩)):
  bodyPostD Tryz.prog Tryz.f46 (PeekPost w none) (.panic [{v:=spoiltV,recovered:=false}]) {tmps:=tmps,defers:= [{target:= .fn (.func 92) #[.pointer (some ⟨g2,0,none⟩),.pointer (some ⟨g3,0,none⟩)],args:=#[]}]} W:=by
 obtain⟨h1,⟨zs,hz,h2⟩,⟨y,h3⟩,fr⟩:=hP;show Leaves _ _ _ _ _ _ _;refine leaves_cons (f:=92) (args:=#[.pointer (some ⟨g2,0,none⟩),.pointer (some ⟨g3,0,none⟩)]) (by simp) (by simp [go_sem]) ?_;refine(peekA_catch W g2 g3 zs hz y h2 h3 (by omega) []).mono ?_;rintro e u' w'' ⟨rfl,rfl,hE,⟨t,hB⟩,hF⟩;have hres:=results_ce (P:=Tryz.prog) (fn:=Tryz.f46) (p:=2) (q:=3) rfl tmps w'' g2 g3 47 47 (tkCells t) _ t2 hB uTk rfl (infoTk t) t3 (loadErr hE);exact⟨_,hres,⟨t,rfl⟩,fr.andThen hF (fun i hi=> .inr (by simp at hi;omega))⟩
theorem peek_well {w W:World}{g2 g3:Nat}{t:GTk}(h2:Blk W g2 47 (tkCells t)) (h3:Blk W g3 30 #[.int .i64 0]) (fr:Fr [] w W) (tmps:Array Value) (t2:tmps.getD 2 undef= .pointer (some ⟨g2,0,none⟩)) (t3:tmps.getD 3 undef= .pointer (some ⟨g3,0,none⟩)):
  bodyPostD Tryz.prog Tryz.f46 (PeekPost w (some t)) .ret {tmps:=tmps,defers:= [{target:= .fn (.func 92) #[.pointer (some ⟨g2,0,none⟩),.pointer (some ⟨g3,0,none⟩)],args:=#[]}]} W:=by
 show Leaves _ _ _ _ _ _ _;refine leaves_cons (f:=92) (args:=#[.pointer (some ⟨g2,0,none⟩),.pointer (some ⟨g3,0,none⟩)]) (by simp) (by simp [go_sem]) ?_;refine(peekA_idle W _ _).mono ?_;rintro e u' w'' ⟨rfl,rfl,rfl⟩;have hres:=results_ce (P:=Tryz.prog) (fn:=Tryz.f46) (p:=2) (q:=3) rfl tmps w'' g2 g3 47 47 (tkCells t) _ t2 h2 uTk rfl (infoTk t) t3 (loadErr h3);exact⟨_,hres,rfl,fr⟩
theorem PkAt.fr0 {w W W':World}{g1 g2 g3:Nat}{s:ByteArray}(h:PkAt w W g1 g2 g3 s) (hF:Fr [] W W'):PkAt w W' g1 g2 g3 s:=
 ⟨h.h1.fr hF (by simp),h.h2.imp fun _ h=>⟨h.1,h.2.fr hF (by simp)⟩,h.h3.imp fun _ h=>h.fr hF (by simp),h.fr.trans hF⟩
theorem cutL_parts {c:UInt8}{l a b:List UInt8}(h:cutL c l=(a,b,true)):l=a++c::b:=by
 by_cases hm:c∈l
 ·have:=(cutL_eq.1 hm).1;rw [h]at this;exact this
 ·rw [cutL_no hm]at h;simp at h
theorem kind_k {x:UInt8}{k:Int}(h:Lib.index (⟨#[63,99,97,114]⟩:ByteArray).data.toList [x]=k):(1≤k→kindL [x]=k∧k≤3∧kindB k=x)∧(¬1≤k→kindL [x]=0):=by
 rw [show(⟨#[63,99,97,114]⟩:ByteArray).data.toList= [63,99,97,114]from rfl,Lib.index_one]at h;unfold Lib.indexByte Lib.indexByte Lib.indexByte Lib.indexByte Lib.indexByte at h;by_cases h0:x=63
 ·subst h0;have hk:k=0:=by rw [←h];rfl
  subst hk;exact⟨fun h=>by omega,fun _=>rfl⟩
 by_cases h1:x=99
 ·subst h1;have hk:k=1:=by rw [←h];rfl
  subst hk;exact⟨fun _=>⟨rfl,by decide,rfl⟩,fun h=>by omega⟩
 by_cases h2:x=97
 ·subst h2;have hk:k=2:=by rw [←h];rfl
  subst hk;exact⟨fun _=>⟨rfl,by decide,rfl⟩,fun h=>by omega⟩
 by_cases h3:x=114
 ·subst h3;have hk:k=3:=by rw [←h];rfl
  subst hk;exact⟨fun _=>⟨rfl,by decide,rfl⟩,fun h=>by omega⟩
 have hk:k= -1:=by rw [←h];simp [Ne.symm h0,Ne.symm h1,Ne.symm h2,Ne.symm h3]
 subst hk;refine⟨fun h=>by omega,fun _=> ?_⟩;unfold kindL;simp [h1,h2,h3]
theorem peek_same {s a1 a2 b1 b2 d1 d2:List UInt8}{k:Int}{n:Nat}(ha:cutL 46 s=(a1,a2,true)) (hb:cutL 46 a2=(b1,b2,true)) (hd:cutL 46 b2=(d1,d2,true)) (hk:a1= [kindB k]):headL ⟨k,bA b1,n⟩++d2=s↔Lib.decDigits n=d1:=by
 have e1:=(cutL_parts ha).symm;have e2:=(cutL_parts hb).symm;have e3:=(cutL_parts hd).symm;rw [←e1,←e2,←e3,hk];unfold headL;rw [show(bA b1).data.toList=b1 from rfl];constructor
 ·intro h;have h2:Lib.decDigits n++(46::d2)=d1++(46::d2):=by simpa using h
  exact List.append_cancel_right h2
 ·rintro rfl;simp
theorem numL_ok {d1:List UInt8}{v:Int}(h:Lib.atoiAll d1= .ok v):numL d1=if 0≤v∧v≤1099511627776∧Lib.decDigits v.toNat=d1 then some v.toNat else none:=by
 unfold numL;rw [h]
theorem peek_bad {x:UInt8}{k v:Int}{b1 d1:List UInt8}(hk:(1≤k→kindL [x]=k∧k≤3∧kindB k=x)∧(¬1≤k→kindL [x]=0)) (h:Lib.atoiAll d1= .ok v) (hq:rightT k (bA b1) v=false) (n:Nat) (hn:numL d1=some n):tkOk ⟨kindL [x],bA b1,n⟩=false:=by
 rw [numL_ok h]at hn;by_cases hc:0≤v∧v≤1099511627776∧Lib.decDigits v.toNat=d1
 ·rw [if_pos hc]at hn;injection hn with hn
  subst hn;by_cases hk1:1≤k
  ·rw [(hk.1 hk1).1,←rightT_tk];show rightT k (bA b1) (v.toNat:Int)=false;rw [Int.toNat_of_nonneg hc.1];exact hq
  ·rw [hk.2 hk1];unfold tkOk;simp
 ·rw [if_neg hc]at hn;cases hn
def AtoiPost (w:World) (l:List UInt8) (e:Ending) (w':World):Prop:=
 (∃(v:Int) (x:Value),e= .returned (.tuple #[.int .i64 v,x])∧((x= .nilIface∧Lib.atoiAll l= .ok v)∨(∃p,x= .iface 204 p)∧∀v,Lib.atoiAll l≠ .ok v))∧Fr [] w w'
theorem atoi_t (w:World) (s:ByteArray) (hs:s.size≤140737488351232) (ev1 ev2:Value) (hv1:w.cell? ⟨1,0,none⟩=some ev1) (hv2:w.cell? ⟨2,0,none⟩=some ev2) (he1:ev1= .nilIface∨∃te pe,ev1= .iface te pe) (he2:ev2= .nilIface∨∃te pe,ev2= .iface te pe):
  Calls Tryz.prog 95 #[.string s] w (AtoiPost w s.data.toList):=by
 rcases h:Lib.atoiAll s.data.toList with v |_ |_
 ·refine(Tryz.strconv_Atoi_ok s (by omega) v h w).mono ?_;rintro e w' ⟨rfl,hw⟩;refine⟨⟨v,_,rfl,.inl ⟨rfl,h⟩⟩,?_⟩;rcases hw with rfl | ⟨t,rfl⟩
  ·exact Fr.refl _ _
  ·exact Fr.of_below (Lib.bytesWorld_below w 5 t)
 ·refine(Tryz.strconv_Atoi_syntax s (by omega) (h.trans rfl) ev1 w hv1 he1).mono ?_;rintro e w' ⟨N,rfl,_,_,hb⟩;exact⟨⟨0,_,rfl,.inr ⟨⟨_,rfl⟩,fun v e=>(by rw [h]at e;cases e)⟩⟩,Fr.of_below hb⟩
 ·refine(Tryz.strconv_Atoi_range s (by omega) h ev2 w hv2 he2).mono ?_;rintro e w' ⟨N,rfl,_,_,hb⟩;exact⟨⟨_,_,rfl,.inr ⟨⟨_,rfl⟩,fun v e=>(by rw [h]at e;cases e)⟩⟩,Fr.of_below hb⟩
theorem PkAt.part {w W W':World}{g1 g2 g3:Nat}{s s':ByteArray}(h:PkAt w W g1 g2 g3 s) (hg:w.heap.size≤g1∧g1<g2∧g2<g3) (hB:Blk W' g1 9 #[.string s']) (hF:Fr [g1] W W'):PkAt w W' g1 g2 g3 s':=
 ⟨hB,h.h2.imp fun _ h=>⟨h.1,h.2.fr hF (by simp;omega)⟩,h.h3.imp fun _ h=>h.fr hF (by simp;omega),h.fr.andThen hF (fun i hi=> .inr (by simp at hi;omega))⟩
theorem PkAt.tok {w W:World}{g1 g2 g3:Nat}{s:ByteArray}(h:PkAt w W g1 g2 g3 s) (hg:w.heap.size≤g1∧g1<g2∧g2<g3) (cs:Array Value) (hc:cs.size=3):PkAt w (W.setRow g2 cs) g1 g2 g3 s:=
 ⟨h.h1.farRow (by omega) _,⟨cs,hc,by obtain⟨zs,_,h2⟩:=h.h2;exact h2.setRow _⟩,h.h3.imp fun _ h=>h.farRow (by omega) _,h.fr.setRow (.inr (by omega)) _⟩
set_option maxRecDepth 100000 in
set_option maxHeartbeats 4000000 in
theorem peek_t (w:World) (s:ByteArray) (hs:s.size≤140737488351232) (m:Int) (hm:w.cell? ⟨0,0,none⟩=some (.int .i64 m)) (ev1 ev2:Value) (hv1:w.cell? ⟨1,0,none⟩=some ev1) (hv2:w.cell? ⟨2,0,none⟩=some ev2) (he1:ev1= .nilIface∨∃te pe,ev1= .iface te pe) (he2:ev2= .nilIface∨∃te pe,ev2= .iface te pe) (htab:TabP w):Calls Tryz.prog 46 #[.string s] w (PeekPost w (peekM s.data.toList)):=by
 obtain⟨⟨a1,a2,aq⟩,ha⟩:∃z,Hid (cutL 46 s.data.toList=z):=⟨_,zh rfl⟩
 obtain⟨⟨b1,b2,bq⟩,hb⟩:∃z,Hid (cutL 46 a2=z):=⟨_,zh rfl⟩
 obtain⟨⟨d1,d2,dq⟩,hd⟩:∃z,Hid (cutL 46 b2=z):=⟨_,zh rfl⟩
 obtain⟨res,hres⟩:∃z,Hid (peekM s.data.toList=z):=⟨_,zh rfl⟩
 have hr:Hid (res=if aq=true∧bq=true∧dq=true then match numL d1 with
   |none=>none
   |some n=>if tkOk ⟨kindL a1,bA b1,n⟩=true∧d2.length=16∧d2.all signB=true then some ⟨kindL a1,bA b1,n⟩else none
  else none):=zh (by rw [←hres.o];unfold peekM;dsimp only;rw [ha.o];dsimp only;rw [hb.o];dsimp only;rw [hd.o];rfl)
 have hl2:a2.length≤s.size:=by have:=(cutL_len (c:=46) s.data.toList).2.1;rw [ha.o]at this;have h3:s.data.toList.length=s.size:=Array.length_toList;dsimp only at this;omega
 have hl3:b2.length≤s.size:=by have:=(cutL_len (c:=46) a2).2.1;rw [hb.o]at this;dsimp only at this;omega
 have hb1l:Hid (b1.length≤140737488351232):=zh (by have:=(cutL_len (c:=46) a2).1;rw [hb.o]at this;dsimp only at this;omega);have hd2l:Hid (d2.length≤140737488351232):=zh (by have:=(cutL_len (c:=46) b2).2.1;rw [hd.o]at this;dsimp only at this;omega);have htabh:=zh htab;rw [hres.o];have hmh:=zh hm;have hat:=zh (fun V (hF:Fr [] w V)=>atoi_t V (bA d1) (by rw [bA_size];have:=(cutL_len (c:=46) b2).1;rw [hd.o]at this;dsimp only at this;omega) ev1 ev2 (cell_fr hF hv1) (cell_fr hF hv2) he1 he2);have hix:=fun V (hF:Fr [] w V)=>Tryz.strings_Index ⟨#[63,99,97,114]⟩ (bA a1) m V (by decide) (cell_fr hF hmh.o);clear hm hv1 hv2 he1 he2 htab;have hmf:∀(fn:Fn) (first cap:Array Value) (w:World),(Instr.makeFunc fn first cap).run Tryz.prog w= .ok (.func fn first cap) w:=fun _ _ _ _=>rfl
 go_enter_defers Tryz.func46,Tryz.ntmps46
 go_upto_region 1 with(fail)
 refine wp_gen (fun W=>PkAt w W w.heap.size (w.heap.size+1) (w.heap.size+2) s) ⟨((Blk.new _ _ _).alloc _).alloc _,⟨_,rfl,(Blk.new' _ _ (by simp)).alloc _⟩,⟨_,Blk.new' _ _ (by simp)⟩,(((Fr.refl _ _).alloc _).alloc _).alloc _⟩ ?_;rintro W hP;obtain⟨g3,H3⟩:∃z,Hid (w.heap.size+2=z):=⟨_,zh rfl⟩
 obtain⟨g2,H2⟩:∃z,Hid (w.heap.size+1=z):=⟨_,zh rfl⟩
 obtain⟨g1,H1⟩:∃z,Hid (w.heap.size=z):=⟨_,zh rfl⟩
 rw [H3.o,H2.o,H1.o]at hP⊢;have hw:Hid (w.heap.size≤g1∧g1<g2∧g2<g3):=zh (by have:=H1.o;have:=H2.o;have:=H3.o;omega);have c1:=hP.h1.cell 0;simp only [zG,zH]at c1;have hl1:=hP.h1.lt;have hPh:=zh hP;clear hP H1 H2 H3;cases aq with
 |false=>
  have hr2:Hid (res=none):=zh (by rw [hr.o];simp);have hp:=part_no W g1 s hs hPh.o.h1 (by rw [ha.o]);clear hix;go_wp2_with (go_at_call 93;refine hp.mono ?_;clear hp;rintro e W2 ⟨rfl,F2⟩)
  rw [hr2.o];exact peek_fail (hPh.o.fr0 F2) hw.o _ rfl rfl
 |true=>
 have hp:=part_ok W g1 s hs hPh.o.h1 ha.o;go_upto_region 4 with(go_at_call 93;refine hp.mono ?_;clear hp;rintro e W2 ⟨rfl,hB2,F2⟩)
 have hP2:=zh (hPh.o.part hw.o hB2 F2);have hix2:=hix W2 hP2.o.fr;have hbl2:(bA a2).data.toList=a2:=rfl;have hsz2:(bA a2).size≤140737488351232:=by rw [bA_size];omega
 obtain⟨k,hk⟩:∃z,Hid (Lib.index (⟨#[63,99,97,114]⟩:ByteArray).data.toList (bA a1).data.toList=z):=⟨_,zh rfl⟩
 rw [hk.o]at hix2;clear hix hPh hB2 F2 c1 hl1;cases bq with
 |false=>
  have hr2:Hid (res=none):=zh (by rw [hr.o];simp);have hp:=part_no W2 g1 (bA a2) hsz2 hP2.o.h1 (by rw [hbl2,hb.o]);go_wp2_with (first
   | (go_at_call 94;refine hix2.mono ?_;clear hix2;rintro e W2' ⟨rfl,rfl⟩)
   | (go_at_call 93;refine hp.mono ?_;clear hp;rintro e W3 ⟨rfl,F3⟩))
  rw [hr2.o];exact peek_fail (hP2.o.fr0 F3) hw.o _ rfl rfl
 |true=>
 have hp:=part_ok W2 g1 (bA a2) hsz2 hP2.o.h1 (by rw [hbl2];exact hb.o);have hzz:∃zs:Array Value,zs.size=3∧Hid (Blk W2 g2 47 zs):=hP2.o.h2.imp fun _ h=>⟨h.1,zh h.2⟩
 obtain⟨zs,hzs,hT2⟩:=hzz;go_upto_region 5 with(first
   | (go_at_call 94;refine hix2.mono ?_;clear hix2;rintro e W2' ⟨rfl,rfl⟩)
   | (go_at_call 93;refine hp.mono ?_;clear hp;rintro e W3 ⟨rfl,hB3,F3⟩;have hP3:=zh (hP2.o.part hw.o hB3 F3);have hT3:=hT2.o.fr F3 (by have:=hw.o;simp;omega);clear hB3 F3 hP2 hT2)
   | (refine wpList_store_row rfl 47 _ _ rfl g2 #[.int .i64 k,.string (bA b1),.int .i64 0] rfl rfl 47 zs hT3 (infoTk ⟨0,nilB,0⟩) (by rw [hzs];rfl) (by simp [Value.oneCell']) ?_))
 refine wp_gen (fun V=>PkAt w V g1 g2 g3 (bA b2)∧Blk V g2 47 #[.int .i64 k,.string (bA b1),.int .i64 0]) ⟨hP3.o.tok hw.o _ rfl,hT3.setRow _⟩ ?_;rintro V3 ⟨hP4,hT4⟩;have hP4:=zh hP4;have hT4:=zh hT4;have hbl3:(bA b2).data.toList=b2:=rfl;have hsz3:(bA b2).size≤140737488351232:=by rw [bA_size];omega
 have hbl4:(bA d1).data.toList=d1:=rfl;rw [hbl4]at hat;clear hP3 hT3 hsz2 hbl2 hl2 hzs hbl4;cases dq with
 |false=>
  have hr2:Hid (res=none):=zh (by rw [hr.o];simp);have hp:=part_no V3 g1 (bA b2) hsz3 hP4.o.h1 (by rw [hbl3,hd.o]);go_wp2_with (go_at_call 93;refine hp.mono ?_;clear hp;rintro e W3 ⟨rfl,F3⟩)
  rw [hr2.o];exact peek_fail (hP4.o.fr0 F3) hw.o _ rfl rfl
 |true=>
 have hp:=part_ok V3 g1 (bA b2) hsz3 hP4.o.h1 (by rw [hbl3];exact hd.o);go_upto_region 6 with(first
   | (go_at_call 93;refine hp.mono ?_;clear hp;rintro e W4 ⟨rfl,hB4,F4⟩;have hP5:=zh (hP4.o.part hw.o hB4 F4);have hT5:=zh (hT4.o.fr F4 (by have:=hw.o;simp;omega));clear hB4 F4 hP4 hT4;have ha4:=hat.o W4 hP5.o.fr)
   | (go_at_call 95;refine ha4.mono ?_;clear ha4;rintro e W5 ⟨⟨v,x,rfl,hv⟩,F5⟩))
 have hP6:=zh (hP5.o.fr0 F5);have hT6:=hT5.o.fr F5 (by simp);have q2:=hT6.cell 2;have z2:=hT6.frozen 2;have l2:=hT6.lt;simp only [zG,zH,zI]at q2;have hT6h:=zh hT6;have hvh:=zh hv;clear hP5 hT5 F5 hT6 hv hsz3 hbl3;go_upto_region 7 with(fail)
 refine wp_gen (fun V=>PkAt w V g1 g2 g3 (bA d2)∧Blk V g2 47 #[.int .i64 k,.string (bA b1),.int .i64 v]) ⟨?_,by simpa using hT6h.o.set 2 (.int .i64 v)⟩ ?_
 ·exact⟨hP6.o.h1.far (by have:=hw.o;simp;omega) _,⟨_,rfl,by simpa using hT6h.o.set 2 (.int .i64 v)⟩,hP6.o.h3.imp fun _ h=>h.far (by have:=hw.o;simp;omega) _,hP6.o.fr.setCell (.inr (by have:=hw.o;simp;omega)) _⟩
 rintro V7 ⟨hP7,hT7⟩;have hP7:=zh hP7;have hT7h:=zh hT7;clear hP6 hT6h q2 z2 l2;have hasz:=bA_size a1;by_cases h1:a1.length=1
 ·have h1b:(((bA a1).size:Int) !=1)=false:=by rw [bA_size,h1];rfl
  rcases hvh.o with⟨rfl,hok⟩ | ⟨⟨p,rfl⟩,hno⟩
  ·obtain⟨x,hx⟩:∃x,a1= [x]:=List.length_eq_one_iff.1 h1;have hkk:=kind_k (x:=x) (k:=k) (by rw [←hx];exact hk.o);rw [←hx]at hkk;have hkkh:=zh hkk;have hxh:=zh hx;have hokh:=zh hok;have e1:=hP7.o.h1.cell 0;simp only [zG,zH]at e1;have e2:V7.rangeAt g2 0 [.int .i64 k,.string (bA b1),.int .i64 v]:=range_cells hT7;have hF7:=hP7.o.fr;have hl1:=hP7.o.h1.lt;have hl2:=hT7.lt;obtain⟨q,hq⟩:∃z,Hid (rightT k (bA b1) v=z):=⟨_,zh rfl⟩
   have hri:∀V,Fr [] w V→Calls Tryz.prog 31 #[.agg #[.int .i64 k,.string (bA b1),.int .i64 v]] V fun e w'=>e= .returned (.bool q)∧Fr [] V w':=fun V _=>by rw [←hq.o];exact sright_t V k v (bA b1) (by rw [bA_size];have:=hb1l.o;omega)
   have hdi:Lib.atoiAll d1= .ok v:=hok;clear hkk hx hok hasz hT7;cases q with
   |false=>
    have hr2:Hid (res=none):=zh (by
     rw [hr.o];cases hn:numL d1 with
     |none=>simp
     |some n=>
      have:=peek_bad (x:=x) (by rw [←hxh.o];exact hkkh.o) hdi hq.o n hn;rw [←hxh.o]at this;simp [this])
    clear hr h1 hdi;refine wp_region_z (fun u=>u.cell? ⟨g1,0,none⟩=some (.string (bA d2))∧u.rangeAt g2 0 [.int .i64 k,.string (bA b1),.int .i64 v]) [] (by kernel_rfl) ⟨e1,e2⟩ ?_;intro hHeld;refine wpZ_take (i:=0) (v:= ?_) rfl (by kernel_rfl) (by kernel_rfl) (by kernel_rfl) (by kernel_rfl) (fun _ _ _ h=>peek_put (by decide) (by decide) h) (Or.inl ⟨by rfl,?_⟩) hHeld ?_;rotate_left
    ·(intro w hSw;go_simp<;>with_reducible rfl)
    try simp only [zA,zB,zC,Act.put,zD,zE,zF]
    refine wpZ_take (i:=1) (v:= ?_) rfl (by kernel_rfl) (by kernel_rfl) (by kernel_rfl) (by kernel_rfl) (fun _ _ _ h=>peek_put (by decide) (by decide) h) (Or.inl ⟨by rfl,?_⟩) hHeld ?_;rotate_left
    ·(intro w hSw;go_simp<;>with_reducible rfl)
    try simp only [zA,zB,zC,Act.put,zD,zE,zF]
    refine wpZ_take (i:=2) (v:= ?_) rfl (by kernel_rfl) (by kernel_rfl) (by kernel_rfl) (by kernel_rfl) (fun _ _ _ h=>peek_put (by decide) (by decide) h) (Or.inl ⟨by rfl,?_⟩) hHeld ?_;rotate_left
    ·(intro w hSw;go_simp<;>with_reducible rfl)
    try simp only [zA,zB,zC,Act.put,zD,zE,zF]
    refine wpZ_take (i:=3) (v:= ?_) rfl (by kernel_rfl) (by kernel_rfl) (by kernel_rfl) (by kernel_rfl) (fun _ _ _ h=>peek_put (by decide) (by decide) h) (Or.inl ⟨by rfl,?_⟩) hHeld ?_;rotate_left
    ·(intro w hSw;go_simp<;>with_reducible rfl)
    try simp only [zA,zB,zC,Act.put,zD,zE,zF]
    refine wpZ_take (i:=4) (v:= ?_) rfl (by kernel_rfl) (by kernel_rfl) (by kernel_rfl) (by kernel_rfl) (fun _ _ _ h=>peek_put (by decide) (by decide) h) (Or.inl ⟨by rfl,?_⟩) hHeld ?_;rotate_left
    ·(intro w hSw;go_simp<;>with_reducible rfl)
    try simp only [zA,zB,zC,Act.put,zD,zE,zF]
    refine wpZ_take (i:=5) (v:= ?_) rfl (by kernel_rfl) (by kernel_rfl) (by kernel_rfl) (by kernel_rfl) (fun _ _ _ h=>peek_put (by decide) (by decide) h) (Or.inl ⟨by rfl,?_⟩) hHeld ?_;rotate_left
    ·(intro w hSw;go_simp<;>with_reducible rfl)
    try simp only [zA,zB,zC,Act.put,zD,zE,zF]
    refine wpZ_take (i:=6) (v:= ?_) rfl (by kernel_rfl) (by kernel_rfl) (by kernel_rfl) (by kernel_rfl) (fun _ _ _ h=>peek_put (by decide) (by decide) h) (Or.inl ⟨by rfl,?_⟩) hHeld ?_;rotate_left
    ·(intro w hSw;go_simp<;>with_reducible rfl)
    try simp only [zA,zB,zC,Act.put,zD,zE,zF]
    refine wpZ_take (i:=7) (v:= ?_) rfl (by kernel_rfl) (by kernel_rfl) (by kernel_rfl) (by kernel_rfl) (fun _ _ _ h=>peek_put (by decide) (by decide) h) (Or.inl ⟨by rfl,?_⟩) hHeld ?_;rotate_left
    ·(intro w hSw;go_simp<;>with_reducible rfl)
    try simp only [zA,zB,zC,Act.put,zD,zE,zF]
    refine wpZ_take (i:=8) rfl (by kernel_rfl) (by kernel_rfl) (by kernel_rfl) (by kernel_rfl) (fun _ _ _ h=>peek_put (by decide) (by decide) h) (yieldsIf_load_mid (by kernel_rfl) 47 _ rfl g2 0 rfl ([.int .i64 k,.string (bA b1),.int .i64 v]) _ (fun w h=>h.2) uTk rfl (infoTkL ⟨0,nilB,0⟩)) hHeld ?_;try simp only [zA,zB,zC,Act.put,zD,zE,zF]
    refine wpZ_one (i:=9) (by kernel_rfl) rfl (fun K hK=> ?_);go_simp;refine(hri _ hF7.drew).mono ?_;clear hri;rintro e W8 ⟨rfl,F8⟩;have hF8:=hF7.drew.trans F8;have e1':=cell_fr F8 e1;have e2':=range_fr1 F8 e2;dsimp only;refine hK.out _ _ ⟨e1',e2'⟩ (fun hHeld=> ?_);clear hK K;try simp only [zA,zB,zC,Act.put,zD,zE,zF]
    refine wpZ_take (i:=10) (v:= ?_) rfl (by kernel_rfl) (by kernel_rfl) (by kernel_rfl) (by kernel_rfl) (fun _ _ _ h=>peek_put (by decide) (by decide) h) (Or.inl ⟨by rfl,?_⟩) hHeld ?_;rotate_left
    ·(intro w hSw;go_simp<;>with_reducible rfl)
    try simp only [zA,zB,zC,Act.put,zD,zE,zF]
    refine wpZ_take (i:=11) (v:= ?_) rfl (by kernel_rfl) (by kernel_rfl) (by kernel_rfl) (by kernel_rfl) (fun _ _ _ h=>peek_put (by decide) (by decide) h) (Or.inl ⟨by rfl,?_⟩) hHeld ?_;rotate_left
    ·(intro w hSw;go_simp<;>with_reducible rfl)
    try simp only [zA,zB,zC,Act.put,zD,zE,zF]
    refine wpZ_take (i:=12) (v:= ?_) rfl (by kernel_rfl) (by kernel_rfl) (by kernel_rfl) (by kernel_rfl) (fun _ _ _ h=>peek_put (by decide) (by decide) h) (Or.inl ⟨by rfl,?_⟩) hHeld ?_;rotate_left
    ·(intro w hSw;go_simp<;>with_reducible rfl)
    try simp only [zA,zB,zC,Act.put,zD,zE,zF]
    refine wpZ_take (i:=13) (v:=undef) rfl (by kernel_rfl) (by kernel_rfl) (by kernel_rfl) (by kernel_rfl) (fun _ _ _ h=>peek_put (by decide) (by decide) h) (Or.inr ⟨by rfl,rfl⟩) hHeld ?_;try simp only [zA,zB,zC,Act.put,zD,zE,zF]
    refine wpZ_take (i:=14) (v:=undef) rfl (by kernel_rfl) (by kernel_rfl) (by kernel_rfl) (by kernel_rfl) (fun _ _ _ h=>peek_put (by decide) (by decide) h) (Or.inr ⟨by rfl,rfl⟩) hHeld ?_;try simp only [zA,zB,zC,Act.put,zD,zE,zF]
    refine wpZ_take (i:=15) (v:=undef) rfl (by kernel_rfl) (by kernel_rfl) (by kernel_rfl) (by kernel_rfl) (fun _ _ _ h=>peek_put (by decide) (by decide) h) (Or.inr ⟨by rfl,rfl⟩) hHeld ?_;try simp only [zA,zB,zC,Act.put,zD,zE,zF]
    refine wpZ_take (i:=16) (v:=undef) rfl (by kernel_rfl) (by kernel_rfl) (by kernel_rfl) (by kernel_rfl) (fun _ _ _ h=>peek_put (by decide) (by decide) h) (Or.inr ⟨by rfl,rfl⟩) hHeld ?_;try simp only [zA,zB,zC,Act.put,zD,zE,zF]
    refine wpZ_take (i:=17) (v:=undef) rfl (by kernel_rfl) (by kernel_rfl) (by kernel_rfl) (by kernel_rfl) (fun _ _ _ h=>peek_put (by decide) (by decide) h) (Or.inr ⟨by rfl,rfl⟩) hHeld ?_;try simp only [zA,zB,zC,Act.put,zD,zE,zF]
    refine wpZ_take (i:=18) (v:=undef) rfl (by kernel_rfl) (by kernel_rfl) (by kernel_rfl) (by kernel_rfl) (fun _ _ _ h=>peek_put (by decide) (by decide) h) (Or.inr ⟨by rfl,rfl⟩) hHeld ?_;try simp only [zA,zB,zC,Act.put,zD,zE,zF]
    refine wpZ_take (i:=19) (v:= ?_) rfl (by kernel_rfl) (by kernel_rfl) (by kernel_rfl) (by kernel_rfl) (fun _ _ _ h=>peek_put (by decide) (by decide) h) (Or.inl ⟨by rfl,?_⟩) hHeld ?_;rotate_left
    ·(intro w hSw;go_simp<;>with_reducible rfl)
    try simp only [zA,zB,zC,Act.put,zD,zE,zF]
    refine wpZ_take (i:=20) (v:= ?_) rfl (by kernel_rfl) (by kernel_rfl) (by kernel_rfl) (by kernel_rfl) (fun _ _ _ h=>peek_put (by decide) (by decide) h) (Or.inl ⟨by rfl,?_⟩) hHeld ?_;rotate_left
    ·(intro w hSw;go_simp<;>with_reducible rfl)
    try simp only [zA,zB,zC,Act.put,zD,zE,zF]
    refine wpZ_take (i:=21) (v:=undef) rfl (by kernel_rfl) (by kernel_rfl) (by kernel_rfl) (by kernel_rfl) (fun _ _ _ h=>peek_put (by decide) (by decide) h) (Or.inr ⟨by rfl,rfl⟩) hHeld ?_;try simp only [zA,zB,zC,Act.put,zD,zE,zF]
    refine wpZ_take (i:=22) (v:=undef) rfl (by kernel_rfl) (by kernel_rfl) (by kernel_rfl) (by kernel_rfl) (fun _ _ _ h=>peek_put (by decide) (by decide) h) (Or.inr ⟨by rfl,rfl⟩) hHeld ?_;try simp only [zA,zB,zC,Act.put,zD,zE,zF]
    refine wpZ_take (i:=23) (v:=undef) rfl (by kernel_rfl) (by kernel_rfl) (by kernel_rfl) (by kernel_rfl) (fun _ _ _ h=>peek_put (by decide) (by decide) h) (Or.inr ⟨by rfl,rfl⟩) hHeld ?_;try simp only [zA,zB,zC,Act.put,zD,zE,zF]
    refine wpZ_take (i:=24) (v:= ?_) rfl (by kernel_rfl) (by kernel_rfl) (by kernel_rfl) (by kernel_rfl) (fun _ _ _ h=>peek_put (by decide) (by decide) h) (Or.inl ⟨by rfl,?_⟩) hHeld ?_;rotate_left
    ·(intro w hSw;go_simp<;>with_reducible rfl)
    try simp only [zA,zB,zC,Act.put,zD,zE,zF]
    refine wpZ_done (by kernel_rfl) ?_ _;go_wp2_with fail
    rw [hr2.o];exact peek_fail (hP7.o.fr0 (F8.of_drew)) hw.o _ rfl rfl
   |true=>
    have hv0:0≤v∧v≤1099511627776∧1≤k:=by have h:=hq.o;unfold rightT at h;simp only [Bool.and_eq_true,decide_eq_true_eq]at h;omega
    have htk:tkOk ⟨k,bA b1,v.toNat⟩=true:=by rw [←rightT_tk];show rightT k (bA b1) (v.toNat:Int)=true;rw [Int.toNat_of_nonneg hv0.1];exact hq.o
    obtain⟨hkl,-,hkb⟩:=hkkh.o.1 hv0.2.2;have hsame:=peek_same (n:=v.toNat) ha.o hb.o hd.o (show a1= [kindB k] by rw [hxh.o,hkb]);have hnum:=numL_ok hdi;have hlen:=headL_len htk;have hhd:∀V,Fr [] w V→Calls Tryz.prog 96 #[.agg #[.int .i64 k,.string (bA b1),.int .i64 v]] V fun e w'=>e= .returned (.string (bA (headL ⟨k,bA b1,v.toNat⟩)))∧Fr [] V w':=fun V hF=>by have:=head_t V ⟨k,bA b1,v.toNat⟩ htk (htabh.o.fr hF);dsimp only at this;rwa [Int.toNat_of_nonneg hv0.1]at this
    obtain⟨H,HH⟩:∃z,Hid (headL ⟨k,bA b1,v.toNat⟩=z):=⟨_,zh rfl⟩
    rw [HH.o]at hsame hlen hhd;have hsum:∀V,(Op.stringOp .add (bA H) (bA d2)).run Tryz.prog V= .ok (.string (bA (H++d2))) V:=fun V=>by rw [bA_app];exact run_string_add_sum (P:=Tryz.prog) V _ _ (by rw [bA_size d2];have:=hd2l.o;omega)
    obtain⟨HS,HHS⟩:∃z,Hid (bA (H++d2)=z):=⟨_,zh rfl⟩
    have hcmp:(HS.toList==s.toList)=decide (H++d2=s.data.toList):=by rw [toList_beq,←HHS.o,←secret_eq];rfl
    rw [HHS.o]at hsum;obtain⟨t,ht⟩:∃t:GTk,Hid (t=⟨k,bA b1,v.toNat⟩):=⟨_,zh rfl⟩
    have hr3:Hid (res=if H++d2=s.data.toList∧d2.length=16∧d2.all signB=true then some t else none):=zh (by
     rw [hr.o,hnum,hkl,ht.o];by_cases hsm:H++d2=s.data.toList
     ·rw [if_pos (by simp),if_pos ⟨hv0.1,hv0.2.1,hsame.1 hsm⟩];simp [htk,hsm]
     ·rw [if_pos (by simp),if_neg (fun h=>hsm (hsame.2 h.2.2)),if_neg (fun h=>hsm h.1)])
    have hv0h:=zh hv0;clear hr hnum hsame htk hkl hkb hv0 hdi h1 hlen;obtain⟨sm,hsm⟩:∃z,Hid (decide (H++d2=s.data.toList)=z):=⟨_,zh rfl⟩
    rw [hsm.o]at hcmp;cases sm with
    |false=>
     have hr2:Hid (res=none):=zh (by
      have:=hsm.o;rw [hr3.o,if_neg (fun h=>by rw [decide_eq_true h.1]at this;cases this)])
     clear hr3;refine wp_region_z (fun u=>u.cell? ⟨g1,0,none⟩=some (.string (bA d2))∧u.rangeAt g2 0 [.int .i64 k,.string (bA b1),.int .i64 v]) [] (by kernel_rfl) ⟨e1,e2⟩ ?_;intro hHeld;refine wpZ_take (i:=0) (v:= ?_) rfl (by kernel_rfl) (by kernel_rfl) (by kernel_rfl) (by kernel_rfl) (fun _ _ _ h=>peek_put (by decide) (by decide) h) (Or.inl ⟨by rfl,?_⟩) hHeld ?_;rotate_left
     ·(intro w hSw;go_simp<;>with_reducible rfl)
     try simp only [zA,zB,zC,Act.put,zD,zE,zF]
     refine wpZ_take (i:=1) (v:= ?_) rfl (by kernel_rfl) (by kernel_rfl) (by kernel_rfl) (by kernel_rfl) (fun _ _ _ h=>peek_put (by decide) (by decide) h) (Or.inl ⟨by rfl,?_⟩) hHeld ?_;rotate_left
     ·(intro w hSw;go_simp<;>with_reducible rfl)
     try simp only [zA,zB,zC,Act.put,zD,zE,zF]
     refine wpZ_take (i:=2) (v:= ?_) rfl (by kernel_rfl) (by kernel_rfl) (by kernel_rfl) (by kernel_rfl) (fun _ _ _ h=>peek_put (by decide) (by decide) h) (Or.inl ⟨by rfl,?_⟩) hHeld ?_;rotate_left
     ·(intro w hSw;go_simp<;>with_reducible rfl)
     try simp only [zA,zB,zC,Act.put,zD,zE,zF]
     refine wpZ_take (i:=3) (v:= ?_) rfl (by kernel_rfl) (by kernel_rfl) (by kernel_rfl) (by kernel_rfl) (fun _ _ _ h=>peek_put (by decide) (by decide) h) (Or.inl ⟨by rfl,?_⟩) hHeld ?_;rotate_left
     ·(intro w hSw;go_simp<;>with_reducible rfl)
     try simp only [zA,zB,zC,Act.put,zD,zE,zF]
     refine wpZ_take (i:=4) (v:= ?_) rfl (by kernel_rfl) (by kernel_rfl) (by kernel_rfl) (by kernel_rfl) (fun _ _ _ h=>peek_put (by decide) (by decide) h) (Or.inl ⟨by rfl,?_⟩) hHeld ?_;rotate_left
     ·(intro w hSw;go_simp<;>with_reducible rfl)
     try simp only [zA,zB,zC,Act.put,zD,zE,zF]
     refine wpZ_take (i:=5) (v:= ?_) rfl (by kernel_rfl) (by kernel_rfl) (by kernel_rfl) (by kernel_rfl) (fun _ _ _ h=>peek_put (by decide) (by decide) h) (Or.inl ⟨by rfl,?_⟩) hHeld ?_;rotate_left
     ·(intro w hSw;go_simp<;>with_reducible rfl)
     try simp only [zA,zB,zC,Act.put,zD,zE,zF]
     refine wpZ_take (i:=6) (v:= ?_) rfl (by kernel_rfl) (by kernel_rfl) (by kernel_rfl) (by kernel_rfl) (fun _ _ _ h=>peek_put (by decide) (by decide) h) (Or.inl ⟨by rfl,?_⟩) hHeld ?_;rotate_left
     ·(intro w hSw;go_simp<;>with_reducible rfl)
     try simp only [zA,zB,zC,Act.put,zD,zE,zF]
     refine wpZ_take (i:=7) (v:= ?_) rfl (by kernel_rfl) (by kernel_rfl) (by kernel_rfl) (by kernel_rfl) (fun _ _ _ h=>peek_put (by decide) (by decide) h) (Or.inl ⟨by rfl,?_⟩) hHeld ?_;rotate_left
     ·(intro w hSw;go_simp<;>with_reducible rfl)
     try simp only [zA,zB,zC,Act.put,zD,zE,zF]
     refine wpZ_take (i:=8) rfl (by kernel_rfl) (by kernel_rfl) (by kernel_rfl) (by kernel_rfl) (fun _ _ _ h=>peek_put (by decide) (by decide) h) (yieldsIf_load_mid (by kernel_rfl) 47 _ rfl g2 0 rfl ([.int .i64 k,.string (bA b1),.int .i64 v]) _ (fun w h=>h.2) uTk rfl (infoTkL ⟨0,nilB,0⟩)) hHeld ?_;try simp only [zA,zB,zC,Act.put,zD,zE,zF]
     refine wpZ_one (i:=9) (by kernel_rfl) rfl (fun K hK=> ?_);go_simp;refine(hri _ hF7.drew).mono ?_;clear hri;rintro e W8 ⟨rfl,F8⟩;have hF8:=hF7.drew.trans F8;have e1':=cell_fr F8 e1;have e2':=range_fr1 F8 e2;dsimp only;refine hK.out _ _ ⟨e1',e2'⟩ (fun hHeld=> ?_);clear hK K;try simp only [zA,zB,zC,Act.put,zD,zE,zF]
     refine wpZ_take (i:=10) (v:= ?_) rfl (by kernel_rfl) (by kernel_rfl) (by kernel_rfl) (by kernel_rfl) (fun _ _ _ h=>peek_put (by decide) (by decide) h) (Or.inl ⟨by rfl,?_⟩) hHeld ?_;rotate_left
     ·(intro w hSw;go_simp<;>with_reducible rfl)
     try simp only [zA,zB,zC,Act.put,zD,zE,zF]
     refine wpZ_take (i:=11) (v:= ?_) rfl (by kernel_rfl) (by kernel_rfl) (by kernel_rfl) (by kernel_rfl) (fun _ _ _ h=>peek_put (by decide) (by decide) h) (Or.inl ⟨by rfl,?_⟩) hHeld ?_;rotate_left
     ·(intro w hSw;go_simp<;>with_reducible rfl)
     try simp only [zA,zB,zC,Act.put,zD,zE,zF]
     refine wpZ_take (i:=12) (v:= ?_) rfl (by kernel_rfl) (by kernel_rfl) (by kernel_rfl) (by kernel_rfl) (fun _ _ _ h=>peek_put (by decide) (by decide) h) (Or.inl ⟨by rfl,?_⟩) hHeld ?_;rotate_left
     ·(intro w hSw;go_simp<;>with_reducible rfl)
     try simp only [zA,zB,zC,Act.put,zD,zE,zF]
     refine wpZ_take (i:=13) rfl (by kernel_rfl) (by kernel_rfl) (by kernel_rfl) (by kernel_rfl) (fun _ _ _ h=>peek_put (by decide) (by decide) h) (yieldsIf_load_mid (by kernel_rfl) 47 _ rfl g2 0 rfl ([.int .i64 k,.string (bA b1),.int .i64 v]) _ (fun w h=>h.2) uTk rfl (infoTkL ⟨0,nilB,0⟩)) hHeld ?_;try simp only [zA,zB,zC,Act.put,zD,zE,zF]
     refine wpZ_take (i:=15) (v:= ?_) rfl (by kernel_rfl) (by kernel_rfl) (by kernel_rfl) (by kernel_rfl) (fun _ _ _ h=>peek_put (by decide) (by decide) h) (Or.inl ⟨by rfl,?_⟩) hHeld ?_;rotate_left
     ·(intro w hSw;go_simp<;>with_reducible rfl)
     try simp only [zA,zB,zC,Act.put,zD,zE,zF]
     refine wpZ_take (i:=17) (v:= ?_) rfl (by kernel_rfl) (by kernel_rfl) (by kernel_rfl) (by kernel_rfl) (fun _ _ _ h=>peek_put (by decide) (by decide) h) (Or.inl ⟨by rfl,?_⟩) hHeld ?_;rotate_left
     ·(intro w hSw;go_simp<;>with_reducible rfl)
     try simp only [zA,zB,zC,Act.put,zD,zE,zF]
     refine wpZ_one (i:=14) (by kernel_rfl) rfl (fun K hK=> ?_);go_simp;refine(hhd _ hF8).mono ?_;clear hhd;rintro e W9 ⟨rfl,F9⟩;have hF9:=hF8.trans F9;have e1'':=cell_fr F9 e1';have e2'':=range_fr1 F9 e2';dsimp only;refine hK.out _ _ ⟨e1'',e2''⟩ (fun hHeld=> ?_);clear hK K;try simp only [zA,zB,zC,Act.put,zD,zE,zF]
     refine wpZ_take (i:=16) (v:= .string HS) rfl (by kernel_rfl) (by kernel_rfl) (by kernel_rfl) (by kernel_rfl) (fun _ _ _ h=>peek_put (by decide) (by decide) h) (Or.inl ⟨by rfl,?_⟩) hHeld ?_
     ·(intro w hSw;go_simp<;>with_reducible rfl)
     try simp only [zA,zB,zC,Act.put,zD,zE,zF]
     refine wpZ_take (i:=18) (v:= ?_) rfl (by kernel_rfl) (by kernel_rfl) (by kernel_rfl) (by kernel_rfl) (fun _ _ _ h=>peek_put (by decide) (by decide) h) (Or.inl ⟨by rfl,?_⟩) hHeld ?_;rotate_left
     ·(intro w hSw;go_simp<;>with_reducible rfl)
     try simp only [zA,zB,zC,Act.put,zD,zE,zF]
     refine wpZ_take (i:=19) (v:= ?_) rfl (by kernel_rfl) (by kernel_rfl) (by kernel_rfl) (by kernel_rfl) (fun _ _ _ h=>peek_put (by decide) (by decide) h) (Or.inl ⟨by rfl,?_⟩) hHeld ?_;rotate_left
     ·(intro w hSw;go_simp<;>with_reducible rfl)
     try simp only [zA,zB,zC,Act.put,zD,zE,zF]
     refine wpZ_take (i:=20) (v:= ?_) rfl (by kernel_rfl) (by kernel_rfl) (by kernel_rfl) (by kernel_rfl) (fun _ _ _ h=>peek_put (by decide) (by decide) h) (Or.inl ⟨by rfl,?_⟩) hHeld ?_;rotate_left
     ·(intro w hSw;go_simp<;>with_reducible rfl)
     try simp only [zA,zB,zC,Act.put,zD,zE,zF]
     refine wpZ_take (i:=21) (v:=undef) rfl (by kernel_rfl) (by kernel_rfl) (by kernel_rfl) (by kernel_rfl) (fun _ _ _ h=>peek_put (by decide) (by decide) h) (Or.inr ⟨by rfl,rfl⟩) hHeld ?_;try simp only [zA,zB,zC,Act.put,zD,zE,zF]
     refine wpZ_take (i:=22) (v:=undef) rfl (by kernel_rfl) (by kernel_rfl) (by kernel_rfl) (by kernel_rfl) (fun _ _ _ h=>peek_put (by decide) (by decide) h) (Or.inr ⟨by rfl,rfl⟩) hHeld ?_;try simp only [zA,zB,zC,Act.put,zD,zE,zF]
     refine wpZ_take (i:=23) (v:=undef) rfl (by kernel_rfl) (by kernel_rfl) (by kernel_rfl) (by kernel_rfl) (fun _ _ _ h=>peek_put (by decide) (by decide) h) (Or.inr ⟨by rfl,rfl⟩) hHeld ?_;try simp only [zA,zB,zC,Act.put,zD,zE,zF]
     refine wpZ_take (i:=24) (v:= ?_) rfl (by kernel_rfl) (by kernel_rfl) (by kernel_rfl) (by kernel_rfl) (fun _ _ _ h=>peek_put (by decide) (by decide) h) (Or.inl ⟨by rfl,?_⟩) hHeld ?_;rotate_left
     ·(intro w hSw;go_simp<;>with_reducible rfl)
     try simp only [zA,zB,zC,Act.put,zD,zE,zF]
     refine wpZ_done (by kernel_rfl) ?_ _;go_wp2_with fail
     rw [hr2.o];exact peek_fail (hP7.o.fr0 (F8.of_drew.trans F9)) hw.o _ rfl rfl
    |true=>
     have hr4:Hid (res=if d2.length=16∧d2.all signB=true then some t else none):=zh (by
      rw [hr3.o];simp [of_decide_eq_true hsm.o])
     clear hr3;by_cases h16:d2.length=16
     ·have h16b:(((bA d2).size:Int) !=16)=false:=by rw [bA_size,h16];rfl
      have h16h:=zh h16;clear h16;refine wp_region_z (fun u=>u.cell? ⟨g1,0,none⟩=some (.string (bA d2))∧u.rangeAt g2 0 [.int .i64 k,.string (bA b1),.int .i64 v]) [] (by kernel_rfl) ⟨e1,e2⟩ ?_;intro hHeld;refine wpZ_take (i:=0) (v:= ?_) rfl (by kernel_rfl) (by kernel_rfl) (by kernel_rfl) (by kernel_rfl) (fun _ _ _ h=>peek_put (by decide) (by decide) h) (Or.inl ⟨by rfl,?_⟩) hHeld ?_;rotate_left
      ·(intro w hSw;go_simp<;>with_reducible rfl)
      try simp only [zA,zB,zC,Act.put,zD,zE,zF]
      refine wpZ_take (i:=1) (v:= ?_) rfl (by kernel_rfl) (by kernel_rfl) (by kernel_rfl) (by kernel_rfl) (fun _ _ _ h=>peek_put (by decide) (by decide) h) (Or.inl ⟨by rfl,?_⟩) hHeld ?_;rotate_left
      ·(intro w hSw;go_simp<;>with_reducible rfl)
      try simp only [zA,zB,zC,Act.put,zD,zE,zF]
      refine wpZ_take (i:=2) (v:= ?_) rfl (by kernel_rfl) (by kernel_rfl) (by kernel_rfl) (by kernel_rfl) (fun _ _ _ h=>peek_put (by decide) (by decide) h) (Or.inl ⟨by rfl,?_⟩) hHeld ?_;rotate_left
      ·(intro w hSw;go_simp<;>with_reducible rfl)
      try simp only [zA,zB,zC,Act.put,zD,zE,zF]
      refine wpZ_take (i:=3) (v:= ?_) rfl (by kernel_rfl) (by kernel_rfl) (by kernel_rfl) (by kernel_rfl) (fun _ _ _ h=>peek_put (by decide) (by decide) h) (Or.inl ⟨by rfl,?_⟩) hHeld ?_;rotate_left
      ·(intro w hSw;go_simp<;>with_reducible rfl)
      try simp only [zA,zB,zC,Act.put,zD,zE,zF]
      refine wpZ_take (i:=4) (v:= ?_) rfl (by kernel_rfl) (by kernel_rfl) (by kernel_rfl) (by kernel_rfl) (fun _ _ _ h=>peek_put (by decide) (by decide) h) (Or.inl ⟨by rfl,?_⟩) hHeld ?_;rotate_left
      ·(intro w hSw;go_simp<;>with_reducible rfl)
      try simp only [zA,zB,zC,Act.put,zD,zE,zF]
      refine wpZ_take (i:=5) (v:= ?_) rfl (by kernel_rfl) (by kernel_rfl) (by kernel_rfl) (by kernel_rfl) (fun _ _ _ h=>peek_put (by decide) (by decide) h) (Or.inl ⟨by rfl,?_⟩) hHeld ?_;rotate_left
      ·(intro w hSw;go_simp<;>with_reducible rfl)
      try simp only [zA,zB,zC,Act.put,zD,zE,zF]
      refine wpZ_take (i:=6) (v:= ?_) rfl (by kernel_rfl) (by kernel_rfl) (by kernel_rfl) (by kernel_rfl) (fun _ _ _ h=>peek_put (by decide) (by decide) h) (Or.inl ⟨by rfl,?_⟩) hHeld ?_;rotate_left
      ·(intro w hSw;go_simp<;>with_reducible rfl)
      try simp only [zA,zB,zC,Act.put,zD,zE,zF]
      refine wpZ_take (i:=7) (v:= ?_) rfl (by kernel_rfl) (by kernel_rfl) (by kernel_rfl) (by kernel_rfl) (fun _ _ _ h=>peek_put (by decide) (by decide) h) (Or.inl ⟨by rfl,?_⟩) hHeld ?_;rotate_left
      ·(intro w hSw;go_simp<;>with_reducible rfl)
      try simp only [zA,zB,zC,Act.put,zD,zE,zF]
      refine wpZ_take (i:=8) rfl (by kernel_rfl) (by kernel_rfl) (by kernel_rfl) (by kernel_rfl) (fun _ _ _ h=>peek_put (by decide) (by decide) h) (yieldsIf_load_mid (by kernel_rfl) 47 _ rfl g2 0 rfl ([.int .i64 k,.string (bA b1),.int .i64 v]) _ (fun w h=>h.2) uTk rfl (infoTkL ⟨0,nilB,0⟩)) hHeld ?_;try simp only [zA,zB,zC,Act.put,zD,zE,zF]
      refine wpZ_one (i:=9) (by kernel_rfl) rfl (fun K hK=> ?_);go_simp;refine(hri _ hF7.drew).mono ?_;clear hri;rintro e W8 ⟨rfl,F8⟩;have hF8:=hF7.drew.trans F8;have e1':=cell_fr F8 e1;have e2':=range_fr1 F8 e2;dsimp only;refine hK.out _ _ ⟨e1',e2'⟩ (fun hHeld=> ?_);clear hK K;try simp only [zA,zB,zC,Act.put,zD,zE,zF]
      refine wpZ_take (i:=10) (v:= ?_) rfl (by kernel_rfl) (by kernel_rfl) (by kernel_rfl) (by kernel_rfl) (fun _ _ _ h=>peek_put (by decide) (by decide) h) (Or.inl ⟨by rfl,?_⟩) hHeld ?_;rotate_left
      ·(intro w hSw;go_simp<;>with_reducible rfl)
      try simp only [zA,zB,zC,Act.put,zD,zE,zF]
      refine wpZ_take (i:=11) (v:= ?_) rfl (by kernel_rfl) (by kernel_rfl) (by kernel_rfl) (by kernel_rfl) (fun _ _ _ h=>peek_put (by decide) (by decide) h) (Or.inl ⟨by rfl,?_⟩) hHeld ?_;rotate_left
      ·(intro w hSw;go_simp<;>with_reducible rfl)
      try simp only [zA,zB,zC,Act.put,zD,zE,zF]
      refine wpZ_take (i:=12) (v:= ?_) rfl (by kernel_rfl) (by kernel_rfl) (by kernel_rfl) (by kernel_rfl) (fun _ _ _ h=>peek_put (by decide) (by decide) h) (Or.inl ⟨by rfl,?_⟩) hHeld ?_;rotate_left
      ·(intro w hSw;go_simp<;>with_reducible rfl)
      try simp only [zA,zB,zC,Act.put,zD,zE,zF]
      refine wpZ_take (i:=13) rfl (by kernel_rfl) (by kernel_rfl) (by kernel_rfl) (by kernel_rfl) (fun _ _ _ h=>peek_put (by decide) (by decide) h) (yieldsIf_load_mid (by kernel_rfl) 47 _ rfl g2 0 rfl ([.int .i64 k,.string (bA b1),.int .i64 v]) _ (fun w h=>h.2) uTk rfl (infoTkL ⟨0,nilB,0⟩)) hHeld ?_;try simp only [zA,zB,zC,Act.put,zD,zE,zF]
      refine wpZ_take (i:=15) (v:= ?_) rfl (by kernel_rfl) (by kernel_rfl) (by kernel_rfl) (by kernel_rfl) (fun _ _ _ h=>peek_put (by decide) (by decide) h) (Or.inl ⟨by rfl,?_⟩) hHeld ?_;rotate_left
      ·(intro w hSw;go_simp<;>with_reducible rfl)
      try simp only [zA,zB,zC,Act.put,zD,zE,zF]
      refine wpZ_take (i:=17) (v:= ?_) rfl (by kernel_rfl) (by kernel_rfl) (by kernel_rfl) (by kernel_rfl) (fun _ _ _ h=>peek_put (by decide) (by decide) h) (Or.inl ⟨by rfl,?_⟩) hHeld ?_;rotate_left
      ·(intro w hSw;go_simp<;>with_reducible rfl)
      try simp only [zA,zB,zC,Act.put,zD,zE,zF]
      refine wpZ_one (i:=14) (by kernel_rfl) rfl (fun K hK=> ?_);go_simp;refine(hhd _ hF8).mono ?_;clear hhd;rintro e W9 ⟨rfl,F9⟩;have hF9:=hF8.trans F9;have e1'':=cell_fr F9 e1';have e2'':=range_fr1 F9 e2';dsimp only;refine hK.out _ _ ⟨e1'',e2''⟩ (fun hHeld=> ?_);clear hK K;try simp only [zA,zB,zC,Act.put,zD,zE,zF]
      refine wpZ_take (i:=16) (v:= .string HS) rfl (by kernel_rfl) (by kernel_rfl) (by kernel_rfl) (by kernel_rfl) (fun _ _ _ h=>peek_put (by decide) (by decide) h) (Or.inl ⟨by rfl,?_⟩) hHeld ?_
      ·(intro w hSw;go_simp<;>with_reducible rfl)
      try simp only [zA,zB,zC,Act.put,zD,zE,zF]
      refine wpZ_take (i:=18) (v:= ?_) rfl (by kernel_rfl) (by kernel_rfl) (by kernel_rfl) (by kernel_rfl) (fun _ _ _ h=>peek_put (by decide) (by decide) h) (Or.inl ⟨by rfl,?_⟩) hHeld ?_;rotate_left
      ·(intro w hSw;go_simp<;>with_reducible rfl)
      try simp only [zA,zB,zC,Act.put,zD,zE,zF]
      refine wpZ_take (i:=19) (v:= ?_) rfl (by kernel_rfl) (by kernel_rfl) (by kernel_rfl) (by kernel_rfl) (fun _ _ _ h=>peek_put (by decide) (by decide) h) (Or.inl ⟨by rfl,?_⟩) hHeld ?_;rotate_left
      ·(intro w hSw;go_simp<;>with_reducible rfl)
      try simp only [zA,zB,zC,Act.put,zD,zE,zF]
      refine wpZ_take (i:=20) (v:= ?_) rfl (by kernel_rfl) (by kernel_rfl) (by kernel_rfl) (by kernel_rfl) (fun _ _ _ h=>peek_put (by decide) (by decide) h) (Or.inl ⟨by rfl,?_⟩) hHeld ?_;rotate_left
      ·(intro w hSw;go_simp<;>with_reducible rfl)
      try simp only [zA,zB,zC,Act.put,zD,zE,zF]
      refine wpZ_take (i:=21) (v:= ?_) rfl (by kernel_rfl) (by kernel_rfl) (by kernel_rfl) (by kernel_rfl) (fun _ _ _ h=>peek_put (by decide) (by decide) h) (Or.inl ⟨by rfl,?_⟩) hHeld ?_;rotate_left
      ·(intro w hSw;go_simp<;>with_reducible rfl)
      try simp only [zA,zB,zC,Act.put,zD,zE,zF]
      refine wpZ_take (i:=22) (v:= ?_) rfl (by kernel_rfl) (by kernel_rfl) (by kernel_rfl) (by kernel_rfl) (fun _ _ _ h=>peek_put (by decide) (by decide) h) (Or.inl ⟨by rfl,?_⟩) hHeld ?_;rotate_left
      ·(intro w hSw;go_simp<;>with_reducible rfl)
      try simp only [zA,zB,zC,Act.put,zD,zE,zF]
      refine wpZ_take (i:=23) (v:= ?_) rfl (by kernel_rfl) (by kernel_rfl) (by kernel_rfl) (by kernel_rfl) (fun _ _ _ h=>peek_put (by decide) (by decide) h) (Or.inl ⟨by rfl,?_⟩) hHeld ?_;rotate_left
      ·(intro w hSw;go_simp<;>with_reducible rfl)
      try simp only [zA,zB,zC,Act.put,zD,zE,zF]
      refine wpZ_take (i:=24) (v:= ?_) rfl (by kernel_rfl) (by kernel_rfl) (by kernel_rfl) (by kernel_rfl) (fun _ _ _ h=>peek_put (by decide) (by decide) h) (Or.inl ⟨by rfl,?_⟩) hHeld ?_;rotate_left
      ·(intro w hSw;go_simp<;>with_reducible rfl)
      try simp only [zA,zB,zC,Act.put,zD,zE,zF]
      refine wpZ_done (by kernel_rfl) ?_ _;have hP9:=zh (hP7.o.fr0 (F8.of_drew.trans F9));have hT9:=zh (hT7h.o.fr (F8.of_drew.trans F9) (by simp));have hr5:Hid (res=if(bA d2).data.toList.all signB=true then some t else none):=zh (by
       rw [hr4.o];show _=if d2.all signB=true then some t else none
       simp [h16h.o])
      have hS16:(bA d2).size=16:=by rw [bA_size,h16h.o]
      obtain⟨S,HS2⟩:∃z,Hid (bA d2=z):=⟨_,zh rfl⟩
      rw [HS2.o]at e1'' hr5 hS16 hP9;have hl9:=hP9.o.h1.lt;clear hr4 e1 e2 e1' e2' e2'' hF7 hF8 hF9 F8 F9 hl1 hl2 hcmp h16b hHeld hsum;go_upto_block 0 with(fail)
      go_wp2_with fail
      go_loopg [8] 17 (fun gk s8 wr=>∃(i:Nat),s8= .int .i64 i∧i≤16∧16 - i<gk∧(S.data.toList.take i).all signB=true∧W9=wr)
      case atStart=>exact⟨0,rfl,by omega,by omega,rfl,rfl⟩
      case round=>
       obtain⟨i,rfl,hi,hk,hall,rfl⟩:=hrel;have hallh:=zh hall;clear hall;by_cases hlt:i<S.size
       ·have hlt':(i:Int)<S.size:=by omega
        have hlth:=zh hlt;have hsg:=sign_t W9 S[i];obtain⟨r,hrr⟩:∃z,Hid (signB S[i]=z):=⟨_,zh rfl⟩
        rw [hrr.o]at hsg;cases r with
        |true=>
         go_wp2_with (go_at_call 79;refine hsg.mono ?_;rintro e w' ⟨rfl,rfl⟩)
         go_roundg (16 - i)
         case measure=>have:=hlth.o;omega
         case rel=>exact⟨i+1,by go_num,by have:=hlth.o;omega,by have:=hlth.o;omega,all_next hlth.o hallh.o hrr.o,rfl⟩
        |false=>
         go_wp2_with (go_at_call 79;refine hsg.mono ?_;rintro e w' ⟨rfl,rfl⟩)
         rw [hr5.o,all_no hlth.o hrr.o];exact peek_fail hP9.o hw.o _ rfl rfl
       ·have hge:¬(i:Int)<S.size:=by omega
        have hall:=hallh.o;rw [str_full (by omega)]at hall;have hr6:Hid (res=some t):=zh (by rw [hr5.o,if_pos hall]);have htc:#[Value.int .i64 k,.string (bA b1),.int .i64 v]=tkCells t:=by rw [ht.o];unfold tkCells;dsimp only;rw [Int.toNat_of_nonneg hv0h.o.1]
        have hT9':=hT9.o;rw [htc]at hT9';obtain⟨y,hy⟩:=hP9.o.h3;have cy:=hy.cell 0;have zy:=hy.frozen 0;have ly:=hy.lt;simp only [zG,zH]at cy;have hyh:=zh hy;have hT9h:=zh hT9';clear hlt hall hallh hk hi htc hy;go_wp2_with (first
         | (refine wpList_load_at rfl 47 _ rfl rfl hT9' (sub_self _) uTk rfl (infoTkL _) ?_;rw [Array.toArray_toList])
         | (refine wpList_store_row rfl 47 _ _ rfl g2 (tkCells t) rfl rfl 47 (tkCells t) hT9' (infoTk _) (by rfl) (tk_one _) ?_;have hy2:=hyh.o.farRow (k:=g2) (by have:=hw.o;omega) (tkCells t);have hy2h:=zh hy2;have hB2:=zh (hT9h.o.setRow (tkCells t));have cy2:=hy2.cell 0;have zy2:=hy2.frozen 0;have ly2:=hy2.lt;simp only [zG,zH]at cy2;clear cy zy ly hT9' hy2))
        rw [hr6.o];exact peek_well (hB2.o.far (by have:=hw.o;simp;omega) _) (by simpa using hy2h.o.set 0 (.int .i64 0)) ((hP9.o.fr.setRow (.inr (by have:=hw.o;omega)) _).setCell (.inr (by have:=hw.o;simp;omega)) _) _ rfl rfl
     ·have h16b:(((bA d2).size:Int) !=16)=true:=by rw [bA_size];simp only [bne_iff_ne];omega
      have hr2:Hid (res=none):=zh (by rw [hr4.o,if_neg (fun h=>h16 h.1)]);clear hr4 h16;refine wp_region_z (fun u=>u.cell? ⟨g1,0,none⟩=some (.string (bA d2))∧u.rangeAt g2 0 [.int .i64 k,.string (bA b1),.int .i64 v]) [] (by kernel_rfl) ⟨e1,e2⟩ ?_;intro hHeld;refine wpZ_take (i:=0) (v:= ?_) rfl (by kernel_rfl) (by kernel_rfl) (by kernel_rfl) (by kernel_rfl) (fun _ _ _ h=>peek_put (by decide) (by decide) h) (Or.inl ⟨by rfl,?_⟩) hHeld ?_;rotate_left
      ·(intro w hSw;go_simp<;>with_reducible rfl)
      try simp only [zA,zB,zC,Act.put,zD,zE,zF]
      refine wpZ_take (i:=1) (v:= ?_) rfl (by kernel_rfl) (by kernel_rfl) (by kernel_rfl) (by kernel_rfl) (fun _ _ _ h=>peek_put (by decide) (by decide) h) (Or.inl ⟨by rfl,?_⟩) hHeld ?_;rotate_left
      ·(intro w hSw;go_simp<;>with_reducible rfl)
      try simp only [zA,zB,zC,Act.put,zD,zE,zF]
      refine wpZ_take (i:=2) (v:= ?_) rfl (by kernel_rfl) (by kernel_rfl) (by kernel_rfl) (by kernel_rfl) (fun _ _ _ h=>peek_put (by decide) (by decide) h) (Or.inl ⟨by rfl,?_⟩) hHeld ?_;rotate_left
      ·(intro w hSw;go_simp<;>with_reducible rfl)
      try simp only [zA,zB,zC,Act.put,zD,zE,zF]
      refine wpZ_take (i:=3) (v:= ?_) rfl (by kernel_rfl) (by kernel_rfl) (by kernel_rfl) (by kernel_rfl) (fun _ _ _ h=>peek_put (by decide) (by decide) h) (Or.inl ⟨by rfl,?_⟩) hHeld ?_;rotate_left
      ·(intro w hSw;go_simp<;>with_reducible rfl)
      try simp only [zA,zB,zC,Act.put,zD,zE,zF]
      refine wpZ_take (i:=4) (v:= ?_) rfl (by kernel_rfl) (by kernel_rfl) (by kernel_rfl) (by kernel_rfl) (fun _ _ _ h=>peek_put (by decide) (by decide) h) (Or.inl ⟨by rfl,?_⟩) hHeld ?_;rotate_left
      ·(intro w hSw;go_simp<;>with_reducible rfl)
      try simp only [zA,zB,zC,Act.put,zD,zE,zF]
      refine wpZ_take (i:=5) (v:= ?_) rfl (by kernel_rfl) (by kernel_rfl) (by kernel_rfl) (by kernel_rfl) (fun _ _ _ h=>peek_put (by decide) (by decide) h) (Or.inl ⟨by rfl,?_⟩) hHeld ?_;rotate_left
      ·(intro w hSw;go_simp<;>with_reducible rfl)
      try simp only [zA,zB,zC,Act.put,zD,zE,zF]
      refine wpZ_take (i:=6) (v:= ?_) rfl (by kernel_rfl) (by kernel_rfl) (by kernel_rfl) (by kernel_rfl) (fun _ _ _ h=>peek_put (by decide) (by decide) h) (Or.inl ⟨by rfl,?_⟩) hHeld ?_;rotate_left
      ·(intro w hSw;go_simp<;>with_reducible rfl)
      try simp only [zA,zB,zC,Act.put,zD,zE,zF]
      refine wpZ_take (i:=7) (v:= ?_) rfl (by kernel_rfl) (by kernel_rfl) (by kernel_rfl) (by kernel_rfl) (fun _ _ _ h=>peek_put (by decide) (by decide) h) (Or.inl ⟨by rfl,?_⟩) hHeld ?_;rotate_left
      ·(intro w hSw;go_simp<;>with_reducible rfl)
      try simp only [zA,zB,zC,Act.put,zD,zE,zF]
      refine wpZ_take (i:=8) rfl (by kernel_rfl) (by kernel_rfl) (by kernel_rfl) (by kernel_rfl) (fun _ _ _ h=>peek_put (by decide) (by decide) h) (yieldsIf_load_mid (by kernel_rfl) 47 _ rfl g2 0 rfl ([.int .i64 k,.string (bA b1),.int .i64 v]) _ (fun w h=>h.2) uTk rfl (infoTkL ⟨0,nilB,0⟩)) hHeld ?_;try simp only [zA,zB,zC,Act.put,zD,zE,zF]
      refine wpZ_one (i:=9) (by kernel_rfl) rfl (fun K hK=> ?_);go_simp;refine(hri _ hF7.drew).mono ?_;clear hri;rintro e W8 ⟨rfl,F8⟩;have hF8:=hF7.drew.trans F8;have e1':=cell_fr F8 e1;have e2':=range_fr1 F8 e2;dsimp only;refine hK.out _ _ ⟨e1',e2'⟩ (fun hHeld=> ?_);clear hK K;try simp only [zA,zB,zC,Act.put,zD,zE,zF]
      refine wpZ_take (i:=10) (v:= ?_) rfl (by kernel_rfl) (by kernel_rfl) (by kernel_rfl) (by kernel_rfl) (fun _ _ _ h=>peek_put (by decide) (by decide) h) (Or.inl ⟨by rfl,?_⟩) hHeld ?_;rotate_left
      ·(intro w hSw;go_simp<;>with_reducible rfl)
      try simp only [zA,zB,zC,Act.put,zD,zE,zF]
      refine wpZ_take (i:=11) (v:= ?_) rfl (by kernel_rfl) (by kernel_rfl) (by kernel_rfl) (by kernel_rfl) (fun _ _ _ h=>peek_put (by decide) (by decide) h) (Or.inl ⟨by rfl,?_⟩) hHeld ?_;rotate_left
      ·(intro w hSw;go_simp<;>with_reducible rfl)
      try simp only [zA,zB,zC,Act.put,zD,zE,zF]
      refine wpZ_take (i:=12) (v:= ?_) rfl (by kernel_rfl) (by kernel_rfl) (by kernel_rfl) (by kernel_rfl) (fun _ _ _ h=>peek_put (by decide) (by decide) h) (Or.inl ⟨by rfl,?_⟩) hHeld ?_;rotate_left
      ·(intro w hSw;go_simp<;>with_reducible rfl)
      try simp only [zA,zB,zC,Act.put,zD,zE,zF]
      refine wpZ_take (i:=13) rfl (by kernel_rfl) (by kernel_rfl) (by kernel_rfl) (by kernel_rfl) (fun _ _ _ h=>peek_put (by decide) (by decide) h) (yieldsIf_load_mid (by kernel_rfl) 47 _ rfl g2 0 rfl ([.int .i64 k,.string (bA b1),.int .i64 v]) _ (fun w h=>h.2) uTk rfl (infoTkL ⟨0,nilB,0⟩)) hHeld ?_;try simp only [zA,zB,zC,Act.put,zD,zE,zF]
      refine wpZ_take (i:=15) (v:= ?_) rfl (by kernel_rfl) (by kernel_rfl) (by kernel_rfl) (by kernel_rfl) (fun _ _ _ h=>peek_put (by decide) (by decide) h) (Or.inl ⟨by rfl,?_⟩) hHeld ?_;rotate_left
      ·(intro w hSw;go_simp<;>with_reducible rfl)
      try simp only [zA,zB,zC,Act.put,zD,zE,zF]
      refine wpZ_take (i:=17) (v:= ?_) rfl (by kernel_rfl) (by kernel_rfl) (by kernel_rfl) (by kernel_rfl) (fun _ _ _ h=>peek_put (by decide) (by decide) h) (Or.inl ⟨by rfl,?_⟩) hHeld ?_;rotate_left
      ·(intro w hSw;go_simp<;>with_reducible rfl)
      try simp only [zA,zB,zC,Act.put,zD,zE,zF]
      refine wpZ_one (i:=14) (by kernel_rfl) rfl (fun K hK=> ?_);go_simp;refine(hhd _ hF8).mono ?_;clear hhd;rintro e W9 ⟨rfl,F9⟩;have hF9:=hF8.trans F9;have e1'':=cell_fr F9 e1';have e2'':=range_fr1 F9 e2';dsimp only;refine hK.out _ _ ⟨e1'',e2''⟩ (fun hHeld=> ?_);clear hK K;try simp only [zA,zB,zC,Act.put,zD,zE,zF]
      refine wpZ_take (i:=16) (v:= .string HS) rfl (by kernel_rfl) (by kernel_rfl) (by kernel_rfl) (by kernel_rfl) (fun _ _ _ h=>peek_put (by decide) (by decide) h) (Or.inl ⟨by rfl,?_⟩) hHeld ?_
      ·(intro w hSw;go_simp<;>with_reducible rfl)
      try simp only [zA,zB,zC,Act.put,zD,zE,zF]
      refine wpZ_take (i:=18) (v:= ?_) rfl (by kernel_rfl) (by kernel_rfl) (by kernel_rfl) (by kernel_rfl) (fun _ _ _ h=>peek_put (by decide) (by decide) h) (Or.inl ⟨by rfl,?_⟩) hHeld ?_;rotate_left
      ·(intro w hSw;go_simp<;>with_reducible rfl)
      try simp only [zA,zB,zC,Act.put,zD,zE,zF]
      refine wpZ_take (i:=19) (v:= ?_) rfl (by kernel_rfl) (by kernel_rfl) (by kernel_rfl) (by kernel_rfl) (fun _ _ _ h=>peek_put (by decide) (by decide) h) (Or.inl ⟨by rfl,?_⟩) hHeld ?_;rotate_left
      ·(intro w hSw;go_simp<;>with_reducible rfl)
      try simp only [zA,zB,zC,Act.put,zD,zE,zF]
      refine wpZ_take (i:=20) (v:= ?_) rfl (by kernel_rfl) (by kernel_rfl) (by kernel_rfl) (by kernel_rfl) (fun _ _ _ h=>peek_put (by decide) (by decide) h) (Or.inl ⟨by rfl,?_⟩) hHeld ?_;rotate_left
      ·(intro w hSw;go_simp<;>with_reducible rfl)
      try simp only [zA,zB,zC,Act.put,zD,zE,zF]
      refine wpZ_take (i:=21) (v:= ?_) rfl (by kernel_rfl) (by kernel_rfl) (by kernel_rfl) (by kernel_rfl) (fun _ _ _ h=>peek_put (by decide) (by decide) h) (Or.inl ⟨by rfl,?_⟩) hHeld ?_;rotate_left
      ·(intro w hSw;go_simp<;>with_reducible rfl)
      try simp only [zA,zB,zC,Act.put,zD,zE,zF]
      refine wpZ_take (i:=22) (v:= ?_) rfl (by kernel_rfl) (by kernel_rfl) (by kernel_rfl) (by kernel_rfl) (fun _ _ _ h=>peek_put (by decide) (by decide) h) (Or.inl ⟨by rfl,?_⟩) hHeld ?_;rotate_left
      ·(intro w hSw;go_simp<;>with_reducible rfl)
      try simp only [zA,zB,zC,Act.put,zD,zE,zF]
      refine wpZ_take (i:=23) (v:= ?_) rfl (by kernel_rfl) (by kernel_rfl) (by kernel_rfl) (by kernel_rfl) (fun _ _ _ h=>peek_put (by decide) (by decide) h) (Or.inl ⟨by rfl,?_⟩) hHeld ?_;rotate_left
      ·(intro w hSw;go_simp<;>with_reducible rfl)
      try simp only [zA,zB,zC,Act.put,zD,zE,zF]
      refine wpZ_take (i:=24) (v:= ?_) rfl (by kernel_rfl) (by kernel_rfl) (by kernel_rfl) (by kernel_rfl) (fun _ _ _ h=>peek_put (by decide) (by decide) h) (Or.inl ⟨by rfl,?_⟩) hHeld ?_;rotate_left
      ·(intro w hSw;go_simp<;>with_reducible rfl)
      try simp only [zA,zB,zC,Act.put,zD,zE,zF]
      refine wpZ_done (by kernel_rfl) ?_ _;go_wp2_with fail
      rw [hr2.o];exact peek_fail (hP7.o.fr0 (F8.of_drew.trans F9)) hw.o _ rfl rfl
  ·have hr2:Hid (res=none):=zh (by
    have:numL d1=none:=by
     unfold numL;rcases h:Lib.atoiAll d1 with v |_ |_
     ·exact absurd h (hno v)
     ·rfl
     ·rfl
    rw [hr.o,this];simp)
   clear hr h1 hno hT7 hasz;go_quiet (fail)
   go_wp2_with fail
   rw [hr2.o];exact peek_fail (hP7.o.fr0 ((Fr.refl [] V7).drewN _)) hw.o _ rfl rfl
 ·have h1b:(((bA a1).size:Int) !=1)=true:=by rw [bA_size];simp only [bne_iff_ne];omega
  have hr2:Hid (res=none):=zh (by
   have hk0:kindL a1=0:=by unfold kindL;rw [if_neg (fun e=>h1 (by rw [e];rfl)),if_neg (fun e=>h1 (by rw [e];rfl)),if_neg (fun e=>h1 (by rw [e];rfl))]
   rw [hr.o];split
   ·split
    ·rfl
    ·rw [if_neg];intro h;have:=h.1;unfold tkOk at this;rw [hk0]at this;simp at this
   ·rfl)
  clear hr h1 hT7 hasz;go_quiet (fail)
  go_wp2_with fail
  rw [hr2.o];exact peek_fail (hP7.o.fr0 ((Fr.refl [] V7).drewN _)) hw.o _ rfl rfl
end Go.Proofs.YtopfcgpeaaehgaaGreatDoor
