/- Walks: the document's Do, all kinds; the law's run: a book and the document's, behind commands. Conditions: each theorem's own. -/
import Derived.Test.YtdeoinjjphdbmaaGreatKh
import Derived.Test.YtdeoinjjphdbmaaGreatKi
import Derived.Test.YtdeoinjjphdbmaaGreatKj
import Derived.Test.YtdeoinjjphdbmaaGreatKk
import Derived.Test.YtdeoinjjphdbmaaGreatKl
import Derived.Test.YtdeoinjjphdbmaaGreatHm
namespace Go.Sig
open Go
section
variable {P:Program}{ops:Array Oper}{Q:Exit→Act→World→Prop}{md:Region.Mode}{S:World→Prop}{Z:List Nat}
theorem wpZ_tri {i j l:Nat}{oi oj ol:Oper}{fuel:Nat}{listed:Array Bool}{a:Act}{w:World}(hr:Region.ready md ops listed= [i,j,l]) (hi:ops[i]? =some oi) (hj:ops[j]? =some oj) (hl:ops[l]? =some ol)
  (h1:∀K':Act→World→Prop,Shut (∀a w,S w→(S w→wpZ P md ops Q S Z fuel (listed.setIfInBounds i true) a w)→K' a w)→if Region.wanted oi (yielded ops a.tmps)=true then Oper.wp P oi a w K' Q else K' (a.put oi.dst undef) w)
  (h2:∀K':Act→World→Prop,Shut (∀a w,S w→(S w→wpZ P md ops Q S Z fuel (listed.setIfInBounds j true) a w)→K' a w)→if Region.wanted oj (yielded ops a.tmps)=true then Oper.wp P oj a w K' Q else K' (a.put oj.dst undef) w)
  (h3:∀K':Act→World→Prop,Shut (∀a w,S w→(S w→wpZ P md ops Q S Z fuel (listed.setIfInBounds l true) a w)→K' a w)→if Region.wanted ol (yielded ops a.tmps)=true then Oper.wp P ol a w K' Q else K' (a.put ol.dst undef) w):
  wpZ P md ops Q S Z (fuel+1) listed a w:=by
 refine⟨fun h0=>by(rw [hr]at h0;cases h0),fun k hk=> ?_⟩
 rw [hr,List.mem_cons,List.mem_cons,List.mem_singleton]at hk
 rcases hk with rfl |rfl |rfl
 ·exact wpOp_step hi (fun K' hK=>h1 K' (fun a w hS hW=>hK a w ⟨.inr hS,hW hS⟩))
 ·exact wpOp_step hj (fun K' hK=>h2 K' (fun a w hS hW=>hK a w ⟨.inr hS,hW hS⟩))
 ·exact wpOp_step hl (fun K' hK=>h3 K' (fun a w hS hW=>hK a w ⟨.inr hS,hW hS⟩))
end
end Go.Sig
namespace Go.Proofs.YtdeoinjjphdbmaaGreat
open Go.RowKit Go.Sig
def RDo2Post (w:World) (X:List Nat) (room:Int) (r:GBk×GAns) (e:Ending) (w':World):Prop:=
 ∃A' c' l' aA ac,e= .returned (.tuple #[.agg #[.slice A' (List.length l') c',.int .i64 room],(AA.mk r.2 aA ac).val])∧FamsIn w' X A' (List.length l') l'∧l'.map (·.f)=famsM r.1∧RdX w' X 1 aA r.2.scope.length (strCells r.2.scope)∧Fr [] w w'
theorem rdo_t (w:World) (X:List Nat) (A:Option Addr) (n c0:Nat) (room:Int) (l:List FA) (b:GBk) (c:GCmd) (cA:Option Addr) (ck:Nat) (h:RBk w X A n l b) (hc:CmdIn w c cA c.scope.length) (hcX:0<c.scope.length→Off X cA):
  Calls Tryz.prog 60 #[.agg #[.slice A n c0,.int .i64 room],.agg (cmdV c cA c.scope.length ck)] w (RDo2Post w X room (doM room c b)):=by
 have h1:Calls Tryz.prog 60 #[.agg #[.slice A n c0,.int .i64 room],.agg (cmdV c cA c.scope.length ck)] w (RDoPost w X room (dDo room c (l.map (·.f)))):=by
  cases hm:mayM c with
  |false=>exact rdo_no w X A n c0 room l b c cA ck h hc hcX hm
  |true=>
   have hmo:=mayM_ok hm
   have hk:c.kind=1∨c.kind=2∨c.kind=3∨c.kind=4∨c.kind=5∨c.kind=6∨c.kind=7:=by
    have:=hmo.lo
    have:=hmo.hi
    omega
   rcases hk with hk |hk |hk |hk |hk |hk |hk
   ·exact rdo_1 w X A n c0 room l b c cA ck h hc hcX hm hk
   ·exact rdo_2 w X A n c0 room l b c cA ck h hc hcX hm hk
   ·exact rdo_3 w X A n c0 room l b c cA ck h hc hcX hm hk
   ·exact rdo_4 w X A n c0 room l b c cA ck h hc hcX hm hk
   ·exact rdo_5 w X A n c0 room l b c cA ck h hc hcX hm hk
   ·exact rdo_6 w X A n c0 room l b c cA ck h hc hcX hm hk
   ·exact rdo_7 w X A n c0 room l b c cA ck h hc hcX hm hk
 refine h1.mono ?_
 rintro e w' ⟨A',c',l',aA,ac,rfl,g1,g2,g3,g4⟩
 rw [h.hb,d_do h.ok]at g2 g3
 exact⟨A',c',l',aA,ac,by rw [h.hb,d_do h.ok],g1,g2,g3,g4⟩
theorem rbk_next {w w':World}{X:List Nat}{A A':Option Addr}{n n':Nat}{l l':List FA}{b:GBk}{c:GCmd}{room:Int}(h:RBk w X A n l b) (hL:FamsIn w' X A' n' l') (hl:l'.map (·.f)=famsM (doM room c b).1) (hs:w.heap.size≤w'.heap.size) (hm:(doM room c b).1.length≤900000):RBk w' X A' n' l' (doM room c b).1:=by
 refine⟨hL,hl,doM_ok h.ok,fun g hg=>Nat.lt_of_lt_of_le (h.hX g hg) hs,?_⟩
 have h1:=congrArg List.length hl
 rw [List.length_map,hL.hn,famsM_length _ (doM_ok h.ok)]at h1
 omega
theorem results_tct {P:Program}{fn:Func}{p q r:Tmp}{ty:TypeId}(h:fn.results=#[.tmp p,.cell q ty,.tmp r]) (tmps:Array Value) (w:World) (g:Nat) (t:TypeId) (cs:Array Value) (d:TypeDesc) {v u:Value}
  (hq:tmps.getD q undef= .pointer (some ⟨g,0,none⟩)) (hg:Blk w g t cs) (hu:P.underlying ty=some d) (hd:(match d with | .struct _ | .array _ _=>true |_=>false)=true) (hi:(P.info? ty).map (·.size)=some cs.size) (hp:tmps.getD p undef=v) (hr:tmps.getD r undef=u):
  (results fn tmps).run P w= .ok (.tuple #[v,.agg cs,u]) w:=by
 subst hp
 subst hr
 have hq':tmps[q]?.getD undef= .pointer (some ⟨g,0,none⟩):=by simpa using hq
 simp [results,h,hq',asAddr,run_loadVar_row w g t ty cs (0,0) d hg hu hd hi]
def RunMid (W wx:World) (X:List Nat) (room:Int) (r:GBk×GAns) (s12 s13:Value):Prop:=
 ∃ga gb A1 c1 l1 aA ac,s12= .pointer (some ⟨ga,0,none⟩)∧s13= .pointer (some ⟨gb,0,none⟩)∧Blk wx ga 50 #[.slice A1 (List.length l1) c1,.int .i64 room]∧Blk wx gb 33 (AA.mk r.2 aA ac).cells∧
  FamsIn wx X A1 (List.length l1) l1∧l1.map (·.f)=famsM r.1∧RdX wx X 1 aA r.2.scope.length (strCells r.2.scope)∧W.heap.size≤gb∧Fr [] W wx
theorem run_leaf {V W:World}{X:List Nat}{ga gb c1 ac:Nat}{A1 aA:Option Addr}{l1:List FA}{room:Int}{r:GBk×GAns}{za:Array Value}(F:Fr [] V W) (ba:Blk W ga 50 #[.slice none 0 0,.int .i64 0]) (bb:Blk W gb 33 za) (gab:ga≠gb)
  (f1:FamsIn W (ga::gb::X) A1 l1.length l1) (m1:l1.map (·.f)=famsM r.1) (ha:RdX W (ga::gb::X) 1 aA r.2.scope.length (strCells r.2.scope)) (h1:V.heap.size≤ga) (h2:V.heap.size≤gb):
  RunMid V ((W.setRow ga #[.slice A1 l1.length c1,.int .i64 room]).setRow gb (AA.mk r.2 aA ac).cells) X room r (.pointer (some ⟨ga,0,none⟩)) (.pointer (some ⟨gb,0,none⟩)):=by
 have F1:Fr [ga,gb] W (W.setRow ga #[.slice A1 l1.length c1,.int .i64 room]):=(Fr.refl _ _).setRow (.inl (by simp)) _
 have F2:Fr [ga,gb] (W.setRow ga #[.slice A1 l1.length c1,.int .i64 room]) ((W.setRow ga #[.slice A1 l1.length c1,.int .i64 room]).setRow gb (AA.mk r.2 aA ac).cells):=(Fr.refl _ _).setRow (.inl (by simp)) _
 have F12:=(F1.trans F2).mono (S':=ga::gb::X) (by simp+contextual)
 refine⟨ga,gb,A1,c1,l1,aA,ac,rfl,rfl,?_,?_,(f1.fr F12).mono (by simp+contextual),m1,(ha.fr F12).mono (by simp+contextual),h2,F.andThen (F1.trans F2) (fun g hg=> .inr ?_)⟩
 ·exact(Blk.setRow ba #[.slice A1 l1.length c1,.int .i64 room]).fr ((Fr.refl [gb] _).setRow (.inl (by simp)) _) (by simp;exact gab)
 ·exact Blk.setRow (bb.fr ((Fr.refl [ga] _).setRow (.inl (by simp)) _) (by simp;exact fun h=>gab h.symm)) _
 ·simp at hg
  omega
theorem bookAt_nil {w:World}{p mb:Nat}{room:Int}{X Y:List Nat}(h:BookAt w p mb room X []) (hY:∀g∈Y,g<w.heap.size) (hm:mb∈Y):BookAt w p mb room Y []:=by
 obtain⟨h1,⟨l,m1,m2,_⟩,h3,_,_,h6⟩:=h
 obtain rfl:l= []:=by simpa using m2
 exact⟨h1,⟨[],m1,rfl,by simp⟩,h3,hY,hm,h6⟩
theorem FW_of {w V W:World}{mb g9:Nat}(h:Fr [] w V) (h2:Fr [mb,g9] V W) (h9:w.heap.size≤g9) (hm:w.heap.size≤mb):Fr [] w W:=h.andThen h2 (fun g hg=> .inr (by simp at hg;omega))
def RunPost (w:World) (n:Int) (e:Ending) (w':World):Prop:=
 ∃(p mb c':Nat) (b:GBk) (A':Option Addr) (l':List FA),e= .returned (.tuple #[.pointer (some ⟨p,0,none⟩),.agg #[.slice A' l'.length c',.int .i64 (roomM n)],.bool true])∧BookAt w' p mb (roomM n) [mb] b∧RBk w' [mb] A' l'.length l' b∧b.length≤60∧w.heap.size≤mb∧w.heap.size≤p∧Fr [] w w'
set_option maxRecDepth 100000 in
set_option maxHeartbeats 8000000 in
theorem grun_t (w:World) (n:Int) (A:Option Addr) (m k:Nat) (l:List CA) (h:CmdsIn w A m l):Calls Tryz.prog 27 #[.int .i64 n,.slice A m k] w (RunPost w n):=by
 have hh:=zh h
 have hml:=h.hl
 have hroom:=fun(W:World)=>roomL_t W n
 obtain⟨hr1,hr2⟩:=roomM_in n
 obtain⟨rm,hrm⟩:∃z,Hid (roomM n=z):=⟨_,zh rfl⟩
 simp only [hrm.o]at hroom hr1 hr2
 clear h
 go_enter Tryz.func27,Tryz.ntmps27
 go_upto_region 1 with(fail)
 refine wp_gen (fun W=>Blk W w.heap.size 50 #[.slice none 0 0,.int .i64 0]∧Fr [] w W) ⟨Blk.new _ _ _,(Fr.refl _ _).alloc _⟩ ?_
 rintro W0 ⟨hB5,f0⟩
 obtain⟨g5,HG5⟩:∃z,Hid (w.heap.size=z):=⟨_,zh rfl⟩
 rw [HG5.o]at hB5⊢
 have hnew:=gnew_t W0 rm hr1 hr2
 have hB5h:=zh hB5
 have h5w0:g5<W0.heap.size:=hB5.lt
 have f0h:=zh f0
 clear hB5 f0
 go_wp2_with (go_at_call 13;refine(hroom _).mono ?_;rintro e w' ⟨rfl,rfl⟩)
 refine hnew.mono ?_
 rintro e W1 ⟨p,mb,rfl,hB1,hpw,hmw,F1⟩
 have hB1h:=zh hB1
 have F1h:=zh (f0h.o.trans F1)
 have hB51:=zh (hB5h.o.fr F1 (by simp))
 have hmb0:w.heap.size≤mb:=by have:=f0h.o.size;omega
 have hp0:w.heap.size≤p:=by have:=f0h.o.size;omega
 have hmb1:mb<W1.heap.size:=hB1.hb.lt
 have hp1:p<W1.heap.size:=hB1.hp.lt
 have h5m:g5≠mb:=by have:=hB5h.o.lt;omega
 clear hnew F1 hB1 hB5h
 go_upto_region 3 with(first
  | (go_at_call 13;refine(hroom _).mono ?_;rintro e w' ⟨rfl,rfl⟩)
  | (refine wpList_store_row rfl 50 _ _ rfl W1.heap.size #[.slice none 0 0,.int .i64 rm] rfl rfl 50 _ (Blk.new _ _ _) infoRb (by rfl) (by kernel_rfl) ?_))
 refine wp_gen (fun V=>Blk V W1.heap.size 50 #[.slice none 0 0,.int .i64 rm]∧Fr [] W1 V) ⟨Blk.setRow (Blk.new _ _ _) _,((Fr.refl [] W1).alloc _).setRow (.inr (Nat.le_refl _)) _⟩ ?_
 rintro W2 ⟨hB9,F2⟩
 obtain⟨g9,HG9⟩:∃z,Hid (W1.heap.size=z):=⟨_,zh rfl⟩
 rw [HG9.o]at hB9⊢
 have hXX:∀g∈ [mb,g9,g5],g<W2.heap.size:=fun g hg=>by
  have h1:=hB9.lt
  have h2:=(hB51.o.fr F2 (by simp)).lt
  have h3:=F2.size
  simp at hg
  omega
 have hBk2:=zh (bookAt_nil (hB1h.o.fr0 F2) hXX (by simp))
 have hB52:=zh (hB51.o.fr F2 (by simp))
 have F2h:=zh (F1h.o.trans F2)
 have h9m:g9≠mb:=by have:=HG9.o;omega
 have h59:g5≠g9:=by have:=hB51.o.lt;have:=HG9.o;omega
 have h9w:w.heap.size≤g9:=by have:=F1h.o.size;have:=HG9.o;omega
 have hB9h:=zh hB9
 have hmb2:mb<W2.heap.size:=Nat.lt_of_lt_of_le hmb1 F2.size
 have hR2:=zh (show RBk W2 [mb,g9,g5] none 0 [] []from⟨⟨RdX.nil _ _ _ _,rfl,fun x hx=>(by cases hx),fun x hx=>(by cases hx)⟩,rfl,bkOk_nil,hXX,by omega⟩)
 clear hB9 F2 hB1h hB51 hroom hXX
 go_wp2_with fail
 go_loopg [10] (m+1) (fun gk s10 wr=>∃(i c0:Nat) (b:GBk) (B:Option Addr) (lb:List FA),s10= .int .i64 i∧i≤m∧i≤60∧m - i<gk∧b.length≤i∧BookAt wr p mb rm [mb,g9,g5] b∧RBk wr [mb,g9,g5] B lb.length lb b∧Blk wr g9 50 #[.slice B lb.length c0,.int .i64 rm]∧Fr [mb,g9] W2 wr)
 case atStart=>exact⟨0,0,[],none,[],rfl,by omega,by omega,by omega,by simp,hBk2.o,hR2.o,hB9h.o,Fr.refl _ _⟩
 case round=>
  obtain⟨i,c0,b,B,lb,rfl,him,hi60,hik,hbl,hB,hR,h9,hF⟩:=hrel
  have hBh:=zh hB
  have hRh:=zh hR
  have h9h:=zh h9
  have hFh:=zh hF
  obtain⟨nb,hnb⟩:∃z,Hid (lb.length=z):=⟨_,zh rfl⟩
  clear hB hF hR h9
  by_cases hlt:i<m∧i<60
  ·obtain⟨hlt,h60⟩:=hlt
   have hlt':(i:Int)<m:=by omega
   have h60':(i:Int)<60:=by omega
   have hlth:=zh hlt
   have h60h:=zh h60
   have FW:=zh (F2h.o.andThen hFh.o (fun g hg=> .inr (by simp at hg;omega)))
   obtain⟨⟨c1,cA1,ck1⟩,rb,ro,rfl,hxi,hcs,hci⟩:=(hh.o.fr FW.o).row hlt
   simp only [CA.cells]at hcs hci
   have hxih:=zh hxi
   have hcih:=zh hci
   have hcOff:=zh (show 0<c1.scope.length→Off [mb,g9,g5] cA1 from fun h0 ad e hg=>by
    have hm0:=(hh.o.each _ (List.mem_of_getElem? hxi)).hS.lt (by decide) h0 ad e
    have h5:=HG5.o
    simp at hg
    omega)
   have hd:=bdo_t wr p mb rm [mb,g9,g5] b c1 cA1 c1.scope.length ck1 hBh.o hci
   clear hxi hci hlt h60 hi60
   go_wp2_with (refine wpList_load_cells rfl 30 _ rfl rfl hcs uCmd rfl (infoCmdV _ _ _ _) ?_)
   clear hcs
   refine Calls.mono (show Calls Tryz.prog 14 _ _ _ from hd) ?_
   rintro e V2 ⟨y,rfl,ye,yA,yB,G2⟩
   unfold AA.val
   clear hd
   go_upto_region 9 with(refine wpList_store_row rfl 33 _ _ rfl V2.heap.size y.cells rfl rfl 33 _ (Blk.new _ _ _) (infoAnsY y) (by rw [AA.size8];rfl) (AA.one y) ?_)
   refine wp_gen (fun V=>Blk V V2.heap.size 33 y.cells∧Fr [] V2 V) ⟨Blk.setRow (Blk.new _ _ _) _,((Fr.refl [] V2).alloc _).setRow (.inr (Nat.le_refl _)) _⟩ ?_
   rintro V3 ⟨hB11,G3⟩
   obtain⟨g11,HG11⟩:∃z,Hid (V2.heap.size=z):=⟨_,zh rfl⟩
   rw [HG11.o]at hB11⊢
   have G23:=zh (G2.trans G3.nil)
   have hB3:=zh ((yB.mono (Y:= [mb,g9,g5]) (fun g hg=>List.mem_append.2 (.inl hg)) (by simp)).fr0 G3)
   have hy3:=zh (yA.1.rd.fr G3 (by simp [Off]))
   have hyeh:=zh ye
   have hR3:=zh (show RBk V3 [mb,g9,g5] B lb.length lb b from⟨hRh.o.hL.fr (G23.o.mono (by simp)),hRh.o.hb,hRh.o.ok,fun g hg=>Nat.lt_of_lt_of_le (hRh.o.hX g hg) G23.o.size,hRh.o.hmax⟩)
   have h93:=zh (h9h.o.fr G23.o (by simp;exact h9m))
   have hF3:=zh (hFh.o.trans (G23.o.mono (by simp)))
   have hc3:=zh (hcih.o.fr G23.o (fun h0=>off_mono (hcOff.o h0) (by simp)))
   have hB11h:=zh hB11
   have hSall:=zh (show∀V:World,Fr [] V3 V→Blk V g9 50 #[.slice B lb.length c0,.int .i64 rm]∧V.rangeAt rb (ro+i*13) (cmdV c1 cA1 c1.scope.length ck1).toList from fun V hV=>
    ⟨h93.o.fr hV (by simp),fun j v hv=>(hh.o.fr ((FW_of F2h.o hF3.o h9w hmb0).trans hV)).cell hlth.o hxih.o (by rw [Array.getElem?_toList]at hv;exact hv)⟩)
   have mb3:mb<V3.heap.size:=Nat.lt_of_lt_of_le hmb2 hF3.o.size
   have g93:g9<V3.heap.size:=h93.o.lt
   have g53:g5<V3.heap.size:=(hB52.o.fr hF3.o (by simp;exact⟨h5m,h59⟩)).lt
   have hg11:g11≠g9:=by have:=h9h.o.lt;have:=G2.size;have:=HG11.o;omega
   have hp9:p≠g9:=by have:=HG9.o;omega
   have hp5:p≠g5:=by omega
   have hyoff:=zh (show Off [g9] y.A from fun ad e1 hg=>by
    have h1:=yA.2 ad e1
    have h2:=h9h.o.lt
    simp at hg
    omega)
   clear yB yA ye G2 G3 hB11 hBh h9h hnb
   dsimp only [Act.put]
   go_cut [12,13]from 46 to 54 (fun s12 s13 wx=>RunMid V3 wx [mb,g9,g5] rm (doM rm c1 b) s12 s13)
   case first=>
    refine wp_region_z (fun w'=>Blk w' g9 50 #[.slice B lb.length c0,.int .i64 rm]∧w'.rangeAt rb (ro+i*13) (cmdV c1 cA1 c1.scope.length ck1).toList) [] (by kernel_rfl) (hSall.o _ (Fr.refl _ _).drew) ?_
    intro hHeld
    refine wpZ_take (i:=0) rfl (by kernel_rfl) (by kernel_rfl) (by kernel_rfl) (by kernel_rfl) (fun _ _ _ h=>h) (yieldsIf_load_mid (by kernel_rfl) 50 _ rfl g9 0 rfl ([.slice B lb.length c0,.int .i64 rm]) _ (fun w h=>range_cells h.1) uRb rfl (by kernel_rfl)) hHeld ?_
    try simp only [zA,zC,Act.put,zD,zE,zF]
    refine wpZ_tk (i:=1) (v:= ?_) hHeld ?_ ?_
    rotate_left
    ·(intro w hSw;go_simp<;>with_reducible rfl)
    try simp only [zA,zB,zC,Act.put,zD,zE,zF]
    refine wpZ_tk (i:=2) (v:= ?_) hHeld ?_ ?_
    rotate_left
    ·(intro w hSw;go_simp<;>with_reducible rfl)
    try simp only [zA,zB,zC,Act.put,zD,zE,zF]
    refine wpZ_tk (i:=3) (v:= ?_) hHeld ?_ ?_
    rotate_left
    ·(intro w hSw;go_simp<;>with_reducible rfl)
    try simp only [zA,zB,zC,Act.put,zD,zE,zF]
    refine wpZ_take (i:=4) rfl (by kernel_rfl) (by kernel_rfl) (by kernel_rfl) (by kernel_rfl) (fun _ _ _ h=>h) (yieldsIf_load_mid (by kernel_rfl) 30 _ rfl rb (ro+i*13) rfl ((cmdV c1 cA1 c1.scope.length ck1).toList) _ (fun w h=>h.2) uCmd rfl (by kernel_rfl)) hHeld ?_
    try simp only [zA,zB,zC,Act.put,zD,zE,zF]
    have fQ0:=zh ((Fr.refl [] V3).drew)
    refine wpZ_tri (i:=5) (j:=9) (l:=10) (by kernel_rfl) rfl rfl rfl (fun K hK=> ?_) (fun K hK=> ?_) (fun K hK=> ?_)
    ·go_simp
     refine Calls.mono (show Calls Tryz.prog 60 _ _ _ from rdo_t (World.drew V3) [mb,g9,g5] B lb.length c0 rm lb b c1 cA1 ck1 ⟨hR3.o.hL.to fQ0.o.nil (fun g hg=>by simp only [List.mem_cons,List.not_mem_nil,or_false]at hg⊢;omega),hR3.o.hb,hR3.o.ok,fun g hg=>(by simp only [List.mem_cons,List.not_mem_nil,or_false]at hg;have:=fQ0.o.size;omega),hR3.o.hmax⟩ (hc3.o.fr fQ0.o (by simp [Off])) (fun h0 ad e1 hg=>by
      simp only [List.mem_cons,List.not_mem_nil,or_false]at hg
      have h1:=hc3.o.hS.lt (by decide) h0 ad e1
      have h2:ad.block≠mb:=fun h=>hcOff.o h0 ad e1 (by simp [h])
      have h2b:ad.block≠g9:=fun h=>hcOff.o h0 ad e1 (by simp [h])
      have h2c:ad.block≠g5:=fun h=>hcOff.o h0 ad e1 (by simp [h])
      omega)) ?_
     rintro e Q1 ⟨A1,c1x,l1,aA,ac,rfl,hl1,hm1,ha1,G⟩
     have fQ1:=zh (fQ0.o.trans G)
     have fl:=zh hl1
     have fm:=zh hm1
     have fa:=zh ha1
     clear hl1 hm1 ha1 G
     try dsimp only
     refine hK.out _ _ (hSall.o _ fQ1.o) (fun hHeld=> ?_)
     clear hK K
     try simp only [zA,zB,zC,Act.put,zD,zE,zF]
     refine wpZ_tk (i:=6) (v:= ?_) hHeld ?_ ?_
     rotate_left
     ·(intro w hSw;go_simp<;>with_reducible rfl)
     try simp only [zA,zB,zC,Act.put,zD,zE,zF]
     refine wpZ_tk (i:=7) (v:= ?_) hHeld ?_ ?_
     rotate_left
     ·(intro w hSw;go_simp<;>with_reducible rfl)
     try simp only [zA,zB,zC,Act.put,zD,zE,zF]
     refine wpZ_tk (i:=8) (v:= ?_) hHeld ?_ ?_
     rotate_left
     ·(intro w hSw;go_simp<;>with_reducible rfl)
     try simp only [zA,zB,zC,Act.put,zD,zE,zF]
     refine wpZ_two (i:=9) (j:=10) (by kernel_rfl) rfl rfl (fun K hK=> ?_) (fun K hK=> ?_)
     ·go_simp
      refine hK.out _ _ (hSall.o _ (fQ1.o.alloc _)) (fun hHeld=> ?_)
      clear hK K
      try simp only [zA,zB,zC,Act.put,zD,zE,zF]
      obtain⟨Q2,e2⟩:∃V,V=World.alloc Q1 (.cells #[.slice none 0 0,.int .i64 0] 50):=⟨_,rfl⟩
      have s2:Fr [] Q1 Q2:=by rw [e2];exact(Fr.refl [] _).alloc _
      have baB:Hid (Blk Q2 (World.heap Q1).size 50 #[.slice none 0 0,.int .i64 0]):=by rw [e2];exact zh (Blk.new _ _ _)
      rw [←e2]at hHeld⊢
      obtain⟨ga,gaE⟩:∃z,Hid ((World.heap Q1).size=z):=⟨_,zh rfl⟩
      rw [gaE.o]at baB⊢
      have ga0:V3.heap.size≤ga:=by have:=fQ1.o.size;have:=gaE.o;omega
      have fQ2:=zh (fQ1.o.trans s2)
      have fl:=zh (fl.o.to (Y:= [ga,mb,g9,g5]) s2.nil (fun g hg=>by simp only [List.mem_cons,List.not_mem_nil,or_false]at hg⊢;have:=gaE.o;omega))
      have fa:=zh (fa.o.to (Y:= [ga,mb,g9,g5]) (by decide) s2.nil (fun g hg=>by simp only [List.mem_cons,List.not_mem_nil,or_false]at hg⊢;have:=gaE.o;omega))
      clear e2 s2
      refine wpZ_one (i:=10) (by kernel_rfl) rfl (fun K hK=> ?_)
      go_simp
      refine hK.out _ _ (hSall.o _ (fQ2.o.alloc _)) (fun hHeld=> ?_)
      clear hK K
      try simp only [zA,zB,zC,Act.put,zD,zE,zF]
      obtain⟨Q3,e3⟩:∃V,V=World.alloc Q2 (.cells #[.int .i64 0,.int .i64 0,.int .i64 0,.slice none 0 0,.string ⟨#[]⟩,.string ⟨#[]⟩,.bool false,.bool false] 33):=⟨_,rfl⟩
      have s3:Fr [] Q2 Q3:=by rw [e3];exact(Fr.refl [] _).alloc _
      have bbB:Hid (Blk Q3 (World.heap Q2).size 33 #[.int .i64 0,.int .i64 0,.int .i64 0,.slice none 0 0,.string ⟨#[]⟩,.string ⟨#[]⟩,.bool false,.bool false]):=by rw [e3];exact zh (Blk.new _ _ _)
      rw [←e3]at hHeld⊢
      obtain⟨gb,gbE⟩:∃z,Hid ((World.heap Q2).size=z):=⟨_,zh rfl⟩
      rw [gbE.o]at bbB⊢
      have gb0:V3.heap.size≤gb:=by have:=fQ2.o.size;have:=gbE.o;omega
      have fQ3:=zh (fQ2.o.trans s3)
      have gabh:Hid (ga≠gb):=zh (by have:=baB.o.lt;have:=gbE.o;omega)
      have baB:=zh (baB.o.fr s3 (by simp))
      have fl:=zh (fl.o.to (Y:= [ga,gb,mb,g9,g5]) s3.nil (fun g hg=>by simp only [List.mem_cons,List.not_mem_nil,or_false]at hg⊢;have:=gbE.o;omega))
      have fa:=zh (fa.o.to (Y:= [ga,gb,mb,g9,g5]) (by decide) s3.nil (fun g hg=>by simp only [List.mem_cons,List.not_mem_nil,or_false]at hg⊢;have:=gbE.o;omega))
      clear e3 s3
      have t1:Fr [] V3 (Q3.setRow ga #[.slice A1 l1.length c1x,.int .i64 rm]):=fQ3.o.setRow (.inr ga0) _
      have t2:Fr [] V3 ((Q3.setRow ga #[.slice A1 l1.length c1x,.int .i64 rm]).setRow gb (AA.mk (doM rm c1 b).2 aA ac).cells):=t1.setRow (.inr gb0) _
      have gab:ga≠gb:=gabh.o
      have bb2:=bbB.o.fr ((Fr.refl [ga] Q3).setRow (g:=ga) (.inl (by simp)) #[.slice A1 l1.length c1x,.int .i64 rm]) (by simp;exact fun h=>gab h.symm)
      refine wpZ_one (i:=11) (by kernel_rfl) rfl (fun K hK=> ?_)
      rw [if_pos (wanted_none rfl)]
      refine wp_store_row 50 _ _ rfl ga _ rfl rfl 50 _ baB.o infoRb (by kernel_rfl) (by kernel_rfl) ?_
      show K (Act.put _ none undef) _
      refine hK.out _ _ (hSall.o _ t1) (fun hHeld=> ?_)
      clear hK K
      try simp only [Act.put]
      refine wpZ_one (i:=12) (by kernel_rfl) rfl (fun K hK=> ?_)
      rw [if_pos (wanted_none rfl)]
      refine wp_store_row 33 _ _ rfl gb (AA.mk (doM rm c1 b).2 aA ac).cells rfl rfl 33 _ bb2 (infoAnsY _) (by rfl) (AA.one _) ?_
      show K (Act.put _ none undef) _
      refine hK.out _ _ (hSall.o _ t2) (fun hHeld=> ?_)
      clear hK K
      try simp only [Act.put]
      refine wpZ_done (by kernel_rfl) ?_ _
      go_wp2_with fail
      go_meet
      exact run_leaf fQ3.o baB.o bbB.o gab (fl.o.mono (by simp+contextual)) fm.o (fa.o.mono (by simp+contextual)) ga0 gb0
     ·go_simp
      refine hK.out _ _ (hSall.o _ (fQ1.o.alloc _)) (fun hHeld=> ?_)
      clear hK K
      try simp only [zA,zB,zC,Act.put,zD,zE,zF]
      obtain⟨Q4,e4⟩:∃V,V=World.alloc Q1 (.cells #[.int .i64 0,.int .i64 0,.int .i64 0,.slice none 0 0,.string ⟨#[]⟩,.string ⟨#[]⟩,.bool false,.bool false] 33):=⟨_,rfl⟩
      have s4:Fr [] Q1 Q4:=by rw [e4];exact(Fr.refl [] _).alloc _
      have bbB:Hid (Blk Q4 (World.heap Q1).size 33 #[.int .i64 0,.int .i64 0,.int .i64 0,.slice none 0 0,.string ⟨#[]⟩,.string ⟨#[]⟩,.bool false,.bool false]):=by rw [e4];exact zh (Blk.new _ _ _)
      rw [←e4]at hHeld⊢
      obtain⟨gb,gbE⟩:∃z,Hid ((World.heap Q1).size=z):=⟨_,zh rfl⟩
      rw [gbE.o]at bbB⊢
      have gb0:V3.heap.size≤gb:=by have:=fQ1.o.size;have:=gbE.o;omega
      have fQ4:=zh (fQ1.o.trans s4)
      have fl:=zh (fl.o.to (Y:= [gb,mb,g9,g5]) s4.nil (fun g hg=>by simp only [List.mem_cons,List.not_mem_nil,or_false]at hg⊢;have:=gbE.o;omega))
      have fa:=zh (fa.o.to (Y:= [gb,mb,g9,g5]) (by decide) s4.nil (fun g hg=>by simp only [List.mem_cons,List.not_mem_nil,or_false]at hg⊢;have:=gbE.o;omega))
      clear e4 s4
      refine wpZ_one (i:=9) (by kernel_rfl) rfl (fun K hK=> ?_)
      go_simp
      refine hK.out _ _ (hSall.o _ (fQ4.o.alloc _)) (fun hHeld=> ?_)
      clear hK K
      try simp only [zA,zB,zC,Act.put,zD,zE,zF]
      obtain⟨Q5,e5⟩:∃V,V=World.alloc Q4 (.cells #[.slice none 0 0,.int .i64 0] 50):=⟨_,rfl⟩
      have s5:Fr [] Q4 Q5:=by rw [e5];exact(Fr.refl [] _).alloc _
      have baB:Hid (Blk Q5 (World.heap Q4).size 50 #[.slice none 0 0,.int .i64 0]):=by rw [e5];exact zh (Blk.new _ _ _)
      rw [←e5]at hHeld⊢
      obtain⟨ga,gaE⟩:∃z,Hid ((World.heap Q4).size=z):=⟨_,zh rfl⟩
      rw [gaE.o]at baB⊢
      have ga0:V3.heap.size≤ga:=by have:=fQ4.o.size;have:=gaE.o;omega
      have fQ5:=zh (fQ4.o.trans s5)
      have gabh:Hid (ga≠gb):=zh (by have:=bbB.o.lt;have:=gaE.o;omega)
      have bbB:=zh (bbB.o.fr s5 (by simp))
      have fl:=zh (fl.o.to (Y:= [ga,gb,mb,g9,g5]) s5.nil (fun g hg=>by simp only [List.mem_cons,List.not_mem_nil,or_false]at hg⊢;have:=gaE.o;omega))
      have fa:=zh (fa.o.to (Y:= [ga,gb,mb,g9,g5]) (by decide) s5.nil (fun g hg=>by simp only [List.mem_cons,List.not_mem_nil,or_false]at hg⊢;have:=gaE.o;omega))
      clear e5 s5
      have t1:Fr [] V3 (Q5.setRow ga #[.slice A1 l1.length c1x,.int .i64 rm]):=fQ5.o.setRow (.inr ga0) _
      have t2:Fr [] V3 ((Q5.setRow ga #[.slice A1 l1.length c1x,.int .i64 rm]).setRow gb (AA.mk (doM rm c1 b).2 aA ac).cells):=t1.setRow (.inr gb0) _
      have gab:ga≠gb:=gabh.o
      have bb2:=bbB.o.fr ((Fr.refl [ga] Q5).setRow (g:=ga) (.inl (by simp)) #[.slice A1 l1.length c1x,.int .i64 rm]) (by simp;exact fun h=>gab h.symm)
      refine wpZ_one (i:=11) (by kernel_rfl) rfl (fun K hK=> ?_)
      rw [if_pos (wanted_none rfl)]
      refine wp_store_row 50 _ _ rfl ga _ rfl rfl 50 _ baB.o infoRb (by kernel_rfl) (by kernel_rfl) ?_
      show K (Act.put _ none undef) _
      refine hK.out _ _ (hSall.o _ t1) (fun hHeld=> ?_)
      clear hK K
      try simp only [Act.put]
      refine wpZ_one (i:=12) (by kernel_rfl) rfl (fun K hK=> ?_)
      rw [if_pos (wanted_none rfl)]
      refine wp_store_row 33 _ _ rfl gb (AA.mk (doM rm c1 b).2 aA ac).cells rfl rfl 33 _ bb2 (infoAnsY _) (by rfl) (AA.one _) ?_
      show K (Act.put _ none undef) _
      refine hK.out _ _ (hSall.o _ t2) (fun hHeld=> ?_)
      clear hK K
      try simp only [Act.put]
      refine wpZ_done (by kernel_rfl) ?_ _
      go_wp2_with fail
      go_meet
      exact run_leaf fQ5.o baB.o bbB.o gab (fl.o.mono (by simp+contextual)) fm.o (fa.o.mono (by simp+contextual)) ga0 gb0
    ·go_simp
     refine hK.out _ _ (hSall.o _ (((Fr.refl [] V3).alloc _).drew)) (fun hHeld=> ?_)
     clear hK K
     try simp only [zA,zB,zC,Act.put,zD,zE,zF]
     obtain⟨Q6,e6⟩:∃V,V=World.drew (World.alloc V3 (.cells #[.slice none 0 0,.int .i64 0] 50)):=⟨_,rfl⟩
     have s6:Fr [] V3 Q6:=by rw [e6];exact((Fr.refl [] _).alloc _).drew
     have baB:Hid (Blk Q6 (World.heap V3).size 50 #[.slice none 0 0,.int .i64 0]):=by rw [e6];exact zh (Blk.new _ _ _)
     rw [←e6]at hHeld⊢
     obtain⟨ga,gaE⟩:∃z,Hid ((World.heap V3).size=z):=⟨_,zh rfl⟩
     rw [gaE.o]at baB⊢
     have ga0:V3.heap.size≤ga:=by have:=fQ0.o.size;have:=gaE.o;omega
     have fQ6:=zh (s6)
     clear e6 s6
     refine wpZ_two (i:=5) (j:=10) (by kernel_rfl) rfl rfl (fun K hK=> ?_) (fun K hK=> ?_)
     ·go_simp
      refine Calls.mono (show Calls Tryz.prog 60 _ _ _ from rdo_t Q6 [ga,mb,g9,g5] B lb.length c0 rm lb b c1 cA1 ck1 ⟨hR3.o.hL.to fQ6.o.nil (fun g hg=>by simp only [List.mem_cons,List.not_mem_nil,or_false]at hg⊢;omega),hR3.o.hb,hR3.o.ok,fun g hg=>(by simp only [List.mem_cons,List.not_mem_nil,or_false]at hg;have:=fQ6.o.size;have:=baB.o.lt;omega),hR3.o.hmax⟩ (hc3.o.fr fQ6.o (by simp [Off])) (fun h0 ad e1 hg=>by
       simp only [List.mem_cons,List.not_mem_nil,or_false]at hg
       have h1:=hc3.o.hS.lt (by decide) h0 ad e1
       have h2:ad.block≠mb:=fun h=>hcOff.o h0 ad e1 (by simp [h])
       have h2b:ad.block≠g9:=fun h=>hcOff.o h0 ad e1 (by simp [h])
       have h2c:ad.block≠g5:=fun h=>hcOff.o h0 ad e1 (by simp [h])
       omega)) ?_
      rintro e Q7 ⟨A1,c1x,l1,aA,ac,rfl,hl1,hm1,ha1,G⟩
      have fQ7:=zh (fQ6.o.trans G)
      have fl:=zh hl1
      have fm:=zh hm1
      have fa:=zh ha1
      have baB:=zh (baB.o.fr G (by simp))
      clear hl1 hm1 ha1 G
      try dsimp only
      refine hK.out _ _ (hSall.o _ fQ7.o) (fun hHeld=> ?_)
      clear hK K
      try simp only [zA,zB,zC,Act.put,zD,zE,zF]
      refine wpZ_tk (i:=6) (v:= ?_) hHeld ?_ ?_
      rotate_left
      ·(intro w hSw;go_simp<;>with_reducible rfl)
      try simp only [zA,zB,zC,Act.put,zD,zE,zF]
      refine wpZ_tk (i:=7) (v:= ?_) hHeld ?_ ?_
      rotate_left
      ·(intro w hSw;go_simp<;>with_reducible rfl)
      try simp only [zA,zB,zC,Act.put,zD,zE,zF]
      refine wpZ_tk (i:=8) (v:= ?_) hHeld ?_ ?_
      rotate_left
      ·(intro w hSw;go_simp<;>with_reducible rfl)
      try simp only [zA,zB,zC,Act.put,zD,zE,zF]
      refine wpZ_one (i:=10) (by kernel_rfl) rfl (fun K hK=> ?_)
      go_simp
      refine hK.out _ _ (hSall.o _ (fQ7.o.alloc _)) (fun hHeld=> ?_)
      clear hK K
      try simp only [zA,zB,zC,Act.put,zD,zE,zF]
      obtain⟨Q8,e8⟩:∃V,V=World.alloc Q7 (.cells #[.int .i64 0,.int .i64 0,.int .i64 0,.slice none 0 0,.string ⟨#[]⟩,.string ⟨#[]⟩,.bool false,.bool false] 33):=⟨_,rfl⟩
      have s8:Fr [] Q7 Q8:=by rw [e8];exact(Fr.refl [] _).alloc _
      have bbB:Hid (Blk Q8 (World.heap Q7).size 33 #[.int .i64 0,.int .i64 0,.int .i64 0,.slice none 0 0,.string ⟨#[]⟩,.string ⟨#[]⟩,.bool false,.bool false]):=by rw [e8];exact zh (Blk.new _ _ _)
      rw [←e8]at hHeld⊢
      obtain⟨gb,gbE⟩:∃z,Hid ((World.heap Q7).size=z):=⟨_,zh rfl⟩
      rw [gbE.o]at bbB⊢
      have gb0:V3.heap.size≤gb:=by have:=fQ7.o.size;have:=gbE.o;omega
      have fQ8:=zh (fQ7.o.trans s8)
      have gabh:Hid (ga≠gb):=zh (by have:=baB.o.lt;have:=gbE.o;omega)
      have baB:=zh (baB.o.fr s8 (by simp))
      have fl:=zh (fl.o.to (Y:= [ga,gb,mb,g9,g5]) s8.nil (fun g hg=>by simp only [List.mem_cons,List.not_mem_nil,or_false]at hg⊢;have:=gbE.o;omega))
      have fa:=zh (fa.o.to (Y:= [ga,gb,mb,g9,g5]) (by decide) s8.nil (fun g hg=>by simp only [List.mem_cons,List.not_mem_nil,or_false]at hg⊢;have:=gbE.o;omega))
      clear e8 s8
      have t1:Fr [] V3 (Q8.setRow ga #[.slice A1 l1.length c1x,.int .i64 rm]):=fQ8.o.setRow (.inr ga0) _
      have t2:Fr [] V3 ((Q8.setRow ga #[.slice A1 l1.length c1x,.int .i64 rm]).setRow gb (AA.mk (doM rm c1 b).2 aA ac).cells):=t1.setRow (.inr gb0) _
      have gab:ga≠gb:=gabh.o
      have bb2:=bbB.o.fr ((Fr.refl [ga] Q8).setRow (g:=ga) (.inl (by simp)) #[.slice A1 l1.length c1x,.int .i64 rm]) (by simp;exact fun h=>gab h.symm)
      refine wpZ_one (i:=11) (by kernel_rfl) rfl (fun K hK=> ?_)
      rw [if_pos (wanted_none rfl)]
      refine wp_store_row 50 _ _ rfl ga _ rfl rfl 50 _ baB.o infoRb (by kernel_rfl) (by kernel_rfl) ?_
      show K (Act.put _ none undef) _
      refine hK.out _ _ (hSall.o _ t1) (fun hHeld=> ?_)
      clear hK K
      try simp only [Act.put]
      refine wpZ_one (i:=12) (by kernel_rfl) rfl (fun K hK=> ?_)
      rw [if_pos (wanted_none rfl)]
      refine wp_store_row 33 _ _ rfl gb (AA.mk (doM rm c1 b).2 aA ac).cells rfl rfl 33 _ bb2 (infoAnsY _) (by rfl) (AA.one _) ?_
      show K (Act.put _ none undef) _
      refine hK.out _ _ (hSall.o _ t2) (fun hHeld=> ?_)
      clear hK K
      try simp only [Act.put]
      refine wpZ_done (by kernel_rfl) ?_ _
      go_wp2_with fail
      go_meet
      exact run_leaf fQ8.o baB.o bbB.o gab (fl.o.mono (by simp+contextual)) fm.o (fa.o.mono (by simp+contextual)) ga0 gb0
     ·go_simp
      refine hK.out _ _ (hSall.o _ (fQ6.o.alloc _)) (fun hHeld=> ?_)
      clear hK K
      try simp only [zA,zB,zC,Act.put,zD,zE,zF]
      obtain⟨Q9,e9⟩:∃V,V=World.alloc Q6 (.cells #[.int .i64 0,.int .i64 0,.int .i64 0,.slice none 0 0,.string ⟨#[]⟩,.string ⟨#[]⟩,.bool false,.bool false] 33):=⟨_,rfl⟩
      have s9:Fr [] Q6 Q9:=by rw [e9];exact(Fr.refl [] _).alloc _
      have bbB:Hid (Blk Q9 (World.heap Q6).size 33 #[.int .i64 0,.int .i64 0,.int .i64 0,.slice none 0 0,.string ⟨#[]⟩,.string ⟨#[]⟩,.bool false,.bool false]):=by rw [e9];exact zh (Blk.new _ _ _)
      rw [←e9]at hHeld⊢
      obtain⟨gb,gbE⟩:∃z,Hid ((World.heap Q6).size=z):=⟨_,zh rfl⟩
      rw [gbE.o]at bbB⊢
      have gb0:V3.heap.size≤gb:=by have:=fQ6.o.size;have:=gbE.o;omega
      have fQ9:=zh (fQ6.o.trans s9)
      have gabh:Hid (ga≠gb):=zh (by have:=baB.o.lt;have:=gbE.o;omega)
      have baB:=zh (baB.o.fr s9 (by simp))
      clear e9 s9
      refine wpZ_one (i:=5) (by kernel_rfl) rfl (fun K hK=> ?_)
      go_simp
      refine Calls.mono (show Calls Tryz.prog 60 _ _ _ from rdo_t Q9 [ga,gb,mb,g9,g5] B lb.length c0 rm lb b c1 cA1 ck1 ⟨hR3.o.hL.to fQ9.o.nil (fun g hg=>by simp only [List.mem_cons,List.not_mem_nil,or_false]at hg⊢;omega),hR3.o.hb,hR3.o.ok,fun g hg=>(by simp only [List.mem_cons,List.not_mem_nil,or_false]at hg;have:=fQ9.o.size;have:=baB.o.lt;have:=bbB.o.lt;omega),hR3.o.hmax⟩ (hc3.o.fr fQ9.o (by simp [Off])) (fun h0 ad e1 hg=>by
       simp only [List.mem_cons,List.not_mem_nil,or_false]at hg
       have h1:=hc3.o.hS.lt (by decide) h0 ad e1
       have h2:ad.block≠mb:=fun h=>hcOff.o h0 ad e1 (by simp [h])
       have h2b:ad.block≠g9:=fun h=>hcOff.o h0 ad e1 (by simp [h])
       have h2c:ad.block≠g5:=fun h=>hcOff.o h0 ad e1 (by simp [h])
       omega)) ?_
      rintro e Q10 ⟨A1,c1x,l1,aA,ac,rfl,hl1,hm1,ha1,G⟩
      have fQ10:=zh (fQ9.o.trans G)
      have fl:=zh hl1
      have fm:=zh hm1
      have fa:=zh ha1
      have baB:=zh (baB.o.fr G (by simp))
      have bbB:=zh (bbB.o.fr G (by simp))
      clear hl1 hm1 ha1 G
      try dsimp only
      refine hK.out _ _ (hSall.o _ fQ10.o) (fun hHeld=> ?_)
      clear hK K
      try simp only [zA,zB,zC,Act.put,zD,zE,zF]
      refine wpZ_tk (i:=6) (v:= ?_) hHeld ?_ ?_
      rotate_left
      ·(intro w hSw;go_simp<;>with_reducible rfl)
      try simp only [zA,zB,zC,Act.put,zD,zE,zF]
      refine wpZ_tk (i:=7) (v:= ?_) hHeld ?_ ?_
      rotate_left
      ·(intro w hSw;go_simp<;>with_reducible rfl)
      try simp only [zA,zB,zC,Act.put,zD,zE,zF]
      refine wpZ_tk (i:=8) (v:= ?_) hHeld ?_ ?_
      rotate_left
      ·(intro w hSw;go_simp<;>with_reducible rfl)
      try simp only [zA,zB,zC,Act.put,zD,zE,zF]
      have t1:Fr [] V3 (Q10.setRow ga #[.slice A1 l1.length c1x,.int .i64 rm]):=fQ10.o.setRow (.inr ga0) _
      have t2:Fr [] V3 ((Q10.setRow ga #[.slice A1 l1.length c1x,.int .i64 rm]).setRow gb (AA.mk (doM rm c1 b).2 aA ac).cells):=t1.setRow (.inr gb0) _
      have gab:ga≠gb:=gabh.o
      have bb2:=bbB.o.fr ((Fr.refl [ga] Q10).setRow (g:=ga) (.inl (by simp)) #[.slice A1 l1.length c1x,.int .i64 rm]) (by simp;exact fun h=>gab h.symm)
      refine wpZ_one (i:=11) (by kernel_rfl) rfl (fun K hK=> ?_)
      rw [if_pos (wanted_none rfl)]
      refine wp_store_row 50 _ _ rfl ga _ rfl rfl 50 _ baB.o infoRb (by kernel_rfl) (by kernel_rfl) ?_
      show K (Act.put _ none undef) _
      refine hK.out _ _ (hSall.o _ t1) (fun hHeld=> ?_)
      clear hK K
      try simp only [Act.put]
      refine wpZ_one (i:=12) (by kernel_rfl) rfl (fun K hK=> ?_)
      rw [if_pos (wanted_none rfl)]
      refine wp_store_row 33 _ _ rfl gb (AA.mk (doM rm c1 b).2 aA ac).cells rfl rfl 33 _ bb2 (infoAnsY _) (by rfl) (AA.one _) ?_
      show K (Act.put _ none undef) _
      refine hK.out _ _ (hSall.o _ t2) (fun hHeld=> ?_)
      clear hK K
      try simp only [Act.put]
      refine wpZ_done (by kernel_rfl) ?_ _
      go_wp2_with fail
      go_meet
      exact run_leaf fQ10.o baB.o bbB.o gab (fl.o.mono (by simp+contextual)) fm.o (fa.o.mono (by simp+contextual)) ga0 gb0
    ·go_simp
     refine hK.out _ _ (hSall.o _ (((Fr.refl [] V3).alloc _).drew)) (fun hHeld=> ?_)
     clear hK K
     try simp only [zA,zB,zC,Act.put,zD,zE,zF]
     obtain⟨Q11,e11⟩:∃V,V=World.drew (World.alloc V3 (.cells #[.int .i64 0,.int .i64 0,.int .i64 0,.slice none 0 0,.string ⟨#[]⟩,.string ⟨#[]⟩,.bool false,.bool false] 33)):=⟨_,rfl⟩
     have s11:Fr [] V3 Q11:=by rw [e11];exact((Fr.refl [] _).alloc _).drew
     have bbB:Hid (Blk Q11 (World.heap V3).size 33 #[.int .i64 0,.int .i64 0,.int .i64 0,.slice none 0 0,.string ⟨#[]⟩,.string ⟨#[]⟩,.bool false,.bool false]):=by rw [e11];exact zh (Blk.new _ _ _)
     rw [←e11]at hHeld⊢
     obtain⟨gb,gbE⟩:∃z,Hid ((World.heap V3).size=z):=⟨_,zh rfl⟩
     rw [gbE.o]at bbB⊢
     have gb0:V3.heap.size≤gb:=by have:=fQ0.o.size;have:=gbE.o;omega
     have fQ11:=zh (s11)
     clear e11 s11
     refine wpZ_two (i:=5) (j:=9) (by kernel_rfl) rfl rfl (fun K hK=> ?_) (fun K hK=> ?_)
     ·go_simp
      refine Calls.mono (show Calls Tryz.prog 60 _ _ _ from rdo_t Q11 [gb,mb,g9,g5] B lb.length c0 rm lb b c1 cA1 ck1 ⟨hR3.o.hL.to fQ11.o.nil (fun g hg=>by simp only [List.mem_cons,List.not_mem_nil,or_false]at hg⊢;omega),hR3.o.hb,hR3.o.ok,fun g hg=>(by simp only [List.mem_cons,List.not_mem_nil,or_false]at hg;have:=fQ11.o.size;have:=bbB.o.lt;omega),hR3.o.hmax⟩ (hc3.o.fr fQ11.o (by simp [Off])) (fun h0 ad e1 hg=>by
       simp only [List.mem_cons,List.not_mem_nil,or_false]at hg
       have h1:=hc3.o.hS.lt (by decide) h0 ad e1
       have h2:ad.block≠mb:=fun h=>hcOff.o h0 ad e1 (by simp [h])
       have h2b:ad.block≠g9:=fun h=>hcOff.o h0 ad e1 (by simp [h])
       have h2c:ad.block≠g5:=fun h=>hcOff.o h0 ad e1 (by simp [h])
       omega)) ?_
      rintro e Q12 ⟨A1,c1x,l1,aA,ac,rfl,hl1,hm1,ha1,G⟩
      have fQ12:=zh (fQ11.o.trans G)
      have fl:=zh hl1
      have fm:=zh hm1
      have fa:=zh ha1
      have bbB:=zh (bbB.o.fr G (by simp))
      clear hl1 hm1 ha1 G
      try dsimp only
      refine hK.out _ _ (hSall.o _ fQ12.o) (fun hHeld=> ?_)
      clear hK K
      try simp only [zA,zB,zC,Act.put,zD,zE,zF]
      refine wpZ_tk (i:=6) (v:= ?_) hHeld ?_ ?_
      rotate_left
      ·(intro w hSw;go_simp<;>with_reducible rfl)
      try simp only [zA,zB,zC,Act.put,zD,zE,zF]
      refine wpZ_tk (i:=7) (v:= ?_) hHeld ?_ ?_
      rotate_left
      ·(intro w hSw;go_simp<;>with_reducible rfl)
      try simp only [zA,zB,zC,Act.put,zD,zE,zF]
      refine wpZ_tk (i:=8) (v:= ?_) hHeld ?_ ?_
      rotate_left
      ·(intro w hSw;go_simp<;>with_reducible rfl)
      try simp only [zA,zB,zC,Act.put,zD,zE,zF]
      refine wpZ_one (i:=9) (by kernel_rfl) rfl (fun K hK=> ?_)
      go_simp
      refine hK.out _ _ (hSall.o _ (fQ12.o.alloc _)) (fun hHeld=> ?_)
      clear hK K
      try simp only [zA,zB,zC,Act.put,zD,zE,zF]
      obtain⟨Q13,e13⟩:∃V,V=World.alloc Q12 (.cells #[.slice none 0 0,.int .i64 0] 50):=⟨_,rfl⟩
      have s13:Fr [] Q12 Q13:=by rw [e13];exact(Fr.refl [] _).alloc _
      have baB:Hid (Blk Q13 (World.heap Q12).size 50 #[.slice none 0 0,.int .i64 0]):=by rw [e13];exact zh (Blk.new _ _ _)
      rw [←e13]at hHeld⊢
      obtain⟨ga,gaE⟩:∃z,Hid ((World.heap Q12).size=z):=⟨_,zh rfl⟩
      rw [gaE.o]at baB⊢
      have ga0:V3.heap.size≤ga:=by have:=fQ12.o.size;have:=gaE.o;omega
      have fQ13:=zh (fQ12.o.trans s13)
      have gabh:Hid (ga≠gb):=zh (by have:=bbB.o.lt;have:=gaE.o;omega)
      have bbB:=zh (bbB.o.fr s13 (by simp))
      have fl:=zh (fl.o.to (Y:= [ga,gb,mb,g9,g5]) s13.nil (fun g hg=>by simp only [List.mem_cons,List.not_mem_nil,or_false]at hg⊢;have:=gaE.o;omega))
      have fa:=zh (fa.o.to (Y:= [ga,gb,mb,g9,g5]) (by decide) s13.nil (fun g hg=>by simp only [List.mem_cons,List.not_mem_nil,or_false]at hg⊢;have:=gaE.o;omega))
      clear e13 s13
      have t1:Fr [] V3 (Q13.setRow ga #[.slice A1 l1.length c1x,.int .i64 rm]):=fQ13.o.setRow (.inr ga0) _
      have t2:Fr [] V3 ((Q13.setRow ga #[.slice A1 l1.length c1x,.int .i64 rm]).setRow gb (AA.mk (doM rm c1 b).2 aA ac).cells):=t1.setRow (.inr gb0) _
      have gab:ga≠gb:=gabh.o
      have bb2:=bbB.o.fr ((Fr.refl [ga] Q13).setRow (g:=ga) (.inl (by simp)) #[.slice A1 l1.length c1x,.int .i64 rm]) (by simp;exact fun h=>gab h.symm)
      refine wpZ_one (i:=11) (by kernel_rfl) rfl (fun K hK=> ?_)
      rw [if_pos (wanted_none rfl)]
      refine wp_store_row 50 _ _ rfl ga _ rfl rfl 50 _ baB.o infoRb (by kernel_rfl) (by kernel_rfl) ?_
      show K (Act.put _ none undef) _
      refine hK.out _ _ (hSall.o _ t1) (fun hHeld=> ?_)
      clear hK K
      try simp only [Act.put]
      refine wpZ_one (i:=12) (by kernel_rfl) rfl (fun K hK=> ?_)
      rw [if_pos (wanted_none rfl)]
      refine wp_store_row 33 _ _ rfl gb (AA.mk (doM rm c1 b).2 aA ac).cells rfl rfl 33 _ bb2 (infoAnsY _) (by rfl) (AA.one _) ?_
      show K (Act.put _ none undef) _
      refine hK.out _ _ (hSall.o _ t2) (fun hHeld=> ?_)
      clear hK K
      try simp only [Act.put]
      refine wpZ_done (by kernel_rfl) ?_ _
      go_wp2_with fail
      go_meet
      exact run_leaf fQ13.o baB.o bbB.o gab (fl.o.mono (by simp+contextual)) fm.o (fa.o.mono (by simp+contextual)) ga0 gb0
     ·go_simp
      refine hK.out _ _ (hSall.o _ (fQ11.o.alloc _)) (fun hHeld=> ?_)
      clear hK K
      try simp only [zA,zB,zC,Act.put,zD,zE,zF]
      obtain⟨Q14,e14⟩:∃V,V=World.alloc Q11 (.cells #[.slice none 0 0,.int .i64 0] 50):=⟨_,rfl⟩
      have s14:Fr [] Q11 Q14:=by rw [e14];exact(Fr.refl [] _).alloc _
      have baB:Hid (Blk Q14 (World.heap Q11).size 50 #[.slice none 0 0,.int .i64 0]):=by rw [e14];exact zh (Blk.new _ _ _)
      rw [←e14]at hHeld⊢
      obtain⟨ga,gaE⟩:∃z,Hid ((World.heap Q11).size=z):=⟨_,zh rfl⟩
      rw [gaE.o]at baB⊢
      have ga0:V3.heap.size≤ga:=by have:=fQ11.o.size;have:=gaE.o;omega
      have fQ14:=zh (fQ11.o.trans s14)
      have gabh:Hid (ga≠gb):=zh (by have:=bbB.o.lt;have:=gaE.o;omega)
      have bbB:=zh (bbB.o.fr s14 (by simp))
      clear e14 s14
      refine wpZ_one (i:=5) (by kernel_rfl) rfl (fun K hK=> ?_)
      go_simp
      refine Calls.mono (show Calls Tryz.prog 60 _ _ _ from rdo_t Q14 [ga,gb,mb,g9,g5] B lb.length c0 rm lb b c1 cA1 ck1 ⟨hR3.o.hL.to fQ14.o.nil (fun g hg=>by simp only [List.mem_cons,List.not_mem_nil,or_false]at hg⊢;omega),hR3.o.hb,hR3.o.ok,fun g hg=>(by simp only [List.mem_cons,List.not_mem_nil,or_false]at hg;have:=fQ14.o.size;have:=baB.o.lt;have:=bbB.o.lt;omega),hR3.o.hmax⟩ (hc3.o.fr fQ14.o (by simp [Off])) (fun h0 ad e1 hg=>by
       simp only [List.mem_cons,List.not_mem_nil,or_false]at hg
       have h1:=hc3.o.hS.lt (by decide) h0 ad e1
       have h2:ad.block≠mb:=fun h=>hcOff.o h0 ad e1 (by simp [h])
       have h2b:ad.block≠g9:=fun h=>hcOff.o h0 ad e1 (by simp [h])
       have h2c:ad.block≠g5:=fun h=>hcOff.o h0 ad e1 (by simp [h])
       omega)) ?_
      rintro e Q15 ⟨A1,c1x,l1,aA,ac,rfl,hl1,hm1,ha1,G⟩
      have fQ15:=zh (fQ14.o.trans G)
      have fl:=zh hl1
      have fm:=zh hm1
      have fa:=zh ha1
      have baB:=zh (baB.o.fr G (by simp))
      have bbB:=zh (bbB.o.fr G (by simp))
      clear hl1 hm1 ha1 G
      try dsimp only
      refine hK.out _ _ (hSall.o _ fQ15.o) (fun hHeld=> ?_)
      clear hK K
      try simp only [zA,zB,zC,Act.put,zD,zE,zF]
      refine wpZ_tk (i:=6) (v:= ?_) hHeld ?_ ?_
      rotate_left
      ·(intro w hSw;go_simp<;>with_reducible rfl)
      try simp only [zA,zB,zC,Act.put,zD,zE,zF]
      refine wpZ_tk (i:=7) (v:= ?_) hHeld ?_ ?_
      rotate_left
      ·(intro w hSw;go_simp<;>with_reducible rfl)
      try simp only [zA,zB,zC,Act.put,zD,zE,zF]
      refine wpZ_tk (i:=8) (v:= ?_) hHeld ?_ ?_
      rotate_left
      ·(intro w hSw;go_simp<;>with_reducible rfl)
      try simp only [zA,zB,zC,Act.put,zD,zE,zF]
      have t1:Fr [] V3 (Q15.setRow ga #[.slice A1 l1.length c1x,.int .i64 rm]):=fQ15.o.setRow (.inr ga0) _
      have t2:Fr [] V3 ((Q15.setRow ga #[.slice A1 l1.length c1x,.int .i64 rm]).setRow gb (AA.mk (doM rm c1 b).2 aA ac).cells):=t1.setRow (.inr gb0) _
      have gab:ga≠gb:=gabh.o
      have bb2:=bbB.o.fr ((Fr.refl [ga] Q15).setRow (g:=ga) (.inl (by simp)) #[.slice A1 l1.length c1x,.int .i64 rm]) (by simp;exact fun h=>gab h.symm)
      refine wpZ_one (i:=11) (by kernel_rfl) rfl (fun K hK=> ?_)
      rw [if_pos (wanted_none rfl)]
      refine wp_store_row 50 _ _ rfl ga _ rfl rfl 50 _ baB.o infoRb (by kernel_rfl) (by kernel_rfl) ?_
      show K (Act.put _ none undef) _
      refine hK.out _ _ (hSall.o _ t1) (fun hHeld=> ?_)
      clear hK K
      try simp only [Act.put]
      refine wpZ_one (i:=12) (by kernel_rfl) rfl (fun K hK=> ?_)
      rw [if_pos (wanted_none rfl)]
      refine wp_store_row 33 _ _ rfl gb (AA.mk (doM rm c1 b).2 aA ac).cells rfl rfl 33 _ bb2 (infoAnsY _) (by rfl) (AA.one _) ?_
      show K (Act.put _ none undef) _
      refine hK.out _ _ (hSall.o _ t2) (fun hHeld=> ?_)
      clear hK K
      try simp only [Act.put]
      refine wpZ_done (by kernel_rfl) ?_ _
      go_wp2_with fail
      go_meet
      exact run_leaf fQ15.o baB.o bbB.o gab (fl.o.mono (by simp+contextual)) fm.o (fa.o.mono (by simp+contextual)) ga0 gb0
   case rest=>
    obtain⟨ga,gb,A1,c1x,l1,aA,ac,rfl,rfl,hBa,hBb,hL1,hm1,hA1,hgbV,hFc⟩:=hcut
    obtain⟨WC,hWC⟩:∃V:World,V=wc:=⟨_,rfl⟩
    subst hWC
    have h94:=h93.o.fr hFc (by simp)
    have hBah:=zh hBa
    have hBbh:=zh hBb
    have hL1h:=zh hL1
    have hm1h:=zh hm1
    have hA1h:=zh hA1
    have hFch:=zh hFc
    clear hBa hBb hL1 hm1 hA1 hFc
    go_upto_region 11 with(first
     | (refine wpList_load_at rfl 50 _ rfl rfl hBah.o (sub_self _) uRb rfl infoRbL ?_;rw [Array.toArray_toList])
     | (refine wpList_store_row rfl 50 _ _ rfl g9 _ rfl rfl 50 _ h94 infoRb (by rfl) (by kernel_rfl) ?_))
    have F9:Fr [g9] WC (WC.setRow g9 #[.slice A1 l1.length c1x,.int .i64 rm]):=(Fr.refl [g9] WC).setRow (.inl (by simp)) _
    refine wp_gen (fun U=>Blk U g9 50 #[.slice A1 l1.length c1x,.int .i64 rm]∧Fr [g9] WC U) ⟨Blk.setRow h94 _,F9⟩ ?_
    clear F9 h94
    rintro U ⟨h9U,F9⟩
    have hgb9:gb≠g9:=by omega
    have F3U:=zh ((hFch.o.nil (S:= [g9])).trans F9)
    have hB5:=zh (hB3.o.fr F3U.o (fun g hg=> .inl (by simp at hg;simp [hg])) (by simp;exact fun h=>h9m h.symm) (by simp;exact hp9))
    have hL5:=zh (hL1h.o.fr (F9.mono (by simp)))
    have hlen5:l1.length=(doM rm c1 b).1.length:=by
     have h1:=congrArg List.length hm1h.o
     rwa [List.length_map,famsM_length _ (doM_ok hR3.o.ok)]at h1
    have hb5:(doM rm c1 b).1.length≤i+1:=do_more hR3.o.ok hbl
    have hR5:=zh (show RBk U [mb,g9,g5] A1 l1.length l1 (doM rm c1 b).1 from rbk_next hR3.o hL5.o hm1h.o F3U.o.size (by have:=h60h.o;omega))
    have q1:=hB11h.o.fr F3U.o (by simp;exact hg11)
    have q2:=hBbh.o.fr F9 (by simp;exact hgb9)
    have q3:World.cell? U ⟨g9,0,none⟩=some (.slice A1 l1.length c1x):=h9U.cell 0
    have hy5:=zh (hy3.o.fr F3U.o (fun _=>hyoff.o))
    have ha5:=zh ((hA1h.o.fr (F9.mono (by simp))).1)
    have hF5:=zh (hF3.o.trans ((hFch.o.nil (S:= [mb,g9])).trans (F9.mono (by simp))))
    obtain⟨an,han⟩:∃z,Hid (AA.mk (doM rm c1 b).2 aA ac=z):=⟨_,zh rfl⟩
    have hana:=zh (show an.a=(doM rm c1 b).2 by rw [←han.o])
    have hanr:=zh (show Rd U 1 an.A an.a.scope.length (strCells an.a.scope) by rw [←han.o];exact ha5.o)
    rw [han.o]at q2
    have hyl:=zh (show y.a.scope.length≤1048576 by rw [hyeh.o];have:=(setM_sizes (do_set (room:=rm) (c:=c1) hR3.o.ok)).1;omega)
    obtain⟨nn,hnn⟩:∃z,Hid (l1.length=z):=⟨_,zh rfl⟩
    have hcnt:=gcount_t
    have hbn:=zh (show(doM rm c1 b).1.length=nn by rw [←hlen5];exact hnn.o)
    rw [hnn.o]at h9U q3
    have hne:((nn:Int) !=(nn:Int))=false:=by simp
    have hSall2:=zh (show∀V:World,Fr [] U V→Blk V g11 33 y.cells∧Blk V gb 33 an.cells∧V.cell? ⟨g9,0,none⟩=some (.slice A1 nn c1x)from fun V hV=>⟨q1.fr hV (by simp),q2.fr hV (by simp),cell_fr hV q3⟩)
    have h9Uh:=zh h9U
    clear hcnt q1 q2 q3 hlen5 F9 h9U
    go_upto_region 11 with(fail)
    refine wp_region_z (fun w'=>Blk w' g11 33 y.cells∧Blk w' gb 33 an.cells∧w'.cell? ⟨g9,0,none⟩=some (.slice A1 nn c1x)) [] (by kernel_rfl) (hSall2.o _ (Fr.refl _ _).drew) ?_
    intro hHeld
    refine wpZ_take (i:=0) rfl (by kernel_rfl) (by kernel_rfl) (by kernel_rfl) (by kernel_rfl) (fun _ _ _ h=>h) (yieldsIf_load_mid (by kernel_rfl) 33 _ rfl g11 0 rfl (y.cells.toList) _ (fun w h=>range_cells h.1) uAns rfl (infoAnsL _)) hHeld ?_
    try simp only [zA,zC,Act.put,zD,zE,zF]
    refine wpZ_take (i:=1) rfl (by kernel_rfl) (by kernel_rfl) (by kernel_rfl) (by kernel_rfl) (fun _ _ _ h=>h) (yieldsIf_load_mid (by kernel_rfl) 33 _ rfl gb 0 rfl (an.cells.toList) _ (fun w h=>range_cells h.2.1) uAns rfl (infoAnsL _)) hHeld ?_
    try simp only [zA,zB,zC,Act.put,zD,zE,zF]
    refine wpZ_one (i:=2) (by kernel_rfl) rfl (fun K hK=> ?_)
    go_simp
    refine Calls.mono (show Calls Tryz.prog 20 _ _ _ from rans_t (World.drew U) y an (hy5.o.fr (Fr.refl [] U).drew (by simp [Off])) (hanr.o.fr (Fr.refl [] U).drew (by simp [Off])) (by rw [hana.o];exact hyeh.o) hyl.o) ?_
    rintro e U2 ⟨rfl,G⟩
    have fE:Fr [] U U2:=G.of_drew
    clear G
    try dsimp only
    refine hK.out _ _ (hSall2.o _ fE) (fun hHeld=> ?_)
    clear hK K
    try simp only [zA,zB,zC,Act.put,zD,zE,zF]
    refine wpZ_tk (i:=3) (v:= ?_) hHeld ?_ ?_
    rotate_left
    ·(intro w hSw;go_simp<;>with_reducible rfl)
    try simp only [zA,zB,zC,Act.put,zD,zE,zF]
    refine wpZ_tk (i:=4) (v:= ?_) hHeld ?_ ?_
    rotate_left
    ·(intro w hSw;go_simp<;>with_reducible rfl)
    try simp only [zA,zB,zC,Act.put,zD,zE,zF]
    refine wpZ_tk (i:=5) (v:= ?_) hHeld ?_ ?_
    rotate_left
    ·(intro w hSw;go_simp<;>with_reducible rfl)
    try simp only [zA,zB,zC,Act.put,zD,zE,zF]
    refine wpZ_tk (i:=7) (v:= ?_) hHeld ?_ ?_
    rotate_left
    ·(intro w hSw;go_simp<;>with_reducible rfl)
    try simp only [zA,zB,zC,Act.put,zD,zE,zF]
    refine wpZ_tk (i:=8) (v:= ?_) hHeld ?_ ?_
    rotate_left
    ·(intro w hSw;go_simp<;>with_reducible rfl)
    try simp only [zA,zB,zC,Act.put,zD,zE,zF]
    refine wpZ_tk (i:=9) (v:= ?_) hHeld ?_ ?_
    rotate_left
    ·(intro w hSw;go_simp<;>with_reducible rfl)
    try simp only [zA,zB,zC,Act.put,zD,zE,zF]
    refine wpZ_one (i:=6) (by kernel_rfl) rfl (fun K hK=> ?_)
    go_simp
    refine Calls.mono (show Calls Tryz.prog 26 _ _ _ from gcount_t U2 p mb rm [mb,g9,g5] _ (hB5.o.fr0 fE)) ?_
    rintro e U3 ⟨rfl,rfl⟩
    rw [hbn.o]
    try dsimp only
    refine hK.out _ _ (hSall2.o _ fE) (fun hHeld=> ?_)
    clear hK K
    try simp only [zA,zB,zC,Act.put,zD,zE,zF]
    refine wpZ_tk (i:=10) (v:= ?_) hHeld ?_ ?_
    rotate_left
    ·(intro w hSw;go_simp<;>with_reducible rfl)
    try simp only [zA,zB,zC,Act.put,zD,zE,zF]
    refine wpZ_tk (i:=11) (v:= ?_) hHeld ?_ ?_
    rotate_left
    ·(intro w hSw;go_simp<;>with_reducible rfl)
    try simp only [zA,zB,zC,Act.put,zD,zE,zF]
    refine wpZ_done (by kernel_rfl) ?_ _
    go_wp2_with fail
    go_roundg (m - i)
    case measure=>have:=hlth.o;omega
    case rel=>
     refine⟨i+1,c1x,(doM rm c1 b).1,A1,l1,by go_num,by have:=hlth.o;omega,by have:=h60h.o;omega,by have:=hlth.o;omega,hb5,hB5.o.fr0 fE,?_,by rw [hnn.o];exact h9Uh.o.fr fE (by simp),hF5.o.trans fE.nil⟩
     exact⟨hR5.o.hL.fr fE.nil,hR5.o.hb,hR5.o.ok,fun g hg=>Nat.lt_of_lt_of_le (hR5.o.hX g hg) fE.size,hR5.o.hmax⟩
  ·have hQ:=zh (FW_of F2h.o hFh.o h9w hmb0)
   have hge:¬(i:Int)<m∨((i:Int)<m∧¬(i:Int)<60):=by
    by_cases h1:i<m
    ·exact .inr ⟨by omega,by omega⟩
    ·exact .inl (by omega)
   clear hlt hik
   rcases hge with hge | ⟨hge,hg60⟩
   ·skip
    have hlb:lb.length=nb:=hnb.o
    have q1:=h9h.o
    rw [hlb]at q1
    have q5:=hB52.o.fr hFh.o (by simp;exact⟨h5m,h59⟩)
    have hSall3:=zh (show∀V:World,Fr [g5] wr V→Blk V g9 50 #[.slice B nb c0,.int .i64 rm]from fun V hV=>q1.fr hV (by simp;exact fun h=>h59 h.symm))
    have hlbh:=zh hlb
    have q1h:=zh q1
    clear q1 hlb
    go_upto_region 13 with(fail)
    refine wp_region_z (fun w'=>Blk w' g9 50 #[.slice B nb c0,.int .i64 rm]) [] (by kernel_rfl) (hSall3.o _ (Fr.refl _ _).drew) ?_
    intro hHeld
    refine wpZ_tk (i:=0) (v:= ?_) hHeld ?_ ?_
    rotate_left
    ·(intro w hSw;go_simp<;>with_reducible rfl)
    try simp only [zA,zC,Act.put,zD,zE,zF]
    refine wpZ_take (i:=1) rfl (by kernel_rfl) (by kernel_rfl) (by kernel_rfl) (by kernel_rfl) (fun _ _ _ h=>h) (yieldsIf_load_mid (by kernel_rfl) 50 _ rfl g9 0 rfl ([.slice B nb c0,.int .i64 rm]) _ (fun w h=>range_cells h) uRb rfl (by kernel_rfl)) hHeld ?_
    try simp only [zA,zB,zC,Act.put,zD,zE,zF]
    refine wpZ_tk (i:=2) (v:= ?_) hHeld ?_ ?_
    rotate_left
    ·(intro w hSw;go_simp<;>with_reducible rfl)
    try simp only [zA,zB,zC,Act.put,zD,zE,zF]
    refine wpZ_one (i:=3) (by kernel_rfl) rfl (fun K hK=> ?_)
    rw [if_pos (wanted_none rfl)]
    refine wp_store_row 50 _ _ rfl g5 _ rfl rfl 50 _ q5 infoRb (by kernel_rfl) (by kernel_rfl) ?_
    show K (Act.put _ none undef) _
    refine hK.out _ _ (hSall3.o _ (((Fr.refl _ _).drew).setRow (.inl (by simp)) _)) (fun hHeld=> ?_)
    clear hK K
    try simp only [Act.put]
    refine wpZ_tk (i:=4) (v:= ?_) hHeld ?_ ?_
    rotate_left
    ·(intro w hSw;go_simp<;>with_reducible rfl)
    try simp only [zA,zB,zC,Act.put,zD,zE,zF]
    refine wpZ_done (by kernel_rfl) ?_ _
    go_wp2_with fail
    refine bodyPost_ret (results_tct (p:=4) (q:=5) (r:=6) rfl _ _ g5 50 #[.slice B nb c0,.int .i64 rm] _ rfl (Blk.setRow q5 _) uRb rfl infoRb rfl rfl) rfl ?_
    have FE:Fr [g5] wr ((World.drew wr).setRow g5 #[.slice B nb c0,.int .i64 rm]):=((Fr.refl _ _).drew).setRow (.inl (by simp)) _
    have hp5:p≠g5:=by omega
    refine⟨p,mb,c0,b,B,lb,by rw [hlbh.o,hrm.o];rfl,?_,?_,by omega,hmb0,hp0,hQ.o.andThen FE (fun g hg=> .inr (by simp at hg;have:=HG5.o;omega))⟩
    ·rw [hrm.o]
     exact(hBh.o.fr FE (fun g hg=> .inl (by simp at hg;simp [hg])) (by simp;exact fun h=>h5m h.symm) (by simp;exact hp5)).mono (by simp) (by simp)
    ·have hR:=hRh.o
     refine⟨(hR.hL.fr (FE.mono (by simp))).mono (by simp),hR.hb,hR.ok,fun g hg=> ?_,hR.hmax⟩
     simp at hg
     rw [hg]
     exact Nat.lt_of_lt_of_le (hR.hX mb (by simp)) FE.size
   ·skip
    have hlb:lb.length=nb:=hnb.o
    have q1:=h9h.o
    rw [hlb]at q1
    have q5:=hB52.o.fr hFh.o (by simp;exact⟨h5m,h59⟩)
    have hSall3:=zh (show∀V:World,Fr [g5] wr V→Blk V g9 50 #[.slice B nb c0,.int .i64 rm]from fun V hV=>q1.fr hV (by simp;exact fun h=>h59 h.symm))
    have hlbh:=zh hlb
    have q1h:=zh q1
    clear q1 hlb
    go_upto_region 13 with(fail)
    refine wp_region_z (fun w'=>Blk w' g9 50 #[.slice B nb c0,.int .i64 rm]) [] (by kernel_rfl) (hSall3.o _ (Fr.refl _ _).drew) ?_
    intro hHeld
    refine wpZ_tk (i:=0) (v:= ?_) hHeld ?_ ?_
    rotate_left
    ·(intro w hSw;go_simp<;>with_reducible rfl)
    try simp only [zA,zC,Act.put,zD,zE,zF]
    refine wpZ_take (i:=1) rfl (by kernel_rfl) (by kernel_rfl) (by kernel_rfl) (by kernel_rfl) (fun _ _ _ h=>h) (yieldsIf_load_mid (by kernel_rfl) 50 _ rfl g9 0 rfl ([.slice B nb c0,.int .i64 rm]) _ (fun w h=>range_cells h) uRb rfl (by kernel_rfl)) hHeld ?_
    try simp only [zA,zB,zC,Act.put,zD,zE,zF]
    refine wpZ_tk (i:=2) (v:= ?_) hHeld ?_ ?_
    rotate_left
    ·(intro w hSw;go_simp<;>with_reducible rfl)
    try simp only [zA,zB,zC,Act.put,zD,zE,zF]
    refine wpZ_one (i:=3) (by kernel_rfl) rfl (fun K hK=> ?_)
    rw [if_pos (wanted_none rfl)]
    refine wp_store_row 50 _ _ rfl g5 _ rfl rfl 50 _ q5 infoRb (by kernel_rfl) (by kernel_rfl) ?_
    show K (Act.put _ none undef) _
    refine hK.out _ _ (hSall3.o _ (((Fr.refl _ _).drew).setRow (.inl (by simp)) _)) (fun hHeld=> ?_)
    clear hK K
    try simp only [Act.put]
    refine wpZ_tk (i:=4) (v:= ?_) hHeld ?_ ?_
    rotate_left
    ·(intro w hSw;go_simp<;>with_reducible rfl)
    try simp only [zA,zB,zC,Act.put,zD,zE,zF]
    refine wpZ_done (by kernel_rfl) ?_ _
    go_wp2_with fail
    refine bodyPost_ret (results_tct (p:=4) (q:=5) (r:=6) rfl _ _ g5 50 #[.slice B nb c0,.int .i64 rm] _ rfl (Blk.setRow q5 _) uRb rfl infoRb rfl rfl) rfl ?_
    have FE:Fr [g5] wr ((World.drew wr).setRow g5 #[.slice B nb c0,.int .i64 rm]):=((Fr.refl _ _).drew).setRow (.inl (by simp)) _
    have hp5:p≠g5:=by omega
    refine⟨p,mb,c0,b,B,lb,by rw [hlbh.o,hrm.o];rfl,?_,?_,by omega,hmb0,hp0,hQ.o.andThen FE (fun g hg=> .inr (by simp at hg;have:=HG5.o;omega))⟩
    ·rw [hrm.o]
     exact(hBh.o.fr FE (fun g hg=> .inl (by simp at hg;simp [hg])) (by simp;exact fun h=>h5m h.symm) (by simp;exact hp5)).mono (by simp) (by simp)
    ·have hR:=hRh.o
     refine⟨(hR.hL.fr (FE.mono (by simp))).mono (by simp),hR.hb,hR.ok,fun g hg=> ?_,hR.hmax⟩
     simp at hg
     rw [hg]
     exact Nat.lt_of_lt_of_le (hR.hX mb (by simp)) FE.size
end Go.Proofs.YtdeoinjjphdbmaaGreat
