/- Walk: a book's command in short; the law's example. Conditions: each theorem's own. -/
import Derived.Test.YtdeoinjjphdbmaaGreatHj
import Derived.Lib.Strings
namespace Go.Proofs.YtdeoinjjphdbmaaGreat
open Go.RowKit Go.Sig
def DoPost (w:World) (p mb:Nat) (room:Int) (X:List Nat) (res:GBk×GAns) (e:Ending) (w':World):Prop:=
 ∃y:AA,e= .returned y.val∧y.a=res.2∧AnsIn w' w.heap.size y∧BookAt w' p mb room (X++rowOf y.slice) res.1∧Fr [mb] w w'
structure CmdIn (w:World) (c:GCmd) (A:Option Addr) (n:Nat):Prop where
 hS:Rd w 1 A n (strCells c.scope)
 hn:c.scope.length=n
 hl:n≤150000000000000
 hs:∀s∈c.scope,s.size≤150000000000000
 hf:c.family.size≤150000000000000
theorem CmdIn.fr {w w':World}{S:List Nat}{c:GCmd}{A:Option Addr}{n:Nat}(h:CmdIn w c A n) (hF:Fr S w w') (hS:0<n→Off S A):CmdIn w' c A n:=⟨h.hS.fr hF hS,h.hn,h.hl,h.hs,h.hf⟩
theorem bdo_t (w:World) (p mb:Nat) (room:Int) (X:List Nat) (b:GBk) (c:GCmd) (A:Option Addr) (n d:Nat) (h:BookAt w p mb room X b) (hc:CmdIn w c A n):
  Calls Tryz.prog 14 #[.pointer (some ⟨p,0,none⟩),.agg (cmdV c A n d)] w (DoPost w p mb room X (doM room c b)):=by
 refine(do_t ⟨h.hp,h.hb,h.ok,h.hX,h.hmb,hc.hS,hc.hn,hc.hl,hc.hs,hc.hf⟩).mono ?_
 rintro e w' ⟨y,rfl,hy,hA,hb,hF⟩
 refine⟨y,rfl,hy,hA,⟨h.hp.fr hF (by simpa using h.hne),hb,doM_ok h.ok,fun g hg=> ?_,List.mem_append.2 (.inl h.hmb),h.hne⟩,hF⟩
 rcases List.mem_append.1 hg with hg |hg
 ·exact Nat.lt_of_lt_of_le (h.hX g hg) hF.size
 ·exact hA.1.lt g hg
def sF1:ByteArray:=⟨#[102,49]⟩
def sA_:ByteArray:=⟨#[97]⟩
def sU_:ByteArray:=⟨#[117]⟩
def sR_:ByteArray:=⟨#[114]⟩
def kc1:GCmd:=⟨1,sF1,0,0,sA_,sU_,[sR_],nilB,nilB,nilB,nilB,false,0⟩
def kc2:GCmd:=⟨2,sF1,0,0,sA_,nilB,[],nilB,nilB,nilB,nilB,true,0⟩
def kc3:GCmd:=⟨6,sF1,1,2,nilB,nilB,[],nilB,nilB,nilB,nilB,false,3⟩
def kc4:GCmd:=⟨2,sF1,0,0,sA_,nilB,[],nilB,nilB,nilB,nilB,false,0⟩
def kb1:GBk:=(doM 4 kc1 []).1
def kb2:GBk:=(doM 4 kc2 kb1).1
def kb3:GBk:=(doM 4 kc3 kb2).1
def kb4:GBk:=(doM 4 kc4 kb3).1
def kb5:GBk:=(doM 4 kc3 kb4).1
theorem known_vals:(doM 4 kc2 kb1).2.access=1∧(doM 4 kc2 kb1).2.refresh=2∧(doM 4 kc3 kb2).2.active=true∧(doM 4 kc3 kb2).2.user=sU_∧(doM 4 kc4 kb3).2.why=3∧(doM 4 kc3 kb4).2.active=false∧(pendM kb5).length=1∧kb5.length=1:=by decide+kernel
theorem nil_cmd (w:World) (c:GCmd) (h:c.scope= []) (hf:c.family.size≤150000000000000):CmdIn w c none 0:=⟨by rw [h];exact Rd.nil _ _ _,by rw [h];rfl,by omega,by rw [h];simp,hf⟩
set_option maxRecDepth 100000 in
set_option maxHeartbeats 4000000 in
theorem known_t (w:World):Calls Tryz.prog 17 #[] w fun e w'=>e= .returned (.bool true)∧Fr [] w w':=by
 have hnew:=gnew_t w 4 (by omega) (by omega)
 go_enter Tryz.func17,Tryz.ntmps17
 go_wp2_with fail
 refine hnew.mono ?_
 rintro e W1 ⟨p,mb,rfl,hB1,hpw,hmw,F1⟩
 have hB1h:=zh hB1
 have F1h:=zh F1
 clear hnew F1 hB1
 go_wp2_with fail
 have hd1:=bdo_t (W1.alloc (.cells #[.string ⟨#[114]⟩] 9)) p mb 4 [mb] [] kc1 (some ⟨W1.heap.size,0,none⟩) 1 1 (hB1h.o.fr0 ((Fr.refl [] W1).alloc _)) ⟨str_new _ _ _,rfl,by omega,by intro s hs;simp [kc1]at hs;subst hs;decide,by decide⟩
 refine Calls.mono (show Calls Tryz.prog 14 _ _ _ from hd1) ?_
 rintro e W2 ⟨y1,rfl,hy1,hA1,hB2,F2⟩
 have F2':Fr [mb] W1 W2:=(((Fr.refl [] W1).alloc _).nil).trans F2
 have FF2:=zh (F1h.o.andThen F2' (fun g hg=> .inr (by simp at hg;omega)))
 have hB2h:=zh (hB2.mono (Y:= [mb]) (by simp) (by simp))
 clear hd1 hA1 hB2 F2 F2' hy1
 go_wp2_with fail
 have hd:=bdo_t W2 p mb 4 [mb] kb1 kc2 none 0 0 hB2h.o (nil_cmd _ _ rfl (by decide))
 refine Calls.mono (show Calls Tryz.prog 14 _ _ _ from hd) ?_
 rintro e V2 ⟨y2,rfl,hy2,hA2,hBv,Fv⟩
 have hy2h:=zh hy2
 have hBvh:=zh (hBv.mono (Y:= [mb]) (by simp) (by simp))
 have FFv:=zh (FF2.o.andThen Fv (fun g hg=> .inr (by simp at hg;omega)))
 clear hd hA2 hBv Fv hy2
 unfold AA.val
 go_upto_region 6 with(refine wpList_store_row rfl 33 _ _ rfl V2.heap.size y2.cells rfl rfl 33 _ (Blk.new _ _ _) (infoAnsY y2) (by rw [AA.size8];rfl) (AA.one y2) ?_)
 refine wp_gen (fun W3=>Blk W3 V2.heap.size 33 y2.cells∧Fr [] V2 W3) ⟨Blk.setRow (Blk.new _ _ _) _,((Fr.refl [] V2).alloc _).setRow (.inr (Nat.le_refl _)) _⟩ ?_
 rintro W3 ⟨hG,FG⟩
 obtain⟨g2,Hg2⟩:∃z,Hid (V2.heap.size=z):=⟨_,zh rfl⟩
 rw [Hg2.o]at hG⊢
 have hB3h:=zh (hBvh.o.fr0 FG)
 have FF3:=zh (FFv.o.trans FG)
 have hwg2:mb<g2:=by have:=hBvh.o.hb.lt;have:=Hg2.o;omega
 have hg2b:=zh hG
 clear hBvh FFv FG hG
 go_wp2_with fail
 have hd:=bdo_t W3 p mb 4 [mb] kb2 kc3 none 0 0 hB3h.o (nil_cmd _ _ rfl (by decide))
 refine Calls.mono (show Calls Tryz.prog 14 _ _ _ from hd) ?_
 rintro e V3 ⟨y3,rfl,hy3,hA3,hBv,Fv⟩
 have hy3h:=zh hy3
 have hBvh:=zh (hBv.mono (Y:= [mb]) (by simp) (by simp))
 have FFv:=zh (FF3.o.andThen Fv (fun g hg=> .inr (by simp at hg;omega)))
 have hKy2v:=hg2b.o.fr Fv (by simp;omega)
 clear hd hA3 hBv Fv hy3
 unfold AA.val
 go_upto_region 7 with(refine wpList_store_row rfl 33 _ _ rfl V3.heap.size y3.cells rfl rfl 33 _ (Blk.new _ _ _) (infoAnsY y3) (by rw [AA.size8];rfl) (AA.one y3) ?_)
 refine wp_gen (fun W4=>Blk W4 V3.heap.size 33 y3.cells∧Fr [] V3 W4) ⟨Blk.setRow (Blk.new _ _ _) _,((Fr.refl [] V3).alloc _).setRow (.inr (Nat.le_refl _)) _⟩ ?_
 rintro W4 ⟨hG,FG⟩
 obtain⟨g3,Hg3⟩:∃z,Hid (V3.heap.size=z):=⟨_,zh rfl⟩
 rw [Hg3.o]at hG⊢
 have hB4h:=zh (hBvh.o.fr0 FG)
 have FF4:=zh (FFv.o.trans FG)
 have hwg3:mb<g3:=by have:=hBvh.o.hb.lt;have:=Hg3.o;omega
 have hg2b:=zh (hKy2v.fr FG (by simp))
 have hg3b:=zh hG
 clear hBvh FFv FG hG hKy2v
 go_wp2_with fail
 have hd:=bdo_t W4 p mb 4 [mb] kb3 kc4 none 0 0 hB4h.o (nil_cmd _ _ rfl (by decide))
 refine Calls.mono (show Calls Tryz.prog 14 _ _ _ from hd) ?_
 rintro e V4 ⟨y4,rfl,hy4,hA4,hBv,Fv⟩
 have hy4h:=zh hy4
 have hBvh:=zh (hBv.mono (Y:= [mb]) (by simp) (by simp))
 have FFv:=zh (FF4.o.andThen Fv (fun g hg=> .inr (by simp at hg;omega)))
 have hKy2v:=hg2b.o.fr Fv (by simp;omega)
 have hKy3v:=hg3b.o.fr Fv (by simp;omega)
 clear hd hA4 hBv Fv hy4
 unfold AA.val
 go_upto_region 8 with(refine wpList_store_row rfl 33 _ _ rfl V4.heap.size y4.cells rfl rfl 33 _ (Blk.new _ _ _) (infoAnsY y4) (by rw [AA.size8];rfl) (AA.one y4) ?_)
 refine wp_gen (fun W5=>Blk W5 V4.heap.size 33 y4.cells∧Fr [] V4 W5) ⟨Blk.setRow (Blk.new _ _ _) _,((Fr.refl [] V4).alloc _).setRow (.inr (Nat.le_refl _)) _⟩ ?_
 rintro W5 ⟨hG,FG⟩
 obtain⟨g4,Hg4⟩:∃z,Hid (V4.heap.size=z):=⟨_,zh rfl⟩
 rw [Hg4.o]at hG⊢
 have hB5h:=zh (hBvh.o.fr0 FG)
 have FF5:=zh (FFv.o.trans FG)
 have hwg4:mb<g4:=by have:=hBvh.o.hb.lt;have:=Hg4.o;omega
 have hg2b:=zh (hKy2v.fr FG (by simp))
 have hg3b:=zh (hKy3v.fr FG (by simp))
 have hg4b:=zh hG
 clear hBvh FFv FG hG hKy2v hKy3v
 go_wp2_with fail
 have hd:=bdo_t W5 p mb 4 [mb] kb4 kc3 none 0 0 hB5h.o (nil_cmd _ _ rfl (by decide))
 refine Calls.mono (show Calls Tryz.prog 14 _ _ _ from hd) ?_
 rintro e V5 ⟨y5,rfl,hy5,hA5,hBv,Fv⟩
 have hy5h:=zh hy5
 have hBvh:=zh (hBv.mono (Y:= [mb]) (by simp) (by simp))
 have FFv:=zh (FF5.o.andThen Fv (fun g hg=> .inr (by simp at hg;omega)))
 have hKy2v:=hg2b.o.fr Fv (by simp;omega)
 have hKy3v:=hg3b.o.fr Fv (by simp;omega)
 have hKy4v:=hg4b.o.fr Fv (by simp;omega)
 clear hd hA5 hBv Fv hy5
 unfold AA.val
 go_upto_region 9 with(refine wpList_store_row rfl 33 _ _ rfl V5.heap.size y5.cells rfl rfl 33 _ (Blk.new _ _ _) (infoAnsY y5) (by rw [AA.size8];rfl) (AA.one y5) ?_)
 refine wp_gen (fun W6=>Blk W6 V5.heap.size 33 y5.cells∧Fr [] V5 W6) ⟨Blk.setRow (Blk.new _ _ _) _,((Fr.refl [] V5).alloc _).setRow (.inr (Nat.le_refl _)) _⟩ ?_
 rintro W6 ⟨hG,FG⟩
 obtain⟨g5,Hg5⟩:∃z,Hid (V5.heap.size=z):=⟨_,zh rfl⟩
 rw [Hg5.o]at hG⊢
 have hB6h:=zh (hBvh.o.fr0 FG)
 have FF6:=zh (FFv.o.trans FG)
 have hwg5:mb<g5:=by have:=hBvh.o.hb.lt;have:=Hg5.o;omega
 have hg2b:=zh (hKy2v.fr FG (by simp))
 have hg3b:=zh (hKy3v.fr FG (by simp))
 have hg4b:=zh (hKy4v.fr FG (by simp))
 have hg5b:=zh hG
 clear hBvh FFv FG hG hKy2v hKy3v hKy4v
 obtain⟨v1,v2,v3,v4,v5,v6,v7,v8⟩:=known_vals
 have a2:=AA.blk hg2b.o
 have a3:=AA.blk hg3b.o
 have a4:=AA.blk hg4b.o
 have a5:=AA.blk hg5b.o
 rw [hy2h.o]at a2
 rw [hy3h.o]at a3
 rw [hy4h.o]at a4
 rw [hy5h.o]at a5
 obtain⟨_,e21,e22,_,_,_,_,_,_⟩:=a2
 obtain⟨_,_,_,_,_,e35,e36,_,_⟩:=a3
 obtain⟨e40,_,_,_,_,_,_,_,_⟩:=a4
 obtain⟨_,_,_,_,_,_,e56,_,_⟩:=a5
 rw [v1]at e21
 rw [v2]at e22
 rw [v4]at e35
 rw [v3]at e36
 rw [v5]at e40
 rw [v6]at e56
 have hl2:=hg2b.o.lt
 have hl3:=hg3b.o.lt
 have hl4:=hg4b.o.lt
 have hl5:=hg5b.o.lt
 have hpe:=pend_t W6 p mb 4 [mb] kb5 hB6h.o (by rw [v8];decide)
 have v7h:=zh v7
 have hu1:sU_.toList= [117]:=by rw [Lib.toList_data];rfl
 clear v1 v2 v3 v4 v5 v6 v7 v8
 go_wp2_with fail
 refine hpe.mono ?_
 rintro e W7 ⟨v,rfl,hO,F7,_⟩
 rw [v7h.o]at hO
 obtain⟨A,c,rfl,_⟩:=hO.form
 clear hpe hO
 go_wp2_with fail
 go_ret
 exact⟨rfl,FF6.o.trans F7⟩
end Go.Proofs.YtdeoinjjphdbmaaGreat
