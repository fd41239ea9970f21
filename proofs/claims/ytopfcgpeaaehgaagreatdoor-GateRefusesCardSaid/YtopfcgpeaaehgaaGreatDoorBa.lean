/- Walks: a token opened. Conditions: each theorem's own. -/
import Derived.Test.YtopfcgpeaaehgaaGreatDoorAx
namespace Go.Proofs.YtopfcgpeaaehgaaGreatDoor
open Go.RowKit Go.Sig
theorem peekM_ok {s:List UInt8}{t:GTk}(h:peekM s=some t):tkOk t=true:=by
 unfold peekM at h;dsimp only at h;split at h
 ·split at h
  ·cases h
  ·split at h
   ·next hc=>
    injection h with h
    rw [←h];exact hc.1
   ·cases h
 ·cases h
structure Glob (w:World):Prop where
 m:∃m,w.cell? ⟨0,0,none⟩=some (.int .i64 m)
 e1:∃v,w.cell? ⟨1,0,none⟩=some v∧(v= .nilIface∨∃te pe,v= .iface te pe)
 e2:∃v,w.cell? ⟨2,0,none⟩=some v∧(v= .nilIface∨∃te pe,v= .iface te pe)
 tab:TabP w
theorem Glob.fr {w w':World}(h:Glob w) (hF:Fr [] w w'):Glob w':=
 ⟨h.m.imp fun _ h=>cell_fr hF h,h.e1.imp fun _ h=>⟨cell_fr hF h.1,h.2⟩,h.e2.imp fun _ h=>⟨cell_fr hF h.1,h.2⟩,h.tab.fr hF⟩
theorem peek_g (w:World) (s:ByteArray) (hs:s.size≤140737488351232) (hg:Glob w):Calls Tryz.prog 46 #[.string s] w (PeekPost w (peekM s.data.toList)):=by
 obtain⟨⟨m,hm⟩,⟨v1,a1,b1⟩,⟨v2,a2,b2⟩,ht⟩:=hg;exact peek_t w s hs m hm v1 v2 a1 a2 b1 b2 ht
theorem openM_eq (key s:List UInt8):openM key s=(peekM s).bind fun t=>if makeL key t=s then some t else none:=by
 unfold openM;cases peekM s<;>rfl
def tk0:GTk:=⟨0,nilB,0⟩
def OpenPost (w:World) (r:Option GTk) (e:Ending) (w':World):Prop:=
 (match r with
 |none=>∃k:Int,e= .returned (.tuple #[.agg (tkCells tk0),.int .i64 k])∧(k==0)=false
 |some t=>e= .returned (.tuple #[.agg (tkCells t),.int .i64 0]))∧Fr [] w w'
set_option maxRecDepth 100000 in
set_option maxHeartbeats 2000000 in
theorem open_t (w:World) (A:Option Addr) (n c:Nat) (key:List UInt8) (hk:Byts w A n key) (hc:n≤c) (hmax:n≤140737488351232) (s:ByteArray) (hs:s.size≤140737488351232) (hg:Glob w):
  Calls Tryz.prog 17 #[.slice A n c,.string s] w (OpenPost w (openM key s.data.toList)):=by
 have hpk:=fun V (hF:Fr [] w V)=>peek_g V s hs (hg.fr hF);have hkh:=zh hk;have hgh:=zh hg;obtain⟨res,hres⟩:∃z,Hid (openM key s.data.toList=z):=⟨_,zh rfl⟩
 rw [hres.o];obtain⟨pk,hpke⟩:∃z,Hid (peekM s.data.toList=z):=⟨_,zh rfl⟩
 rw [hpke.o]at hpk;have hr:Hid (res=pk.bind fun t=>if makeL key t=s.data.toList then some t else none):=zh (by rw [←hres.o,←hpke.o,openM_eq]);clear hk hg;go_enter Tryz.func17,Tryz.ntmps17;go_upto_region 1 with(fail)
 refine wp_gen (fun W=>Blk W w.heap.size 47 (tkCells tk0)∧Fr [] w W) ⟨Blk.new _ _ _,(Fr.refl _ _).alloc _⟩ ?_;rintro W ⟨hB,fW⟩;obtain⟨gr,HR⟩:∃z,Hid (w.heap.size=z):=⟨_,zh rfl⟩
 rw [HR.o]at hB⊢;have hgr:w.heap.size≤gr:=by have:=HR.o;omega
 have hpk:=hpk W fW;have hBh:=zh hB;have fWh:=zh fW;clear hB fW;cases pk with
 |none=>
  have hr2:Hid (res=none):=zh hr.o;unfold PeekPost at hpk;dsimp only at hpk;go_upto_region 2 with(first
   | (go_at_call 46;refine hpk.mono ?_;clear hpk;rintro e W1 ⟨⟨t,rfl⟩,F1⟩)
   | (refine wpList_store_row rfl 47 _ _ rfl W1.heap.size (tkCells t) rfl rfl 47 _ (Blk.new _ _ _) (infoTk _) (by rfl) (tk_one _) ?_))
  refine wp_gen (fun V=>Fr [] W1 V) (((Fr.refl [] W1).alloc _).setRow (.inr (Nat.le_refl _)) _) ?_;rintro W2 F2;have hR2:=hBh.o.fr (F1.trans F2) (by simp);have hF2:=zh (fWh.o.trans (F1.trans F2));have hgrl:=hR2.lt;clear F1 F2;go_wp2_with (refine wpList_store_row rfl 47 _ _ rfl gr (tkCells tk0) rfl rfl 47 (tkCells tk0) hR2 (infoTk _) (by rfl) (tk_one _) ?_)
  refine bodyPost_ret (v:= .tuple #[.agg (tkCells tk0),.int .i64 3]) (results_ct (p:=4) (q:=5) rfl _ _ gr 47 _ (0,0) _ rfl (Blk.setRow hR2 _) uTk rfl (infoTk _) rfl) rfl ?_;rw [hr2.o];exact⟨⟨3,rfl,rfl⟩,hF2.o.setRow (.inr hgr) _⟩
 |some t=>
  have htk:tkOk t=true:=peekM_ok hpke.o;have hr2:Hid (res=if makeL key t=s.data.toList then some t else none):=zh hr.o;have hmk:=fun V (hF:Fr [] w V)=>make_t V A n c key (hkh.o.fr hF (fun _=>off_nil _)) hc hmax t htk (hgh.o.fr hF).tab;unfold MakePost at hmk;have hml:(bA (makeL key t)).size≤140737488351232:=by unfold makeL;rw [bA_size,List.length_append];have h1:=headL_len htk;rw [bA_size]at h1;have h2:=tagL_len key (headL t);omega
  have hmd:Hid (decide (makeL key t=s.data.toList)=decide ((bA (makeL key t)).data.toList=s.data.toList)):=zh rfl;obtain⟨M,HM⟩:∃z,Hid (bA (makeL key t)=z):=⟨_,zh rfl⟩
  rw [HM.o]at hmk hml hmd;obtain⟨sm,hsm⟩:∃z,Hid (decide (makeL key t=s.data.toList)=z):=⟨_,zh rfl⟩
  rw [hsm.o]at hmd;have hr3:Hid (res=if sm=true then some t else none):=zh (by rw [hr2.o,←hsm.o];simp);clear hr hr2 htk;unfold PeekPost at hpk;dsimp only at hpk;go_upto_region 2 with(first
   | (go_at_call 46;refine hpk.mono ?_;clear hpk;rintro e W1 ⟨rfl,F1⟩)
   | (refine wpList_store_row rfl 47 _ _ rfl W1.heap.size (tkCells t) rfl rfl 47 _ (Blk.new _ _ _) (infoTk _) (by rfl) (tk_one _) ?_))
  refine wp_gen (fun V=>Blk V W1.heap.size 47 (tkCells t)∧Fr [] W1 V) ⟨Blk.setRow (Blk.new _ _ _) _,((Fr.refl [] W1).alloc _).setRow (.inr (Nat.le_refl _)) _⟩ ?_;rintro W2 ⟨hB2,F2⟩;obtain⟨g6,HG6⟩:∃z,Hid (W1.heap.size=z):=⟨_,zh rfl⟩
  rw [HG6.o]at hB2⊢;have hF2:=zh (fWh.o.trans (F1.trans F2));have hR2:=zh (hBh.o.fr (F1.trans F2) (by simp));have hB2h:=zh hB2;have hmk:=hmk W2 hF2.o;clear F1 F2;go_upto_region 5 with(first
   | (refine wpList_load_at rfl 47 _ rfl rfl hB2 (sub_self _) uTk rfl (infoTkL _) ?_;rw [Array.toArray_toList])
   | (go_at_call 47;refine hmk.mono ?_;clear hmk;rintro e W3 ⟨rfl,F3⟩;have hF3:=zh (hF2.o.trans F3);have hR3:=hR2.o.fr F3 (by simp);have hB3:=hB2h.o.fr F3 (by simp);have hR3h:=zh hR3;have hB3h:=zh hB3;clear F3 hB2 hR3 hB3))
  obtain⟨cW,cC,hcc,hcF,hcB,hcS,hcG⟩:=conv_any M;obtain⟨dW,dC,hdc,hdF,hdB,hdS,hdG⟩:=conv_any s;have F34:Fr [] W3 (dW (cW W3)):=(hcF W3).trans (hdF (cW W3));have hB4:Byts (dW (cW W3)) (some ⟨W3.heap.size,0,none⟩) M.size M.data.toList:=Rd.fr (hcB W3 W3.heap.size rfl) (hdF (cW W3)) (by simp [Off]);have hB5:=hdB (cW W3) (cW W3).heap.size rfl;have hs5:=osame_t (dW (cW W3)) _ _ _ _ (cC W3) (dC (cW W3)) _ _ hB4 hB5 hml hs;rw [←hmd.o]at hs5;rw [hcS]at hs5;have hsz2:=hcS W3;have hF4:=zh (hF3.o.trans F34);have hR4:=zh (hR3h.o.fr F34 (by simp));have hT4:=zh (hB3h.o.fr F34 (by simp));clear hB4 hB5 hcF hdF hcB hdB hcS hdS F34;cases sm with
  |false=>
   go_wp2_with (first
    | (go_at_call 45;refine hs5.mono ?_;clear hs5;rintro e W5 ⟨rfl,F5⟩;have hR5:=hR4.o.fr F5 (by simp);have hF5:=zh (hF4.o.trans F5);clear F5)
    | (refine wpList_store_row rfl 47 _ _ rfl gr (tkCells tk0) rfl rfl 47 (tkCells tk0) hR5 (infoTk _) (by rfl) (tk_one _) ?_))
   refine bodyPost_ret (v:= .tuple #[.agg (tkCells tk0),.int .i64 5]) (results_ct (p:=4) (q:=5) rfl _ _ gr 47 _ (0,0) _ rfl (Blk.setRow hR5 _) uTk rfl (infoTk _) rfl) rfl ?_;rw [hr3.o];exact⟨⟨5,rfl,rfl⟩,hF5.o.setRow (.inr hgr) _⟩
  |true=>
   go_wp2_with (first
    | (go_at_call 45;refine hs5.mono ?_;clear hs5;rintro e W5 ⟨rfl,F5⟩;have hR5:=hR4.o.fr F5 (by simp);have hT5:=hT4.o.fr F5 (by simp);have hF5:=zh (hF4.o.trans F5);clear F5)
    | (refine wpList_load_at rfl 47 _ rfl rfl hT5 (sub_self _) uTk rfl (infoTkL _) ?_;rw [Array.toArray_toList])
    | (refine wpList_store_row rfl 47 _ _ rfl gr (tkCells t) rfl rfl 47 (tkCells tk0) hR5 (infoTk _) (by rfl) (tk_one _) ?_))
   refine bodyPost_ret (v:= .tuple #[.agg (tkCells t),.int .i64 0]) (results_ct (p:=4) (q:=5) rfl _ _ gr 47 _ (0,0) _ rfl (Blk.setRow hR5 _) uTk rfl (infoTk _) rfl) rfl ?_;rw [hr3.o];exact⟨rfl,hF5.o.setRow (.inr hgr) _⟩
end Go.Proofs.YtopfcgpeaaehgaaGreatDoor
