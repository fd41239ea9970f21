/- Walk: two lists of calls that are the same. Conditions: each theorem's own. -/
import Derived.Test.YtacljejoedbnkaaGreatMe
import Derived.Test.YtacljejoedbnkaaGreatHq
namespace Go.Proofs.YtacljejoedbnkaaGreat
open Go.RowKit Go.Sig
theorem range_frC {w w':World}{g o:Nat}{cs:List Value}(hf:Fr [] w w') (h:w.rangeAt g o cs):w'.rangeAt g o cs:=fun j v hv=>cell_fr hf (h j v hv)
set_option maxRecDepth 100000 in
set_option maxHeartbeats 4000000 in
theorem rcalls_t (w:World) (A B:Option Addr) (n c d:Nat) (la lb:List KA) (hA:CallsIn w [] A la) (hB:CallsIn w [] B lb) (hab:la.map (·.k)=lb.map (·.k)) (hn:la.length=n) (hs:∀y∈la,y.k.ans.scope.length≤1048576) (hmax:n≤1048576):
  Calls Tryz.prog 31 #[.slice A n c,.slice B n d] w fun e w'=>e= .returned (.bool true)∧Fr [] w w':=by
 have hAh:=zh hA;have hBh:=zh hB;have habh:=zh hab;have hnh:=zh hn;have hsh:=zh hs;have hbn:=zh (show lb.length=n by have:=congrArg List.length hab;simpa [hn]using this.symm);clear hA hB hab hn hs;go_enter Tryz.func31,Tryz.ntmps31;go_wp2_with fail
 go_loopg [5] (n+1) (fun gk s5 wr=>∃(i:Nat),s5= .int .i64 i∧i≤n∧n - i<gk∧Fr [] w wr)
 case atStart=>exact⟨0,rfl,by omega,by omega,Fr.refl _ _⟩
 case round=>
  obtain⟨i,rfl,hi,hk,hF⟩:=hrel;have hFh:=zh hF;by_cases hlt:i<n
  ·have hlt':(i:Int)<n:=by omega
   have hlth:=zh hlt;have hix:i<la.length:=by rw [hnh.o];exact hlt
   have hiy:i<lb.length:=by rw [hbn.o];exact hlt
   obtain⟨ba,oa,rfl,hxr⟩:=call_row (hAh.o.fr hF) hix;obtain⟨bb,ob,rfl,hyr⟩:=call_row (hBh.o.fr hF) hiy;have hxf:=(hAh.o.fr hF).each _ (List.getElem_mem hix);have hyf:=(hBh.o.fr hF).each _ (List.getElem_mem hiy);have hxy:(la[i]'hix).k=(lb[i]'hiy).k:=by have h1:=congrArg (fun l=>l[i]?) habh.o;simpa [hix,hiy]using h1
   have hxs:=hsh.o _ (List.getElem_mem hix);obtain⟨x,hx⟩:∃z,Hid (la[i]'hix=z):=⟨_,zh rfl⟩
   obtain⟨y,hy⟩:∃z,Hid (lb[i]'hiy=z):=⟨_,zh rfl⟩
   rw [hx.o]at hxr hxf hxy hxs;rw [hy.o]at hyr hyf hxy;have a0:wr.cell? ⟨ba,oa+i*10,none⟩=some (.int .i64 x.k.edge):=hxr 0 _ rfl;have a1:wr.cell? ⟨ba,oa+i*10+1,none⟩=some (.int .i64 x.k.seq):=hxr 1 _ rfl;have b0:wr.cell? ⟨bb,ob+i*10,none⟩=some (.int .i64 x.k.edge):=by rw [hxy];exact hyr 0 _ rfl
   have b1:wr.cell? ⟨bb,ob+i*10+1,none⟩=some (.int .i64 x.k.seq):=by rw [hxy];exact hyr 1 _ rfl
   have ra:wr.rangeAt ba (oa+i*10+2) x.aa.cells.toList:=fun j v hv=>by rw [Nat.add_assoc];exact hxr (2+j) v (KA.aa_at x j v (by rw [←Array.getElem?_toList];exact hv))
   have rb:wr.rangeAt bb (ob+i*10+2) y.aa.cells.toList:=fun j v hv=>by rw [Nat.add_assoc];exact hyr (2+j) v (KA.aa_at y j v (by rw [←Array.getElem?_toList];exact hv))
   have hsame:=fun(v:World) (hv:Fr [] wr v)=>rans_t v x.aa y.aa (hxf.1.fr hv (by simp [Off])) (hyf.1.fr hv (by simp [Off])) (show x.k.ans=y.k.ans by rw [hxy]) hxs;have hsame2:=zh hsame;obtain⟨ed,hed⟩:∃z,Hid (x.k.edge=z):=⟨_,zh rfl⟩
   obtain⟨sq,hsq⟩:∃z,Hid (x.k.seq=z):=⟨_,zh rfl⟩
   rw [hed.o]at a0 b0;rw [hsq.o]at a1 b1;have e0:(ed !=ed)=false:=by simp
   have e1:(sq !=sq)=false:=by simp
   clear hxf hyf hxs hxy hF hsame hxr hyr;go_upto_region 6 with(fail)
   refine wp_region_z (fun w'=>w'.cell? ⟨ba,oa+i*10,none⟩=some (.int .i64 ed)∧w'.cell? ⟨ba,oa+i*10+1,none⟩=some (.int .i64 sq)∧w'.cell? ⟨bb,ob+i*10,none⟩=some (.int .i64 ed)∧w'.cell? ⟨bb,ob+i*10+1,none⟩=some (.int .i64 sq)∧w'.rangeAt ba (oa+i*10+2) x.aa.cells.toList∧w'.rangeAt bb (ob+i*10+2) y.aa.cells.toList) [] (by kernel_rfl) ⟨a0,a1,b0,b1,ra,rb⟩ ?_;intro hHeld;refine wpZ_tk (i:=0) (v:= ?_) hHeld ?_ ?_;rotate_left
   ·(intro w hSw;go_simp<;>with_reducible rfl)
   try simp only [zA,zC,Act.put,zD,zE,zF]
   refine wpZ_tk (i:=1) (v:= ?_) hHeld ?_ ?_;rotate_left
   ·(intro w hSw;go_simp<;>with_reducible rfl)
   try simp only [zA,zB,zC,Act.put,zD,zE,zF]
   refine wpZ_tk (i:=2) (v:= ?_) hHeld ?_ ?_;rotate_left
   ·(intro w hSw;go_simp<;>with_reducible rfl)
   try simp only [zA,zB,zC,Act.put,zD,zE,zF]
   refine wpZ_tk (i:=3) (v:= ?_) hHeld ?_ ?_;rotate_left
   ·(intro w hSw;go_simp<;>with_reducible rfl)
   try simp only [zA,zB,zC,Act.put,zD,zE,zF]
   refine wpZ_tk (i:=4) (v:= ?_) hHeld ?_ ?_;rotate_left
   ·(intro w hSw;go_simp<;>with_reducible rfl)
   try simp only [zA,zB,zC,Act.put,zD,zE,zF]
   refine wpZ_tk (i:=5) (v:= ?_) hHeld ?_ ?_;rotate_left
   ·(intro w hSw;go_simp<;>with_reducible rfl)
   try simp only [zA,zB,zC,Act.put,zD,zE,zF]
   refine wpZ_tk (i:=6) (v:= ?_) hHeld ?_ ?_;rotate_left
   ·(intro w hSw;go_simp<;>with_reducible rfl)
   try simp only [zA,zB,zC,Act.put,zD,zE,zF]
   refine wpZ_tk (i:=7) (v:= ?_) hHeld ?_ ?_;rotate_left
   ·(intro w hSw;go_simp<;>with_reducible rfl)
   try simp only [zA,zB,zC,Act.put,zD,zE,zF]
   refine wpZ_tk (i:=8) (v:= ?_) hHeld ?_ ?_;rotate_left
   ·(intro w hSw;go_simp<;>with_reducible rfl)
   try simp only [zA,zB,zC,Act.put,zD,zE,zF]
   refine wpZ_tk (i:=9) (v:= ?_) hHeld ?_ ?_;rotate_left
   ·(intro w hSw;go_simp<;>with_reducible rfl)
   try simp only [zA,zB,zC,Act.put,zD,zE,zF]
   refine wpZ_tk (i:=10) (v:= ?_) hHeld ?_ ?_;rotate_left
   ·(intro w hSw;go_simp<;>with_reducible rfl)
   try simp only [zA,zB,zC,Act.put,zD,zE,zF]
   refine wpZ_tk (i:=11) (v:= ?_) hHeld ?_ ?_;rotate_left
   ·(intro w hSw;go_simp<;>with_reducible rfl)
   try simp only [zA,zB,zC,Act.put,zD,zE,zF]
   refine wpZ_tk (i:=12) (v:= ?_) hHeld ?_ ?_;rotate_left
   ·(intro w hSw;go_simp<;>with_reducible rfl)
   try simp only [zA,zB,zC,Act.put,zD,zE,zF]
   refine wpZ_tk (i:=13) (v:= ?_) hHeld ?_ ?_;rotate_left
   ·(intro w hSw;go_simp<;>with_reducible rfl)
   try simp only [zA,zB,zC,Act.put,zD,zE,zF]
   refine wpZ_tk (i:=14) (v:= ?_) hHeld ?_ ?_;rotate_left
   ·(intro w hSw;go_simp<;>with_reducible rfl)
   try simp only [zA,zB,zC,Act.put,zD,zE,zF]
   refine wpZ_tk (i:=15) (v:= ?_) hHeld ?_ ?_;rotate_left
   ·(intro w hSw;go_simp<;>with_reducible rfl)
   try simp only [zA,zB,zC,Act.put,zD,zE,zF]
   refine wpZ_tk (i:=16) (v:= ?_) hHeld ?_ ?_;rotate_left
   ·(intro w hSw;go_simp<;>with_reducible rfl)
   try simp only [zA,zB,zC,Act.put,zD,zE,zF]
   refine wpZ_tk (i:=17) (v:= ?_) hHeld ?_ ?_;rotate_left
   ·(intro w hSw;go_simp<;>with_reducible rfl)
   try simp only [zA,zB,zC,Act.put,zD,zE,zF]
   refine wpZ_tk (i:=18) (v:= ?_) hHeld ?_ ?_;rotate_left
   ·(intro w hSw;go_simp<;>with_reducible rfl)
   try simp only [zA,zB,zC,Act.put,zD,zE,zF]
   refine wpZ_tk (i:=19) (v:= ?_) hHeld ?_ ?_;rotate_left
   ·(intro w hSw;go_simp<;>with_reducible rfl)
   try simp only [zA,zB,zC,Act.put,zD,zE,zF]
   refine wpZ_tk (i:=20) (v:= ?_) hHeld ?_ ?_;rotate_left
   ·(intro w hSw;go_simp<;>with_reducible rfl)
   try simp only [zA,zB,zC,Act.put,zD,zE,zF]
   refine wpZ_tk (i:=21) (v:= ?_) hHeld ?_ ?_;rotate_left
   ·(intro w hSw;go_simp<;>with_reducible rfl)
   try simp only [zA,zB,zC,Act.put,zD,zE,zF]
   refine wpZ_tk (i:=22) (v:= ?_) hHeld ?_ ?_;rotate_left
   ·(intro w hSw;go_simp<;>with_reducible rfl)
   try simp only [zA,zB,zC,Act.put,zD,zE,zF]
   refine wpZ_tk (i:=23) (v:= ?_) hHeld ?_ ?_;rotate_left
   ·(intro w hSw;go_simp<;>with_reducible rfl)
   try simp only [zA,zB,zC,Act.put,zD,zE,zF]
   refine wpZ_tk (i:=24) (v:= ?_) hHeld ?_ ?_;rotate_left
   ·(intro w hSw;go_simp<;>with_reducible rfl)
   try simp only [zA,zB,zC,Act.put,zD,zE,zF]
   refine wpZ_tk (i:=25) (v:= ?_) hHeld ?_ ?_;rotate_left
   ·(intro w hSw;go_simp<;>with_reducible rfl)
   try simp only [zA,zB,zC,Act.put,zD,zE,zF]
   refine wpZ_tk (i:=26) (v:= ?_) hHeld ?_ ?_;rotate_left
   ·(intro w hSw;go_simp<;>with_reducible rfl)
   try simp only [zA,zB,zC,Act.put,zD,zE,zF]
   refine wpZ_tk (i:=27) (v:= ?_) hHeld ?_ ?_;rotate_left
   ·(intro w hSw;go_simp<;>with_reducible rfl)
   try simp only [zA,zB,zC,Act.put,zD,zE,zF]
   refine wpZ_tk (i:=28) (v:= ?_) hHeld ?_ ?_;rotate_left
   ·(intro w hSw;go_simp<;>with_reducible rfl)
   try simp only [zA,zB,zC,Act.put,zD,zE,zF]
   refine wpZ_take (i:=29) rfl (by kernel_rfl) (by kernel_rfl) (by kernel_rfl) (by kernel_rfl) (fun _ _ _ h=>h) (yieldsIf_load_mid (by kernel_rfl) 63 _ rfl ba (oa+i*10+2) rfl (x.aa.cells.toList) _ (fun w h=>h.2.2.2.2.1) uAns rfl (infoAAL _)) hHeld ?_;try simp only [zA,zB,zC,Act.put,zD,zE,zF]
   try rw [Array.toArray_toList]
   refine wpZ_tk (i:=30) (v:= ?_) hHeld ?_ ?_;rotate_left
   ·(intro w hSw;go_simp<;>with_reducible rfl)
   try simp only [zA,zB,zC,Act.put,zD,zE,zF]
   refine wpZ_tk (i:=31) (v:= ?_) hHeld ?_ ?_;rotate_left
   ·(intro w hSw;go_simp<;>with_reducible rfl)
   try simp only [zA,zB,zC,Act.put,zD,zE,zF]
   refine wpZ_tk (i:=32) (v:= ?_) hHeld ?_ ?_;rotate_left
   ·(intro w hSw;go_simp<;>with_reducible rfl)
   try simp only [zA,zB,zC,Act.put,zD,zE,zF]
   refine wpZ_tk (i:=33) (v:= ?_) hHeld ?_ ?_;rotate_left
   ·(intro w hSw;go_simp<;>with_reducible rfl)
   try simp only [zA,zB,zC,Act.put,zD,zE,zF]
   refine wpZ_take (i:=34) rfl (by kernel_rfl) (by kernel_rfl) (by kernel_rfl) (by kernel_rfl) (fun _ _ _ h=>h) (yieldsIf_load_mid (by kernel_rfl) 63 _ rfl bb (ob+i*10+2) rfl (y.aa.cells.toList) _ (fun w h=>h.2.2.2.2.2) uAns rfl (infoAAL _)) hHeld ?_;try simp only [zA,zB,zC,Act.put,zD,zE,zF]
   try rw [Array.toArray_toList]
   refine wpZ_one (i:=35) (by kernel_rfl) rfl (fun K hK=> ?_);go_simp;refine Calls.mono (show Calls Tryz.prog 29 _ _ _ from hsame2.o _ (Fr.refl _ _).drew) ?_;rintro e V1 ⟨rfl,G1⟩;have G1':Fr [] wr V1:=G1.of_drew;try dsimp only
   refine hK.out _ _ ⟨cell_fr G1' a0,cell_fr G1' a1,cell_fr G1' b0,cell_fr G1' b1,range_frC G1' ra,range_frC G1' rb⟩ (fun hHeld=> ?_);clear hK K;try simp only [zA,zB,zC,Act.put,zD,zE,zF]
   refine wpZ_tk (i:=36) (v:= ?_) hHeld ?_ ?_;rotate_left
   ·(intro w hSw;go_simp<;>with_reducible rfl)
   try simp only [zA,zB,zC,Act.put,zD,zE,zF]
   refine wpZ_tk (i:=37) (v:= ?_) hHeld ?_ ?_;rotate_left
   ·(intro w hSw;go_simp<;>with_reducible rfl)
   try simp only [zA,zB,zC,Act.put,zD,zE,zF]
   refine wpZ_done (by kernel_rfl) ?_ _;have FF:=zh (hFh.o.trans G1');clear a0 a1 b0 b1 ra rb G1 G1';go_wp2_with fail
   go_roundg (n - i)
   case measure=>have:=hlth.o;omega
   case rel=>exact⟨i+1,by go_num,by have:=hlth.o;omega,by have:=hlth.o;omega,FF.o⟩
  ·have hge:¬(i:Int)<n:=by omega
   clear hlt hk hF;go_wp2;go_ret;exact⟨rfl,hFh.o⟩
end Go.Proofs.YtacljejoedbnkaaGreat
