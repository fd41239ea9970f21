/- Walks: the document's 'the same family?', 'the same answer?', at what is the same. Conditions: each theorem's own. -/
import Derived.Test.YtpmgepijkhaonaaGreatHk
namespace Go.Proofs.YtpmgepijkhaonaaGreat
open Go.RowKit Go.Sig
set_option maxRecDepth 100000 in
set_option maxHeartbeats 2000000 in
theorem rsames_t (w:World) (A B:Option Addr) (n c d:Nat) (a:List ByteArray) (hA:Rd w 1 A n (strCells a)) (hn:a.length=n) (hB:Rd w 1 B n (strCells a)) (hmax:n≤1048576):
  Calls Tryz.prog 53 #[.slice A n c,.slice B n d] w fun e w'=>e= .returned (.bool true)∧Fr [] w w':=by
 go_enter Tryz.func53,Tryz.ntmps53;go_wp2_with fail
 go_loopg [5] (n+1) (fun gk s5 wr=>∃(i:Nat),s5= .int .i64 i∧i≤n∧n - i<gk∧Fr [] w wr)
 case atStart=>exact⟨0,rfl,by omega,by omega,Fr.refl _ _⟩
 case round=>
  obtain⟨i,rfl,hi,hk,hF⟩:=hrel;have hFh:=zh hF;by_cases hlt:i<n
  ·have hlt':(i:Int)<n:=by omega
   have hlth:=zh hlt;have ha':i<a.length:=by omega
   have hAr:=Rd.fr hA hF (by simp [Off]);have hBr:=Rd.fr hB hF (by simp [Off]);obtain⟨ba,oa,rfl,hcella⟩:=hAr.2 (by omega);obtain⟨bb,ob,rfl,hcellb⟩:=hBr.2 (by omega);have hpa:(strCells a)[i]? =some (.string a[i]):=by unfold strCells;rw [List.getElem?_map,List.getElem?_eq_getElem ha'];rfl
   have cn:=hcella _ _ hpa;have dn:=hcellb _ _ hpa;clear hpa hcella hcellb hA hB hAr hBr hF;obtain⟨y,hy⟩:∃z,Hid (a[i]=z):=⟨_,zh rfl⟩
   rw [hy.o]at cn dn;have h1:=toList_beq y y;rw [decide_eq_true rfl]at h1;go_upto_region 6 with(fail)
   go_quiet (fail)
   go_wp2;go_roundg (n - i)
   case measure=>omega
   case rel=>exact⟨i+1,by go_num,by have:=hlth.o;omega,by have:=hlth.o;omega,hFh.o.drewN _⟩
  ·have hin:i=n:=by omega
   have hge:¬(i:Int)<n:=by omega
   clear hlt hk hF;go_wp2;go_ret;exact⟨rfl,hFh.o⟩
set_option maxRecDepth 100000 in
set_option maxHeartbeats 2000000 in
theorem rints_t (w:World) (A B:Option Addr) (n c d:Nat) (a:List Int) (hA:Rd w 1 A n (intCells a)) (hn:a.length=n) (hB:Rd w 1 B n (intCells a)) (hmax:n≤1048576):
  Calls Tryz.prog 55 #[.slice A n c,.slice B n d] w fun e w'=>e= .returned (.bool true)∧Fr [] w w':=by
 go_enter Tryz.func55,Tryz.ntmps55;go_wp2_with fail
 go_loopg [5] (n+1) (fun gk s5 wr=>∃(i:Nat),s5= .int .i64 i∧i≤n∧n - i<gk∧Fr [] w wr)
 case atStart=>exact⟨0,rfl,by omega,by omega,Fr.refl _ _⟩
 case round=>
  obtain⟨i,rfl,hi,hk,hF⟩:=hrel;have hFh:=zh hF;by_cases hlt:i<n
  ·have hlt':(i:Int)<n:=by omega
   have hlth:=zh hlt;have ha':i<a.length:=by omega
   have hAr:=Rd.fr hA hF (by simp [Off]);have hBr:=Rd.fr hB hF (by simp [Off]);obtain⟨ba,oa,rfl,hcella⟩:=hAr.2 (by omega);obtain⟨bb,ob,rfl,hcellb⟩:=hBr.2 (by omega);have hpa:(intCells a)[i]? =some (.int .i64 a[i]):=intCells_at ha';have cn:=hcella _ _ hpa;have dn:=hcellb _ _ hpa;clear hpa hcella hcellb hA hB hAr hBr hF;obtain⟨y,hy⟩:∃z,Hid (a[i]=z):=⟨_,zh rfl⟩
   rw [hy.o]at cn dn;have h1:(y==y)=true:=beq_self_eq_true y;go_upto_region 6 with(fail)
   go_quiet (fail)
   go_wp2;go_roundg (n - i)
   case measure=>omega
   case rel=>exact⟨i+1,by go_num,by have:=hlth.o;omega,by have:=hlth.o;omega,hFh.o.drewN _⟩
  ·have hin:i=n:=by omega
   have hge:¬(i:Int)<n:=by omega
   clear hlt hk hF;go_wp2;go_ret;exact⟨rfl,hFh.o⟩
set_option maxRecDepth 100000 in
set_option maxHeartbeats 2000000 in
theorem rtoks_t (w:World) (A B:Option Addr) (n c d:Nat) (a b:List TA) (hA:Rd w 3 A n (tokCells a)) (hn:a.length=n) (hB:Rd w 3 B n (tokCells b)) (hab:a.map (·.tok)=b.map (·.tok)) (hmax:n≤1048576)
  (ha:∀t∈a,Rd w 1 t.A t.tok.scope.length (strCells t.tok.scope)) (hb:∀t∈b,Rd w 1 t.A t.tok.scope.length (strCells t.tok.scope)) (hs:∀t∈a,t.tok.scope.length≤1048576):
  Calls Tryz.prog 54 #[.slice A n c,.slice B n d] w fun e w'=>e= .returned (.bool true)∧Fr [] w w':=by
 have hah:=zh ha;have hbh:=zh hb;have hsh:=zh hs;have habh:=zh hab;have hAh:=zh hA;have hBh:=zh hB;clear ha hb hs hab hA hB;go_enter Tryz.func54,Tryz.ntmps54;go_wp2_with fail
 go_loopg [5] (n+1) (fun gk s5 wr=>∃(i:Nat),s5= .int .i64 i∧i≤n∧n - i<gk∧Fr [] w wr)
 case atStart=>exact⟨0,rfl,by omega,by omega,Fr.refl _ _⟩
 case round=>
  obtain⟨i,rfl,hi,hk,hF⟩:=hrel;have hFh:=zh hF;by_cases hlt:i<n
  ·have hlt':(i:Int)<n:=by omega
   have hlth:=zh hlt;have ha':i<a.length:=by omega
   have hbl:b.length=n:=by have:=congrArg List.length habh.o;simpa [hn]using this.symm
   have hb':i<b.length:=by omega
   have hAr:=Rd.fr hAh.o hF (by simp [Off]);have hBr:=Rd.fr hBh.o hF (by simp [Off]);have hsa:=zh (Rd.fr (hah.o _ (List.getElem_mem ha')) hF (by simp [Off]));have hsb:=Rd.fr (hbh.o _ (List.getElem_mem hb')) hF (by simp [Off]);have hsl:=hsh.o _ (List.getElem_mem ha');have hte:a[i].tok=b[i].tok:=by have h1:=congrArg (fun l=>l[i]?) habh.o;simpa [List.getElem?_eq_getElem ha',List.getElem?_eq_getElem hb']using h1
   rw [←hte]at hsb;have hsbh:=zh hsb;obtain⟨ba,oa,rfl,hcella⟩:=hAr.2 (by omega);obtain⟨bb,ob,rfl,hcellb⟩:=hBr.2 (by omega);obtain⟨p0,p1,p2⟩:=tokCells_at ha';obtain⟨q0,q1,q2⟩:=tokCells_at hb';rw [←hte]at q0 q1 q2;have c0:=hcella _ _ p0;have c1:=hcella _ _ p1;have c2:=hcella _ _ p2;have e0:=hcellb _ _ q0;have e1:=hcellb _ _ q1;have e2:=hcellb _ _ q2;rw [←Nat.add_assoc]at c1 c2 e1 e2;clear p0 p1 p2 q0 q1 q2 hcella hcellb hAr hBr hF hte hsb;obtain⟨x,hx⟩:∃z,Hid (a[i]=z):=⟨_,zh rfl⟩
   obtain⟨y,hy⟩:∃z,Hid (b[i]=z):=⟨_,zh rfl⟩
   rw [hx.o]at c0 c1 c2 e0 e1 e2 hsl hsa hsbh;rw [hy.o]at e1 hsbh;obtain⟨⟨kd,sc,us⟩,xA,xc⟩:=x;obtain⟨yt,yA,yc⟩:=y;dsimp only at c0 c1 c2 e0 e1 e2 hsl hsa hsbh;have h1:(kd==kd)=true:=beq_self_eq_true kd;have h2:(us==us)=true:=beq_self_eq_true us;clear hx hy;have hsame:=fun v:World=>rsames_t v xA yA sc.length xc yc sc;go_upto_region 6 with(fail)
   refine wp_region_z (fun w'=>w'.cell? ⟨ba,oa+i*3,none⟩=some (.int .i64 kd)∧w'.cell? ⟨ba,oa+i*3+1,none⟩=some (.slice xA sc.length xc)∧w'.cell? ⟨ba,oa+i*3+2,none⟩=some (.bool us)∧w'.cell? ⟨bb,ob+i*3,none⟩=some (.int .i64 kd)∧w'.cell? ⟨bb,ob+i*3+1,none⟩=some (.slice yA sc.length yc)∧w'.cell? ⟨bb,ob+i*3+2,none⟩=some (.bool us)) [] (by kernel_rfl) ⟨c0,c1,c2,e0,e1,e2⟩ ?_;intro hHeld;refine wpZ_tk (i:=0) (v:= ?_) hHeld ?_ ?_;rotate_left
   ·(intro w hSw;go_simp<;>with_reducible rfl)
   try simp only [zA,zC,Act.put,zD,zE,zF]
   refine wpZ_tk (i:=1) (v:= ?_) hHeld ?_ ?_;rotate_left
   ·(intro w hSw;go_simp<;>with_reducible rfl)
   try simp only [zA,zB,zC,Act.put,zD,zE,zF]
   refine wpZ_tk (i:=2) (v:= ?_) hHeld ?_ ?_;rotate_left
   ·(intro w hSw;go_simp<;>with_reducible rfl)
   try simp only [zA,zB,zC,Act.put,zD,zE,zF]
   refine wpZ_tk (i:=3) (v:= ?_) hHeld ?_ ?_;rotate_left
   ·(intro w hSw;go_simp<;>with_reducible rfl)
   try simp only [zA,zB,zC,Act.put,zD,zE,zF]
   refine wpZ_tk (i:=4) (v:= ?_) hHeld ?_ ?_;rotate_left
   ·(intro w hSw;go_simp<;>with_reducible rfl)
   try simp only [zA,zB,zC,Act.put,zD,zE,zF]
   refine wpZ_tk (i:=5) (v:= ?_) hHeld ?_ ?_;rotate_left
   ·(intro w hSw;go_simp<;>with_reducible rfl)
   try simp only [zA,zB,zC,Act.put,zD,zE,zF]
   refine wpZ_tk (i:=6) (v:= ?_) hHeld ?_ ?_;rotate_left
   ·(intro w hSw;go_simp<;>with_reducible rfl)
   try simp only [zA,zB,zC,Act.put,zD,zE,zF]
   refine wpZ_tk (i:=7) (v:= ?_) hHeld ?_ ?_;rotate_left
   ·(intro w hSw;go_simp<;>with_reducible rfl)
   try simp only [zA,zB,zC,Act.put,zD,zE,zF]
   refine wpZ_tk (i:=8) (v:= ?_) hHeld ?_ ?_;rotate_left
   ·(intro w hSw;go_simp<;>with_reducible rfl)
   try simp only [zA,zB,zC,Act.put,zD,zE,zF]
   refine wpZ_tk (i:=9) (v:= ?_) hHeld ?_ ?_;rotate_left
   ·(intro w hSw;go_simp<;>with_reducible rfl)
   try simp only [zA,zB,zC,Act.put,zD,zE,zF]
   refine wpZ_tk (i:=10) (v:= ?_) hHeld ?_ ?_;rotate_left
   ·(intro w hSw;go_simp<;>with_reducible rfl)
   try simp only [zA,zB,zC,Act.put,zD,zE,zF]
   refine wpZ_tk (i:=11) (v:= ?_) hHeld ?_ ?_;rotate_left
   ·(intro w hSw;go_simp<;>with_reducible rfl)
   try simp only [zA,zB,zC,Act.put,zD,zE,zF]
   refine wpZ_tk (i:=12) (v:= ?_) hHeld ?_ ?_;rotate_left
   ·(intro w hSw;go_simp<;>with_reducible rfl)
   try simp only [zA,zB,zC,Act.put,zD,zE,zF]
   refine wpZ_tk (i:=13) (v:= ?_) hHeld ?_ ?_;rotate_left
   ·(intro w hSw;go_simp<;>with_reducible rfl)
   try simp only [zA,zB,zC,Act.put,zD,zE,zF]
   refine wpZ_tk (i:=14) (v:= ?_) hHeld ?_ ?_;rotate_left
   ·(intro w hSw;go_simp<;>with_reducible rfl)
   try simp only [zA,zB,zC,Act.put,zD,zE,zF]
   refine wpZ_tk (i:=15) (v:= ?_) hHeld ?_ ?_;rotate_left
   ·(intro w hSw;go_simp<;>with_reducible rfl)
   try simp only [zA,zB,zC,Act.put,zD,zE,zF]
   refine wpZ_tk (i:=16) (v:= ?_) hHeld ?_ ?_;rotate_left
   ·(intro w hSw;go_simp<;>with_reducible rfl)
   try simp only [zA,zB,zC,Act.put,zD,zE,zF]
   refine wpZ_tk (i:=17) (v:= ?_) hHeld ?_ ?_;rotate_left
   ·(intro w hSw;go_simp<;>with_reducible rfl)
   try simp only [zA,zB,zC,Act.put,zD,zE,zF]
   refine wpZ_tk (i:=18) (v:= ?_) hHeld ?_ ?_;rotate_left
   ·(intro w hSw;go_simp<;>with_reducible rfl)
   try simp only [zA,zB,zC,Act.put,zD,zE,zF]
   refine wpZ_tk (i:=19) (v:= ?_) hHeld ?_ ?_;rotate_left
   ·(intro w hSw;go_simp<;>with_reducible rfl)
   try simp only [zA,zB,zC,Act.put,zD,zE,zF]
   refine wpZ_tk (i:=20) (v:= ?_) hHeld ?_ ?_;rotate_left
   ·(intro w hSw;go_simp<;>with_reducible rfl)
   try simp only [zA,zB,zC,Act.put,zD,zE,zF]
   refine wpZ_tk (i:=21) (v:= ?_) hHeld ?_ ?_;rotate_left
   ·(intro w hSw;go_simp<;>with_reducible rfl)
   try simp only [zA,zB,zC,Act.put,zD,zE,zF]
   refine wpZ_tk (i:=22) (v:= ?_) hHeld ?_ ?_;rotate_left
   ·(intro w hSw;go_simp<;>with_reducible rfl)
   try simp only [zA,zB,zC,Act.put,zD,zE,zF]
   refine wpZ_tk (i:=23) (v:= ?_) hHeld ?_ ?_;rotate_left
   ·(intro w hSw;go_simp<;>with_reducible rfl)
   try simp only [zA,zB,zC,Act.put,zD,zE,zF]
   refine wpZ_tk (i:=24) (v:= ?_) hHeld ?_ ?_;rotate_left
   ·(intro w hSw;go_simp<;>with_reducible rfl)
   try simp only [zA,zB,zC,Act.put,zD,zE,zF]
   refine wpZ_tk (i:=25) (v:= ?_) hHeld ?_ ?_;rotate_left
   ·(intro w hSw;go_simp<;>with_reducible rfl)
   try simp only [zA,zB,zC,Act.put,zD,zE,zF]
   refine wpZ_tk (i:=26) (v:= ?_) hHeld ?_ ?_;rotate_left
   ·(intro w hSw;go_simp<;>with_reducible rfl)
   try simp only [zA,zB,zC,Act.put,zD,zE,zF]
   refine wpZ_tk (i:=27) (v:= ?_) hHeld ?_ ?_;rotate_left
   ·(intro w hSw;go_simp<;>with_reducible rfl)
   try simp only [zA,zB,zC,Act.put,zD,zE,zF]
   refine wpZ_tk (i:=28) (v:= ?_) hHeld ?_ ?_;rotate_left
   ·(intro w hSw;go_simp<;>with_reducible rfl)
   try simp only [zA,zB,zC,Act.put,zD,zE,zF]
   refine wpZ_tk (i:=29) (v:= ?_) hHeld ?_ ?_;rotate_left
   ·(intro w hSw;go_simp<;>with_reducible rfl)
   try simp only [zA,zB,zC,Act.put,zD,zE,zF]
   refine wpZ_tk (i:=30) (v:= ?_) hHeld ?_ ?_;rotate_left
   ·(intro w hSw;go_simp<;>with_reducible rfl)
   try simp only [zA,zB,zC,Act.put,zD,zE,zF]
   refine wpZ_tk (i:=31) (v:= ?_) hHeld ?_ ?_;rotate_left
   ·(intro w hSw;go_simp<;>with_reducible rfl)
   try simp only [zA,zB,zC,Act.put,zD,zE,zF]
   refine wpZ_tk (i:=32) (v:= ?_) hHeld ?_ ?_;rotate_left
   ·(intro w hSw;go_simp<;>with_reducible rfl)
   try simp only [zA,zB,zC,Act.put,zD,zE,zF]
   refine wpZ_tk (i:=33) (v:= ?_) hHeld ?_ ?_;rotate_left
   ·(intro w hSw;go_simp<;>with_reducible rfl)
   try simp only [zA,zB,zC,Act.put,zD,zE,zF]
   refine wpZ_tk (i:=34) (v:= ?_) hHeld ?_ ?_;rotate_left
   ·(intro w hSw;go_simp<;>with_reducible rfl)
   try simp only [zA,zB,zC,Act.put,zD,zE,zF]
   refine wpZ_one (i:=35) (by kernel_rfl) rfl (fun K hK=> ?_);go_simp;refine(hsame wr.drew hsa.o.drew rfl hsbh.o.drew hsl).mono ?_;rintro e W2 ⟨rfl,f2⟩;have f2:Fr [] wr W2:=f2.of_drew;dsimp only;refine hK.out _ _ ⟨cell_fr f2 c0,cell_fr f2 c1,cell_fr f2 c2,cell_fr f2 e0,cell_fr f2 e1,cell_fr f2 e2⟩ (fun hHeld=> ?_);clear hK K;try simp only [zA,zB,zC,Act.put,zD,zE,zF]
   refine wpZ_tk (i:=36) (v:= ?_) hHeld ?_ ?_;rotate_left
   ·(intro w hSw;go_simp<;>with_reducible rfl)
   try simp only [zA,zB,zC,Act.put,zD,zE,zF]
   refine wpZ_tk (i:=37) (v:= ?_) hHeld ?_ ?_;rotate_left
   ·(intro w hSw;go_simp<;>with_reducible rfl)
   try simp only [zA,zB,zC,Act.put,zD,zE,zF]
   refine wpZ_done (by kernel_rfl) ?_ _;go_wp2;go_roundg (n - i)
   case measure=>have:=hlth.o;omega
   case rel=>exact⟨i+1,by go_num,by have:=hlth.o;omega,by have:=hlth.o;omega,hFh.o.trans f2⟩
  ·have hin:i=n:=by omega
   have hge:¬(i:Int)<n:=by omega
   clear hlt hk hF;go_wp2;go_ret;exact⟨rfl,hFh.o⟩
end Go.Proofs.YtpmgepijkhaonaaGreat
namespace Go.Proofs.YtpmgepijkhaonaaGreat
open Go.RowKit Go.Sig
set_option maxRecDepth 100000 in
set_option maxHeartbeats 4000000 in
theorem rsame_t (w:World) (x y:FA) (hx:FamIn w [] x) (hy:FamIn w [] y) (h:x.f=y.f) (hs:Short x):Calls Tryz.prog 11 #[x.val,y.val] w fun e w'=>e= .returned (.bool true)∧Fr [] w w':=by
 obtain⟨⟨id,client,user,scope,redirect,challenge,method,code,tokens,revoked,leases⟩,xA,xc,xtA,xtc,xts,xlA,xlc⟩:=x;obtain⟨yf,yA,yc,ytA,ytc,yts,ylA,ylc⟩:=y;dsimp only at h;subst h;obtain⟨hx1,⟨hx2,_⟩,⟨hx3,_⟩,⟨hx4,_⟩,hx5⟩:=hx;obtain⟨hy1,⟨hy2,_⟩,⟨hy3,_⟩,⟨hy4,_⟩,hy5⟩:=hy;obtain⟨s1,s2,s3,s4⟩:=hs;dsimp only at hx1 hx2 hx3 hx4 hx5 hy1 hy2 hy3 hy4 hy5 s1 s2 s3 s4;have hlen:yts.length=xts.length:=by have:=congrArg List.length (hx1.trans hy1.symm);simpa using this.symm
 have hsc:=fun(v:World) (hF:Fr [] w v)=>rsames_t v xA yA scope.length xc yc scope (hx2.fr hF (by simp [Off])) rfl (hy2.fr hF (by simp [Off])) (by omega);have hlc:=fun(v:World) (hF:Fr [] w v)=>rints_t v xlA ylA leases.length xlc ylc leases (hx4.fr hF (by simp [Off])) rfl (hy4.fr hF (by simp [Off])) (by omega);rw [hlen]at hy3;have htc:=fun(v:World) (hF:Fr [] w v)=>rtoks_t v xtA ytA xts.length xtc ytc xts yts (hx3.fr hF (by simp [Off])) rfl (hy3.fr hF (by simp [Off])) (hx1.trans hy1.symm) (by omega) (fun t ht=>(hx5 t ht).1.fr hF (by simp [Off])) (fun t ht=>(hy5 t ht).1.fr hF (by simp [Off])) (fun t ht=>by have:=s4 t ht;omega);clear hx1 hx2 hx3 hx4 hx5 hy1 hy2 hy3 hy4 hy5 s1 s2 s3 s4;unfold FA.val FA.cells;dsimp only;rw [hlen];go_enter Tryz.func11,Tryz.ntmps11;go_upto_region 1 with(fail)
 refine wp_gen (fun W=>Blk W w.heap.size 26 #[.string id,.string client,.string user,.slice xA scope.length xc,.string redirect,.string challenge,.string method,.int .i64 code,.slice xtA xts.length xtc,.bool revoked,.slice xlA leases.length xlc]∧Blk W (w.heap.size+1) 26 #[.string id,.string client,.string user,.slice yA scope.length yc,.string redirect,.string challenge,.string method,.int .i64 code,.slice ytA xts.length ytc,.bool revoked,.slice ylA leases.length ylc]∧Fr [] w W) ⟨(Blk.new _ _ _).alloc _,Blk.new' _ _ (by simp),((Fr.refl _ _).alloc _).alloc _⟩ ?_;rintro W ⟨hX,hY,fW⟩;obtain⟨gx,HGX⟩:∃z,Hid (w.heap.size=z):=⟨_,zh rfl⟩
 rw [HGX.o]at hX hY⊢;obtain⟨gy,HGY⟩:∃z,Hid (gx+1=z):=⟨_,zh rfl⟩
 rw [HGY.o]at hY⊢;have hXh:=zh hX;have hYh:=zh hY;have fWh:=zh fW;have e1:=beq_self_eq_true id.toList;have e2:=beq_self_eq_true client.toList;have e3:=beq_self_eq_true user.toList;have e4:=beq_self_eq_true redirect.toList;have e5:=beq_self_eq_true challenge.toList;have e6:=beq_self_eq_true method.toList;have e7:=beq_self_eq_true code;have e8:=beq_self_eq_true revoked;have hcall:=hsc W fW;clear hX hY fW hsc;have ablk:=hXh.o;have a0:=ablk.cell 0;have a1:=ablk.cell 1;have a2:=ablk.cell 2;have a3:=ablk.cell 3;have a4:=ablk.cell 4;have a5:=ablk.cell 5;have a6:=ablk.cell 6;have a7:=ablk.cell 7;have a8:=ablk.cell 8;have a9:=ablk.cell 9;have a10:=ablk.cell 10;simp only [zG,zH,zI]at a0 a1 a2 a3 a4 a5 a6 a7 a8 a9 a10;have al:=ablk.lt;clear ablk;have bblk:=hYh.o;have b0:=bblk.cell 0;have b1:=bblk.cell 1;have b2:=bblk.cell 2;have b3:=bblk.cell 3;have b4:=bblk.cell 4;have b5:=bblk.cell 5;have b6:=bblk.cell 6;have b7:=bblk.cell 7;have b8:=bblk.cell 8;have b9:=bblk.cell 9;have b10:=bblk.cell 10;simp only [zG,zH,zI]at b0 b1 b2 b3 b4 b5 b6 b7 b8 b9 b10;have bl:=bblk.lt;clear bblk;go_wp2_with fail
 refine Calls.mono (show Calls Tryz.prog 53 _ _ _ from hcall) ?_;rintro e V0 ⟨rfl,F0⟩;have G0:=zh (fWh.o.trans F0);have hX0:=zh (hXh.o.fr F0 (by simp));have hY0:=zh (hYh.o.fr F0 (by simp));clear a0 a1 a2 a3 a4 a5 a6 a7 a8 a9 a10 b0 b1 b2 b3 b4 b5 b6 b7 b8 b9 b10 al bl;clear hcall F0;have hcall:=htc V0 G0.o;clear htc;have ablk:=hX0.o;have a0:=ablk.cell 0;have a1:=ablk.cell 1;have a2:=ablk.cell 2;have a3:=ablk.cell 3;have a4:=ablk.cell 4;have a5:=ablk.cell 5;have a6:=ablk.cell 6;have a7:=ablk.cell 7;have a8:=ablk.cell 8;have a9:=ablk.cell 9;have a10:=ablk.cell 10;simp only [zG,zH,zI]at a0 a1 a2 a3 a4 a5 a6 a7 a8 a9 a10;have al:=ablk.lt;clear ablk;have bblk:=hY0.o;have b0:=bblk.cell 0;have b1:=bblk.cell 1;have b2:=bblk.cell 2;have b3:=bblk.cell 3;have b4:=bblk.cell 4;have b5:=bblk.cell 5;have b6:=bblk.cell 6;have b7:=bblk.cell 7;have b8:=bblk.cell 8;have b9:=bblk.cell 9;have b10:=bblk.cell 10;simp only [zG,zH,zI]at b0 b1 b2 b3 b4 b5 b6 b7 b8 b9 b10;have bl:=bblk.lt;clear bblk;go_wp2_with fail
 refine Calls.mono (show Calls Tryz.prog 54 _ _ _ from hcall) ?_;rintro e V1 ⟨rfl,F1⟩;have G1:=zh (G0.o.trans F1);have hX1:=zh (hX0.o.fr F1 (by simp));have hY1:=zh (hY0.o.fr F1 (by simp));clear a0 a1 a2 a3 a4 a5 a6 a7 a8 a9 a10 b0 b1 b2 b3 b4 b5 b6 b7 b8 b9 b10 al bl;clear hcall F1;have hcall:=hlc V1 G1.o;clear hlc;have ablk:=hX1.o;have a0:=ablk.cell 0;have a1:=ablk.cell 1;have a2:=ablk.cell 2;have a3:=ablk.cell 3;have a4:=ablk.cell 4;have a5:=ablk.cell 5;have a6:=ablk.cell 6;have a7:=ablk.cell 7;have a8:=ablk.cell 8;have a9:=ablk.cell 9;have a10:=ablk.cell 10;simp only [zG,zH,zI]at a0 a1 a2 a3 a4 a5 a6 a7 a8 a9 a10;have al:=ablk.lt;clear ablk;have bblk:=hY1.o;have b0:=bblk.cell 0;have b1:=bblk.cell 1;have b2:=bblk.cell 2;have b3:=bblk.cell 3;have b4:=bblk.cell 4;have b5:=bblk.cell 5;have b6:=bblk.cell 6;have b7:=bblk.cell 7;have b8:=bblk.cell 8;have b9:=bblk.cell 9;have b10:=bblk.cell 10;simp only [zG,zH,zI]at b0 b1 b2 b3 b4 b5 b6 b7 b8 b9 b10;have bl:=bblk.lt;clear bblk;go_wp2_with fail
 refine Calls.mono (show Calls Tryz.prog 55 _ _ _ from hcall) ?_;rintro e V2 ⟨rfl,F2⟩;have G2:=zh (G1.o.trans F2);have hX2:=zh (hX1.o.fr F2 (by simp));have hY2:=zh (hY1.o.fr F2 (by simp));clear a0 a1 a2 a3 a4 a5 a6 a7 a8 a9 a10 b0 b1 b2 b3 b4 b5 b6 b7 b8 b9 b10 al bl;clear hcall F2;go_wp2_with fail
 go_ret;exact⟨rfl,G2.o⟩
end Go.Proofs.YtpmgepijkhaonaaGreat
