/- Walk: the document's Without: families without one of an Id. Conditions: each theorem's own. -/
import Derived.Test.YtacljejoedbnkaaGreatHq
import Derived.Test.YtacljejoedbnkaaGreatHv
import Derived.Test.YtacljejoedbnkaaGreatHm
namespace Go.Proofs.YtacljejoedbnkaaGreat
open Go.RowKit Go.Sig
def famCells (l:List FA):List Value:=l.flatMap fun x=>x.cells.toList
theorem famCells_append (a b:List FA):famCells (a++b)=famCells a++famCells b:=List.flatMap_append
theorem famCells_length:∀l:List FA,(famCells l).length=l.length*11
 | []=>rfl
 |x::l=>by
  have h:=famCells_length l;have hx:x.cells.toList.length=11:=rfl;unfold famCells at*
  rw [List.flatMap_cons,List.length_append,h,hx,List.length_cons];omega
theorem famCells_one (l:List FA):∀u∈famCells l,u.oneCell'=true:=by
 intro u hu;obtain⟨x,_,hu⟩:=List.mem_flatMap.1 hu;exact Array.all_eq_true'.1 (FA.all1 x) u (by simpa using hu)
theorem famCells_at {j:Nat}{v:Value}:∀{l:List FA}{i:Nat}(h:i<l.length),l[i].cells[j]? =some v→(famCells l)[i*11+j]? =some v
 |x::l,0,_,hv=>by
  have hj:j<x.cells.toList.length:=by have:=(Array.getElem?_eq_some_iff.1 hv).1;simpa using this
  rw [famCells,List.flatMap_cons,Nat.zero_mul,Nat.zero_add,List.getElem?_append_left hj,Array.getElem?_toList];exact hv
 |x::l,i+1,h,hv=>by have:=famCells_at (l:=l) (i:=i) (by simpa using h) hv;have hx:x.cells.toList.length=11:=rfl;rw [famCells,List.flatMap_cons,List.getElem?_append_right (by rw [hx];omega),hx,show(i+1)*11+j - 11=i*11+j by omega];exact this
theorem tFams:SliceTy Tryz.prog 35 77 11 184 zeroFA.val:=⟨by kernel_rfl,by kernel_rfl,rfl,by decide⟩
theorem fam_new (w:World) (y:FA) (ty:TypeId):Rd (w.alloc (.cells y.cells ty)) 11 (some ⟨w.heap.size,0,none⟩) 1 (famCells [y]):=by
 refine⟨rfl,fun _=>⟨_,0,rfl,fun j u hu=> ?_⟩⟩;rw [(Blk.new w ty y.cells).cell,Nat.zero_add,←Array.getElem?_toList];simpa [famCells]using hu
def famsM (b:GBk):List GFam:=(idsM b).map fun k=>(aget k b).getD zeroF
structure FamsAt (w0 w:World) (A:Option Addr) (c:Nat) (l:List FA):Prop where
 row:Own w 77 11 (.slice A l.length c) l.length (famCells l)
 each:∀x∈l,FamIn w (rowOf (.slice A l.length c)++List.range w0.heap.size) x
 fresh:∀g∈rowOf (.slice A l.length c),w0.heap.size≤g
theorem RdX.to {w w':World}{X Y:List Nat}{s:Nat}{A:Option Addr}{n:Nat}{xs:List Value}(h:RdX w X s A n xs) (hs:0<s) (hF:Fr X w w') (hY:∀g∈Y,g∈X∨w.heap.size≤g):RdX w' Y s A n xs:=
 ⟨h.1.fr hF h.2,fun hn ad e hg=>by
  rcases hY _ hg with h1 |h1
  ·exact h.2 hn ad e h1
  ·have:=h.1.lt hs hn ad e;omega⟩
theorem FamIn.to {w w':World}{X Y:List Nat}{x:FA}(h:FamIn w X x) (hF:Fr X w w') (hY:∀g∈Y,g∈X∨w.heap.size≤g):FamIn w' Y x:=
 ⟨h.ts,h.scope.to (by decide) hF hY,h.toks.to (by decide) hF hY,h.leases.to (by decide) hF hY,fun t ht=>(h.each t ht).to (by decide) hF hY⟩
theorem FamsAt.nil (w0 w:World):FamsAt w0 w none 0 []:=⟨Own.nil _ _ _,fun x hx=>(by cases hx),by simp [rowOf,Value.ownBlock]⟩
theorem FamsAt.base {w0 w1 w:World}{A:Option Addr}{c:Nat}{l:List FA}(h:FamsAt w1 w A c l) (hs:w0.heap.size≤w1.heap.size):FamsAt w0 w A c l:=⟨h.row,fun x hx=>(h.each x hx).mono (fun g hg=>by
  rcases List.mem_append.1 hg with hg |hg
  ·exact List.mem_append.2 (.inl hg)
  ·exact List.mem_append.2 (.inr (List.mem_range.2 (Nat.lt_of_lt_of_le (List.mem_range.1 hg) hs)))),fun g hg=>Nat.le_trans hs (h.fresh g hg)⟩
theorem FamsAt.push {w0 w w1 w2 w3:World}{A A3:Option Addr}{c c3 i:Nat}{l:List FA}{y:FA}(h:FamsAt w0 w A c l) (hi:l.length=i) (hw:FamW w1 w.heap.size y) (F1:Fr [] w w1) (F2:Fr [] w1 w2) (p1:Own w3 77 11 (.slice A3 (i+1) c3) (i+1) (famCells l++famCells [y]))
  (p2:Fr (rowOf (.slice A i c)) w2 w3) (p3:∀g∈rowOf (.slice A3 (i+1) c3),g∈rowOf (.slice A i c)∨g=w2.heap.size) (h0:w0.heap.size≤w.heap.size):FamsAt w0 w3 A3 c3 (l++ [y]):=by
 have hl:(l++ [y]).length=i+1:=by rw [List.length_append,hi];rfl
 have hlt:=h.row.lt;obtain⟨hr,he,hf⟩:=h;rw [hi]at hr he hf hlt;have F12:=F1.trans F2;have hsz:=F12.size;have hsub:∀z,z∈rowOf (.slice A i c)→z∈rowOf (.slice A i c)++List.range w0.heap.size:=fun z hz=>List.mem_append.2 (.inl hz);have hX:∀z,z∈rowOf (.slice A i c)++List.range w0.heap.size→z<w.heap.size:=fun z hz=>by
  rcases List.mem_append.1 hz with hz |hz
  ·exact hlt z hz
  ·exact Nat.lt_of_lt_of_le (List.mem_range.1 hz) h0
 have hY:∀(v:World),v.heap.size≤w2.heap.size→∀g∈rowOf (.slice A3 (i+1) c3)++List.range w0.heap.size,g∈rowOf (.slice A i c)++List.range w0.heap.size∨v.heap.size≤g:=fun v hv g hg=>by
  rcases List.mem_append.1 hg with hg |hg
  ·rcases p3 g hg with e |e
   ·exact .inl (hsub _ e)
   ·exact .inr (by omega)
  ·exact .inl (List.mem_append.2 (.inr hg))
 refine⟨by rw [hl,famCells_append];exact p1,?_,?_⟩
 ·rw [hl];intro x hx;rcases List.mem_append.1 hx with hx |hx
  ·exact(he x hx).to (F12.nil.trans (p2.mono hsub)) (hY w hsz)
  ·obtain rfl:x=y:=by simpa using hx
   have h1:=hw.fam (X:=rowOf (.slice A i c)++List.range w0.heap.size) hX;exact h1.to (F2.nil.trans (p2.mono hsub)) (hY w1 F2.size)
 ·rw [hl];intro g hg;rcases p3 g hg with e |e
  ·exact hf g e
  ·have:=F12.size;omega
theorem FamsAt.fr0 {w0 w w':World}{A:Option Addr}{c:Nat}{l:List FA}(h:FamsAt w0 w A c l) (hF:Fr [] w w'):FamsAt w0 w' A c l:=
 ⟨h.row.fr hF (by simp),fun x hx=>(h.each x hx).fr hF.nil,h.fresh⟩
theorem idsM_len (b:GBk):(idsM b).length≤b.length:=by
 have h:(idsM b).Nodup:=risN_nodup (sortN_rising _);have h2:=List.Nodup.length_le_of_subset h (fun k hk=>mem_sortN.1 hk:idsM b⊆b.map (·.1));simpa using h2
def FamsPost (w:World) (fs:List GFam) (e:Ending) (w':World):Prop:=∃(l:List FA) (A:Option Addr) (c:Nat),e= .returned (.slice A l.length c)∧l.map (·.f)=fs∧FamsAt w w' A c l∧Fr [] w w'
set_option maxRecDepth 100000 in
set_option maxHeartbeats 4000000 in
theorem fams_t (w:World) (p mb:Nat) (room:Int) (X:List Nat) (b:GBk) (h:BookAt w p mb room X b) (hmax:b.length≤1000000):Calls Tryz.prog 75 #[.pointer (some ⟨p,0,none⟩)] w (FamsPost w (famsM b)):=by
 have hids:=ids_t w p mb room X b h hmax;have hil:=idsM_len b;have hh:=zh h;have hpl:=h.hp.lt;clear h;go_enter Tryz.func75,Tryz.ntmps75;go_wp2_with fail
 refine hids.mono ?_;rintro e W1 ⟨v,rfl,hO,F1,hrow⟩;obtain⟨A,c,rfl,hA⟩:=hO.form;obtain⟨n,hn⟩:∃z,Hid ((idsM b).length=z):=⟨_,zh rfl⟩
 rw [hn.o]at hO hil⊢;have hRd:=zh hO.rd;have F1h:=zh F1;have hnm:=Nat.le_trans hil hmax;clear hids hO F1 hrow hA hil;go_wp2_with fail
 go_loopg [3,9] (n+1) (fun gk s3 s9 wr=>∃(i:Nat) (l:List FA) (B:Option Addr) (d:Nat),s9= .int .i64 i∧s3= .slice B l.length d∧i≤n∧l.length=i∧n - i<gk∧l.map (·.f)=((idsM b).take i).map (fun k=>(aget k b).getD zeroF)∧FamsAt W1 wr B d l∧Fr [] W1 wr)
 case atStart=>exact⟨0,[],none,0,rfl,rfl,by omega,rfl,by omega,rfl,FamsAt.nil _ _,Fr.refl _ _⟩
 case round=>
  obtain⟨i,l,B,d,rfl,rfl,hi,hli,hk,hmap,hFA,hF⟩:=hrel;have hFh:=zh hF;have hFAh:=zh hFA;have hmaph:=zh hmap;have hlih:=zh hli;rw [hli];clear hF hFA hmap hli;by_cases hlt:i<n
  ·have hlt':(i:Int)<n:=by omega
   have hlth:=zh hlt;have hiid:i<(idsM b).length:=by rw [hn.o];exact hlt
   obtain⟨b0,o0,rfl,hc⟩:=(Rd.fr hRd.o hFh.o (by simp [Off])).2 (by omega);have ck:=hc i _ (strCells_at hiid);have hB:=hh.o.fr0 (F1h.o.trans hFh.o);have htk:=zh (show((idsM b).take (i+1)).map (fun k=>(aget k b).getD zeroF)=((idsM b).take i).map (fun k=>(aget k b).getD zeroF)++ [(aget (idsM b)[i] b).getD zeroF] by rw [List.take_succ_eq_append_getElem hiid,List.map_append];rfl);obtain⟨id,hid⟩:∃z,Hid ((idsM b)[i]=z):=⟨_,zh rfl⟩
   rw [hid.o]at ck htk;obtain⟨l0,hl1,hl2,hl3⟩:=hB.hb;obtain⟨hx1,hx2,hx3,hx4⟩:=book_get (id:=id) hl2 hl3 hB.ok;have hlk:=hl1.run_lookup kStr (z:=zeroFA.val) uMsf (fun w=>by kernel_rfl) id;have hv:((aget id l0).map FA.val).getD zeroFA.val=((aget id l0).getD zeroFA).val:=by cases aget id l0<;>rfl
   rw [hv]at hlk;obtain⟨x,hxe⟩:∃z,Hid ((aget id l0).getD zeroFA=z):=⟨_,zh rfl⟩
   rw [hxe.o]at hlk hx1 hx2 hx4;have e0:=hB.hp.cell 0;simp only [zG,zH]at e0;have hpw:=hB.hp.lt;have hxW:=hx1.mono (Y:= []) (by simp);have hown:=own_t wr x hxW (fam_short hxW hx4);have hx2h:=zh hx2;have hrow:=hFAh.o.row;rw [hlih.o]at hrow;have hrowh:=zh hrow;clear hc hB hl1 hl2 hl3 hx1 hx2 hx3 hx4 hv hxW hrow;go_wp2_with fail
   refine Calls.mono (show Calls Tryz.prog 147 _ _ _ from hown) ?_;rintro e W2 ⟨y,rfl,hy,hw,F2⟩;have hyh:=zh hy;have hwh:=zh hw;have F2h:=zh F2;clear hown hlk hy hw F2 e0;unfold FA.val FA.cells;go_wp2_with (refine wpList_own_append tFams ((hrowh.o.fr F2h.o (by simp)).fr ((Fr.refl [] _).alloc _) (by simp)) (fam_new W2 y _) (famCells_one _) (by simp) (by unfold maxLen;omega) (by omega) rfl rfl rfl rfl (fun v2 w2 p1 p2 p3=> ?_);obtain⟨A3,c3,rfl,hA3⟩:=p1.form)
   go_roundg (n - i)
   case measure=>have:=hlth.o;omega
   case rel=>
    refine⟨i+1,l++ [y],A3,c3,by go_num,by rw [List.length_append,hlih.o];rfl,by have:=hlth.o;omega,by rw [List.length_append,hlih.o];rfl,by have:=hlth.o;omega,?_,hFAh.o.push hlih.o hwh.o F2h.o ((Fr.refl [] _).alloc _) p1 p2 p3 hFh.o.size,?_⟩
    ·rw [List.map_append,hmaph.o,htk.o,←hx2h.o,←hyh.o];rfl
    ·refine(hFh.o.trans (F2h.o.alloc _)).andThen p2 (fun g hg=> .inr ?_);have:=hFAh.o.fresh;rw [hlih.o]at this;exact this g hg
  ·have hin:i=n:=by omega
   have hge:¬(i:Int)<n:=by omega
   have hmap2:=zh (show l.map (·.f)=famsM b by rw [hmaph.o,hin,←hn.o,List.take_length];rfl);clear hlt hk;go_wp2;go_ret;exact⟨l,B,d,by rw [hlih.o,hin];rfl,hmap2.o,hFAh.o.base F1h.o.size,F1h.o.trans hFh.o⟩
end Go.Proofs.YtacljejoedbnkaaGreat
namespace Go.Proofs.YtacljejoedbnkaaGreat
open Go.RowKit Go.Sig
structure FamsIn (w:World) (X:List Nat) (A:Option Addr) (n:Nat) (l:List FA):Prop where
 hR:RdX w X 11 A n (famCells l)
 hn:l.length=n
 each:∀x∈l,FamIn w X x
 short:∀x∈l,Short x
theorem FamsIn.fr {w w':World}{X:List Nat}{A:Option Addr}{n:Nat}{l:List FA}(h:FamsIn w X A n l) (hF:Fr X w w'):FamsIn w' X A n l:=
 ⟨h.hR.fr hF,h.hn,fun x hx=>(h.each x hx).fr hF,h.short⟩
theorem FamsIn.mono {w:World}{X Y:List Nat}{A:Option Addr}{n:Nat}{l:List FA}(h:FamsIn w X A n l) (hS:∀g∈Y,g∈X):FamsIn w Y A n l:=
 ⟨h.hR.mono hS,h.hn,fun x hx=>(h.each x hx).mono hS,h.short⟩
theorem FamsIn.row {w:World}{A:Option Addr}{n i:Nat}{l:List FA}(h:FamsIn w [] A n l) (hi:i<n):
  ∃x b o,A=some ⟨b,o,none⟩∧l[i]? =some x∧w.rangeAt b (o+i*11) x.cells.toList∧FamIn w [] x∧Short x:=by
 have hi':i<l.length:=by rw [h.hn];exact hi
 obtain⟨b,o,e,hc⟩:=h.hR.1.2 (by omega);refine⟨l[i],b,o,e,List.getElem?_eq_getElem hi',fun j v hv=> ?_,h.each _ (List.getElem_mem hi'),h.short _ (List.getElem_mem hi')⟩;rw [Nat.add_assoc];exact hc _ _ (famCells_at hi' (by rw [←Array.getElem?_toList];exact hv))
theorem range_fr {w w':World}{g o:Nat}{cs:List Value}(hf:Fr [] w w') (h:w.rangeAt g o cs):w'.rangeAt g o cs:=fun j v hv=>cell_fr hf (h j v hv)
set_option maxRecDepth 100000 in
set_option maxHeartbeats 2000000 in
theorem rall_t (w:World) (A B:Option Addr) (n c d:Nat) (la lb:List FA) (hA:FamsIn w [] A n la) (hB:FamsIn w [] B n lb) (hab:la.map (·.f)=lb.map (·.f)) (hmax:n≤1048576):
  Calls Tryz.prog 30 #[.slice A n c,.slice B n d] w fun e w'=>e= .returned (.bool true)∧Fr [] w w':=by
 have hAh:=zh hA;have hBh:=zh hB;have habh:=zh hab;clear hA hB hab;go_enter Tryz.func30,Tryz.ntmps30;go_wp2_with fail
 go_loopg [5] (n+1) (fun gk s5 wr=>∃(i:Nat),s5= .int .i64 i∧i≤n∧n - i<gk∧Fr [] w wr)
 case atStart=>exact⟨0,rfl,by omega,by omega,Fr.refl _ _⟩
 case round=>
  obtain⟨i,rfl,hi,hk,hF⟩:=hrel;have hFh:=zh hF;by_cases hlt:i<n
  ·have hlt':(i:Int)<n:=by omega
   have hlth:=zh hlt;obtain⟨x,ba,oa,rfl,hxi,hxr,hxf,hxs⟩:=(hAh.o.fr hF).row hlt;obtain⟨y,bb,ob,rfl,hyi,hyr,hyf,hys⟩:=(hBh.o.fr hF).row hlt;have hxy:x.f=y.f:=by have h1:=congrArg (fun l=>l[i]?) habh.o;simpa [hxi,hyi]using h1
   have hsame:=fun(v:World) (hv:Fr [] wr v)=>rsame_t v x y (hxf.fr hv) (hyf.fr hv) hxy hxs;have hsh:=zh hsame;clear hxi hyi hxf hyf hys hxs hxy hF hsame;go_upto_region 6 with(fail)
   refine wp_region_z (fun w'=>w'.rangeAt ba (oa+i*11) x.cells.toList∧w'.rangeAt bb (ob+i*11) y.cells.toList) [] (by kernel_rfl) ⟨hxr,hyr⟩ ?_;intro hHeld;refine wpZ_tk (i:=0) (v:= ?_) hHeld ?_ ?_;rotate_left
   ·(intro w hSw;go_simp<;>with_reducible rfl)
   try simp only [zA,zC,Act.put,zD,zE,zF]
   refine wpZ_tk (i:=1) (v:= ?_) hHeld ?_ ?_;rotate_left
   ·(intro w hSw;go_simp<;>with_reducible rfl)
   try simp only [zA,zB,zC,Act.put,zD,zE,zF]
   refine wpZ_tk (i:=2) (v:= ?_) hHeld ?_ ?_;rotate_left
   ·(intro w hSw;go_simp<;>with_reducible rfl)
   try simp only [zA,zB,zC,Act.put,zD,zE,zF]
   refine wpZ_take (i:=3) rfl (by kernel_rfl) (by kernel_rfl) (by kernel_rfl) (by kernel_rfl) (fun _ _ _ h=>h) (yieldsIf_load_mid (by kernel_rfl) 77 _ rfl ba (oa+i*11) rfl (x.cells.toList) _ (fun w h=>h.1) uFam rfl (infoFamL _)) hHeld ?_;try simp only [zA,zB,zC,Act.put,zD,zE,zF]
   try rw [Array.toArray_toList]
   refine wpZ_tk (i:=4) (v:= ?_) hHeld ?_ ?_;rotate_left
   ·(intro w hSw;go_simp<;>with_reducible rfl)
   try simp only [zA,zB,zC,Act.put,zD,zE,zF]
   refine wpZ_tk (i:=5) (v:= ?_) hHeld ?_ ?_;rotate_left
   ·(intro w hSw;go_simp<;>with_reducible rfl)
   try simp only [zA,zB,zC,Act.put,zD,zE,zF]
   refine wpZ_tk (i:=6) (v:= ?_) hHeld ?_ ?_;rotate_left
   ·(intro w hSw;go_simp<;>with_reducible rfl)
   try simp only [zA,zB,zC,Act.put,zD,zE,zF]
   refine wpZ_take (i:=7) rfl (by kernel_rfl) (by kernel_rfl) (by kernel_rfl) (by kernel_rfl) (fun _ _ _ h=>h) (yieldsIf_load_mid (by kernel_rfl) 77 _ rfl bb (ob+i*11) rfl (y.cells.toList) _ (fun w h=>h.2) uFam rfl (infoFamL _)) hHeld ?_;try simp only [zA,zB,zC,Act.put,zD,zE,zF]
   try rw [Array.toArray_toList]
   refine wpZ_one (i:=8) (by kernel_rfl) rfl (fun K hK=> ?_);go_simp;refine(hsh.o wr.drew (Fr.refl _ _).drew).mono ?_;rintro e W2 ⟨rfl,f2⟩;have f2:Fr [] wr W2:=f2.of_drew;dsimp only;refine hK.out _ _ ⟨range_fr f2 hxr,range_fr f2 hyr⟩ (fun hHeld=> ?_);clear hK K;try simp only [zA,zB,zC,Act.put,zD,zE,zF]
   refine wpZ_tk (i:=9) (v:= ?_) hHeld ?_ ?_;rotate_left
   ·(intro w hSw;go_simp<;>with_reducible rfl)
   try simp only [zA,zB,zC,Act.put,zD,zE,zF]
   refine wpZ_done (by kernel_rfl) ?_ _;go_wp2;go_roundg (n - i)
   case measure=>have:=hlth.o;omega
   case rel=>exact⟨i+1,by go_num,by have:=hlth.o;omega,by have:=hlth.o;omega,hFh.o.trans f2⟩
  ·have hin:i=n:=by omega
   have hge:¬(i:Int)<n:=by omega
   clear hlt hk hF;go_wp2;go_ret;exact⟨rfl,hFh.o⟩
end Go.Proofs.YtacljejoedbnkaaGreat
namespace Go.Sig
open Go.RowKit
theorem do_local {room:Int}{c:GCmd}{b d:GBk}(hb:BkOk b) (hd:BkOk d) (h:aget c.family b=aget c.family d) (h1:(b.length:Int)<room) (h2:(d.length:Int)<room):
  (doM room c b).2=(doM room c d).2∧aget c.family (doM room c b).1=aget c.family (doM room c d).1:=by
 have hbi:=fun f hf=>(hb.2 c.family f hf).1;have hdi:=fun f hf=>(hd.2 c.family f hf).1;unfold doM;split
 ·exact⟨rfl,h⟩
 ·split
  ·unfold beginM;rw [h,if_neg (show¬room≤(b.length:Int) by omega),if_neg (show¬room≤(d.length:Int) by omega)];split
   ·exact⟨rfl,h⟩
   ·split
    ·exact⟨rfl,by rw [aget_aset_same,aget_aset_same]⟩
    ·exact⟨rfl,by rw [aget_aset_same,aget_aset_same]⟩
  ·cases hg:aget c.family d with
   |none=>
    rw [hg]at h;unfold redeemM refreshM revokeM lookM doneM;rw [hg,h];simp only;split
    ·exact⟨rfl,h.trans hg.symm⟩
    ·split
     ·exact⟨rfl,h.trans hg.symm⟩
     ·split
      ·exact⟨rfl,h.trans hg.symm⟩
      ·split
       ·exact⟨rfl,h.trans hg.symm⟩
       ·exact⟨rfl,h.trans hg.symm⟩
   |some f=>
    rw [hg]at h;have hi:=hdi f hg;have hx:∀g:GFam,g.id=f.id→aget c.family (aset g.id g b)=aget c.family (aset g.id g d):=fun g e=>by rw [e,hi,aget_aset_same,aget_aset_same]
    have hx2:∀g:GFam,aget c.family (aset f.id g b)=aget c.family (aset f.id g d):=fun g=>by rw [hi,aget_aset_same,aget_aset_same]
    have hx3:aget c.family (adel f.id b)=aget c.family (adel f.id d):=by rw [hi,aget_adel_same hb.1,aget_adel_same hd.1]
    have hs:aget c.family b=aget c.family d:=h.trans hg.symm;unfold redeemM refreshM revokeM lookM doneM;rw [hg,h];simp only;split
    ·split
     ·exact⟨rfl,hs⟩
     ·split
      ·exact⟨rfl,hx2 _⟩
      ·split
       ·exact⟨rfl,hs⟩
       ·exact⟨rfl,hx2 _⟩
    ·split
     ·cases tokM f 3 c.serial with
      |none=>exact⟨rfl,hs⟩
      |some t=>
       simp only;split
       ·exact⟨rfl,hs⟩
       ·split
        ·exact⟨rfl,hx2 _⟩
        ·split
         ·exact⟨rfl,hs⟩
         ·split
          ·exact⟨rfl,hs⟩
          ·exact⟨rfl,hx2 _⟩
     ·split
      ·split
       ·exact⟨rfl,hs⟩
       ·split
        ·exact⟨rfl,hx2 _⟩
        ·exact⟨rfl,hs⟩
      ·split
       ·cases tokM f c.token c.serial with
        |none=>exact⟨rfl,hs⟩
        |some t=>
         simp only;split
         ·exact⟨rfl,hs⟩
         ·exact⟨rfl,hx2 _⟩
       ·split
        ·exact⟨rfl,hx3⟩
        ·exact⟨rfl,hs⟩
theorem do_set {room:Int}{c:GCmd}{b:GBk}(hb:BkOk b):setM (doM room c b).2.scope=true:=by
 have h0:setM []=true:=by decide+kernel
 unfold doM;split
 ·exact h0
 ·rename_i hm;have hmo:=mayM_ok (by simpa using hm);split
  ·unfold beginM;split
   ·exact h0
   ·split
    ·exact h0
    ·split
     ·exact hmo.set
     ·exact hmo.set
  ·unfold redeemM refreshM revokeM lookM doneM;cases hg:aget c.family b with
   |none=>
    simp only
    (repeat' split)<;>exact h0
   |some f=>
    have hf:=(hb.2 _ _ hg).2;simp only;split
    ·split
     ·exact h0
     ·split
      ·exact h0
      ·split
       ·exact h0
       ·unfold issueM;split<;>exact hf.set
    ·split
     ·cases tokM f 3 c.serial with
      |none=>exact h0
      |some t=>
       simp only;split
       ·exact h0
       ·split
        ·exact h0
        ·split
         ·exact h0
         ·split
          ·exact h0
          ·unfold issueM;simp only [if_true];split
           ·exact hf.set
           ·exact hmo.set
     ·split
      ·split
       ·exact h0
       ·split<;>exact h0
      ·split
       ·cases ht:tokM f c.token c.serial with
        |none=>exact h0
        |some t=>
         simp only;split
         ·exact h0
         ·exact(hf.each t (List.mem_of_getElem? (tokM_some ht).2.2.1)).set
       ·split<;>exact h0
def woutM (s:ByteArray) (l:List GFam):List GFam:=l.filter fun f=> !decide (f.id=s)
end Go.Sig
namespace Go.Proofs.YtacljejoedbnkaaGreat
open Go.RowKit Go.Sig
theorem idsM_length (b:GBk) (hb:BkOk b):(idsM b).length=b.length:=by
 have:=(sortN_perm hb.1).length_eq;rw [List.length_map]at this;exact this.symm
theorem famsM_length (b:GBk) (hb:BkOk b):(famsM b).length=b.length:=by
 unfold famsM;rw [List.length_map];exact idsM_length b hb
theorem famsM_short (b:GBk) (hb:BkOk b) {w:World}{x:FA}(hx:FamIn w [] x) (hm:x.f∈famsM b):Short x:=by
 refine fam_short hx ?_;unfold famsM at hm;obtain⟨k,_,e⟩:=List.mem_map.1 hm;cases h:aget k b with
 |none=>right;rw [←e,h];rfl
 |some f=>left;rw [←e,h];exact(hb.2 _ _ h).2
theorem FamsAt.read {w0 w:World}{A:Option Addr}{c:Nat}{l:List FA}{b:GBk}{X:List Nat}(h:FamsAt w0 w A c l) (hb:BkOk b) (hl:l.map (·.f)=famsM b) (hX:∀g∈X,g<w0.heap.size):FamsIn w X A l.length l:=
 ⟨⟨h.row.rd,fun _ ad e hg=>by
  have h1:=h.fresh ad.block (rowOf_mem.2 ⟨ad,e,rfl⟩);have h2:=hX _ hg;omega⟩,rfl,fun x hx=>(h.each x hx).mono (fun g hg=>List.mem_append.2 (.inr (List.mem_range.2 (hX g hg)))),fun x hx=>famsM_short b hb ((h.each x hx).mono (by simp)) (by rw [←hl];exact List.mem_map_of_mem hx)⟩
theorem CmdsIn.cell {w:World}{b o n i:Nat}{l:List CA}{x:CA}(h:CmdsIn w (some ⟨b,o,none⟩) n l) (hi:i<n) (hx:l[i]? =some x) {j:Nat}{v:Value}(hv:x.cells[j]? =some v):w.cell? ⟨b,o+i*13+j,none⟩=some v:=by
 obtain⟨y,b2,o2,e,hy,hc,_⟩:=h.row hi;rw [hx]at hy;obtain rfl:=Option.some.inj hy;injection e with e
 injection e with e1 e2 e3
 subst e1 e2;exact hc _ _ hv
theorem mem_idsM {b:GBk}{k:ByteArray}:k∈idsM b↔(aget k b).isSome=true:=by
 unfold idsM;rw [mem_sortN,←Bool.not_eq_false,Option.isSome_eq_false_iff,Option.isNone_iff_eq_none,aget_none_iff,Classical.not_not]
theorem woutM_fams {b:GBk}(hb:BkOk b) (s:ByteArray):woutM s (famsM b)=((idsM b).filter fun k=> !decide (k=s)).map fun k=>(aget k b).getD zeroF:=by
 unfold woutM famsM;rw [List.filter_map];congr 1;refine List.filter_congr fun k hk=> ?_;have h:=mem_idsM.1 hk;simp only [Function.comp];obtain⟨f,hf⟩:=Option.isSome_iff_exists.1 h;simp only [hf,Option.getD_some,(hb.2 k f hf).1]
theorem wout_same {b d:GBk}(hb:BkOk b) (hd:BkOk d) {s:ByteArray}(h:∀k,k≠s→aget k b=aget k d):woutM s (famsM b)=woutM s (famsM d):=by
 have e:(idsM b).filter (fun k=> !decide (k=s))=(idsM d).filter fun k=> !decide (k=s):=by
  have r1:RisN ((idsM b).filter fun k=> !decide (k=s)):=(sortN_rising _).filter _;have r2:RisN ((idsM d).filter fun k=> !decide (k=s)):=(sortN_rising _).filter _;refine risN_ext r1 r2 ((List.perm_ext_iff_of_nodup (risN_nodup r1) (risN_nodup r2)).2 fun k=> ?_);simp only [List.mem_filter,mem_idsM,Bool.not_eq_true',decide_eq_false_iff_not];constructor
  ·rintro⟨h1,h2⟩;exact⟨by rw [←h k h2];exact h1,h2⟩
  ·rintro⟨h1,h2⟩;exact⟨by rw [h k h2];exact h1,h2⟩
 rw [woutM_fams hb,woutM_fams hd,e];refine List.map_congr_left fun k hk=> ?_;have:=(List.mem_filter.1 hk).2;rw [h k (by simpa using this)]
structure OthI (b d:GBk) (id:ByteArray) (i:Nat):Prop where
 same:aget id b=aget id d
 lb:b.length≤i
 ld:d.length≤i
theorem OthI.new (id:ByteArray):OthI [] [] id 0:=⟨rfl,Nat.le_refl _,Nat.le_refl _⟩
theorem do_more {room:Int}{c:GCmd}{b:GBk}{i:Nat}(hb:BkOk b) (h:b.length≤i):(doM room c b).1.length≤i+1:=by
 rcases do_len (room:=room) (c:=c) hb with h1 | ⟨_,h1,_⟩<;>omega
theorem OthI.other {b d:GBk}{id:ByteArray}{i:Nat}{c:GCmd}{room:Int}(h:OthI b d id i) (hb:BkOk b) (hc:c.family≠id):OthI (doM room c b).1 d id (i+1):=
 ⟨(do_other hb (.inl hc)).trans h.same,do_more hb h.lb,by have:=h.ld;omega⟩
theorem FamsIn.to {w w':World}{X Y:List Nat}{A:Option Addr}{n:Nat}{l:List FA}(h:FamsIn w X A n l) (hF:Fr X w w') (hY:∀g∈Y,g∈X∨w.heap.size≤g):FamsIn w' Y A n l:=
 ⟨h.hR.to (by decide) hF hY,h.hn,fun x hx=>(h.each x hx).to hF hY,h.short⟩
theorem OthI.own {b d:GBk}{i:Nat}{id:ByteArray}{c:GCmd}{room:Int}(h:OthI b d id i) (hc:c.family=id) (hb:BkOk b) (hd:BkOk d) (hi:(i:Int)<room):OthI (doM room c b).1 (doM room c d).1 id (i+1):=by
 subst hc;exact⟨(do_local hb hd h.same (by have:=h.lb;omega) (by have:=h.ld;omega)).2,do_more hb h.lb,do_more hd h.ld⟩
end Go.Proofs.YtacljejoedbnkaaGreat
namespace Go.Proofs.YtacljejoedbnkaaGreat
open Go.RowKit Go.Sig
theorem uRb:Tryz.prog.underlying 37=some (.struct (Tryz.prog.fieldsOf 37)):=by kernel_rfl
theorem infoRb {a0 a1:Value}:(Tryz.prog.info? 37).map (·.size)=some (#[a0,a1]:Array Value).size:=by kernel_rfl
theorem FamsIn.row' {w:World}{X:List Nat}{A:Option Addr}{n i:Nat}{l:List FA}(h:FamsIn w X A n l) (hi:i<n):
  ∃x b o,A=some ⟨b,o,none⟩∧l[i]? =some x∧w.rangeAt b (o+i*11) x.cells.toList:=by
 have hi':i<l.length:=by rw [h.hn];exact hi
 obtain⟨b,o,e,hc⟩:=h.hR.1.2 (by omega);refine⟨l[i],b,o,e,List.getElem?_eq_getElem hi',fun j v hv=> ?_⟩;rw [Nat.add_assoc];exact hc _ _ (famCells_at hi' (by rw [←Array.getElem?_toList];exact hv))
theorem FamsIn.of {w w':World}{X:List Nat}{A A':Option Addr}{n c':Nat}{l l':List FA}(h:FamsIn w X A n l) (hX:∀g∈X,g<w.heap.size) (hF:Fr [] w w') (hs:∀x∈l',x∈l)
  (hO:Own w' 77 11 (.slice A' l'.length c') l'.length (famCells l')) (hf:∀g∈rowOf (.slice A' l'.length c'),w.heap.size≤g):FamsIn w' X A' l'.length l':=
 ⟨⟨hO.rd,fun _ ad e hg=>by
  have h1:=hf ad.block (rowOf_mem.2 ⟨ad,e,rfl⟩);have h2:=hX _ hg;omega⟩,rfl,fun x hx=>(h.each x (hs x hx)).fr hF.nil,fun x hx=>h.short x (hs x hx)⟩
theorem fam_short3 {b:GBk}{id:ByteArray}{y:FA}{w:World}(hy:y.f=(aget id b).getD zeroF) (ok:BkOk b) (hw:FamIn w [] y):Short y:=by
 refine fam_short hw ?_;rw [hy];cases h:aget id b with
 |none=>exact .inr rfl
 |some f=>exact .inl (ok.2 _ _ h).2
def WoutPost (w:World) (X:List Nat) (room:Int) (fs:List GFam) (e:Ending) (w':World):Prop:=
 ∃(A':Option Addr) (c':Nat) (l':List FA),e= .returned (.agg #[.slice A' l'.length c',.int .i64 room])∧FamsIn w' X A' l'.length l'∧l'.map (·.f)=fs∧Fr [] w w'
set_option maxRecDepth 100000 in
set_option maxHeartbeats 4000000 in
theorem rwout_t (w:World) (X:List Nat) (A:Option Addr) (n c:Nat) (room:Int) (l:List FA) (s:ByteArray) (h:FamsIn w X A n l) (hX:∀g∈X,g<w.heap.size) (hmax:n≤1000000):
  Calls Tryz.prog 177 #[.agg #[.slice A n c,.int .i64 room],.string s] w (WoutPost w X room (woutM s (l.map (·.f)))):=by
 have hh:=zh h;have hXh:=zh hX;clear h hX;go_enter Tryz.func177,Tryz.ntmps177;go_upto_region 1 with(fail)
 refine wp_gen (fun W=>Blk W w.heap.size 37 #[.slice A n c,.int .i64 room]∧Blk W (w.heap.size+1) 37 #[.slice none 0 0,.int .i64 0]∧Fr [] w W) ⟨(Blk.new _ _ _).alloc _,Blk.new' _ _ (by simp),((Fr.refl _ _).alloc _).alloc _⟩ ?_;rintro W ⟨hP,hR,fW⟩;obtain⟨gp,HGP⟩:∃z,Hid (w.heap.size=z):=⟨_,zh rfl⟩
 rw [HGP.o]at hP hR⊢;obtain⟨gr,HGR⟩:∃z,Hid (gp+1=z):=⟨_,zh rfl⟩
 rw [HGR.o]at hR⊢;have hPh:=zh hP;have hRh:=zh hR;have fWh:=zh fW;clear hP hR fW;have e0:=hPh.o.cell 0;simp only [zG,zH]at e0;go_wp2_with fail
 go_loopg [5,6] (n+1) (fun gk s5 s6 wr=>∃(i:Nat) (l':List FA) (B:Option Addr) (d:Nat),s6= .int .i64 i∧s5= .slice B l'.length d∧i≤n∧n - i<gk∧l'.length≤i∧l'.map (·.f)=woutM s ((l.take i).map (·.f))∧(∀x∈l',x∈l)∧Own wr 77 11 (.slice B l'.length d) l'.length (famCells l')∧(∀g∈rowOf (.slice B l'.length d),W.heap.size≤g)∧Fr [] W wr)
 case atStart=>exact⟨0,[],none,0,rfl,rfl,by omega,by omega,by simp,rfl,by simp,Own.nil _ _ _,by simp [rowOf,Value.ownBlock],Fr.refl _ _⟩
 case round=>
  obtain⟨i,l',B,d,rfl,rfl,hi,hk,hln,hmap,hsub,hO,hfr,hF⟩:=hrel;have hFh:=zh hF;have hOh:=zh hO;have hfrh:=zh hfr;have hmaph:=zh hmap;have hsubh:=zh hsub;have hPw:=hPh.o.fr hF (by simp);have e0:=hPw.cell 0;simp only [zG,zH]at e0;have hpl:=hPw.lt;obtain⟨k,hkl⟩:∃z,Hid (l'.length=z):=⟨_,zh rfl⟩
  have hkl2:=hkl.o;rw [hkl2]at hln⊢;clear hF hO hfr hmap hsub hPw;by_cases hlt:i<n
  ·have hlt':(i:Int)<n:=by omega
   have hlth:=zh hlt;obtain⟨x,ba,oa,rfl,hxi,hxr⟩:=(hh.o.fr ((fWh.o.trans hFh.o).nil)).row' hlt;have htk:=zh (show(l.take (i+1)).map (·.f)=(l.take i).map (·.f)++ [x.f] by
    have hil:i<l.length:=by rw [hh.o.hn];exact hlt
    rw [List.getElem?_eq_getElem hil]at hxi;obtain rfl:=Option.some.inj hxi;rw [List.take_succ_eq_append_getElem hil,List.map_append];rfl)
   have hxm:=zh (List.mem_of_getElem? hxi);have x0:=hxr 0 (.string x.f.id) rfl;rw [Nat.add_zero]at x0;have hxrh:=zh hxr;clear hxi hxr hkl2;by_cases hne:x.f.id=s
   ·have hneb:(x.f.id.toList==s.toList)=true:=by rw [hne];simp
    have hw:=zh (show woutM s ((l.take (i+1)).map (·.f))=woutM s ((l.take i).map (·.f)) by rw [htk.o];unfold woutM;simp [hne]);clear hne;go_wp2_with fail
    go_roundg (n - i)
    case measure=>have:=hlth.o;omega
    case rel=>exact⟨i+1,l',B,d,by go_num,by rw [hkl.o],by have:=hlth.o;omega,by have:=hlth.o;omega,by rw [hkl.o];omega,by rw [hw.o];exact hmaph.o,hsubh.o,hOh.o,hfrh.o,hFh.o⟩
   ·have hneb:(x.f.id.toList==s.toList)=false:=by rw [toList_beq];simpa using hne
    have hxc:∀j v,x.cells[j]? =some v→wr.cell? ⟨ba,oa+i*11+j,none⟩=some v:=fun j v hv=>hxrh.o j v (by rw [Array.getElem?_toList];exact hv);have hw:=zh (show woutM s ((l.take (i+1)).map (·.f))=woutM s ((l.take i).map (·.f))++ [x.f] by rw [htk.o];unfold woutM;simp [hne]);have hrow:=hOh.o;rw [hkl.o]at hrow;have hrowh:=zh hrow;clear hne hrow;go_wp2_with (first
     | (refine wpList_load_cells rfl 77 _ rfl rfl hxc uFam rfl (infoFamA _) ?_;unfold FA.cells)
     | (refine wpList_own_append tFams (hrowh.o.fr ((Fr.refl [] _).alloc _) (by simp)) (fam_new wr x _) (famCells_one _) (by simp) (by unfold maxLen;omega) (by omega) rfl rfl rfl rfl (fun v2 w2 p1 p2 p3=> ?_);obtain⟨A3,c3,rfl,hA3⟩:=p1.form))
    go_roundg (n - i)
    case measure=>have:=hlth.o;omega
    case rel=>
     have hfl:∀g∈rowOf (.slice B k d),W.heap.size≤g:=by rw [←hkl.o];exact hfrh.o
     have hll:(l'++ [x]).length=k+1:=by rw [List.length_append,hkl.o];rfl
     refine⟨i+1,l'++ [x],A3,c3,by go_num,by rw [hll],by have:=hlth.o;omega,by have:=hlth.o;omega,by rw [hll];omega,?_,?_,?_,?_,?_⟩
     ·rw [List.map_append,hmaph.o,hw.o];rfl
     ·intro y hy;rcases List.mem_append.1 hy with hy |hy
      ·exact hsubh.o y hy
      ·obtain rfl:y=x:=by simpa using hy
       exact hxm.o
     ·rw [hll,famCells_append];exact p1
     ·rw [hll];intro g hg;rcases p3 g hg with e |e
      ·exact hfl g e
      ·rw [e];have:=hFh.o.size;simp;omega
     ·exact(hFh.o.alloc _).andThen p2 (fun g hg=> .inr (hfl g hg))
  ·have hin:i=n:=by omega
   have hge:¬(i:Int)<n:=by omega
   have hRw:=hRh.o.fr hFh.o (by simp);have e1:=(hPh.o.fr hFh.o (by simp)).cell 1;simp only [zG,zH,zI]at e1;have hrl:=hRw.lt;have hmap2:=zh (show l'.map (·.f)=woutM s (l.map (·.f)) by rw [hmaph.o,hin,←hh.o.hn,List.take_length]);clear hlt hk hkl2;go_wp2_with (refine wpList_store_row rfl 37 _ _ rfl gr _ rfl rfl 37 _ hRw infoRb (by rfl) (by kernel_rfl) ?_)
   refine bodyPost_ret (results_cell_row rfl _ _ gr 37 _ (0,0) _ rfl (Blk.setRow hRw _) uRb rfl infoRb) rfl ?_;have F1:Fr [] w wr:=fWh.o.trans hFh.o;have F1b:Fr [gr] wr (wr.setRow gr #[.slice B k d,.int .i64 room]):=(Fr.refl [gr] wr).setRow (.inl (by simp)) _;have F2:=F1.andThen F1b (fun g hg=> .inr (by simp at hg;have:=HGP.o;have:=HGR.o;omega));refine⟨B,d,l',by rw [hkl.o],?_,hmap2.o,F2⟩;refine hh.o.of hXh.o F2 hsubh.o ?_ (fun g hg=>Nat.le_trans fWh.o.size (hfrh.o g hg));refine hOh.o.fr F1b (fun g hg hgr=> ?_);have h1:=hfrh.o g hg;have h2:=hRh.o.lt;simp at hgr;omega
end Go.Proofs.YtacljejoedbnkaaGreat
