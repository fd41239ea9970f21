/- Walks of the reference's hash: the sum. Conditions: each theorem's own. -/
import Derived.Test.YtacljejoedbnkaaGreatRe
import Derived.Deep.RegionWith
namespace Go.Proofs.YtacljejoedbnkaaGreat
open Go.RowKit Go.Sig
theorem _root_.Go.Sig.Byts.sub {w:World}{b o n:Nat}{l:List UInt8}(h:Byts w (some ⟨b,o,none⟩) n l) {i m:Nat}(hi:i+m≤n):Byts w (some ⟨b,o+i,none⟩) m ((l.drop i).take m):=by
 have hl:=h.length;refine⟨by simp;omega,fun hm=>⟨b,o+i,rfl,fun j u hu=> ?_⟩⟩;obtain⟨b',o',e,hc⟩:=h.2 (by omega);cases e
 have hj:j<m:=by have:=(List.getElem?_eq_some_iff.1 hu).1;simp at this;omega
 rw [Nat.add_assoc];refine hc (i+j) u ?_;rw [List.map_take,List.map_drop,List.getElem?_take_of_lt hj,List.getElem?_drop]at hu;exact hu
theorem uRDig:Tryz.prog.underlying 248=some (.array 32 5):=by kernel_rfl
theorem infoRDig:(Tryz.prog.info? 248).map (·.size)=some 32:=by kernel_rfl
theorem infoRDigL {l:List UInt8}(h:l.length=32):(Tryz.prog.info? 248).map (·.size)=some (l.map bv).length:=by rw [List.length_map,h];exact infoRDig
theorem infoRDigA {l:List UInt8}(h:l.length=32):(Tryz.prog.info? 248).map (·.size)=some (l.map bv).toArray.size:=by rw [List.size_toArray,List.length_map,h];exact infoRDig
theorem flat_byte (R:W8) {a r:Nat}(ha:a<8) (hr:r<4):(R.list.flatMap bytes4).getD (4*a+r) 0=UInt8.ofNat ((R.list.getD a 0).toNat / 2^(24 - 8*r)):=by
 obtain⟨h0,h1,h2,h3⟩:=flat_at R ha;have:r=0∨r=1∨r=2∨r=3:=by omega
 rcases this with e |e |e |e<;>subst e
 ·exact h0
 ·exact h1
 ·exact h2
 ·rw [h3];congr 1;simp
theorem s8 {w:World}{g:Nat}{t:TypeId}{H:W8}(h:Blk w g t H.arr):w.cell? ⟨g,0,none⟩=some (.int .u32 H.a.toNat)∧w.cell? ⟨g,1,none⟩=some (.int .u32 H.b.toNat)∧w.cell? ⟨g,2,none⟩=some (.int .u32 H.c.toNat)∧w.cell? ⟨g,3,none⟩=some (.int .u32 H.d.toNat)∧w.cell? ⟨g,4,none⟩=some (.int .u32 H.e.toNat)∧w.cell? ⟨g,5,none⟩=some (.int .u32 H.f.toNat)∧w.cell? ⟨g,6,none⟩=some (.int .u32 H.g.toNat)∧w.cell? ⟨g,7,none⟩=some (.int .u32 H.h.toNat):=
 have h8:=h.c8
 ⟨h8.1,h8.2.1,h8.2.2.1,h8.2.2.2.1,h8.2.2.2.2.1,h8.2.2.2.2.2.1,h8.2.2.2.2.2.2.1,h8.2.2.2.2.2.2.2.1⟩
theorem frin {w W:World}{g:Nat}(h:Fr [g] w W) (v0 v1 v2 v3 v4 v5 v6 v7:Value):
  Fr [g] w ((((((((W.setCell ⟨g,0,none⟩ v0).setCell ⟨g,1,none⟩ v1).setCell ⟨g,2,none⟩ v2).setCell ⟨g,3,none⟩ v3).setCell ⟨g,4,none⟩ v4).setCell ⟨g,5,none⟩ v5).setCell ⟨g,6,none⟩ v6).setCell ⟨g,7,none⟩ v7):=
 (((((((h.setCell (p:=⟨g,0,none⟩) (by simp) _).setCell (p:=⟨g,1,none⟩) (by simp) _).setCell (p:=⟨g,2,none⟩) (by simp) _).setCell (p:=⟨g,3,none⟩) (by simp) _).setCell (p:=⟨g,4,none⟩) (by simp) _).setCell (p:=⟨g,5,none⟩) (by simp) _).setCell (p:=⟨g,6,none⟩) (by simp) _).setCell (p:=⟨g,7,none⟩) (by simp) _
set_option maxRecDepth 100000 in
set_option maxHeartbeats 4000000 in
theorem rsum_t (w:World) (A:Option Addr) (n c:Nat) (l:List UInt8) (hb:Byts w A n l) (hA:A=none→n=0) (hmax:n≤1000000000000):
  Calls Tryz.prog 178 #[.slice A n c] w fun e w'=>e= .returned (.agg (digCells (sha l)))∧Fr [] w w':=by
 have hl:=hb.length;go_enter Tryz.func178,Tryz.ntmps178;go_upto_region 2 with(first | (refine wpList_build_k rfl 309 _ rfl (cells:=shaInit.arr) ?_ ?_;(focus kernel_rfl)))
 refine wp_gen (fun W=>(∃zs,Blk W w.heap.size 248 zs∧zs.size=32)∧Blk W (w.heap.size+1) 309 shaInit.arr∧Fr [] w W) ⟨⟨_,(Blk.new _ _ _).alloc _,by kernel_rfl⟩,Blk.new' _ _ (by simp),((Fr.refl _ _).alloc _).alloc _⟩ ?_;rintro W ⟨⟨zr,BR,hzr⟩,BH,fW⟩;have hbW:Byts W A n l:=Rd.fr hb fW (by simp [Off]);obtain⟨gr,HGR⟩:∃x,Hid (w.heap.size=x):=⟨_,zh rfl⟩
 rw [HGR.o]at BH BR⊢;obtain⟨gh,HGH⟩:∃x,Hid (gr+1=x):=⟨_,zh rfl⟩
 rw [HGH.o]at BH⊢;have hhr:gr≠gh:=by have:=HGH.o;omega
 have hrsz:w.heap.size≤gr:=by have:=HGR.o;omega
 have hhsz:w.heap.size≤gh:=by have:=HGH.o;have:=HGR.o;omega
 go_wp2_with fail
 refine(rpadded_t W A n c l hbW hA hmax).mono ?_;rintro _ W1 ⟨gp,cp,rfl,hP,f1,hgp,hcap⟩;have hgp':=BH.lt;have BR1:=BR.fr f1 (by simp);have BH1:=BH.fr f1 (by simp);have fw1:=fW.trans f1;have hph:gp≠gh:=by omega
 have hpl:=padded_length l;obtain⟨P,HP⟩:∃x,Hid (padded l=x):=⟨_,zh rfl⟩
 have hsha:sha l=(pressN ((padded l).length / 64) shaInit (padded l)).list.flatMap bytes4:=rfl;have hshah:=zh hsha;rw [HP.o]at hP hpl hshah hcap;rw [HP.o];obtain⟨m,hm⟩:∃m,Hid (m=(l.length+72) / 64):=⟨_,zh rfl⟩
 rw [←hm.o]at hpl;have hmax2:64*m≤1000000000100:=by have:=hm.o;omega
 rw [hpl,show 64*m / 64=m by omega]at hshah;rw [hpl]at hP hcap⊢;obtain⟨N,hN⟩:∃x,Hid (64*m=x):=⟨_,zh rfl⟩
 rw [hN.o]at hP hcap⊢;clear hsha hpl BR BH f1 fW hbW hb hgp hgp' hm HP;go_upto_block 0 with(fail)
 go_cut [5]from 11 to 23 (fun s5 wx=>Blk wx gh 309 (pressN m shaInit P).arr∧Fr [gh] W1 wx)
 case first=>
  go_wp2_with fail
  go_loopg [5] (m+1) (fun gk s5 wr=>∃(k:Nat),s5= .int .i64 ((64*k:Nat):Int)∧k≤m∧m - k<gk∧Blk wr gh 309 (pressN k shaInit P).arr∧Fr [gh] W1 wr)
  case atStart=>exact⟨0,rfl,by omega,by omega,BH1,Fr.refl _ _⟩
  case round=>
   clear BH1;obtain⟨k,rfl,hkm,hk,hBh,hF⟩:=hrel;have hPr:Byts wr (some ⟨gp,0,none⟩) N P:=Rd.fr hP hF (fun _ ad h=>by cases h;simpa using hph);by_cases hlt:k<m
   ·have hlt':((64*k:Nat):Int)<(N:Int):=by have:=hN.o;omega
    have hsub:=hPr.sub (i:=64*k) (m:=64) (by have:=hN.o;omega);have hst:=zh (press_snoc k shaInit P);obtain⟨H,HH⟩:∃x,Hid (pressN k shaInit P=x):=⟨_,zh rfl⟩
    rw [HH.o]at hBh hst;obtain⟨B,HB⟩:∃x,Hid ((P.drop (64*k)).take 64=x):=⟨_,zh rfl⟩
    rw [HB.o,Nat.zero_add]at hsub;rw [HB.o]at hst;have h8:=hBh.c8;obtain⟨i,hi⟩:∃x,Hid (64*k=x):=⟨_,zh rfl⟩
    rw [hi.o]at hlt' hsub⊢;have hb64:(i:Int)+64≤(N:Int):=by have:=hi.o;have:=hN.o;omega
    have hNb:(N:Int)≤1000000000100:=by have:=hN.o;omega
    go_upto_region 6 with(fail)
    have hcap':(i:Int)+64≤(cp:Int):=by have:=hN.o;omega
    have hne:¬cp=i:=by omega
    have w1:IntKind.i64.wrap ((i:Int)+64)=(i:Int)+64:=by rw [IntKind.wrap_i64];omega
    have p1:(0:Int)≤(i:Int)+64:=by omega
    have p2:((i:Int)+64).toNat=i+64:=by omega
    have p3:i≤i+64:=by omega
    have p4:i+64 - i=64:=by omega
    have k0:=s8 hBh
    go_region_with (first
      | (go_at_call 241;refine(rtake_t _ _ _ H B (Rd.fr hsub ((Fr.refl [] wr).drew) (by simp [Off]))).mono ?_;rintro _ w1 ⟨rfl,F1⟩;have B1:=hBh.fr F1.of_drew (by simp);have d8:=B1.c8;have d9:=B1.lt;have k1:=s8 B1;dsimp only))
    all_goals
     have e64:((64*(k+1):Nat):Int)=(i:Int)+64:=by have:=hi.o;omega
     go_wp2_with fail
     go_roundg (m - k)
     case measure=>omega
     case rel=>refine⟨k+1,by rw [e64],by omega,by omega,?_,frin (hF.trans F1.of_drew.nil) _ _ _ _ _ _ _ _⟩;rw [hst.o];exact B1.set8 _ _ _ _ _ _ _ _
   ·have hkm':k=m:=by omega
    subst hkm';have hge:¬((64*k:Nat):Int)<(N:Int):=by have:=hN.o;omega
    go_wp2;go_meet;exact⟨hBh,hF⟩
 case rest=>
  obtain⟨hBh,hF⟩:=hcut;have BRc:Blk wc gr 248 zr:=BR1.fr hF (by simpa using hhr);have fc:Fr [] w wc:=fw1.andThen hF (fun x hx=> .inr (by simp at hx;omega));clear BR1 BH1 fw1 hF hP;obtain⟨R,HR⟩:∃x,Hid (pressN m shaInit P=x):=⟨_,zh rfl⟩
  rw [HR.o]at hBh hshah;go_upto_region 8 with(fail)
  refine wp_gen (fun W=>(∃zs,Blk W wc.heap.size 248 zs∧zs.size=32)∧Blk W gr 248 zr∧Blk W gh 309 R.arr∧Fr [] w W) ⟨⟨_,Blk.new _ _ _,by kernel_rfl⟩,BRc.alloc _,hBh.alloc _,fc.alloc _⟩ ?_;rintro W3 ⟨⟨zd,BD,hzd⟩,BR3,BH3,fw3⟩;have hrl:=BRc.lt;have hhl:=hBh.lt;have hdsz:w.heap.size≤wc.heap.size:=fc.size;obtain⟨gd,HGD⟩:∃x,Hid (wc.heap.size=x):=⟨_,zh rfl⟩
  rw [HGD.o]at BD hrl hhl hdsz⊢;clear BRc hBh fc;go_upto_block 2 with(fail)
  go_cut [7]from 24 to 40 (fun s7 wx=>Blk wx gd 248 (digCells (sha l))∧Fr [gd] W3 wx)
  case first=>
   go_wp2_with fail
   go_loopg [7] 33 (fun gk s7 wr=>∃(i:Nat) (ds:Array Value),s7= .int .i64 i∧i≤32∧32 - i<gk∧Blk wr gd 248 ds∧ds.size=32∧(∀j,j<i→ds[j]? =some (bv ((R.list.flatMap bytes4).getD j 0)))∧Fr [gd] W3 wr)
   case atStart=>exact⟨0,_,rfl,by omega,by omega,BD,hzd,fun j hj=>by omega,Fr.refl _ _⟩
   case round=>
    clear BD;obtain⟨i,ds,rfl,hi,hk,hBd,hds,hpre,hF⟩:=hrel;by_cases hlt:i<32
    ·have hlt':(i:Int)<32:=by omega
     obtain⟨a,ha⟩:∃a,Hid (i / 4=a):=⟨_,zh rfl⟩
     obtain⟨r,hr⟩:∃r,Hid (i%4=r):=⟨_,zh rfl⟩
     have hr4:r<4:=by have:=hr.o;omega
     have ha8:a<8:=by have:=ha.o;omega
     have hir:=zh (show i=4*a+r by have:=ha.o;have:=hr.o;omega);have q1:(i:Int) / 4=(a:Int):=by have:=ha.o;omega
     have q2:(i:Int).tdiv 4=(a:Int):=by rw [Int.tdiv_eq_ediv_of_nonneg (by omega),q1]
     have q3:(i:Int)%4=(r:Int):=by have:=hr.o;omega
     have q4:(i:Int).tmod 4=(r:Int):=by rw [Int.tmod_eq_emod_of_nonneg (by omega),q3]
     have ha8':(a:Int)<8:=by omega
     have hBHr:=BH3.fr hF (by simp;omega);have cH:=(hBHr.cell a).trans (R.arr_get ha8);have hfb:=zh (flat_byte R ha8 hr4);obtain⟨x,hx⟩:∃x,Hid (R.list.getD a 0=x):=⟨_,zh rfl⟩
     rw [hx.o]at cH hfb;have hci:wr.cell? ⟨gd,i,none⟩=some ds[i]:=by rw [hBd.cell];exact Array.getElem?_eq_getElem (by omega)
     have hfz:=hBd.frozen i;generalize(ds[i]'(by omega))=vi at*
     have w1:IntKind.i64.wrap (8*(r:Int))=8*(r:Int):=by rw [IntKind.wrap_i64];omega
     have w2:IntKind.i64.wrap (24 - 8*(r:Int))=24 - 8*(r:Int):=by rw [IntKind.wrap_i64];omega
     go_wp2_with fail
     rw [show 24 - 8*(r:Int)=((24 - 8*r:Nat):Int) by omega];refine(rdown_t x (24 - 8*r) (by omega) wr).mono ?_;rintro _ _ ⟨rfl,rfl⟩;obtain⟨y,hy⟩:∃y,Hid (x.toNat / 2^(24 - 8*r)=y):=⟨_,zh rfl⟩
     have hyl:y<4294967296:=by rw [←hy.o];exact Nat.lt_of_le_of_lt (Nat.div_le_self _ _) x.toNat_lt
     rw [hy.o]at hfb⊢;go_wp2_with fail
     go_roundg (32 - i)
     case measure=>omega
     case rel=>refine⟨i+1,_,by go_num,by omega,by omega,hBd.set i _,by simpa using hds,pre_stepV (f:=fun j=>bv ((R.list.flatMap bytes4).getD j 0)) hpre (by omega) ?_,hF.setCell (by simp) _⟩;show _=bv ((R.list.flatMap bytes4).getD i 0);rw [hir.o,hfb.o];exact b_ext (n:=(y:Int)) (k:=y) (by omega)
    ·have hi32:i=32:=by omega
     subst hi32;have hge:¬((32:Nat):Int)<32:=by omega
     have e32:ds=digCells (sha l):=by
      rw [hshah.o];have hbl:(R.list.flatMap bytes4).length=32:=rfl;apply Array.ext_getElem?;intro j;by_cases hj:j<32
      ·rw [hpre j hj,digCells,zG,List.getElem?_map];simp [List.getD,List.getElem?_eq_getElem (show j<(R.list.flatMap bytes4).length by omega)]
      ·rw [Array.getElem?_eq_none (by omega),Array.getElem?_eq_none (by rw [digCells_size hbl];omega)]
     subst e32;clear hpre hds hlt hk hi;go_wp2;go_meet;exact⟨hBd,hF⟩
  case rest=>
   clear BD;obtain⟨BDc,hFd⟩:=hcut;have BRe:=BR3.fr hFd (by simp;omega);have fe:Fr [] w wc:=fw3.andThen hFd (fun x hx=> .inr (by simp at hx;omega));have h32:=sha_length l;go_wp2_with (first
    | (refine wpList_load_at rfl 248 _ rfl rfl BDc (digCells_sub (sha l)) uRDig rfl (infoRDigL h32) ?_)
    | (refine wpList_store_at rfl 248 _ _ rfl rfl rfl BRe (infoRDigA h32) (by rw [hzr,List.size_toArray,List.length_map,h32];decide) (by intro v hv;simp [bv]at hv;obtain⟨_,_,rfl⟩:=hv;rfl) ?_))
   have B:=BRe.setRow (laid zr 0 ((sha l).map bv));have el:laid zr 0 ((sha l).map bv)=digCells (sha l):=by have:zr.toList.drop 32= []:=List.drop_eq_nil_of_le (by rw [Array.length_toList,hzr];exact Nat.le_refl _);simp [laid,this,h32,digCells]
   have B2:Blk (wc.setRow gr (laid zr 0 ((sha l).map bv))) gr 248 (digCells (sha l)):=by rw [←el];exact B
   exact bodyPost_ret (v:= .agg (digCells (sha l))) (results_cell_row rfl _ _ gr 248 (digCells (sha l)) (0,0) _ rfl B2 uRDig rfl (infoRDigA h32)) rfl ⟨rfl,fe.setRow (.inr hrsz) _⟩
end Go.Proofs.YtacljejoedbnkaaGreat
