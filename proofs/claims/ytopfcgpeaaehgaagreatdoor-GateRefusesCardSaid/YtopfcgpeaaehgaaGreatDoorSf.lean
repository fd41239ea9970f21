/- Walks of the hash: All, Sum, and a hash that is told bytes. Conditions: each theorem's own. -/
import Derived.Test.YtopfcgpeaaehgaaGreatDoorSd
namespace Go.Proofs.YtopfcgpeaaehgaaGreatDoor
open Go.RowKit Go.Sig
theorem pre_stepV {ws:Array Value}{f:Nat→Value}{i:Nat}{v:Value}(h:∀j,j<i→ws[j]? =some (f j)) (hi:i<ws.size) (hv:v=f i):∀j,j<i+1→(ws.setIfInBounds i v)[j]? =some (f j):=by
 intro j hj;rw [Array.getElem?_setIfInBounds];by_cases e:i=j
 ·subst e;rw [if_pos rfl,if_pos hi,hv]
 ·rw [if_neg e];exact h j (by omega)
theorem byts_new {w:World}{g:Nat}{t:TypeId}{l:List UInt8}{n:Nat}{cs:Array Value}(h:Blk w g t cs) (hcs:cs=(l.map bv).toArray) (hn:l.length=n):Byts w (some ⟨g,0,none⟩) n l:=by
 subst hcs;exact⟨by simp [hn],fun _=>⟨g,0,rfl,fun j u hu=>by rw [h.cell,Nat.zero_add,zG];exact hu⟩⟩
def digCells (l:List UInt8):Array Value:=(l.map bv).toArray
theorem be8_at {n i:Nat}(hi:i<8):(be8 n).getD i 0=UInt8.ofNat (n / 2^(56 - 8*i)):=by
 unfold be8;simp [List.getD,hi]
theorem b_ext {n:Int}{k:Nat}(h:n%256=((k%256:Nat):Int)):(.int .u8 (n%256):Value)=bv (UInt8.ofNat k):=by
 unfold bv;rw [h,UInt8.toNat_ofNat']
theorem flat_at (R:W8) {i:Nat}(hi:i<8):(R.list.flatMap bytes4).getD (4*i) 0=UInt8.ofNat ((R.list.getD i 0).toNat / 16777216)∧(R.list.flatMap bytes4).getD (4*i+1) 0=UInt8.ofNat ((R.list.getD i 0).toNat / 65536)∧
  (R.list.flatMap bytes4).getD (4*i+2) 0=UInt8.ofNat ((R.list.getD i 0).toNat / 256)∧(R.list.flatMap bytes4).getD (4*i+3) 0=UInt8.ofNat (R.list.getD i 0).toNat:=by
 have:i=0∨i=1∨i=2∨i=3∨i=4∨i=5∨i=6∨i=7:=by omega
 rcases this with e |e |e |e |e |e |e |e<;>subst e<;>exact⟨rfl,rfl,rfl,rfl⟩
theorem run_index_arr {P:Program}{t e:TypeId}{n i:Nat}{cs:Array Value}{v:Value}{d:TypeDesc}(w:World) (h:P.underlying t=some (.array n e)) (hi:i<n) (hs:(P.info? e).map (·.size)=some 1) (hu:P.underlying e=some d)
  (hd:(match d with | .struct _ | .array _ _=>false |_=>true)=true) (hv:cs[i]? =some v):(Instr.index t (.agg cs) (.int .i64 i)).run P w= .ok v w:=by
 have hagg:(isAgg e).run P w= .ok false w:=by unfold isAgg;rw [Sem.run_bind,run_underlying hu w];cases d<;>simp_all
 cases hq:P.info? e with
 |none=>simp [hq]at hs
 |some f=>
  have hf:f.size=1:=by simpa [hq]using hs
  have hn:(0≤(i:Int)∧(i:Int)<n):=by omega
  simp [Instr.index,run_underlying h,asIntOf,hn,part,hagg,sizeOf,typeInfo,hq,hf,hv,Result.andThen,go_sem];intro hge;omega
theorem uW8:Tryz.prog.underlying 220=some (.array 8 219):=by kernel_rfl
theorem infoDig:(Tryz.prog.info? 184).map (·.size)=some 32:=by kernel_rfl
theorem uDig:Tryz.prog.underlying 184=some (.array 32 5):=by kernel_rfl
theorem infoDigL {l:List UInt8}(h:l.length=32):(Tryz.prog.info? 184).map (·.size)=some (l.map bv).length:=by rw [List.length_map,h];exact infoDig
theorem infoDigA {l:List UInt8}(h:l.length=32):(Tryz.prog.info? 184).map (·.size)=some (digCells l).size:=by simp only [digCells,List.size_toArray,List.length_map,h];exact infoDig
theorem digCells_size {l:List UInt8}(h:l.length=32):(digCells l).size=32:=by simp [digCells,h]
theorem digCells_one (l:List UInt8):(digCells l).all (·.oneCell')=true:=by
 simp [digCells,bv,Value.oneCell']
theorem digCells_sub (l:List UInt8):Sub (digCells l) 0 (l.map bv):=by
 intro j v hv;simpa [digCells]using hv
set_option maxRecDepth 100000 in
set_option maxHeartbeats 4000000 in
theorem sum_t (w:World) (bs:List UInt8) (cs:Array Value) (hO:StOf cs bs) (hmax:bs.length≤150000000000000):
  Calls Tryz.prog 191 #[.agg cs] w fun e w'=>e= .returned (.agg (digCells (sha bs)))∧Fr [] w w':=by
 have h73:=hO.1;go_enter Tryz.func191,Tryz.ntmps191;go_upto_region 1 with(fail)
 refine wp_gen (fun W=>Blk W w.heap.size 234 cs∧(∃zs,Blk W (w.heap.size+1) 184 zs∧zs.size=32)∧Fr [] w W) ⟨(Blk.new _ _ _).alloc _,⟨_,Blk.new' _ _ (by simp),rfl⟩,((Fr.refl _ _).alloc _).alloc _⟩ ?_;rintro W ⟨hB,⟨zs,hD,hz⟩,fW⟩;obtain⟨g,HG⟩:∃x,Hid (w.heap.size=x):=⟨_,zh rfl⟩
 rw [HG.o]at hB hD⊢;obtain⟨gd,HGD⟩:∃x,Hid (g+1=x):=⟨_,zh rfl⟩
 rw [HGD.o]at hD⊢;have hgd:g≠gd:=by have:=HGD.o;omega
 have h72:=(hB.cell 72).trans hO.2.2.2;have hS:StIn W g 234 bs:=⟨cs,hB,hO⟩
 obtain⟨L,HL⟩:∃x,Hid (bs.length=x):=⟨_,zh rfl⟩
 rw [HL.o]at h72 hmax;go_upto_region 2 with(fail)
 go_wp2_with fail
 have hgl:=hB.lt;have hdl:=hD.lt;refine(write_t _ g 234 bs [128] _ 1 1 (hS.fr ((Fr.refl [] _).alloc _) (by simp)) (byts_new (Blk.new _ _ _) rfl rfl) (fun _=>by simp [Off];omega) (Nat.le_refl _) (by rw [HL.o];omega)).mono ?_;rintro _ W2 ⟨rfl,F2,S2⟩;have hD2:=(hD.fr ((Fr.refl [] _).alloc _) (by simp)).fr F2 (by simp;omega);have f2:Fr [] w W2:=(fW.alloc _).andThen F2 (fun x hx=> .inr (by have:=HG.o;simp at hx;omega));clear hB hD hS F2 fW h72 hgl hdl;go_upto_block 0 with(fail)
 go_cut []from 15 to 20 (fun wx=>∃z,L+1+z=64*((L+72) / 64) - 8∧StIn wx g 234 (bs++128::List.replicate z 0)∧Fr [g] W2 wx)
 case first=>
  go_wp2_with fail
  go_loopg [] (65) (fun k wr=>∃z,L+1+z≤64*((L+72) / 64) - 8∧64*((L+72) / 64) - 8 - (L+1+z)<k∧StIn wr g 234 (bs++128::List.replicate z 0)∧Fr [g] W2 wr)
  case atStart=>exact⟨0,by omega,by omega,by simpa using S2,Fr.refl _ _⟩
  case round=>
   clear S2;obtain⟨z,hz1,hz2,S3,F3⟩:=hrel;have hn:(bs++128::List.replicate z 0).length=L+1+z:=by simp [HL.o];omega
   have hD3:=hD2.fr F3 (by simp;omega);obtain⟨cs3,hB3,hO3⟩:=S3;have h72:=(hB3.cell 72).trans hO3.2.2.2;rw [hn]at h72;have hgl:=hB3.lt;have hS3:StIn wr g 234 (bs++128::List.replicate z 0):=⟨cs3,hB3,hO3⟩
   clear hB3 hO3;have hrem:((L+1+z:Nat):Int)%64=((L+1+z)%64:Nat):=by omega
   have hremt:((L+1+z:Nat):Int).tmod 64=((L+1+z)%64:Nat):=by rw [←hrem];exact Int.tmod_eq_emod_of_nonneg (by omega)
   have hq:=zh (show(L+1+z)%64=56↔L+1+z=64*((L+72) / 64) - 8 by omega);obtain⟨m,hm⟩:∃x,Hid (L+1+z=x):=⟨_,zh rfl⟩
   obtain⟨q,hqq⟩:∃x,Hid ((L+1+z)%64=x):=⟨_,zh rfl⟩
   rw [hqq.o]at hrem hremt;rw [hm.o]at h72 hrem hremt;have hnh:=zh hn;clear hn;by_cases he:q=56
   ·subst he;have hfin:=hq.o.1 hqq.o;go_wp2;go_meet;exact⟨z,hfin,hS3,F3⟩
   ·have hlt:L+1+z<64*((L+72) / 64) - 8:=by
     have:¬L+1+z=64*((L+72) / 64) - 8:=fun e=>he (by rw [←hqq.o];exact hq.o.2 e);omega
    have he1:((q:Int)==56)=false:=by simp;omega
    have he2:decide ((q:Int)=56)=false:=by simp;omega
    go_wp2_with fail
    refine(write_t _ g 234 (bs++128::List.replicate z 0) [0] _ 1 1 (hS3.fr ((Fr.refl [] _).alloc _) (by simp)) (byts_new (Blk.new _ _ _) rfl rfl) (fun _=>by simp [Off];omega) (Nat.le_refl _) (by rw [hnh.o];omega)).mono ?_;rintro _ w4 ⟨rfl,F4,S4⟩;go_wp2;go_roundg (64*((L+72) / 64) - 8 - (L+1+z))
    case measure=>exact hz2
    case rel=>
     refine⟨z+1,by omega,by omega,?_,F3.trans ((((Fr.refl [] _).alloc _).nil).trans F4)⟩;have e:bs++128::List.replicate (z+1) 0=(bs++128::List.replicate z 0)++ [0]:=by rw [List.replicate_succ'];simp
     rw [e];exact S4
 case rest=>
  obtain⟨z,hz1,S3,F3⟩:=hcut;clear S2;have hpad:padded bs=(bs++128::List.replicate z 0)++be8 (L*8):=by unfold padded;rw [HL.o,show(119 - L%64)%64=z by omega,show L*8%18446744073709551616=L*8 by omega]
  have hn:(bs++128::List.replicate z 0).length=L+1+z:=by simp [HL.o];omega
  obtain⟨P,hP⟩:∃x,Hid (bs++128::List.replicate z 0=x):=⟨_,zh rfl⟩
  rw [hP.o]at S3 hpad hn;have hpadh:=zh hpad;have hnh:=zh hn;have hzh:=zh hz1;clear hpad hn hz1;have hD3:=hD2.fr F3 (by simp;omega);have hgl:=S3.lt;have hdl:=hD3.lt;have f3:Fr [] w wc:=f2.andThen F3 (fun x hx=> .inr (by have:=HG.o;simp at hx;omega));clear hD2 F3 f2;go_upto_region 6 with(fail)
  refine wp_gen (fun W4=>Blk W4 wc.heap.size 250 #[.int .u8 0,.int .u8 0,.int .u8 0,.int .u8 0,.int .u8 0,.int .u8 0,.int .u8 0,.int .u8 0]∧Fr [] wc W4) ⟨Blk.new _ _ _,(Fr.refl _ _).alloc _⟩ ?_;rintro W4 ⟨hB8,F4⟩;have S4:=S3.fr F4 (by simp);have hD4:=hD3.fr F4 (by simp);have f4:=f3.trans F4;obtain⟨g8,HG8⟩:∃x,Hid (wc.heap.size=x):=⟨_,zh rfl⟩
  have hg8w:w.heap.size≤g8:=by rw [←HG8.o];exact f3.size
  rw [HG8.o]at hB8 hgl hdl⊢;clear S3 hD3 F4 f3;go_upto_block 2 with(fail)
  go_cut [5]from 21 to 32 (fun s5 wx=>Blk wx g8 250 ((be8 (L*8)).map bv).toArray∧Fr [g8] W4 wx)
  case first=>
   go_wp2_with fail
   go_loopg [5,21] (9) (fun k s5 s21 wr=>∃(i:Nat) (ds:Array Value),s21= .int .i64 i∧i≤8∧8 - i<k∧Blk wr g8 250 ds∧ds.size=8∧(∀j,j<i→ds[j]? =some (bv ((be8 (L*8)).getD j 0)))∧Fr [g8] W4 wr)
   case atStart=>exact⟨0,_,rfl,by omega,by omega,hB8,rfl,fun j hj=>by omega,Fr.refl _ _⟩
   case round=>
    clear hB8;obtain⟨i,ds,rfl,hi,hk,hB8,hds,hpre,F8⟩:=hrel;by_cases hlt:i<8
    ·have hlt':(i:Int)<8:=by omega
     have hci:wr.cell? ⟨g8,i,none⟩=some ds[i]:=by rw [hB8.cell];exact Array.getElem?_eq_getElem (by omega)
     have hfz:=hB8.frozen i;have p1:(0:Int)≤56 - 8*(i:Int):=by omega
     have p2:(56 - 8*(i:Int)).toNat=56 - 8*i:=by omega
     go_wp2_with fail
     go_roundg (8 - i)
     case measure=>omega
     case rel=>refine⟨i+1,_,by go_num,by omega,by omega,hB8.set i _,by simpa using hds,pre_stepV hpre (by omega) ?_,F8.setCell (by simp) _⟩;rw [be8_at hlt];exact b_ext (by push_cast;rfl)
    ·have hi8:i=8:=by omega
     subst hi8;have e8:ds=((be8 (L*8)).map bv).toArray:=by
      apply Array.ext_getElem?;intro j;by_cases hj:j<8
      ·rw [hpre j hj,zG,List.getElem?_map];have hbl:(be8 (L*8)).length=8:=by simp [be8]
       simp [List.getD,List.getElem?_eq_getElem (show j<(be8 (L*8)).length by omega)]
      ·rw [Array.getElem?_eq_none (by omega),Array.getElem?_eq_none (by simp [be8];omega)]
     subst e8;clear hpre hds;have hge:¬((8:Nat):Int)<8:=by omega
     clear hlt hk hi;go_wp2;go_meet;exact⟨hB8,F8⟩
  case rest=>
   obtain⟨hB8',F8⟩:=hcut;clear hB8;have S5:=S4.fr F8 (by simp;omega);have hD5:=hD4.fr F8 (by simp;omega);have f5:Fr [] w wc:=f4.andThen F8 (fun x hx=> .inr (by simp at hx;omega));clear S4 hD4 F8 f4;have hgl:=S5.lt;have hdl:=hD5.lt;have hbl:(be8 (L*8)).length=8:=by simp [be8]
   have h8b:Byts wc (some ⟨g8,0,none⟩) 8 (be8 (L*8)):=byts_new hB8' rfl hbl;go_wp2_with fail
   refine(write_t _ g 234 P (be8 (L*8)) _ 8 8 S5 h8b (fun _=>by simp [Off];omega) (Nat.le_refl _) (by have:=hzh.o;rw [hnh.o];omega)).mono ?_;rintro _ w6 ⟨rfl,F6,S6⟩;rw [←hpadh.o]at S6;have hD6:=hD5.fr F6 (by simp;omega);have f6:Fr [] w w6:=f5.andThen F6 (fun x hx=> .inr (by have:=HG.o;simp at hx;omega));clear S5 hD5 F6 f5 hB8' h8b;obtain⟨c6,hB6,hO6⟩:=S6;have hpl:(padded bs).length%64=0:=by rw [padded_length];omega
   have hW6:=hO6.2.1;have hsha:sha bs=(pressN ((padded bs).length / 64) shaInit (padded bs)).list.flatMap bytes4:=rfl;have hshah:=zh hsha;obtain⟨R,HR⟩:∃x,Hid (pressN ((padded bs).length / 64) shaInit (padded bs)=x):=⟨_,zh rfl⟩
   rw [HR.o]at hW6;have h73':=hO6.1;clear hO6 hsha;go_upto_region 13 with(fail)
   refine wp_gen (fun W7=>(∃ds,Blk W7 w6.heap.size 184 ds∧ds.size=32)∧Fr [] w6 W7) ⟨⟨_,Blk.new _ _ _,rfl⟩,(Fr.refl _ _).alloc _⟩ ?_;rintro W7 ⟨⟨ds0,hB7,hds0⟩,F7⟩;have hBs7:=hB6.fr F7 (by simp);have hD7:=hD6.fr F7 (by simp);have f7:=f6.trans F7;have hgl7:=hB6.lt;have hdl7:=hD6.lt;obtain⟨gt,HGT⟩:∃x,Hid (w6.heap.size=x):=⟨_,zh rfl⟩
   have hgtw:w.heap.size≤gt:=by rw [←HGT.o];exact f6.size
   rw [HGT.o]at hB7 hgl7 hdl7⊢;clear hB6 hD6 F7 f6;have hcH:=fun(j:Nat) (hj:j<8)=>(hBs7.cell j).trans (hW6.get hj);have h0:=hcH 0 (by decide);have h1:=hcH 1 (by decide);have h2:=hcH 2 (by decide);have h3:=hcH 3 (by decide);have h4:=hcH 4 (by decide);have h5:=hcH 5 (by decide);have h6:=hcH 6 (by decide);have h7:=hcH 7 (by decide);simp only [W8.list,List.getD,zH,zI,Option.getD_some]at h0 h1 h2 h3 h4 h5 h6 h7;unfold wv at h0 h1 h2 h3 h4 h5 h6 h7;clear hcH;go_upto_block 4 with(fail)
   clear h0 h1 h2 h3 h4 h5 h6 h7 hBs7 hW6;go_cut [7,8]from 37 to 67 (fun s7 s8 wx=>Blk wx gt 184 (digCells (R.list.flatMap bytes4))∧Fr [gt] W7 wx)
   case first=>
    go_wp2_with fail
    go_loopg [7,8,37] (9) (fun k s7 s8 s37 wr=>∃(i:Nat) (ds:Array Value),s37= .int .i64 i∧i≤8∧8 - i<k∧Blk wr gt 184 ds∧ds.size=32∧(∀j,j<4*i→ds[j]? =some (bv ((R.list.flatMap bytes4).getD j 0)))∧Fr [gt] W7 wr)
    case atStart=>exact⟨0,ds0,rfl,by omega,by omega,hB7,hds0,fun j hj=>by omega,Fr.refl _ _⟩
    case round=>
     clear hB7 hds0 hshah HR;obtain⟨i,ds,rfl,hi,hk,hB8,hds,hpre,F8⟩:=hrel;by_cases hlt:i<8
     ·have hlt':(i:Int)<8:=by omega
      have hx:=R.arr_get hlt;have hfl:=flat_at R hlt;obtain⟨x,hxx⟩:∃x,Hid (R.list.getD i 0=x):=⟨_,zh rfl⟩
      rw [hxx.o]at hx hfl;have hflh:=zh hfl;clear hfl hxx;have hc:∀j,j<32→wr.cell? ⟨gt,j,none⟩=some (ds.getD j undef):=fun j hj=>by rw [hB8.cell,Array.getElem?_eq_getElem (by omega)];simp [Array.getD,show j<ds.size by omega]
      have c0:=hc (4*i) (by omega);have c1:=hc (4*i+1) (by omega);have c2:=hc (4*i+2) (by omega);have c3:=hc (4*i+3) (by omega);have hfz:=fun j=>hB8.frozen j;clear hc;have b0:4*(i:Int)<32:=by omega
      have b1:4*(i:Int)+1<32:=by omega
      have b2:4*(i:Int)+2<32:=by omega
      have b3:4*(i:Int)+3<32:=by omega
      have p1:(0:Int)≤4*(i:Int)+1:=by omega
      have p2:(0:Int)≤4*(i:Int)+2:=by omega
      have p3:(0:Int)≤4*(i:Int)+3:=by omega
      have n0:(4*(i:Int)).toNat=4*i:=by omega
      have n1:(4*(i:Int)+1).toNat=4*i+1:=by omega
      have n2:(4*(i:Int)+2).toNat=4*i+2:=by omega
      have n3:(4*(i:Int)+3).toNat=4*i+3:=by omega
      have hgtl:=hB8.lt;have hrun:=run_index_arr (P:=Tryz.prog) wr uW8 hlt (by kernel_rfl) (d:= .int .u32) (by kernel_rfl) rfl hx;go_wp2_with fail
      have e1:=b_ext (n:=(x.toNat:Int) / 16777216) (k:=x.toNat / 16777216) (by omega);have e2:=b_ext (n:=(x.toNat:Int) / 65536) (k:=x.toNat / 65536) (by omega);have e3:=b_ext (n:=(x.toNat:Int) / 256) (k:=x.toNat / 256) (by omega);have e4:=b_ext (n:=(x.toNat:Int)) (k:=x.toNat) (by omega);go_roundg (8 - i)
      case measure=>omega
      case rel=>refine⟨i+1,_,by go_num,by omega,by omega,(((hB8.set _ _).set _ _).set _ _).set _ _,by simpa using hds,?_,(((F8.setCell (by simp) _).setCell (by simp) _).setCell (by simp) _).setCell (by simp) _⟩;refine pre_stepV (i:=4*i+3) (f:=fun j=>bv ((R.list.flatMap bytes4).getD j 0)) ?_ (by simp;omega) (by rw [hflh.o.2.2.2];exact e4);refine pre_stepV (i:=4*i+2) (f:=fun j=>bv ((R.list.flatMap bytes4).getD j 0)) ?_ (by simp;omega) (by rw [hflh.o.2.2.1];exact e3);refine pre_stepV (i:=4*i+1) (f:=fun j=>bv ((R.list.flatMap bytes4).getD j 0)) ?_ (by simp;omega) (by rw [hflh.o.2.1];exact e2);exact pre_stepV (i:=4*i) (f:=fun j=>bv ((R.list.flatMap bytes4).getD j 0)) hpre (by omega) (by rw [hflh.o.1];exact e1)
     ·have hi8:i=8:=by omega
      subst hi8;have hds8:ds=digCells (R.list.flatMap bytes4):=by
       apply Array.ext_getElem?;intro j;have hl32:(R.list.flatMap bytes4).length=32:=rfl;unfold digCells;by_cases hj:j<32
       ·rw [hpre j hj,zG,List.getElem?_map];simp [List.getD,List.getElem?_eq_getElem (show j<(R.list.flatMap bytes4).length by omega)]
       ·rw [Array.getElem?_eq_none (by omega),Array.getElem?_eq_none (by rw [List.size_toArray,List.length_map,hl32];omega)]
      rw [hds8]at hB8;clear hpre hds hds8;have hge:¬((8:Nat):Int)<8:=by omega
      clear hlt hk hi;go_wp2;go_meet;exact⟨hB8,F8⟩
   case rest=>
    obtain⟨hB8,F8⟩:=hcut;have hD8:=hD7.fr F8 (by simp;omega);have f8:Fr [] w wc:=f7.andThen F8 (fun x hx=> .inr (by simp at hx;omega));clear hD7 hB7 F8 f7;have hlen:(R.list.flatMap bytes4).length=32:=rfl;have hsh2:sha bs=R.list.flatMap bytes4:=by rw [hshah.o,HR.o]
    have hsh3:=zh hsh2;clear hsh2;obtain⟨D,HDD⟩:∃x,Hid (R.list.flatMap bytes4=x):=⟨_,zh rfl⟩
    rw [HDD.o]at hB8 hlen;go_wp2_with (first
     |refine wpList_load_at rfl 184 _ rfl rfl hB8 (digCells_sub D) uDig rfl (infoDigL hlen) ?_
     |refine wpList_store_row rfl 184 _ _ rfl gd (digCells D) rfl rfl 184 zs hD8 (infoDigA hlen) (by rw [hz,digCells_size hlen]) (digCells_one D) ?_)
    exact bodyPost_ret (v:= .agg (digCells D)) (results_cell_row rfl _ _ gd 184 (digCells D) (0,0) _ rfl (Blk.setRow hD8 _) uDig rfl (infoDigA hlen)) rfl ⟨by rw [hsh3.o,HDD.o],f8.setRow (.inr (by have:=HG.o;have:=HGD.o;omega)) _⟩
end Go.Proofs.YtopfcgpeaaehgaaGreatDoor
namespace Go.Proofs.YtopfcgpeaaehgaaGreatDoor
open Go.RowKit Go.Sig
abbrev Part:=(Option Addr×Nat×Nat)×List UInt8
def Part.val (p:Part):Value:= .slice p.1.1 p.1.2.1 p.1.2.2
def Part.Ok (w:World) (p:Part):Prop:=Byts w p.1.1 p.1.2.1 p.2∧p.1.2.1≤p.1.2.2
theorem Part.Ok.fr {w w':World}{p:Part}{S:List Nat}(h:p.Ok w) (hf:Fr S w w') (hS:∀x,x∈S→w.heap.size≤x):p.Ok w':=by
 refine⟨Rd.fr h.1 hf fun h0 ad e hx=> ?_,h.2⟩;have h1:=Rd.lt h.1 (by decide) h0 ad e;have h2:=hS _ hx;omega
theorem infoStateL {cs:Array Value}(h:cs.size=73):(Tryz.prog.info? 234).map (·.size)=some cs.toList.length:=by rw [Array.length_toList,h];kernel_rfl
theorem sub_self (cs:Array Value):Sub cs 0 cs.toList:=by
 intro j v hv;simpa using hv
set_option maxRecDepth 100000 in
set_option maxHeartbeats 4000000 in
theorem all_t (w:World) (A:Option Addr) (n c:Nat) (ps:List Part) (h62:n≤150000000000000) (hb:Rd w 1 A n (ps.map Part.val)) (hps:∀p∈ps,p.Ok w) (hmax:(ps.flatMap (·.2)).length≤150000000000000):
  Calls Tryz.prog 170 #[.slice A n c] w fun e w'=>e= .returned (.agg (digCells (sha (ps.flatMap (·.2)))))∧Fr [] w w':=by
 have hn:ps.length=n:=by have:=hb.1;simpa using this
 go_enter Tryz.func170,Tryz.ntmps170;go_upto_region 1 with(fail)
 refine wp_gen (fun W=>(∃zs,Blk W w.heap.size 184 zs∧zs.size=32)∧Fr [] w W) ⟨⟨_,Blk.new _ _ _,rfl⟩,(Fr.refl _ _).alloc _⟩ ?_;rintro W ⟨⟨zs,hD,hz⟩,fW⟩;obtain⟨gd,HGD⟩:∃x,Hid (w.heap.size=x):=⟨_,zh rfl⟩
 rw [HGD.o]at hD⊢;go_wp2_with fail
 refine(begun_t W).mono ?_;rintro _ W1 ⟨rfl,F1⟩;have hD1:=hD.fr F1 (by simp);have f1:=fW.trans F1;go_wp2_with (refine wpList_store_row rfl 234 _ _ rfl W1.heap.size initCells rfl rfl 234 Tryz.zeroCells234 (Blk.new W1 234 _) infoState zState initOne ?_)
 refine wp_gen (fun W2=>StIn W2 W1.heap.size 234 []∧Fr [] W1 W2) ⟨⟨initCells,Blk.setRow (Blk.new W1 234 _) _,st_init⟩,((Fr.refl _ _).alloc _).setRow (.inr (Nat.le_refl _)) _⟩ ?_;rintro W2 ⟨S2,F2⟩;have hD2:=hD1.fr F2 (by simp);have f2:=f1.trans F2;have hgdl:=hD1.lt;obtain⟨g,HG⟩:∃x,Hid (W1.heap.size=x):=⟨_,zh rfl⟩
 have hgw:w.heap.size≤g:=by rw [←HG.o];exact f1.size
 rw [HG.o]at S2 hgdl⊢;clear hD hD1 F1 fW F2 f1;have hb2:=Rd.fr hb f2 (fun _=>by simp [Off]);have hps2:∀p∈ps,p.Ok W2:=fun p hp=>(hps p hp).fr f2 (by simp);have hW2:=S2.lt;have hAg:0<n→Off [g] A:=fun h0 ad e=>by have:=Rd.lt hb (by decide) h0 ad e;simp;omega
 have hpg:∀p∈ps,0<p.1.2.1→Off [g] p.1.1:=fun p hp h0 ad e=>by have:=Rd.lt (hps p hp).1 (by decide) h0 ad e;simp;omega
 go_loopg [5,9] (n+1) (fun k s5 s9 wr=>∃(i:Nat),s9= .int .i64 i∧i≤n∧n - i<k∧StIn wr g 234 ((ps.take i).flatMap (·.2))∧Fr [g] W2 wr)
 case atStart=>exact⟨0,rfl,by omega,by omega,by simpa using S2,Fr.refl _ _⟩
 case round=>
  clear S2;obtain⟨i,rfl,hi,hk,S3,F3⟩:=hrel;by_cases hlt:i<n
  ·have hlt':(i:Int)<n:=by omega
   have hlth:=zh hlt;have hbr:=Rd.fr hb2 F3 hAg;obtain⟨b,o,rfl,hc⟩:=hbr.2 (by omega);have hi':i<ps.length:=by omega
   have hci:=hc i (ps[i].val) (by rw [List.getElem?_map,List.getElem?_eq_getElem hi'];rfl);have hp:=hps2 ps[i] (List.getElem_mem hi');have hpr:=Rd.fr hp.1 F3 (hpg _ (List.getElem_mem hi'));have hpo:=hpg ps[i] (List.getElem_mem hi');have htot:((ps.take i).flatMap (·.2)).length+ps[i].1.2.1≤4611686018427387904:=by
    have e:ps.flatMap (·.2)=(ps.take i).flatMap (·.2)++(ps.drop i).flatMap (·.2):=by rw [←List.flatMap_append,List.take_append_drop]
    have e2:ps.drop i=ps[i]::ps.drop (i+1):=List.drop_eq_getElem_cons hi';have e3:=Byts.length hp.1;rw [e,e2,List.flatMap_cons]at hmax;simp only [List.length_append]at hmax;omega
   have htk:ps.take (i+1)=ps.take i++ [ps[i]]:=by rw [List.take_succ_eq_append_getElem hi']
   have htkh:=zh htk;clear htk hc;have hpc:=hp.2;obtain⟨p,hpp⟩:∃x,Hid (ps[i]=x):=⟨_,zh rfl⟩
   rw [hpp.o]at hci hpr hpo htot htkh hpc;obtain⟨⟨B,m,d⟩,l⟩:=p;unfold Part.val at hci;simp only at hci hpr hpo htot hpc;have hgl3:=S3.lt;go_wp2_with fail
   refine(write_t wr g 234 _ l B m d S3 hpr hpo hpc htot).mono ?_;rintro _ w4 ⟨rfl,F4,S4⟩;go_wp2;go_roundg (n - i)
   case measure=>omega
   case rel=>refine⟨i+1,by go_num,by have:=hlth.o;omega,by have:=hlth.o;omega,?_,F3.trans F4⟩;rw [htkh.o,List.flatMap_append];simpa using S4
  ·have hin:i=n:=by omega
   subst hin;rw [List.take_of_length_le (Nat.le_of_eq hn)]at S3;have hD3:=hD2.fr F3 (by simp;omega);have f3:Fr [] w wr:=f2.andThen F3 (fun x hx=> .inr (by simp at hx;omega));obtain⟨cs,hB3,hO3⟩:=S3;obtain⟨L,HL⟩:∃x,Hid (ps.flatMap (·.2)=x):=⟨_,zh rfl⟩
   rw [HL.o]at hO3 hmax;have hge:¬(i:Int)<i:=by omega
   clear hlt hk;go_wp2_with (first | (refine wpList_load_at rfl 234 _ rfl rfl hB3 (sub_self cs) uState rfl (infoStateL hO3.1) ?_;rw [Array.toArray_toList]) |fail)
   refine(sum_t wr L cs hO3 hmax).mono ?_;rintro _ w5 ⟨rfl,F5⟩;have hD5:=hD3.fr F5 (by simp);have hlen:=sha_length L;obtain⟨D,HDD⟩:∃x,Hid (sha L=x):=⟨_,zh rfl⟩
   rw [HDD.o]at hlen⊢;go_wp2_with (refine wpList_store_row rfl 184 _ _ rfl gd (digCells D) rfl rfl 184 zs hD5 (infoDigA hlen) (by rw [hz,digCells_size hlen]) (digCells_one D) ?_)
   exact bodyPost_ret (v:= .agg (digCells D)) (results_cell_row rfl _ _ gd 184 (digCells D) (0,0) _ rfl (Blk.setRow hD5 _) uDig rfl (infoDigA hlen)) rfl ⟨by rw [HL.o,HDD.o],(f3.trans F5).setRow (.inr (by have:=HGD.o;omega)) _⟩
theorem sum1_t (w:World) (A:Option Addr) (n c:Nat) (l:List UInt8) (hb:Byts w A n l) (hc:n≤c) (hmax:n≤150000000000000):
  Calls Tryz.prog 145 #[.slice A n c] w fun e w'=>e= .returned (.agg (digCells (sha l)))∧Fr [] w w':=by
 have hlb:=hb.length;go_enter Tryz.func145,Tryz.ntmps145;go_upto_region 1 with(fail)
 refine wp_gen (fun W=>(∃zs,Blk W w.heap.size 184 zs∧zs.size=32)∧Fr [] w W) ⟨⟨_,Blk.new _ _ _,rfl⟩,(Fr.refl _ _).alloc _⟩ ?_;rintro W ⟨⟨zs,hD,hz⟩,fW⟩;obtain⟨gd,HGD⟩:∃x,Hid (w.heap.size=x):=⟨_,zh rfl⟩
 rw [HGD.o]at hD⊢;go_wp2_with fail
 have F2:Fr [] W (W.alloc (.cells #[.slice A n c] 23)):=(Fr.refl _ _).alloc _;have hR:Rd (W.alloc (.cells #[.slice A n c] 23)) 1 (some ⟨W.heap.size,0,none⟩) 1 ([(((A,n,c),l):Part)].map Part.val):=
  ⟨rfl,fun _=>⟨_,0,rfl,fun j u hu=>by
   rw [Nat.zero_add,(Blk.new W 23 #[.slice A n c]).cell];have hj:j=0:=by have:=(List.getElem?_eq_some_iff.1 hu).1;simp at this;omega
   subst hj;simpa [Part.val]using hu⟩⟩
 refine(all_t _ _ 1 1 [((A,n,c),l)] (by decide) hR (fun p hp=> ?_) (by simp;omega)).mono ?_
 ·simp at hp;subst hp;exact⟨Rd.fr (Rd.fr hb fW (by simp [Off])) F2 (by simp [Off]),hc⟩
 rintro _ w3 ⟨rfl,F3⟩;have hD3:=(hD.fr F2 (by simp)).fr F3 (by simp);have f3:=(fW.trans F2).trans F3;have e:List.flatMap (fun(x:Part)=>x.2) [((A,n,c),l)]=l:=by simp
 rw [e];have hlen:=sha_length l;obtain⟨D,HDD⟩:∃x,Hid (sha l=x):=⟨_,zh rfl⟩
 rw [HDD.o]at hlen⊢;go_wp2_with (refine wpList_store_row rfl 184 _ _ rfl gd (digCells D) rfl rfl 184 zs hD3 (infoDigA hlen) (by rw [hz,digCells_size hlen]) (digCells_one D) ?_)
 exact bodyPost_ret (v:= .agg (digCells D)) (results_cell_row rfl _ _ gd 184 (digCells D) (0,0) _ rfl (Blk.setRow hD3 _) uDig rfl (infoDigA hlen)) rfl ⟨by rw [HDD.o],f3.setRow (.inr (by have:=HGD.o;omega)) _⟩
end Go.Proofs.YtopfcgpeaaehgaaGreatDoor
