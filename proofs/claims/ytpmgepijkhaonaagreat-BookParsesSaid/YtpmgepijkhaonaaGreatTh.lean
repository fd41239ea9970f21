/- Walks of the trie: a node with a pair, the other cases. Conditions: each theorem's own. -/
import Derived.Test.YtpmgepijkhaonaaGreatTe
import Derived.Test.YtpmgepijkhaonaaGreatLy
import Derived.Shelf.SlSortCmp.WholeK
import Derived.Test.YtpmgepijkhaonaaGreatTd
namespace Go.Proofs.YtpmgepijkhaonaaGreat.T
open Go.RowKit Go.Sig
def encP (y:Pr):List Value:= [.string y.1,.string y.2]
def cfP (x y:Pr):Int:=cmpB x.1 y.1
theorem ltP (x y:Pr):Go.Proofs.ltOf cfP x y=bl x.1 y.1:=cmpB_lt x.1 y.1
theorem swoP:Go.Sort.SWO (Go.Proofs.ltOf cfP) where
 irrefl x:=by rw [ltP];exact bl_irrefl _
 trans x y z h1 h2:=by rw [ltP]at*;exact bl_trans h1 h2
 ntrans x y z h1 h2:=by
  rw [ltP]at*;cases h:bl x.1 z.1 with
  |false=>rfl
  |true=>
   by_cases e:x.1=y.1
   ·rw [e,h2]at h;cases h
   ·have h3:=(bl_total e).resolve_left (by rw [h1];simp);have h4:=bl_trans h3 h;rw [h2]at h4;cases h4
theorem cmpLaysP (blk off size:Nat) (w:World):Go.Proofs.CmpLays Tryz.prog 171 #[] encP 2 cfP blk off size w:=fun _ _ _ _ x y=>
 (byName_t x y _).mono fun e w' ⟨he,o1,o2,hw⟩=>⟨he,0,#[o1,o2],by rw [hw,Go.Sort.alloc_eq_grow,Go.Sort.alloc_eq_grow,Go.Sort.grow_grow];rfl⟩
def Sorted (l:List Pr):Prop:=l.Pairwise fun a b=>bl b.1 a.1=false
theorem flatK_pairs (d:Array Pr) (t:Nat) (ht:t<d.size*2):(Go.Sort.flatK encP 2 d)[t]? =(pairCells d.toList)[t]? :=by
 have h1:t / 2<d.toList.length:=by simp;omega
 have hp:=pairCells_at h1;have e:(Go.Sort.flatK encP 2 d)[t]? =some ((encP d[t / 2]!)[t%2]!):=by rw [←Go.Sort.get_flatK encP 2 d t ht,Array.getElem?_eq_getElem (by simpa using ht)];rw [getElem!_pos]
 rw [e,getElem!_pos d (t / 2) (by simpa using h1)];have hm:t%2=0∨t%2=1:=by omega
 rcases hm with hm |hm
 ·have et:t=t / 2*2:=by omega
  rw [hm,show(pairCells d.toList)[t]? =(pairCells d.toList)[t / 2*2]? by rw [←et],hp.1];simp [encP]
 ·have et:t=t / 2*2+1:=by omega
  rw [hm,show(pairCells d.toList)[t]? =(pairCells d.toList)[t / 2*2+1]? by rw [←et],hp.2];simp [encP]
theorem sort_t (w:World) (v:Value) (n:Nat) (l:List Pr) (hO:Own w 191 2 v n (pairCells l)) (hn:l.length=n) (h0:0<n) (hmax:n≤1048576):
  Calls Tryz.prog 170 #[v,.func (.func 171) #[] #[]] w fun e w'=>e= .returned (.tuple #[])∧∃l',l'.Perm l∧Sorted l'∧Own w' 191 2 v n (pairCells l')∧Fr (rowOf v) w w':=by
 rcases hO.2 with⟨hv,hz⟩ | ⟨g,cap,cur,rfl,hbs,hh,hnc,hcm,hcs,htk⟩
 ·omega
 have eg:∀args w,(callFunc 171 args).run Tryz.prog w= .ok (.enter 171 args) w:=enters_of Tryz.func171 (by kernel_rfl) rfl;have hB:Blk w g 191 cur:=hh;have hcell:∀t,t<n*2→cur[t]? =(pairCells l)[t]? :=fun t ht=>by rw [←htk,List.getElem?_take_of_lt ht,Array.getElem?_toList]
 have hH:Go.Sort.HoldsK encP 2 w g 0 l.toArray:=by intro t ht;simp only [Go.Sort.size_flatK,List.size_toArray]at ht;refine⟨?_,hB.frozen _⟩;rw [Nat.zero_add,hB.cell,hcell t (by omega)];have:=flatK_pairs l.toArray t (by simpa using ht);rw [←this,Array.getElem?_eq_getElem (by simpa using ht),getElem!_pos];rfl
 have hcon:=AnyQ.slices_SortFunc Tryz.sortPairs 2 Tryz.isAgg191 Tryz.sizeOf191 encP (fun _=>rfl) (fun x u hu=>by simp [encP]at hu;rcases hu with rfl |rfl<;>rfl) cfP swoP 171 #[] g 0 cap l.toArray w eg (cmpLaysP g 0 l.toArray.size w) hH hB.lt (by simp;omega);have e:l.toArray.size=n:=by simpa using hn
 rw [e]at hcon;refine Calls.mono (show Calls Tryz.prog 170 _ _ _ from hcon) ?_;rintro e' w' ⟨rfl,d',m,os,hp,hs,rfl⟩;refine⟨rfl,d'.toList,?_,?_,?_,?_⟩
 ·have:=hp.2.2;rw [show d'.extract 0 n=d' by rw [←e,←hp.1];simp,show l.toArray.extract 0 n=l.toArray by rw [←e];simp]at this;exact this
 ·refine List.pairwise_iff_getElem.2 fun i j hi hj hij=> ?_;have hsz:=hp.1;simp only [Array.length_toList]at hi hj;have:=hs i j (Nat.zero_le _) hij (by omega);rw [ltP,getElem!_pos d' j hj,getElem!_pos d' i hi]at this;simpa using this
 ·have hsz:d'.size=n:=by rw [hp.1,e]
  have hF:(Go.Sort.flatK encP 2 d').size=n*2:=by rw [Go.Sort.size_flatK,hsz]
  refine⟨by rw [pairCells_length,Array.length_toList,hsz],.inr ⟨g,cap,Go.Sort.putCells id 0 (Go.Sort.flatK encP 2 d') cur,rfl,hbs,?_,hnc,hcm,by simp [Go.Sort.putCells,hcs],?_⟩⟩
  ·have hgl:=hB.lt;show(w.heap.modify g (Go.Sort.onCells (Go.Sort.putCells id 0 (Go.Sort.flatK encP 2 d')))++os)[g]? =_;rw [Array.getElem?_append_left (by simpa using hgl),Array.getElem?_modify,if_pos rfl,hh];rfl
  ·apply List.ext_getElem?;intro t;by_cases ht:t<n*2
   ·rw [List.getElem?_take_of_lt ht,Array.getElem?_toList,←flatK_pairs d' t (by rw [hsz];exact ht)];have htc:t<cur.size:=by
     have:n*2≤cap*2:=Nat.mul_le_mul_right _ hnc;omega
    simp only [Go.Sort.putCells,Array.getElem?_mapIdx,Array.getElem?_eq_getElem htc,Option.map_some,Nat.zero_le,true_and,Nat.zero_add,Nat.sub_zero,id];rw [if_pos (by omega),Array.getElem?_eq_getElem (by omega),getElem!_pos]
   ·rw [List.getElem?_eq_none (by rw [List.length_take];omega),List.getElem?_eq_none (by rw [pairCells_length,Array.length_toList,hsz];omega)]
 ·have hgl:=hB.lt;refine⟨rfl,rfl,rfl,?_,fun i hi hn=> ?_⟩
  ·show w.heap.size≤(w.heap.modify g _++os).size;simp
  ·show(w.heap.modify g _++os)[i]? =_;rw [Array.getElem?_append_left (by simpa using hi),Array.getElem?_modify,if_neg];rintro rfl;exact hn (by simp [rowOf,Value.ownBlock])
end Go.Proofs.YtpmgepijkhaonaaGreat.T
namespace Go.Proofs.YtpmgepijkhaonaaGreat.T
open Go.RowKit Go.Sig
def xV (x:Pr):Value:= .agg #[.string x.1,.string x.2]
def WithOk (x:Pr) (f:Nat):Prop:=∀(w:World) (X:List Nat) (l:List Pr) (p:Value),NodeAt w X f l p→Rising l→Small l→l.length+1≤10000→(∀g∈X,g<w.heap.size)→
  Calls Tryz.prog 117 #[p,xV x,.agg ((pathOf x.1).map bv).toArray,.int .i64 (64 - f:Int)] w fun e w'=>∃p',e= .returned p'∧NodeAt w' X f (put x l) p'∧Fr [] w w'
theorem uPath:Tryz.prog.underlying 192=some (.array 32 5):=by kernel_rfl
theorem infoPathL {l:List UInt8}(h:l.length=32):(Tryz.prog.info? 192).map (·.size)=some (l.map bv).length:=by rw [List.length_map,h];kernel_rfl
theorem infoKidsA {ps:List Value}(h:ps.length=16):(Tryz.prog.info? 232).map (·.size)=some ps.toArray.size:=by rw [List.size_toArray,h];kernel_rfl
theorem node_form {w:World}{X:List Nat}{f:Nat}{l:List Pr}{p:Value}(hN:NodeAt w X f l p):p.oneCell'=true:=by
 rcases node_many hN with⟨_,rfl⟩ | ⟨_,g,_,_,_,rfl,_⟩<;>rfl
theorem node_ptr {w:World}{X:List Nat}{f:Nat}{l:List Pr}{p:Value}(hN:NodeAt w X f l p):∃A,p= .pointer A:=by
 rcases node_many hN with⟨_,rfl⟩ | ⟨_,g,_,_,_,rfl,_⟩
 ·exact⟨none,rfl⟩
 ·exact⟨_,rfl⟩
theorem getD_some {ps:List Value}{i:Nat}(h:i<ps.length):ps[i]? =some (ps.getD i undef):=by
 rw [List.getElem?_eq_getElem h];simp [List.getD,List.getElem?_eq_getElem h]
theorem setKid {ps:List Value}{i j:Nat}{v:Value}(hi:i<ps.length):(ps.set i v).getD j undef=if i=j then v else ps.getD j undef:=by
 simp only [List.getD,List.getElem?_set];by_cases e:i=j
 ·subst e;simp [hi]
 ·simp [e]
theorem kids_put {w:World}{X:List Nat}{f:Nat}{x:Pr}{l:List Pr}{ps:List Value}{v:Value}(hps:ps.length=16) (hr:Rising l) (hk:∀i,i<16→NodeAt w X f (kid f l i) (ps.getD i undef))
  (hv:NodeAt w X f (put x (kid f l (nib (pathOf x.1) (63 - f)))) v):∀i,i<16→NodeAt w X f (kid f (put x l) i) ((ps.set (nib (pathOf x.1) (63 - f)) v).getD i undef):=fun i hi=>by
 rw [setKid (by rw [hps];exact nib_lt _ _),kid_put hr];by_cases e:nib (pathOf x.1) (63 - f)=i
 ·rw [if_pos e,if_pos e,←e];exact hv
 ·rw [if_neg e,if_neg e];exact hk i hi
theorem small_kid {f k:Nat}{l:List Pr}(h:Small l):Small (kid f l k):=⟨fun y hy=>h.1 y (List.mem_filter.1 hy).1,Nat.le_trans (kid_length_le f l k) h.2⟩
theorem range_blk {w:World}{g:Nat}{t:TypeId}{l:List UInt8}(h:Blk w g t (digCells l)):w.rangeAt g 0 (l.map bv):=fun j v hv=>by
 rw [h.cell,Nat.zero_add];simpa [digCells]using hv
theorem cell_st {w:World}{b o:Nat}{v:Value}{g p:Nat}{u:Value}(hne:b≠g) (h:w.cell? ⟨b,o,none⟩=some v):(w.setCell ⟨g,p,none⟩ u).cell? ⟨b,o,none⟩=some v:=(((Fr.refl [g] w).setCell (p:=⟨g,p,none⟩) (by simp) u).cell (block_lt_of_cell h) (by simpa using hne)).trans h
theorem range_st {w:World}{b:Nat}{cs:List Value}{g p:Nat}{u:Value}(hne:b≠g) (h:w.rangeAt b 0 cs):(w.setCell ⟨g,p,none⟩ u).rangeAt b 0 cs:=fun j v hv=>cell_st hne (h j v hv)
theorem range_fr0 {w w':World}{g:Nat}{cs:List Value}(hf:Fr [] w w') (h:w.rangeAt g 0 cs):w'.rangeAt g 0 cs:=fun j v hv=>cell_fr hf (h j v hv)
set_option maxRecDepth 100000 in
set_option maxHeartbeats 4000000 in
theorem with_branch (x:Pr) (f:Nat) (hf64:f<64) (IH:WithOk x f) (w:World) (X:List Nat) (l:List Pr) (p:Value) (hN:NodeAt w X (f+1) l p) (h2:2≤l.length) (hr:Rising l) (hs:Small l) (hl:l.length+1≤10000) (hX:∀g∈X,g<w.heap.size):
  Calls Tryz.prog 117 #[p,xV x,.agg ((pathOf x.1).map bv).toArray,.int .i64 (64 - (f+1:Nat):Int)] w fun e w'=>∃p',e= .returned p'∧NodeAt w' X (f+1) (put x l) p'∧Fr [] w w':=by
 obtain⟨ps,⟨gq,kq,rfl,hgq,hkq,hBq,hKq,hps⟩,hkids⟩:=(node_branch h2).1 hN;have hplen:(pathOf x.1).length=32:=rfl;have hnlt:=nib_lt (pathOf x.1) (63 - f);obtain⟨D,HD⟩:∃z,Hid (pathOf x.1=z):=⟨_,zh rfl⟩
 have hdep:(64 - ((f+1:Nat):Int))=((63 - f:Nat):Int):=by omega
 rw [hdep];rw [HD.o]at hplen hnlt⊢;obtain⟨dp,HDP⟩:∃z,Hid (63 - f=z):=⟨_,zh rfl⟩
 have hdp:dp<64:=by have:=HDP.o;omega
 rw [HDP.o]at hnlt⊢;have c33:=(hBq.cell 33).trans (nodeCells_at (dig_length _ _)).2.1;have hql:=hBq.lt;have hkl:=hKq.lt;unfold xV;go_enter Tryz.func117,Tryz.ntmps117;go_upto_region 1 with(fail)
 refine wp_gen (fun W=>Blk W w.heap.size 191 #[.string x.1,.string x.2]∧Blk W (w.heap.size+1) 192 (digCells D)∧Fr [] w W) ⟨(Blk.new _ _ _).alloc _,Blk.new' _ _ (by simp),((Fr.refl _ _).alloc _).alloc _⟩ ?_;rintro W ⟨hBx,hBp,fW⟩;obtain⟨gx,HGX⟩:∃z,Hid (w.heap.size=z):=⟨_,zh rfl⟩
 rw [HGX.o]at hBx hBp⊢;obtain⟨gp,HGP⟩:∃z,Hid (gx+1=z):=⟨_,zh rfl⟩
 rw [HGP.o]at hBp⊢;have c33W:=cell_fr fW c33;have hKqW:=hKq.fr fW (by simp);clear c33;have hone:∀v∈ps,v.oneCell'=true:=by intro v hv;obtain⟨i,hi,rfl⟩:=List.mem_iff_getElem.1 hv;have:=node_form (hkids i (by omega));simpa [List.getD,List.getElem?_eq_getElem hi]using this
 have hone2:ps.toArray.all (·.oneCell')=true:=by rw [List.all_toArray,List.all_eq_true];exact hone
 go_upto_region 5 with(first
  | (refine wpList_load_at rfl 232 _ rfl rfl hKqW (sub_self _) tKidsU rfl (infoKids hps) ?_)
  | (refine wpList_store_row rfl 232 _ _ rfl W.heap.size ps.toArray rfl rfl 232 _ (Blk.new W 232 _) (infoKidsA hps) (by simp [hps]) hone2 ?_))
 refine wp_gen (fun W1=>Blk W1 W.heap.size 232 ps.toArray∧Blk W1 gx 191 #[.string x.1,.string x.2]∧Blk W1 gp 192 (digCells D)∧Fr [] W W1) ⟨Blk.setRow (Blk.new W 232 _) _,(hBx.alloc _).farRow (by have:=hBx.lt;omega) _,(hBp.alloc _).farRow (by have:=hBp.lt;omega) _,((Fr.refl _ _).alloc _).setRow (.inr (Nat.le_refl _)) _⟩ ?_;rintro W1 ⟨hK1,hBx1,hBp1,F1⟩;have f1:=fW.trans F1;have hgk0:w.heap.size≤W.heap.size:=fW.size;obtain⟨gK,HGK⟩:∃z,Hid (W.heap.size=z):=⟨_,zh rfl⟩
 rw [HGK.o]at hK1 hgk0⊢;have hgpK:gp<gK:=by have:=hBp.lt;have:=HGK.o;omega
 have hgxp:gx<gp:=by have:=HGP.o;omega
 clear hBx hBp fW F1 hKqW c33W;go_upto_region 6 with(first
  | (refine wpList_load_at rfl 192 _ rfl rfl hBp1 (digCells_sub D) uPath rfl (infoPathL hplen) ?_)
  | (go_at_call 164;refine(at_t _ D dp hplen hdp).mono ?_;rintro e W2 ⟨rfl,F2⟩))
 refine wp_gen (fun W2=>Blk W2 gK 232 ps.toArray∧Blk W2 gx 191 #[.string x.1,.string x.2]∧Blk W2 gp 192 (digCells D)∧Fr [] W1 W2) ⟨hK1.fr F2 (by simp),hBx1.fr F2 (by simp),hBp1.fr F2 (by simp),F2⟩ ?_;clear F2;rintro W2 ⟨hK2,hBx2,hBp2,F2⟩;have f2:=f1.trans F2;have hx1:=hBx2.cell 0;have hx2:=hBx2.cell 1;simp only [zG,zH,zI]at hx1 hx2;obtain⟨q,HQ⟩:∃z,Hid (nib D dp=z):=⟨_,zh rfl⟩
 rw [HQ.o]at hnlt⊢;have hck:W2.cell? ⟨gK,q,none⟩=some (ps.getD q undef):=by rw [hK2.cell,zG];exact getD_some (by omega)
 have hkids2:∀i,i<16→NodeAt W2 (gK::X) f (kid f l i) (ps.getD i undef):=fun i hi=>(hkids i hi).go ⟨f2,by simp,fun y hy=>(List.mem_cons.1 hy).elim (fun e=> .inr (by rw [e];exact hgk0)) .inl⟩;have hNq:=hkids2 q hnlt;have hq16:(q:Int)<16:=by omega
 have hform:=node_form hNq;have IHD:=IH W2.drew (gK::X) (kid f l q) (ps.getD q undef) (hNq.fr0 (Fr.refl [] W2).drew) (kid_rising hr) (small_kid hs) (by have:=kid_length_le f l q;omega) (fun g hg=>(List.mem_cons.1 hg).elim (fun e=>by rw [e];exact hK2.lt) (fun hg=>Nat.lt_of_lt_of_le (hX g hg) f2.size));rw [HD.o,show(64 - (f:Int))=(dp:Int)+1 by have:=HDP.o;omega]at IHD;unfold xV at IHD;obtain⟨pq,HPQ⟩:∃z,Hid (ps.getD q undef=z):=⟨_,zh rfl⟩
 rw [HPQ.o]at hck hNq IHD;have hxK:gx≠gK:=by omega
 have hpK:gp≠gK:=by omega
 have IHDh:=zh IHD;have hkids2h:=zh hkids2;have hkidsh:=zh hkids;have IHh:=zh IH;have hNqh:=zh hNq;clear IHD hkids2 hkids IH hNq;refine wp_region_held_drew (S:=fun w'=>w'.cell? ⟨gx,0,none⟩=some (.string x.1)∧w'.cell? ⟨gx,1,none⟩=some (.string x.2)∧w'.rangeAt gp 0 (D.map bv)) (by kernel_rfl) ⟨hx1,hx2,range_blk hBp2⟩ ?_;intro hHeld;refine wpAnyH_take (i:=0) (v:= ?_) rfl (by kernel_rfl) (by kernel_rfl) (by kernel_rfl) (fun _ _ _ h=>h) (Or.inl ⟨by rfl,?_⟩) hHeld ?_;rotate_left
 ·(intro w hSw;go_simp<;>with_reducible rfl)
 try simp only [Act.put,zD]
 refine wpAnyH_take (i:=1) (v:= ?_) rfl (by kernel_rfl) (by kernel_rfl) (by kernel_rfl) (fun _ _ _ h=>h) (Or.inl ⟨by rfl,?_⟩) hHeld ?_;rotate_left
 ·(intro w hSw;go_simp<;>with_reducible rfl)
 try simp only [Act.put]
 refine wpAnyH_take (i:=2) (v:= ?_) rfl (by kernel_rfl) (by kernel_rfl) (by kernel_rfl) (fun _ _ _ h=>h) (Or.inl ⟨by rfl,?_⟩) hHeld ?_;rotate_left
 ·(intro w hSw;go_simp<;>with_reducible rfl)
 try simp only [Act.put]
 refine wpAnyH_take (i:=4) (v:= ?_) rfl (by kernel_rfl) (by kernel_rfl) (by kernel_rfl) (fun _ _ _ h=>h) (Or.inl ⟨by rfl,?_⟩) hHeld ?_;rotate_left
 ·(intro w hSw;go_simp<;>with_reducible rfl)
 try simp only [Act.put]
 refine wpAnyH_take (i:=5) rfl (by kernel_rfl) (by kernel_rfl) (by kernel_rfl) (fun _ _ _ h=>h) (yieldsIf_load_mid (by rfl) 192 _ rfl gp 0 rfl (D.map bv) _ (fun w h=>h.2.2) uPath rfl (infoPathL hplen)) hHeld ?_;try simp only [Act.put]
 refine wpAnyH_take (i:=6) (v:= ?_) rfl (by kernel_rfl) (by kernel_rfl) (by kernel_rfl) (fun _ _ _ h=>h) (Or.inl ⟨by rfl,?_⟩) hHeld ?_;rotate_left
 ·(intro w hSw;go_simp<;>with_reducible rfl)
 try simp only [Act.put]
 refine wpAnyH_take (i:=7) (v:= ?_) rfl (by kernel_rfl) (by kernel_rfl) (by kernel_rfl) (fun _ _ _ h=>h) (Or.inl ⟨by rfl,?_⟩) hHeld ?_;rotate_left
 ·(intro w hSw;go_simp<;>with_reducible rfl)
 try simp only [Act.put]
 refine wpAnyH_ready (rs:= [3]) (by kernel_rfl) (by simp) ?_;refine AllReadyH.cons rfl (fun K hK=> ?_) AllReadyH.nil;go_simp;refine hK.out _ _ hHeld (fun hHeld=> ?_);clear hK K;try simp only [Act.put,zD,zE,zF]
 refine wpAnyH_ready (rs:= [8]) (by kernel_rfl) (by simp) ?_;refine AllReadyH.cons rfl (fun K hK=> ?_) AllReadyH.nil;go_simp;go_wp2_with fail
 rw [show IntKind.i64.wrap ((dp:Int)+1)=(dp:Int)+1 by rw [IntKind.wrap_i64];omega];refine IHDh.o.mono ?_;rintro e W3 ⟨p3,rfl,hN3,F3⟩;have F3':Fr [] W2 W3:=F3.of_drew;have hK3:=hK2.fr F3' (by simp);have hck3:W3.cell? ⟨gK,q,none⟩=some pq:=cell_fr F3' hck;have hz3:=hK3.frozen q;have hgK3:=hK3.lt;obtain⟨A3,rfl⟩:=node_ptr hN3;dsimp only;refine hK.out _ _ ⟨cell_fr F3' hx1,cell_fr F3' hx2,range_fr0 F3' (range_blk hBp2)⟩ (fun hHeld=> ?_);clear hK K IHDh;try simp only [Act.put,zD,zE,zF]
 refine wpAnyH_take (i:=9) (v:= ?_) rfl (by kernel_rfl) (by kernel_rfl) (by kernel_rfl) (fun _ _ _ h=>h) (Or.inl ⟨by rfl,?_⟩) hHeld ?_;rotate_left
 ·(intro w hSw;go_simp<;>with_reducible rfl)
 try simp only [Act.put,zD]
 refine wpAnyH_ready (rs:= [10]) (by kernel_rfl) (by simp) ?_;refine AllReadyH.cons rfl (fun K hK=> ?_) AllReadyH.nil;go_simp;refine hK.out _ _ ⟨cell_st hxK (cell_fr F3' hx1),cell_st hxK (cell_fr F3' hx2),range_st hpK (range_fr0 F3' (range_blk hBp2))⟩ (fun hHeld=> ?_);clear hK K;refine wpAnyH_done (by kernel_rfl) ?_ _;clear hx1 hx2 hBx2 hBp2 hBx1 hBp1 hHeld;go_upto_region 7 with(fail)
 refine wp_gen (fun W4=>Blk W4 gK 232 (ps.set q (.pointer A3)).toArray∧Fr [gK] W3 W4) ⟨?_,(Fr.refl _ _).setCell (p:=⟨gK,q,none⟩) (.inl (by simp)) _⟩ ?_
 ·have:=hK3.set q (.pointer A3);rwa [zD]at this
 rintro W4 ⟨hK4,F4⟩;have f4:Fr [] w W4:=(f2.trans F3').andThen F4 (fun z hz=> .inr (by simp at hz;omega));have hps4:(ps.set q (.pointer A3)).length=16:=by rw [List.length_set,hps]
 have hk4:∀i,i<16→NodeAt W4 (gK::X) f (kid f (put x l) i) ((ps.set q (.pointer A3)).getD i undef):=by
  have hq:q=nib (pathOf x.1) (63 - f):=by rw [HD.o,HDP.o,HQ.o]
  have hgo:∀{lz:List Pr}{z:Value},NodeAt W3 (gK::X) f lz z→NodeAt W4 (gK::X) f lz z:=fun h=>h.fr F4 (fun s hs=> .inl (by simp at hs;simp [hs]));rw [hq]at hN3⊢;exact kids_put hps hr (fun i hi=>hgo ((hkids2h.o i hi).fr0 F3')) (hgo hN3)
 have hpl:(put x l).length≤10000:=by have:=put_length_le x l;omega
 have hbr:=branch_t W4 (gK::X) f (put x l) (ps.set q (.pointer A3)) hps4 hk4 (fun g hg=>(List.mem_cons.1 hg).elim (fun e=>by rw [e];exact hK4.lt) (fun hg=>Nat.lt_of_lt_of_le (hX g hg) f4.size)) hpl;have h16:(Tryz.prog.info? 232).map (·.size)=some (ps.set q (.pointer A3)).toArray.toList.length:=by rw [Array.length_toList,List.size_toArray,hps4];kernel_rfl
 clear hkidsh hkids2h hk4 hN3 hNqh;go_wp2_with (first | (refine wpList_load_at rfl 232 _ rfl rfl hK4 (sub_self _) tKidsU rfl h16 ?_;rw [Array.toArray_toList]) | (go_at_call 166;refine hbr.mono ?_;rintro e W5 ⟨p5,rfl,hN5,F5⟩))
 go_ret;exact⟨_,rfl,hN5.go ⟨Fr.refl [] _,by simp,fun y hy=> .inl (List.mem_cons_of_mem _ hy)⟩,f4.trans F5⟩
end Go.Proofs.YtpmgepijkhaonaaGreat.T
namespace Go.Proofs.YtpmgepijkhaonaaGreat.T
open Go.RowKit Go.Sig
set_option maxRecDepth 100000 in
set_option maxHeartbeats 1000000 in
theorem with_nil (x:Pr) (hsx:x.1.size≤100000∧x.2.size≤100000) (f:Nat) (w:World) (X:List Nat) (d:Int) (hX:∀g∈X,g<w.heap.size):
  Calls Tryz.prog 117 #[nilP,xV x,.agg ((pathOf x.1).map bv).toArray,.int .i64 d] w fun e w'=>∃p',e= .returned p'∧NodeAt w' X f (put x []) p'∧Fr [] w w':=by
 obtain⟨D,HD⟩:∃z,Hid (pathOf x.1=z):=⟨_,zh rfl⟩
 rw [HD.o];unfold xV nilP;go_enter Tryz.func117,Tryz.ntmps117;go_upto_region 1 with(fail)
 refine wp_gen (fun W=>Blk W w.heap.size 191 #[.string x.1,.string x.2]∧Fr [] w W) ⟨(Blk.new _ _ _).alloc _,((Fr.refl _ _).alloc _).alloc _⟩ ?_;rintro W ⟨hBx,fW⟩;have hx1:=hBx.cell 0;have hx2:=hBx.cell 1;simp only [zG,zH,zI]at hx1 hx2;have hR:Rd (W.alloc (.cells #[.string x.1,.string x.2] 191)) 2 (some ⟨W.heap.size,0,none⟩) 1 (pairCells [x]):=⟨rfl,fun _=>⟨_,0,rfl,fun j v hv=>by
  rw [Nat.zero_add,(Blk.new W 191 _).cell];simpa [pairCells]using hv⟩⟩
 have FA:Fr [] W (W.alloc (.cells #[.string x.1,.string x.2] 191)):=(Fr.refl _ _).alloc _;have hl:=laid1_t _ X _ 1 x hR (Nat.le_refl _) (fun g hg=>Nat.lt_of_lt_of_le (hX g hg) (Nat.le_trans fW.size FA.size)) (by
  intro ad e hx;cases e
  exact absurd (hX W.heap.size hx) (by have:=fW.size;omega)) ⟨fun y hy=>by simp at hy;rw [hy];exact hsx,by simp⟩
 go_wp2_with (go_at_call 165;refine hl.mono ?_;rintro e W2 ⟨p2,rfl,hL,F2⟩)
 go_ret;refine⟨_,rfl,?_,fW.trans (FA.trans F2)⟩;show NodeAt W2 X f [x] p2;rw [node_one];exact hL
theorem sorted_rising {l:List Pr}(h:Sorted l) (hn:(l.map (·.1)).Nodup):Rising l:=by
 rw [List.nodup_iff_pairwise_ne,List.pairwise_map]at hn;refine List.Pairwise.imp₂ (fun a b h1 h2=> ?_) h hn;exact(bl_total h2).resolve_right (by rw [h1];simp)
theorem sorted_put {x:Pr}{l l':List Pr}(hr:Rising l) (hp:l'.Perm (del x.1 l++ [x])) (hs:Sorted l'):l'=put x l:=by
 have h1:l'.Perm (put x l):=hp.trans (put_perm hr).symm;exact rising_ext (sorted_rising hs ((h1.map (·.1)).nodup_iff.2 (rising_nodup (put_rising hr)))) (put_rising hr) h1
theorem own_cap {w:World}{e size n c:Nat}{A:Option Addr}{xs:List Value}(h:Own w e size (.slice A n c) n xs):n≤c:=by
 rcases h.2 with⟨hv,h0⟩ | ⟨g,cap,cur,hv,_,_,h1,_⟩
 ·omega
 ·injection hv with _ _ h3
  rw [h3];exact h1
theorem laid_t (w:World) (X:List Nat) (f:Nat) (A:Option Addr) (n c:Nat) (l:List Pr) (hR:Rd w 2 A n (pairCells l)) (hn:l.length=n) (hf:2≤n→f=0) (hc:n≤c) (hX:∀x∈X,x<w.heap.size) (hA:0<n→Off X A) (hs:Small l):
  Calls Tryz.prog 165 #[.slice A n c] w fun e w'=>∃p,e= .returned p∧NodeAt w' X f l p∧Fr [] w w':=by
 match l,hn,hR,hs with
 | [],hn,hR,hs=>simp at hn;subst hn;exact(laid0_t w A c).mono fun e w' ⟨he,hF⟩=>⟨_,he,node_nil.2 rfl,hF⟩
 | [y],hn,hR,hs=>simp at hn;subst hn;exact(laid1_t w X A c y hR hc hX (hA (by decide)) hs).mono fun e w' ⟨p,he,hL,hF⟩=>⟨p,he,node_one.2 hL,hF⟩
 |y::z::l,hn,hR,hs=>
  have h2:2≤n:=by rw [←hn];simp
  obtain rfl:=hf h2;exact(laidN_t w X A n c _ hR hn h2 hc hX (hA (by omega)) hs).mono fun e w' ⟨p,he,hL,hF⟩=>⟨p,he,(node_leaf (by simp)).2 hL,hF⟩
set_option maxRecDepth 100000 in
set_option maxHeartbeats 4000000 in
theorem with_leaf (x:Pr) (hsx:x.1.size≤100000∧x.2.size≤100000) (f:Nat) (hf64:f≤64) (w:World) (X:List Nat) (l:List Pr) (p:Value) (D0:List UInt8) (hL:LeafAt w X D0 l p) (hD0:D0.length=32) (h0:l≠ []) (hcase:(∃y,l= [y]∧y.1=x.1)∨f=0) (hr:Rising l) (hs:Small l) (hl:l.length+1≤10000) (hX:∀g∈X,g<w.heap.size):
  Calls Tryz.prog 117 #[p,xV x,.agg ((pathOf x.1).map bv).toArray,.int .i64 (64 - f:Int)] w fun e w'=>∃p',e= .returned p'∧NodeAt w' X f (put x l) p'∧Fr [] w w':=by
 obtain⟨g,A,c,rfl,hg,hB,hR,hc,hA⟩:=hL;have hn0:0<l.length:=List.length_pos_iff.2 h0;obtain⟨n,hn⟩:∃n,l.length=n:=⟨_,rfl⟩
 rw [hn]at hB hR hc hA hn0 hl;obtain⟨b,o,rfl,hcell⟩:=hR.2 hn0;have c32:=(hB.cell 32).trans (nodeCells_at hD0).1;have c33:=(hB.cell 33).trans (nodeCells_at hD0).2.1;have hgl:=hB.lt;unfold nilP at c33;obtain⟨D,HD⟩:∃z,Hid (pathOf x.1=z):=⟨_,zh rfl⟩
 have hdep:(64 - (f:Int))=((64 - f:Nat):Int):=by omega
 rw [hdep,HD.o];obtain⟨dp,HDP⟩:∃z,Hid (64 - f=z):=⟨_,zh rfl⟩
 rw [HDP.o];obtain⟨y,hy0⟩:∃y,l[0]? =some y:=⟨l[0],List.getElem?_eq_getElem (by omega)⟩
 have hcn:=hcell 0 (.string y.1) (by
  cases l with
  |nil=>simp at hy0
  |cons a l=>simp at hy0;rw [hy0];rfl)
 rw [Nat.add_zero]at hcn;have hbl:b<w.heap.size:=block_lt_of_cell hcn;have htest:((n:Int)==1)=false∨(((n:Int)==1)=true∧(y.1.toList==x.1.toList)=true)∨(((n:Int)==1)=true∧(y.1.toList==x.1.toList)=false∧decide ((dp:Int)<64)=false):=by
  cases h1:((n:Int)==1)with
  |false=>exact .inl rfl
  |true=>
   right;cases h2:(y.1.toList==x.1.toList)with
   |true=>exact .inl ⟨rfl,rfl⟩
   |false=>
    refine .inr ⟨rfl,rfl,?_⟩;rcases hcase with⟨z,hz,hzx⟩ |hz
    ·rw [hz]at hy0;simp at hy0;rw [←hy0,hzx]at h2;simp at h2
    ·have:=HDP.o;simp;omega
 unfold xV;go_enter Tryz.func117,Tryz.ntmps117;go_upto_region 1 with(fail)
 refine wp_gen (fun W=>Blk W w.heap.size 191 #[.string x.1,.string x.2]∧Fr [] w W) ⟨(Blk.new _ _ _).alloc _,((Fr.refl _ _).alloc _).alloc _⟩ ?_;rintro W ⟨hBx,fW⟩;have hx1:=hBx.cell 0;have hx2:=hBx.cell 1;simp only [zG,zH,zI]at hx1 hx2;have c32W:=cell_fr fW c32;have c33W:=cell_fr fW c33;have hcnW:=cell_fr fW hcn;have hRW:=Rd.fr hR fW (by simp [Off]);obtain⟨gx,HGX⟩:∃z,Hid (w.heap.size=z):=⟨_,zh rfl⟩
 rw [HGX.o]at hx1 hx2 hBx hgl hbl⊢;have hcaseh:=zh hcase;clear c32 c33 hcn hcell hR hcase;have hbp:(0:Int)<n:=by omega
 rcases htest with h1 | ⟨h1,h2⟩ | ⟨h1,h2,h3⟩
 all_goals
  go_upto_region 8 with(fail)
  go_quiet (fail)
  go_upto_region 15 with(fail)
 all_goals
  refine wp_gen (fun W1=>Fr [] W W1) ((Fr.refl _ _).drewN _) ?_;rintro W1 FW1;have f1:=fW.trans FW1;have hBx1:=hBx.fr FW1 (by simp);have hR1:=Rd.fr hRW FW1 (by simp [Off]);have c32V:=cell_fr FW1 c32W;have hgxl:=hBx1.lt;have hX1:∀z∈X,z<gx:=fun z hz=>by rw [←HGX.o];exact hX z hz
  clear hBx hRW c32W c33W hcnW hx1 hx2 FW1 fW;have hclone:=clone_t W1 ⟨b,o,none⟩ n c (pairCells l) hR1 (pairCells_one l) (by omega);go_wp2_with fail
  refine hclone.mono ?_;rintro e W2 ⟨v2,rfl,hO2,F2,hrow2⟩;have hBx2:=hBx1.fr F2 (by simp);have hxc:W2.cell? ⟨gx,0,none⟩=some (.string x.1):=by rw [hBx2.cell];rfl
  have eg:∀args w,(callFunc 169 args).run Tryz.prog w= .ok (.enter 169 args) w:=enters_of Tryz.func169 (by kernel_rfl) rfl;have hdel:=delf_t W2 169 gx x.1 (with1_p gx x.1) eg hxc v2 n l hO2 hn (by omega) (fun hm=>by have:=hrow2 gx hm;omega);clear hclone hR1 hBx1 eg hxc c32V;go_wp2_with fail
  refine hdel.mono ?_;rintro e W3 ⟨v3,rfl,hO3,hrow3,F3⟩;have hgx2:gx∉rowOf v2:=fun hm=>by have:=hrow2 gx hm;omega
  have hBx3:=hBx2.fr F3 hgx2;have hy1:=hBx3.cell 0;have hy2:=hBx3.cell 1;simp only [zG,zH,zI]at hy1 hy2;obtain⟨m,hm⟩:∃m,Hid ((del x.1 l).length=m):=⟨_,zh rfl⟩
  have hml:m≤n:=by rw [←hm.o,←hn];exact List.length_filter_le _ _
  rw [hm.o]at hO3;have F23:Fr (rowOf v2) W1 W3:=F2.nil.trans F3;clear hdel hBx2 hO2 F2 F3;go_upto_region 16 with(fail)
  have hFA:Fr [] W3 (W3.alloc (.cells #[.string x.1,.string x.2] 191)):=(Fr.refl _ _).alloc _;have hRx:Rd (W3.alloc (.cells #[.string x.1,.string x.2] 191)) 2 (some ⟨W3.heap.size,0,none⟩) 1 (pairCells [x]):=⟨rfl,fun _=>⟨_,0,rfl,fun j u hu=>by
   rw [Nat.zero_add,(Blk.new W3 191 _).cell];simpa [pairCells]using hu⟩⟩
  have hO3a:=hO3.fr hFA (by simp);go_upto_region 17 with(refine wpList_own_append tPairs hO3a hRx (pairCells_one [x]) (by simp) (by unfold maxLen;omega) (by omega) rfl rfl rfl rfl (fun v4 W4 hO4 F4 hrow4=> ?_))
  rw [←pairCells_append]at hO4;have hsort:=sort_t W4 v4 (m+1) (del x.1 l++ [x]) hO4 (by rw [List.length_append,hm.o];rfl) (by omega) (by omega);have F14:Fr (rowOf v2) W1 W4:=(F23.trans hFA.nil).andThen F4 (fun z hz=> .inl (by rw [hrow3]at hz;exact hz));have hW13:=F23.size;have hW3A:W3.heap.size≤(W3.alloc (.cells #[.string x.1,.string x.2] 191)).heap.size:=hFA.size;have hr4:∀z∈rowOf v4,W1.heap.size≤z:=fun z hz=>by
   rcases hrow4 z hz with h |h
   ·rw [hrow3]at h;exact hrow2 z h
   ·omega
  clear hO3 hO3a hRx hFA hy1 hy2 hBx3 F23 F4 hO4 hrow4;go_wp2_with fail
  refine hsort.mono ?_;rintro e W5 ⟨rfl,l',hperm,hsrt,hO5,F5⟩;have hl':=sorted_put hr hperm hsrt;subst hl';obtain⟨A5,c5,rfl,hA5⟩:=hO5.form;have hlen5:=hO5.length;rw [pairCells_length]at hlen5;have F15:Fr [] W1 W5:=(F14.andThen (T:=rowOf (.slice A5 (m+1) c5)) F5 (fun z hz=> .inr (hr4 z hz))).mono' (fun z hz=> .inr (hrow2 z hz));have hsm:Small (put x l):=⟨fun z hz=>(mem_put hz).elim (fun e=>by rw [e];exact hsx) (hs.1 z),by have:=put_length_le x l;omega⟩
  have hlaid:=laid_t W5 X f A5 (m+1) c5 (put x l) hO5.rd (by omega) (fun h2=>by
   rcases hcaseh.o with⟨z,hz,hzx⟩ |hz
   ·exfalso;have:(put x l).length=1:=by rw [hz];simp [put,hzx]
    omega
   ·exact hz) (own_cap hO5) (fun z hz=>by have:=hX1 z hz;have:=F15.size;omega) (fun _ ad e hz=>by
   have h1:=hr4 ad.block (by simp [rowOf,Value.ownBlock,e]);have h2:=hX1 _ hz;omega) hsm
  clear hsort hO5 F14 F5;go_wp2_with (go_at_call 165;refine hlaid.mono ?_;rintro e W6 ⟨p6,rfl,hN6,F6⟩)
  go_ret;exact⟨_,rfl,hN6,f1.trans (F15.trans F6)⟩
end Go.Proofs.YtpmgepijkhaonaaGreat.T
