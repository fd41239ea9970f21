/- Walks: an answer that says why not; a family falls; the token of a number; tokens more. Conditions: each theorem's own. -/
import Derived.Test.YtpmgepijkhaonaaGreatGt
import Derived.Test.YtpmgepijkhaonaaGreatIy
import Derived.Test.YtpmgepijkhaonaaGreatRow
namespace Go.Proofs.YtpmgepijkhaonaaGreat
open Go.RowKit Go.Sig
theorem setCells_blk2 {g:Nat}{t:TypeId}:∀(vs:List Value) (o:Nat) (w:World) (cs:Array Value),Blk w g t cs→o+vs.length≤cs.size→Blk (w.setCells g o vs) g t (laid cs o vs)
 | [],o,w,cs,h,_=>by
  have e:laid cs o []=cs:=by simp [laid]
  rw [e];exact h
 |v::vs,o,w,cs,h,hl=>by
  simp only [List.length_cons]at hl;have:=setCells_blk2 vs (o+1) (w.setCell ⟨g,o,none⟩ v) (cs.setIfInBounds o v) (h.set o v) (by simp;omega);have e:laid (cs.setIfInBounds o v) (o+1) vs=laid cs o (v::vs):=by
   apply Array.ext_getElem?;intro k;rw [laid_get (by simp;omega),laid_get (by simp;omega)];simp only [List.length_cons,Array.getElem?_setIfInBounds];by_cases hk:k=o
   ·subst hk;rw [if_neg (by omega),if_pos rfl,if_pos (by omega),if_pos (by omega),Nat.sub_self];rfl
   ·by_cases hk2:o≤k∧k<o+(vs.length+1)
    ·rw [if_pos (by omega),if_pos hk2,show k - o=(k - (o+1))+1 by omega];rfl
    ·rw [if_neg (by omega),if_neg hk2,if_neg (by omega)]
  rw [e]at this;exact this
theorem setCells_fr2 {g:Nat}:∀(vs:List Value) (o:Nat) (w:World),Fr [g] w (w.setCells g o vs)
 | [],o,w=>Fr.refl _ _
 |v::vs,o,w=>((Fr.refl [g] w).setCell (p:=⟨g,o,none⟩) (by simp) v).trans (setCells_fr2 vs (o+1) _)
theorem own_blk {w:World}{g n c e size:Nat}{cur:Array Value}{xs:List Value}(h:Blk w g e cur) (hn:n≤c) (hc:c≤maxLen) (hs:cur.size=c*size) (hl:xs.length=n*size) (hx:∀(j:Nat) (v:Value),xs[j]? =some v→cur[j]? =some v):
  Own w e size (.slice (some ⟨g,0,none⟩) n c) n xs:=by
 refine⟨hl,.inr ⟨g,c,cur,rfl,Nat.zero_le _,h,hn,hc,hs,?_⟩⟩;apply List.ext_getElem?;intro j;by_cases hj:j<n*size
 ·rw [List.getElem?_take_of_lt hj,Array.getElem?_toList,List.getElem?_eq_getElem (by omega)];exact hx j _ (List.getElem?_eq_getElem (by omega))
 ·rw [List.getElem?_eq_none (by rw [List.length_take];omega),List.getElem?_eq_none (by omega)]
def InsPost (w:World) (A:Option Addr) (n:Nat) (ls:List Int) (e:Ending) (w':World):Prop:=
 ∃A' c',e= .returned (.slice A' n c')∧Own w' 3 1 (.slice A' n c') n (intCells ls)∧Fr (rowOf (.slice A n 0)) w w'∧(A'=A∨From w.heap.size A')
theorem ins_t (w:World) (A:Option Addr) (n c i:Nat) (ls:List Int) (x:Int) (vb vc:Nat) (hO:Own w 3 1 (.slice A n c) n (intCells ls)) (hn:ls.length=n) (hi:i≤n) (hmax:n≤1000) (hV:Blk w vb 3 #[.int .i64 x]) (hvb:∀ad,A=some ad→ad.block≠vb):
  Calls Tryz.prog 182 #[.slice A n c,.int .i64 i,.slice (some ⟨vb,0,none⟩) 1 vc] w (InsPost w A (n+1) (ls.take i++x::ls.drop i)):=by
 have hvs:∀j v,[Value.int .i64 x][j]? =some v→w.cell? ⟨vb,0+j,none⟩=some v:=fun j v hj=>by rw [Nat.zero_add,hV.cell,zG];exact hj
 have hone:∀v∈ [Value.int .i64 x],v.oneCell'=true:=fun v hv=>by rw [List.mem_singleton]at hv;subst hv;rfl
 have hcl:(intCells ls).length=n:=(intCells_length ls).trans hn;have hcells:intCells (ls.take i++x::ls.drop i)=(intCells ls).take i++Value.int .i64 x::(intCells ls).drop i:=by unfold intCells;rw [List.map_append,List.map_cons,List.map_take,List.map_drop]
 have hlen:(intCells (ls.take i++x::ls.drop i)).length=(n+1)*1:=by rw [intCells_length,List.length_append,List.length_cons,List.length_take,List.length_drop];omega
 have hend:i=n→intCells (ls.take i++x::ls.drop i)=intCells ls++ [Value.int .i64 x]:=fun e=>by rw [hcells,List.take_of_length_le (by omega),List.drop_eq_nil_of_le (by omega)]
 rcases hO.2 with⟨hv,h0⟩ | ⟨g,cap,cur,hv,_,hh,hnc,hcm,hcs,htk⟩
 ·injection hv with hv1 hv2 hv3
  subst hv1 hv2 hv3;obtain rfl:i=0:=by omega
  obtain rfl:=List.eq_nil_of_length_eq_zero hn;refine(Go.Proofs.Any2.slices_Insert_int_end_grow Tryz.laysIns none 0 0 vb 0 1 vc [] [.int .i64 x] w (by omega) (by omega) (by omega) (by omega) rfl rfl (fun _=>rfl) (fun a e=>by cases e) hvs hone).mono ?_;rintro e w' ⟨rfl,rfl⟩;refine⟨_,_,rfl,?_,((Fr.refl _ _).drew).alloc _,.inr (fun ad e=>by cases e;exact Nat.le_refl _)⟩;have hge:=grownCap_ge w (0+1) 0 3;refine own_blk (Blk.new w.drew 3 _) hge (grownCap_le_maxLen w (0+1) 0 3 (by unfold maxLen;omega)) ?_ hlen ?_
  ·have hz2:=size_zeroCells (Value.int .i64 0).cells (grownCap w (0+1) 0 3 - (0+1));have hzc:(Value.int .i64 0).cells.size=1:=rfl;rw [hzc,Nat.mul_one]at hz2;show((([]++ [Value.int .i64 x]).toArray++Builtin.zeroCells (Value.int .i64 0).cells (grownCap w (0+1) 0 3 - (0+1)))).size=grownCap w (0+1) 0 3*1;rw [Array.size_append,hz2,Nat.mul_one];show 1+_=_;omega
  ·intro j v hj;have hj1:=(List.getElem?_eq_some_iff.1 hj).1;rw [hlen]at hj1;rw [hend rfl]at hj;rw [Array.getElem?_append_left (by simp;omega),zG];exact hj
 ·injection hv with hv1 hv2 hv3
  subst hv1 hv3;have hB:Blk w g 3 cur:=hh;have hgv:g≠vb:=hvb _ rfl;have hcur:∀j v,(intCells ls)[j]? =some v→cur[j]? =some v:=fun j v hj=>by have hj1:=(List.getElem?_eq_some_iff.1 hj).1;rw [←htk,List.getElem?_take_of_lt (by omega),Array.getElem?_toList]at hj;exact hj
  have hcell:∀j v,(intCells ls)[j]? =some v→w.cell? ⟨g,0+j,none⟩=some v:=fun j v hj=>by rw [Nat.zero_add,hB.cell];exact hcur j v hj
  have hspare:∀j,j<c→(w.cell? ⟨g,j,none⟩).isSome=true:=fun j hj=>by rw [hB.cell,Array.getElem?_eq_getElem (by omega)];rfl
  have hge:=grownCap_ge w (n+1) c 3;have hgm:=grownCap_le_maxLen w (n+1) c 3 (by unfold maxLen;omega);rcases Nat.lt_or_ge i n with hlt |hge2
  ·rcases Nat.lt_or_ge c (n+1)with hc1 |hc1
   ·refine(Go.Proofs.Any2.slices_Insert_int_grow Tryz.laysIns g 0 n c i vb 0 1 vc (intCells ls) [.int .i64 x] w hlt (by omega) hnc hc1 (by omega) hcl rfl hcell hvs (intCells_one ls) hone).mono ?_;rintro e w' ⟨rfl,rfl⟩;have hz1:=size_zeroCells (Value.int .i64 0).cells (n+1 - i);have hz2:=size_zeroCells (Value.int .i64 0).cells (grownCap w (n+1) c 3 - (n+1));have hzc:(Value.int .i64 0).cells.size=1:=rfl;rw [hzc,Nat.mul_one]at hz1 hz2;generalize hZ1:Builtin.zeroCells (Value.int .i64 0).cells (n+1 - i)=Z1 at hz1;generalize hZ2:Builtin.zeroCells (Value.int .i64 0).cells (grownCap w (n+1) c 3 - (n+1))=Z2 at hz2;have e1:Builtin.zeroCells (Value.int .i64 0).cells (grownCap w (n+1) c (Tryz.laysIns_ren.t 3) - (n+1))=Z2:=hZ2;have hsz:(((intCells ls).take i).toArray++Z1++Z2).size=grownCap w (n+1) c 3:=by
     simp only [Array.size_append,List.size_toArray,List.length_take,hz1,hz2,hcl];omega
    have hB1:=Blk.new w 3 (((intCells ls).take i).toArray++Z1++Z2);have hB2:=setCells_blk2 [.int .i64 x] i _ _ hB1.drew (by rw [hsz];simp;omega);have hsz2:(laid (((intCells ls).take i).toArray++Z1++Z2) i [.int .i64 x]).size=grownCap w (n+1) c 3:=by rw [laid_size (by rw [hsz];simp;omega),hsz]
    have hdl:((intCells ls).drop i).length=n - i:=by rw [List.length_drop,hcl]
    have hB3:=setCells_blk2 ((intCells ls).drop i) (i+1) _ _ hB2.drew (by rw [hsz2,hdl];omega);have hF:Fr [] w ((((w.alloc (.cells (((intCells ls).take i).toArray++Z1++Z2) 3)).drew.setCells w.heap.size i [.int .i64 x]).drew).setCells w.heap.size (i+1) ((intCells ls).drop i)):=
     (((((Fr.refl [] w).alloc _).drew).andThen (setCells_fr2 _ _ _) (fun z hz=> .inr (by simp at hz;omega))).drew).andThen (setCells_fr2 _ _ _) (fun z hz=> .inr (by simp at hz;omega))
    rw [e1];refine⟨_,_,rfl,own_blk hB3 hge hgm ?_ hlen ?_,hF.nil,.inr (fun ad e=>by cases e;exact Nat.le_refl _)⟩
    ·rw [laid_size (by rw [hsz2,hdl];omega),hsz2,Nat.mul_one];rfl
    ·intro j v hj;have hj1:=(List.getElem?_eq_some_iff.1 hj).1;rw [hlen]at hj1;rw [hcells]at hj;rw [laid_get (by rw [hsz2,hdl];omega),hdl];have htl:((intCells ls).take i).length=i:=by rw [List.length_take,hcl];omega
     by_cases h1:j<i
     ·rw [if_neg (by omega),laid_get (by rw [hsz];simp;omega),if_neg (by simp;omega),Array.getElem?_append_left (by simp [hz1,hcl];omega),Array.getElem?_append_left (by simp [hcl];omega),zG];rw [List.getElem?_append_left (by omega)]at hj;exact hj
     ·rw [List.getElem?_append_right (by omega),htl]at hj;by_cases h2:j=i
      ·subst h2;rw [Nat.sub_self]at hj;rw [if_neg (by omega),laid_get (by rw [hsz];simp;omega),if_pos (by simp),Nat.sub_self];exact hj
      ·rw [if_pos (by omega)];rw [show j - i=(j - (i+1))+1 by omega]at hj;exact hj
   ·refine(Go.Proofs.Any2.slices_Insert_int_shift Tryz.laysIns g 0 n c i vb 0 1 vc (intCells ls) [.int .i64 x] w hlt (by omega) hc1 (by unfold maxLen at hcm;omega) (fun e=>hgv e.symm) hcl rfl hcell (fun j hj=>by rw [Nat.zero_add];exact hspare j (by omega)) (fun j _=>hB.frozen _) hvs (intCells_one ls) hone 3 3 1 cur.size
     (by unfold World.shape?;rw [show w.heap[vb]? =_ from hV];rfl) (by unfold World.shape?;rw [show w.heap[g]? =_ from hB]) (by omega) (hV.frozen _) (hV.frozen _)).mono ?_
    rintro e w' ⟨rfl,rfl⟩;have hdl:((intCells ls).drop i).length=n - i:=by rw [List.length_drop,hcl]
    have hB2:=setCells_blk2 ((intCells ls).drop i) (0+(i+1)) w.drew cur hB.drew (by rw [hdl];omega);have hsz2:(laid cur (0+(i+1)) ((intCells ls).drop i)).size=cur.size:=laid_size (by rw [hdl];omega);have hB3:=setCells_blk2 [.int .i64 x] (0+i) _ _ hB2 (by rw [hsz2];simp;omega);refine⟨_,_,rfl,own_blk hB3 hc1 hcm ?_ hlen ?_,?_,.inl rfl⟩
    ·rw [laid_size (by rw [hsz2];simp;omega),hsz2,hcs]
    ·intro j v hj;have hj1:=(List.getElem?_eq_some_iff.1 hj).1;rw [hlen]at hj1;rw [hcells]at hj;have htl:((intCells ls).take i).length=i:=by rw [List.length_take,hcl];omega
     rw [laid_get (by rw [hsz2];simp;omega)];by_cases h1:j<i
     ·rw [if_neg (by simp;omega),laid_get (by rw [hdl];omega),if_neg (by omega)];rw [List.getElem?_append_left (by omega),List.getElem?_take_of_lt h1]at hj;exact hcur j v hj
     ·rw [List.getElem?_append_right (by omega),htl]at hj;by_cases h2:j=i
      ·subst h2;rw [Nat.sub_self]at hj;rw [if_pos (by simp),Nat.zero_add,Nat.sub_self];exact hj
      ·rw [if_neg (by simp;omega),laid_get (by rw [hdl];omega),if_pos (by rw [hdl];omega)];rw [show j - i=(j - (0+(i+1)))+1 by omega]at hj;exact hj
    ·rw [rowOf_some];exact((Fr.refl [g] w).drew.trans (setCells_fr2 _ _ _)).trans (setCells_fr2 _ _ _)
  ·obtain rfl:i=n:=by omega
   rcases Nat.lt_or_ge c (i+1)with hc1 |hc1
   ·refine(Go.Proofs.Any2.slices_Insert_int_end_grow Tryz.laysIns (some ⟨g,0,none⟩) i c vb 0 1 vc (intCells ls) [.int .i64 x] w (by omega) hnc hc1 (by omega) hcl rfl (fun e=>by cases e) (fun a e j v hj=>by cases e;rw [Addr.add_lit];exact hcell j v hj) hvs hone).mono ?_;rintro e w' ⟨rfl,rfl⟩;refine⟨_,_,rfl,own_blk (Blk.new w.drew 3 _) hge hgm ?_ hlen ?_,((Fr.refl _ _).drew).alloc _,.inr (fun ad e=>by cases e;exact Nat.le_refl _)⟩
    ·have hz2:=size_zeroCells (Value.int .i64 0).cells (grownCap w (i+1) c 3 - (i+1));have hzc:(Value.int .i64 0).cells.size=1:=rfl;rw [hzc,Nat.mul_one]at hz2;show(((intCells ls++ [Value.int .i64 x]).toArray++Builtin.zeroCells (Value.int .i64 0).cells (grownCap w (i+1) c 3 - (i+1)))).size=grownCap w (i+1) c 3*1;rw [Array.size_append,hz2];simp [hcl];omega
    ·intro j v hj;have hj1:=(List.getElem?_eq_some_iff.1 hj).1;rw [hlen]at hj1;rw [hend rfl]at hj;rw [Array.getElem?_append_left (by simp [hcl];omega),zG];exact hj
   ·refine(Go.Proofs.Any2.slices_Insert_int_end_room Tryz.laysIns g 0 i c vb 0 1 vc [.int .i64 x] w (by omega) hc1 (by unfold maxLen at hcm;omega) rfl (fun j hj=>by rw [Nat.zero_add];exact hspare _ (by omega)) (fun j _=>hB.frozen _) hvs hone).mono ?_;rintro e w' ⟨rfl,rfl⟩;have hB3:=setCells_blk2 [.int .i64 x] (0+i) w cur hB (by simp;omega);refine⟨_,_,rfl,own_blk hB3 hc1 hcm ?_ hlen ?_,?_,.inl rfl⟩
    ·rw [laid_size (by simp;omega),hcs]
    ·intro j v hj;have hj1:=(List.getElem?_eq_some_iff.1 hj).1;rw [hlen]at hj1;rw [hend rfl]at hj;rw [laid_get (by simp;omega)];by_cases h1:j<i
     ·rw [if_neg (by simp;omega)];rw [List.getElem?_append_left (by omega)]at hj;exact hcur j v hj
     ·rw [List.getElem?_append_right (by omega),hcl]at hj;rw [if_pos (by simp;omega),Nat.zero_add];exact hj
    ·rw [rowOf_some];exact setCells_fr2 _ _ _
end Go.Proofs.YtpmgepijkhaonaaGreat
namespace Go.Proofs.YtpmgepijkhaonaaGreat
open Go.RowKit Go.Sig
theorem uAns:Tryz.prog.underlying 67=some (.struct (Tryz.prog.fieldsOf 67)):=by kernel_rfl
theorem infoAns {a0 a1 a2 a3 a4 a5 a6 a7:Value}:(Tryz.prog.info? 67).map (·.size)=some (#[a0,a1,a2,a3,a4,a5,a6,a7]:Array Value).size:=by kernel_rfl
theorem uIss:Tryz.prog.underlying 29=some (.struct (Tryz.prog.fieldsOf 29)):=by kernel_rfl
theorem infoIss {a0 a1 a2:Value}:(Tryz.prog.info? 29).map (·.size)=some (#[a0,a1,a2]:Array Value).size:=by kernel_rfl
theorem uMsf:Tryz.prog.underlying 181=some (.map 9 26):=by kernel_rfl
theorem no_t (w:World) (k:Int):Calls Tryz.prog 126 #[.int .i64 k] w fun e w'=>e= .returned (AA.mk (noA k) none 0).val∧Fr [] w w':=by
 have hzs:∃zs:Array Value,zs.size=8∧Hid (zs=(AA.mk (noA 0) none 0).cells):=⟨_,rfl,zh rfl⟩
 obtain⟨zs,hz,hzh⟩:=hzs;go_enter Tryz.func126,Tryz.ntmps126;go_upto_region 1 with(fail)
 refine wp_gen (fun W=>Blk W w.heap.size 67 zs∧Fr [] w W) ⟨by rw [hzh.o];exact Blk.new _ _ _,(Fr.refl _ _).alloc _⟩ ?_;rintro W ⟨hR,fW⟩;obtain⟨gr,HGR⟩:∃z,Hid (w.heap.size=z):=⟨_,zh rfl⟩
 rw [HGR.o]at hR⊢;have hrl:=hR.lt;go_wp2_with (refine wpList_store_row rfl 67 _ _ rfl gr _ rfl rfl 67 zs hR infoAns (by rw [hz];rfl) (by kernel_rfl) ?_)
 exact bodyPost_ret (results_cell_row rfl _ _ gr 67 _ (0,0) _ rfl (Blk.setRow hR _) uAns rfl infoAns) rfl ⟨rfl,fW.setRow (.inr (by have:=HGR.o;omega)) _⟩
theorem bk_aset {w0 w w':World}{mb:Nat}{X Y:List Nat}{b:GBk}{x:FA}{k:ByteArray}(l:List (ByteArray×FA)) (hl:l.map (fun p=>(p.1,p.2.f))=b) (hm:IsMap w' mb Value.string FA.val (aset k x l))
  (h3:∀p∈l,FamIn w0 X p.2) (F0:Fr [] w0 w) (F:Fr [mb] w w') (hmb:mb∈X) (hY:∀g∈Y,w0.heap.size≤g) (hx:FamIn w' (X++Y) x):BkIn w' mb (X++Y) (aset k x.f b):=by
 refine⟨aset k x l,hm,by rw [aset_fa,hl],fun p hp=> ?_⟩;rcases mem_aset hp with rfl |hp
 ·exact hx
 ·have hp3:=h3 p hp;have hF:Fr X w0 w':=F0.nil.trans (F.mono (fun i hi=>by simp at hi;rw [hi];exact hmb));have off:∀{s n:Nat}{A:Option Addr}{xs:List Value},0<s→RdX w0 X s A n xs→RdX w' (X++Y) s A n xs:=fun hs h=>
   ⟨(h.fr hF).1,fun hn ad e hg=>(List.mem_append.1 hg).elim (h.2 hn ad e) (fun hy=>by have:=h.1.lt hs hn ad e;have:=hY _ hy;omega)⟩
  exact⟨hp3.ts,off (by omega) hp3.scope,off (by omega) hp3.toks,off (by omega) hp3.leases,fun t ht=>off (by omega) (hp3.each t ht)⟩
theorem bk_same {w0 w':World}{mb:Nat}{X Y:List Nat}{b:GBk}(h:BkIn w0 mb X b) (F0:Fr [] w0 w') (hY:∀g∈Y,w0.heap.size≤g):BkIn w' mb (X++Y) b:=by
 obtain⟨l,h1,h2,h3⟩:=h;refine⟨l,h1.fr F0 (by simp),h2,fun p hp=> ?_⟩;have hp3:=h3 p hp;have off:∀{s n:Nat}{A:Option Addr}{xs:List Value},0<s→RdX w0 X s A n xs→RdX w' (X++Y) s A n xs:=fun hs h=>
  ⟨(h.fr F0.nil).1,fun hn ad e hg=>(List.mem_append.1 hg).elim (h.2 hn ad e) (fun hy=>by have:=h.1.lt hs hn ad e;have:=hY _ hy;omega)⟩
 exact⟨hp3.ts,off (by omega) hp3.scope,off (by omega) hp3.toks,off (by omega) hp3.leases,fun t ht=>off (by omega) (hp3.each t ht)⟩
def FallPost (w:World) (mb:Nat) (X:List Nat) (b:GBk) (e:Ending) (w':World):Prop:=e= .returned (.tuple #[])∧BkIn w' mb X b∧Fr [mb] w w'
theorem FA.cells_def (f:GFam) (sA:Option Addr) (sc:Nat) (tA:Option Addr) (tc:Nat) (ts:List TA) (lA:Option Addr) (lc:Nat):(FA.mk f sA sc tA tc ts lA lc).cells=#[.string f.id,.string f.client,.string f.user,.slice sA f.scope.length sc,.string f.redirect,.string f.challenge,.string f.method,.int .i64 f.code,.slice tA ts.length tc,.bool f.revoked,.slice lA f.leases.length lc]:=rfl
set_option maxRecDepth 100000 in
set_option maxHeartbeats 1000000 in
theorem fall_t (w:World) (p mb:Nat) (room:Int) (X:List Nat) (b:GBk) (hp:Blk w p 183 #[.map (some mb),.int .i64 room]) (hb:BkIn w mb X b) (x:FA) (hx:FamIn w X x) (hmb:mb∈X):
  Calls Tryz.prog 178 #[.pointer (some ⟨p,0,none⟩),x.val] w (FallPost w mb X (fallM x.f b)):=by
 obtain⟨l,hl1,hl2,hl3⟩:=hb;have hl3h:=zh hl3;have hxh:=zh hx;clear hl3 hx;obtain⟨f,sA,sc,tA,tc,ts,lA,lc⟩:=x;obtain⟨id,client,user,scope,redirect,challenge,method,code,tokens,revoked,leases⟩:=f;unfold FA.val FA.cells;dsimp only;go_enter Tryz.func178,Tryz.ntmps178;go_upto_region 1 with(fail)
 refine wp_gen (fun W=>Blk W w.heap.size 26 (FA.mk ⟨id,client,user,scope,redirect,challenge,method,code,tokens,revoked,leases⟩ sA sc tA tc ts lA lc).cells∧Fr [] w W) ⟨Blk.new _ _ _,(Fr.refl _ _).alloc _⟩ ?_;rintro W ⟨hB,fW⟩;rw [FA.cells_def]at hB;dsimp only at hB;obtain⟨gf,HGF⟩:∃z,Hid (w.heap.size=z):=⟨_,zh rfl⟩
 rw [HGF.o]at hB⊢;have c9:=hB.cell 9;have z9:=hB.frozen 9;have hgl:=hB.lt;simp only [zG,zH,zI]at c9;go_upto_region 2 with(fail)
 have hB2:=hB.set 9 (.bool true);simp only [zD,zE,zF]at hB2;have f2:Fr [] w (W.setCell ⟨gf,9,none⟩ (.bool true)):=fW.setCell (p:=⟨gf,9,none⟩) (.inr (by have:=HGF.o;simp;omega)) _;have hpl:=hp.lt;have hml:=hl1.lt;clear c9 z9 hgl hB fW;refine wp_tail_gen 7 (fun w1=>Blk w1 gf 26 (FA.mk ⟨id,client,user,scope,redirect,challenge,method,code,tokens,true,leases⟩ sA sc tA tc ts lA lc).cells∧Blk w1 p 183 #[.map (some mb),.int .i64 room]∧IsMap w1 mb Value.string FA.val l∧Fr [] w w1)
  ⟨by rw [FA.cells_def];exact hB2,(hp.fr f2 (by simp)).drew,(hl1.fr f2 (by simp)).fr ((Fr.refl [] _).drew) (by simp),f2.drew⟩ (by kernel_rfl) (by kernel_rfl) ?_
 clear hB2 f2 hp hl1;rintro w1 ⟨h1,h2,h3,f1⟩;obtain⟨c0,c1,c2,c3,c4,c5,c6,c7,c8,c9,c10,hgl⟩:=fam_cells h1;dsimp only at c0 c1 c2 c3 c4 c5 c6 c7 c8 c9 c10;have e0:=h2.cell 0;simp only [zG,zH]at e0;have hp1:=h2.lt;simp only [List.take_succ_cons,List.take_zero,List.drop_succ_cons,List.drop_zero];repeat still_step
 refine wpStill_nil ?_;refine wpList_map_set h3 kStr uMsf id (FA.mk ⟨id,client,user,scope,redirect,challenge,method,code,tokens,true,leases⟩ sA sc tA tc ts lA lc) rfl rfl rfl rfl rfl ?_;intro w2 hm ht;have F2:Fr [mb] w1 w2:=ht.fr;have hx2:=hxh.o.fr f1.nil;have hx3:FamIn w2 (X++ []) (FA.mk ⟨id,client,user,scope,redirect,challenge,method,code,tokens,true,leases⟩ sA sc tA tc ts lA lc):=by rw [List.append_nil];exact FamIn.fr (x:=FA.mk ⟨id,client,user,scope,redirect,challenge,method,code,tokens,true,leases⟩ sA sc tA tc ts lA lc) ⟨hx2.ts,hx2.scope,hx2.toks,hx2.leases,hx2.each⟩ (F2.mono (fun g hg=>by simp at hg;rw [hg];exact hmb))
 have hbk:=bk_aset (w0:=w) l hl2 hm hl3h.o f1 F2 hmb (Y:= []) (by simp) hx3;rw [List.append_nil]at hbk;go_wp2_with fail
 (try simp only [Exit.inBlock,Exit.then]);refine bodyPost_ret (results_none rfl _ _ _) rfl ?_
 exact⟨rfl,hbk,f1.nil.trans F2⟩
def zeroIss:Value:= .agg #[.int .i64 0,.slice none 0 0,.bool false]
def TA.val (t:TA):Value:= .agg #[.int .i64 t.tok.kind,.slice t.A t.tok.scope.length t.c,.bool t.tok.used]
theorem results_ct {P:Program}{fn:Func}{p q:Tmp}{ty:TypeId}(h:fn.results=#[.cell p ty,.tmp q]) (tmps:Array Value) (w:World) (g:Nat) (t:TypeId) (cs:Array Value) (fr:Nat×Nat) (d:TypeDesc)
  (hp:tmps.getD p undef= .pointer (some ⟨g,0,none⟩)) (hg:w.heap[g]? =some (.cells cs t fr))
  (hu:P.underlying ty=some d) (hd:(match d with | .struct _ | .array _ _=>true |_=>false)=true) (hi:(P.info? ty).map (·.size)=some cs.size) {v:Value}(hv:tmps.getD q undef=v):
  (results fn tmps).run P w= .ok (.tuple #[.agg cs,v]) w:=by
 subst hv;have hp':tmps[p]?.getD undef= .pointer (some ⟨g,0,none⟩):=by simpa using hp
 simp [results,h,hp',asAddr,run_loadVar_row w g t ty cs fr d hg hu hd hi]
def TokPost (w:World) (x:FA) (kind serial:Int) (e:Ending) (w':World):Prop:=Fr [] w w'∧
 ((tokM x.f kind serial=none∧e= .returned (.tuple #[zeroIss,.bool false]))∨∃t,tokM x.f kind serial=some t.tok∧x.ts[(serial - 1).toNat]? =some t∧e= .returned (.tuple #[t.val,.bool true]))
set_option maxRecDepth 100000 in
set_option maxHeartbeats 1000000 in
theorem token_t (w:World) (x:FA) (kind serial:Int) (hx:FamIn w [] x) (hm:x.ts.length≤1000000):Calls Tryz.prog 180 #[x.val,.int .i64 kind,.int .i64 serial] w (TokPost w x kind serial):=by
 have htn:=hx.len;have htk:=hx.toks.1;have hts:=zh hx.ts;obtain⟨f,sA,sc,tA,tc,ts,lA,lc⟩:=x;obtain⟨id,client,user,scope,redirect,challenge,method,code,tokens,revoked,leases⟩:=f;dsimp only at htn htk hts hm;have hxh:=zh hx;have htnh:=zh htn;clear hx htn;unfold FA.val FA.cells;dsimp only;have hzs:∃zs:Array Value,zs.size=3∧Hid (zs=#[.int .i64 0,.slice none 0 0,.bool false]):=⟨_,rfl,zh rfl⟩
 obtain⟨zs,hz,hzh⟩:=hzs;go_enter Tryz.func180,Tryz.ntmps180;go_upto_region 1 with(fail)
 refine wp_gen (fun W=>Blk W w.heap.size 26 (FA.mk ⟨id,client,user,scope,redirect,challenge,method,code,tokens,revoked,leases⟩ sA sc tA tc ts lA lc).cells∧Blk W (w.heap.size+1) 29 zs∧Fr [] w W) ⟨(Blk.new _ _ _).alloc _,by rw [hzh.o];exact Blk.new' _ _ (by simp),((Fr.refl _ _).alloc _).alloc _⟩ ?_;rintro W ⟨hB,hR,fW⟩;rw [FA.cells_def]at hB;dsimp only at hB;obtain⟨gf,HGF⟩:∃z,Hid (w.heap.size=z):=⟨_,zh rfl⟩
 rw [HGF.o]at hB hR⊢;obtain⟨gr,HGR⟩:∃z,Hid (gf+1=z):=⟨_,zh rfl⟩
 rw [HGR.o]at hR⊢;have hgr:w.heap.size≤gr:=by have:=HGF.o;have:=HGR.o;omega
 have c8:=hB.cell 8;have hgl:=hB.lt;have hrl:=hR.lt;simp only [zG,zH,zI]at c8;clear hB;obtain⟨n,hn⟩:∃z,Hid (ts.length=z):=⟨_,zh rfl⟩
 rw [hn.o]at hm htk c8⊢;have htkh:=zh htk;clear htk;have htM:∀k s,tokM ⟨id,client,user,scope,redirect,challenge,method,code,tokens,revoked,leases⟩ k s=if s<1∨(n:Int)<s then none else(tokens[(s - 1).toNat]?).bind fun t=>if t.kind=k then some t else none:=fun k s=>by unfold tokM;simp only [←htnh.o,hn.o]
 have htMh:=zh htM;clear htM;have hgood:=fun(Z:Value)=>True;clear hgood;by_cases h1:serial<1
 ·have hno:=zh (show tokM ⟨id,client,user,scope,redirect,challenge,method,code,tokens,revoked,leases⟩ kind serial=none by rw [htMh.o,if_pos (.inl h1)]);have h1d:decide (serial<1)=true:=decide_eq_true h1;go_upto_region 2 with(fail)
  go_wp2_with (refine wpList_store_row rfl 29 _ _ rfl gr _ rfl rfl 29 zs hR infoIss (by rw [hz];rfl) (by kernel_rfl) ?_)
  refine bodyPost_ret (v:= .tuple #[zeroIss,.bool false]) (results_ct (p:=6) (q:=7) rfl _ _ gr 29 _ (0,0) _ rfl (Blk.setRow hR _) uIss rfl infoIss rfl) rfl ⟨fW.setRow (.inr hgr) _,.inl ⟨hno.o,rfl⟩⟩
 ·by_cases h2:(n:Int)<serial
  ·have hno:=zh (show tokM ⟨id,client,user,scope,redirect,challenge,method,code,tokens,revoked,leases⟩ kind serial=none by rw [htMh.o,if_pos (.inr h2)]);have h1d:decide (serial<1)=false:=decide_eq_false h1;have h2d:decide ((n:Int)<serial)=true:=decide_eq_true h2;go_upto_region 2 with(fail)
   go_wp2_with (refine wpList_store_row rfl 29 _ _ rfl gr _ rfl rfl 29 zs hR infoIss (by rw [hz];rfl) (by kernel_rfl) ?_)
   refine bodyPost_ret (v:= .tuple #[zeroIss,.bool false]) (results_ct (p:=6) (q:=7) rfl _ _ gr 29 _ (0,0) _ rfl (Blk.setRow hR _) uIss rfl infoIss rfl) rfl ⟨fW.setRow (.inr hgr) _,.inl ⟨hno.o,rfl⟩⟩
  ·obtain⟨k,rfl⟩:∃k:Nat,serial=(k:Int)+1:=⟨(serial - 1).toNat,by omega⟩
   have hk:k<n:=by omega
   have hkt:k<ts.length:=by rw [hn.o];exact hk
   have hk1:((k:Int)+1 - 1).toNat=k:=by omega
   have hget:tokens[k]? =some ts[k].tok:=by rw [←hts.o,List.getElem?_map,List.getElem?_eq_getElem hkt];rfl
   have htk2:=htMh.o kind ((k:Int)+1);rw [if_neg (by omega),hk1,hget]at htk2;simp only [Option.bind_some]at htk2;obtain⟨bk,o,rfl,hcell⟩:=(Rd.fr htkh.o fW (by simp [Off])).2 (by omega);have hc:=tokCells_at hkt;have q0:=hcell _ _ hc.1;have q1:=hcell _ _ hc.2.1;have q2:=hcell _ _ hc.2.2;rw [←Nat.add_assoc]at q1 q2;have hbl:=block_lt_of_cell q0;have htsk:ts[k]? =some ts[k]:=List.getElem?_eq_getElem hkt;have htskh:=zh htsk;have htk2h:=zh htk2;clear hcell hc hget htsk htk2;obtain⟨t,ht⟩:∃z,Hid (ts[k]=z):=⟨_,zh rfl⟩
   rw [ht.o]at q0 q1 q2 htskh htk2h;have h1d:decide ((k:Int)+1<1)=false:=decide_eq_false h1;have h2d:decide ((n:Int)<(k:Int)+1)=false:=decide_eq_false h2;have h3d:(k:Int)+1 - 1=k:=by omega
   have h3h:=zh h3d;clear h3d;have h0k:(0:Int)≤k:=by omega
   have hkn:(k:Int)<n:=by omega
   by_cases hkk:t.tok.kind=kind
   ·have hkd:(t.tok.kind !=kind)=false:=by rw [bne_eq_false_iff_eq];exact hkk
    have hkh:=zh hkk;clear hkk;go_upto_region 3 with(fail)
    go_wp2_with (refine wpList_store_row rfl 29 _ _ rfl gr _ rfl rfl 29 zs hR infoIss (by rw [hz];rfl) (by kernel_rfl) ?_)
    refine bodyPost_ret (v:= .tuple #[t.val,.bool true]) (results_ct (p:=6) (q:=7) rfl _ _ gr 29 _ (0,0) _ rfl (Blk.setRow hR _) uIss rfl infoIss rfl) rfl ⟨fW.setRow (.inr hgr) _,.inr ⟨t,?_,?_,rfl⟩⟩
    ·rw [htk2h.o,if_pos hkh.o]
    ·rw [hk1];exact htskh.o
   ·have hkd:(t.tok.kind !=kind)=true:=by rw [bne_iff_ne];exact hkk
    have hkh:=zh hkk;clear hkk;go_upto_region 2 with(fail)
    go_wp2_with (refine wpList_store_row rfl 29 _ _ rfl gr _ rfl rfl 29 zs hR infoIss (by rw [hz];rfl) (by kernel_rfl) ?_)
    refine bodyPost_ret (v:= .tuple #[zeroIss,.bool false]) (results_ct (p:=6) (q:=7) rfl _ _ gr 29 _ (0,0) _ rfl (Blk.setRow hR _) uIss rfl infoIss rfl) rfl ⟨fW.setRow (.inr hgr) _,.inl ⟨?_,rfl⟩⟩;rw [htk2h.o,if_neg hkh.o]
theorem own_append_op {P:Program}{w:World}{e size n m c:Nat}{v z:Value}{xs news:List Value}{t:TypeId}{bytes:Nat}{A:Option Addr}
  {ops:Array Oper}{o:Oper}{a:Act}{K:Act→World→Prop}{Q:Exit→Act→World→Prop}{E:Prop}(T:SliceTy P t e size bytes z) (h:Own w e size v n xs) (hr:Rd w size A m news)
  (h1:∀u∈news,u.oneCell'=true) (hm:A=none→m=0) (h63:n+m≤maxLen) (hb:(n+m)*bytes≤140737488355328)
  (hg:o.guard=none) {s x:Operand}(hop:o.op= .call {callee:= .builtin .append,args:=#[s,x],argTypes:=#[t,t]}) (hs:a.eval s=v) (hx:a.eval x= .slice A m c)
  (hK:∀v' w',Own w' e size v' (n+m) (xs++news)→Fr (rowOf v) w w'→(∀g,g∈rowOf v'→g∈rowOf v∨g=w.heap.size)→K (a.put o.dst v') w'):
  if Region.wanted o (yielded ops a.tmps)=true then Oper.wp P o a w K Q else E:=by
 rw [if_pos (wanted_none hg)];obtain⟨v',w',hrun,r1,r2,r3⟩:=h.run_append (ty:=o.type) (c:=c) T hr h1 hm h63 hb;unfold Oper.wp;simp [execOp,hop,resolve,invoke,builtin,hs,hx,hrun,Result.andThen];exact hK v' w' r1 r2 r3
structure FOff (x:FA) (X:List Nat):Prop where
 s:Off X x.sA
 t:Off X x.tA
 l:Off X x.lA
 e:∀t∈x.ts,Off X t.A
def IssuePost (w:World) (pf B:Nat) (x:FA) (sl:List ByteArray) (r:Bool) (Y0:List Nat) (e:Ending) (w':World):Prop:=
 ∃(y:AA) (x':FA),e= .returned y.val∧y.a=(issueM x.f sl r).2∧AnsIn w' w.heap.size y∧x'.f=(issueM x.f sl r).1∧FamW w' B x'∧Blk w' pf 26 x'.cells∧Fr (pf::rowOf (.slice x.tA x.ts.length x.tc)) w w'∧FOff x' (Y0++rowOf y.slice)
theorem tok_new (w:World) (t:TA) (ty:TypeId):Rd (w.alloc (.cells #[.int .i64 t.tok.kind,.slice t.A t.tok.scope.length t.c,.bool t.tok.used] ty)) 3 (some ⟨w.heap.size,0,none⟩) 1 (tokCells [t]):=by
 refine⟨rfl,fun _=>⟨_,0,rfl,fun j u hu=> ?_⟩⟩;rw [(Blk.new w ty _).cell,Nat.zero_add,zG];exact hu
theorem fam_push {w w2:World}{B:Nat}{x:FA}{t:TA}{A:Option Addr}{c pf:Nat}(h:FamW w B x) (hB:B≤w.heap.size) (hO:Own w2 29 3 (.slice A (x.ts.length+1) c) (x.ts.length+1) (tokCells (x.ts++ [t]))) (hF:Fr (pf::rowOf (.slice x.tA x.ts.length x.tc)) w w2)
  (hA:∀ad,A=some ad→x.tA=some ad∨w.heap.size≤ad.block) (hpf:FOff x [pf]) (ht:Own w2 9 1 (.slice t.A t.tok.scope.length t.c) t.tok.scope.length (strCells t.tok.scope)) (hlo:∀ad,t.A=some ad→B≤ad.block) (hap:Apart A t.A) (hla:Apart x.lA t.A):
  FamW w2 B {x with f:={x.f with tokens:=x.f.tokens++ [t.tok]},tA:=A,tc:=c,ts:=x.ts++ [t]}:=by
 have off:∀{A':Option Addr}{n c:Nat},Off [pf] A'→Apart x.tA A'→∀g,g∈rowOf (.slice A' n c)→g∉pf::rowOf (.slice x.tA x.ts.length x.tc):=fun h1 h2 g hg hm=>by
  obtain⟨ad,e,rfl⟩:=rowOf_mem.1 hg;rcases List.mem_cons.1 hm with hm |hm
  ·exact h1 ad e (by rw [hm];simp)
  ·obtain⟨ad2,e2,h3⟩:=rowOf_mem.1 hm;exact h2 ad2 ad e2 e h3
 have apA:∀{A':Option Addr}{n c e size m:Nat}{xs:List Value},Own w e size (.slice A' n c) m xs→Apart x.tA A'→Apart A A':=fun h1 h2 p q ep eq=>by
  rcases hA p ep with h3 |h3
  ·exact h2 p q h3 eq
  ·have:=h1.lt q.block (rowOf_mem.2 ⟨q,eq,rfl⟩);omega
 refine⟨by simp [h.ts],h.scope.fr hF (off hpf.s h.ts_),own_cast hO (by simp) (by simp),h.leases.fr hF (off hpf.l h.tl),fun s hs=> ?_,h.fs,fun ad e=> ?_,h.fl,fun s hs=> ?_,apA h.scope h.ts_,apA h.leases h.tl,fun s hs=> ?_,h.ls,fun s hs=> ?_⟩
 ·rcases List.mem_append.1 hs with hs |hs
  ·exact(h.each s hs).fr hF (off (hpf.e s hs) (h.te s hs))
  ·rw [List.mem_singleton]at hs;subst hs;exact ht
 ·rcases hA ad e with h3 |h3
  ·exact h.ft ad h3
  ·omega
 ·rcases List.mem_append.1 hs with hs |hs
  ·exact h.fe s hs
  ·rw [List.mem_singleton]at hs;subst hs;exact hlo
 ·rcases List.mem_append.1 hs with hs |hs
  ·exact apA (h.each s hs) (h.te s hs)
  ·rw [List.mem_singleton]at hs;subst hs;exact hap
 ·rcases List.mem_append.1 hs with hs |hs
  ·exact h.le s hs
  ·rw [List.mem_singleton]at hs;subst hs;exact hla
end Go.Proofs.YtpmgepijkhaonaaGreat
