/- Walk: what a command does, its table laid. Conditions: each theorem's own. -/
import Derived.Test.YtpmgepijkhaonaaGreatLn
import Derived.Test.YtpmgepijkhaonaaGreatHm
import Derived.Test.YtpmgepijkhaonaaGreatTe
import Derived.Test.YtpmgepijkhaonaaGreatLy
import Derived.Shelf.SlSortCmp.WholeK
import Derived.Test.YtpmgepijkhaonaaGreatHk
import Derived.Test.YtpmgepijkhaonaaGreatTm
namespace Go.Proofs.YtpmgepijkhaonaaGreat
open Go.RowKit Go.Sig
theorem tCalls:SliceTy Tryz.prog 49 131 10 104 (.agg #[.int .i64 0,.int .i64 0,.int .i64 0,.int .i64 0,.int .i64 0,.slice none 0 0,.string ⟨#[]⟩,.string ⟨#[]⟩,.bool false,.bool false]):=⟨by kernel_rfl,by kernel_rfl,rfl,by decide⟩
theorem uCall:Tryz.prog.underlying 131=some (.struct (Tryz.prog.fieldsOf 131)):=by kernel_rfl
theorem KA.size10 (y:KA):y.arr.size=10:=rfl
theorem KA.one (y:KA):y.arr.all (·.oneCell')=true:=by unfold KA.arr;kernel_rfl
theorem infoCall (y:KA):(Tryz.prog.info? 131).map (·.size)=some y.arr.size:=by unfold KA.arr;kernel_rfl
theorem cloneC_t (w:World) (A:Option Addr) (n c:Nat) (xs:List Value) (h:Rd w 10 A n xs) (h1:∀u∈xs,u.oneCell'=true) (hn:n≤1048576):
  Calls Tryz.prog 81 #[.slice A n c] w (ClonePost w 131 10 n xs):=by
 cases A with
 |none=>obtain rfl:=rd_none h;obtain rfl:=List.eq_nil_of_length_eq_zero (h.1.trans (by omega));have hq:=Lib.run_eql_slice_nil (P:=Tryz.prog) w 49 131 none 0 c 0 0 tCalls.ty;go_enter Tryz.func81,Tryz.ntmps81;go_wp2;go_ret;exact clone_nil _ _ _
 |some ad=>
  have hq:=fun w=>Lib.run_eql_slice_nil (P:=Tryz.prog) w 49 131 (some ad) n c 0 0 tCalls.ty;go_enter Tryz.func81,Tryz.ntmps81;have hown:Own (w.alloc (.cells #[] 131)) 131 10 (.slice (some ⟨w.heap.size,0,none⟩) 0 0) 0 []:=Own.made w #[] 131 10 0 0 (by omega) (by decide) rfl;have hr:Rd (w.alloc (.cells #[] 131)) 10 (some ad) n xs:=h.fr ((Fr.refl [] w).alloc _) (fun _ _ _=>by simp);go_wp2_with (refine wpList_own_append tCalls hown hr h1 (by simp) (by unfold maxLen;omega) (by omega) rfl rfl rfl rfl (fun v' w2 h1 h2 h3=> ?_))
  go_ret;have h1':Own w2 131 10 v' n xs:=by simpa using h1
  obtain⟨A',c',rfl,hA⟩:=h1'.form;refine⟨A',c',rfl,h1',fun ad e=> ?_,((Fr.refl [] w).alloc _).andThen h2 (by simp [rowOf,Value.ownBlock])⟩;subst e;have:=h3 ad.block (by simp [rowOf,Value.ownBlock]);simp [rowOf,Value.ownBlock]at this;omega
def lowB (low:Int) (y:KA):Bool:=decide (y.k.seq<low)
def delK (low:Int) (l:List KA):List KA:=l.filter fun y=> !lowB low y
theorem delK_calls (low:Int) (l:List KA):(delK low l).map (·.k)=keepC low (l.map (·.k)):=by
 unfold delK keepC lowB;rw [List.filter_map];rfl
theorem delK_all {low:Int}{l:List KA}(h:∀y∈l,lowB low y=false):delK low l=l:=by
 unfold delK;rw [List.filter_eq_self];intro y hy;rw [h y hy];rfl
theorem delK_take {low:Int}{l:List KA}{j:Nat}(h:j<l.length):delK low (l.take (j+1))=delK low (l.take j)++(if lowB low l[j]=true then []else [l[j]]):=by
 unfold delK;rw [List.take_succ_eq_append_getElem h,List.filter_append];by_cases e:lowB low l[j]=true<;>simp [e]
def PredC (f gx:Nat) (low:Int):Prop:=∀(W:World) (y:KA),W.cell? ⟨gx,0,none⟩=some (.int .i64 low)→Calls Tryz.prog f #[.agg y.arr,.pointer (some ⟨gx,0,none⟩)] W fun e w'=>e= .returned (.bool (lowB low y))∧Fr [] W w'
theorem call_seq {w:World}{g:Nat}{t:TypeId}{y:KA}(h:Blk w g t y.arr):w.cell? ⟨g,1,none⟩=some (.int .i64 y.k.seq):=h.cell 1
theorem doA_p (gx:Nat) (low:Int):PredC 82 gx low:=fun W y hx=>by
 obtain⟨sq,hsq⟩:∃z,Hid (y.k.seq=z):=⟨_,zh rfl⟩
 go_enter Tryz.func82,Tryz.ntmps82;go_upto_region 1 with(fail)
 refine wp_gen (fun V=>Blk V W.heap.size 131 y.arr∧Fr [] W V) ⟨Blk.new _ _ _,(Fr.refl _ _).alloc _⟩ ?_;rintro V ⟨hB,F⟩;obtain⟨g,HG⟩:∃z,Hid (W.heap.size=z):=⟨_,zh rfl⟩
 rw [HG.o]at hB⊢;have c1:=call_seq hB;have hgl:=hB.lt;have hx2:=cell_fr F hx;have hgx:=block_lt_of_cell hx2;rw [hsq.o]at c1;have hres:=zh (show decide (sq<low)=lowB low y by unfold lowB;rw [hsq.o]);have Fh:=zh F;clear hB F hx;go_wp2_with fail
 go_ret;exact⟨ret_bool hres.o,Fh.o⟩
set_option maxRecDepth 100000 in
set_option maxHeartbeats 2000000 in
theorem idxC_t (w:World) (f gx:Nat) (low:Int) (hf:PredC f gx low) (eg:∀args w,(callFunc f args).run Tryz.prog w= .ok (.enter f args) w) (hx:w.cell? ⟨gx,0,none⟩=some (.int .i64 low)) (A:Option Addr) (n c:Nat) (l:List KA) (hR:Rd w 10 A n (callCells l)) (hn:l.length=n) (hmax:n≤1048576):
  Calls Tryz.prog 135 #[.slice A n c,.func (.func f) #[] #[.pointer (some ⟨gx,0,none⟩)]] w fun e w'=>Fr [] w w'∧((e= .returned (.int .i64 (-1))∧∀y∈l,lowB low y=false)∨∃i,∃h:i<l.length,e= .returned (.int .i64 i)∧lowB low l[i]=true∧∀y∈l.take i,lowB low y=false):=by
 have hfh:=zh hf;clear hf;go_enter Tryz.func135,Tryz.ntmps135;go_wp2_with fail
 go_loopg [5,8] (n+1) (fun gk s5 s8 wr=>∃(i:Nat),s8= .int .i64 i∧i≤n∧n - i<gk∧(∀y∈l.take i,lowB low y=false)∧Fr [] w wr)
 case atStart=>exact⟨0,rfl,by omega,by omega,fun y hy=>by simp at hy,Fr.refl _ _⟩
 case round=>
  obtain⟨i,rfl,hi,hk,hpre,hF⟩:=hrel;have hpreh:=zh hpre;have hFh:=zh hF;clear hpre;by_cases hlt:i<n
  ·have hlt':(i:Int)<n:=by omega
   have hlth:=zh hlt;have hi':i<l.length:=by omega
   obtain⟨b,o,rfl,hcell⟩:=(Rd.fr hR hF (by simp [Off])).2 (by omega);have hcs:∀j v,(l[i]'hi').arr[j]? =some v→wr.cell? ⟨b,o+i*10+j,none⟩=some v:=fun j v hv=>by rw [Nat.add_assoc];exact hcell _ _ (callCells_at hi' (by unfold KA.cells;rw [Array.getElem?_toList];exact hv))
   have hcall:=hfh.o wr (l[i]'hi') (cell_fr hF hx);have htk:=zh (List.take_succ_eq_append_getElem hi');clear hcell hF;obtain⟨y,hy⟩:∃x,Hid (l[i]'hi'=x):=⟨_,zh rfl⟩
   rw [hy.o]at hcs hcall htk;obtain⟨r,hr⟩:∃z,Hid (lowB low y=z):=⟨_,zh rfl⟩
   rw [hr.o]at hcall;cases r with
   |true=>
    go_wp2_with (first | (refine wpList_load_cells rfl 131 _ rfl rfl hcs uCall rfl (infoCall _) ?_) | (go_at_fn f;refine hcall.mono ?_;rintro e w' ⟨rfl,F2⟩))
    go_ret;refine⟨hFh.o.trans F2,.inr ⟨i,hi',rfl,?_,hpreh.o⟩⟩;rw [hy.o];exact hr.o
   |false=>
    go_wp2_with (first | (refine wpList_load_cells rfl 131 _ rfl rfl hcs uCall rfl (infoCall _) ?_) | (go_at_fn f;refine hcall.mono ?_;rintro e w' ⟨rfl,F2⟩))
    go_roundg (n - i)
    case measure=>omega
    case rel=>
     refine⟨i+1,by go_num,by have:=hlth.o;omega,by have:=hlth.o;omega,?_,hFh.o.trans F2⟩;rw [htk.o];intro z hz;rcases List.mem_append.1 hz with h |h
     ·exact hpreh.o z h
     ·simp at h;rw [h];exact hr.o
  ·have hin:i=n:=by omega
   have hge:¬(i:Int)<n:=by omega
   clear hlt;go_wp2;go_ret;refine⟨hFh.o,.inl ⟨rfl,fun y hy=>hpreh.o y (by rw [List.take_of_length_le (by omega)];exact hy)⟩⟩
end Go.Proofs.YtpmgepijkhaonaaGreat
namespace Go.Proofs.YtpmgepijkhaonaaGreat
open Go.RowKit Go.Sig
theorem delK_map (low:Int) (l:List KA):((delK low l).length:Int)≤l.length:=by
 unfold delK
 exact_mod_cast List.length_filter_le _ _
theorem arr_cells (y:KA):y.arr.toList=y.cells:=rfl
theorem cells_len (y:KA):y.cells.length=10:=rfl
theorem callCells_snoc (l:List KA) (y:KA):callCells (l++ [y])=callCells l++y.cells:=by
 rw [callCells_append];congr 1
theorem zeroC_size:(Value.agg #[.int .i64 0,.int .i64 0,.int .i64 0,.int .i64 0,.int .i64 0,.slice none 0 0,.string ⟨#[]⟩,.string ⟨#[]⟩,.bool false,.bool false]).cells.size=10:=rfl
theorem zeroC_one:∀v∈(Value.agg #[.int .i64 0,.int .i64 0,.int .i64 0,.int .i64 0,.int .i64 0,.slice none 0 0,.string ⟨#[]⟩,.string ⟨#[]⟩,.bool false,.bool false]).cells.toList,v.oneCell'=true:=by
 intro v hv;have h:(Value.agg #[.int .i64 0,.int .i64 0,.int .i64 0,.int .i64 0,.int .i64 0,.slice none 0 0,.string ⟨#[]⟩,.string ⟨#[]⟩,.bool false,.bool false]).cells.toList.all (·.oneCell')=true:=by kernel_rfl
 exact List.all_eq_true.1 h v hv
theorem KA.ones (y:KA):∀v∈y.arr.toList,v.oneCell'=true:=fun v hv=>List.all_eq_true.1 (show y.arr.toList.all (·.oneCell')=true from by rw [Array.all_toList];exact y.one) v hv
set_option maxRecDepth 100000 in
set_option maxHeartbeats 4000000 in
theorem delC_t (w:World) (f gx:Nat) (low:Int) (hf:PredC f gx low) (eg:∀args w,(callFunc f args).run Tryz.prog w= .ok (.enter f args) w) (hx:w.cell? ⟨gx,0,none⟩=some (.int .i64 low)) (v:Value) (n:Nat) (l:List KA) (hO:Own w 131 10 v n (callCells l)) (hn:l.length=n) (hmax:n≤1048576) (hxv:gx∉rowOf v):
  Calls Tryz.prog 80 #[v,.func (.func f) #[] #[.pointer (some ⟨gx,0,none⟩)]] w fun e w'=>∃v',e= .returned v'∧Own w' 131 10 v' (delK low l).length (callCells (delK low l))∧rowOf v'=rowOf v∧Fr (rowOf v) w w':=by
 obtain⟨A,c,rfl,hA⟩:=hO.form;have hR:=hO.rd;have hidx:=idxC_t w f gx low hf eg hx A n c l hR hn hmax;have hfh:=zh hf;clear hf;go_enter Tryz.func80,Tryz.ntmps80;go_wp2_with fail
 refine hidx.mono ?_;rintro e W ⟨fW,hcase⟩;rcases hcase with⟨rfl,hall⟩ | ⟨i0,hi0,rfl,hk0,hbef⟩
 ·have hallh:=zh hall;clear hall hidx;go_wp2;go_ret;rw [delK_all hallh.o];exact⟨_,rfl,by rw [hn];exact hO.fr fW (by simp),rfl,fW.nil⟩
 ·have hlt0:i0<n:=by omega
  rcases hO.2 with⟨hv,h0⟩ | ⟨g,cap,cur,hv,hbs,hh,hnc,hcm,hcs,htk⟩
  ·omega
  injection hv with hv1 _ hv3
  subst hv1 hv3;have hB:Blk W g 131 cur:=Blk.fr (show Blk w g 131 cur from hh) fW (by simp);have hgx:gx≠g:=by simpa [rowOf,Value.ownBlock]using hxv
  have hxW:=cell_fr fW hx;have hcl:∀m,m<n*10→cur[m]? =(callCells l)[m]? :=fun m hm=>by rw [←htk,List.getElem?_take_of_lt (by omega),Array.getElem?_toList]
  have hclh:=zh hcl;have hd0:delK low (l.take (i0+1))=l.take i0:=by rw [delK_take hi0,if_pos hk0,List.append_nil];exact delK_all hbef
  have hd0h:=zh hd0;have hl0:(l.take i0).length=i0:=by rw [List.length_take];omega
  clear hidx hcl hd0 hbef hk0 hR htk hO hA;have hne1:((i0:Int)== -1)=false:=beq_eq_false_iff_ne.2 (by omega);go_wp2_with fail
  go_loopg [5,6,7] (n+1) (fun gk s5 s6 s7 wr=>∃(i j:Nat) (cu:Array Value),s5= .int .i64 i∧s6= .int .i64 j∧j≤n∧n - j<gk∧i<j∧i=(delK low (l.take j)).length∧Blk wr g 131 cu∧cu.size=c*10∧Sub cu 0 (callCells (delK low (l.take j)))∧(∀m,j*10≤m→m<n*10→cu[m]? =(callCells l)[m]?)∧Fr [g] W wr)
  case atStart=>
   refine⟨i0,i0+1,cur,rfl,by go_num,by omega,by omega,by omega,by rw [hd0h.o,hl0],hB,hcs,?_,fun m _ hm=>hclh.o m hm,Fr.refl _ _⟩;rw [hd0h.o];intro m u hu;have hm:=(List.getElem?_eq_some_iff.1 hu).1;rw [callCells_length,hl0]at hm;rw [Nat.zero_add,hclh.o m (by omega),←hu];have e:callCells l=callCells (l.take i0)++callCells (l.drop i0):=by rw [←callCells_append,List.take_append_drop]
   rw [e,List.getElem?_append_left (by rw [callCells_length,hl0];omega)]
  case round=>
   clear hB;obtain⟨i,j,cu,rfl,rfl,hj,hk,hij,hil,hB,hsz,hsub,hhi,hF⟩:=hrel;have hilh:=zh hil;have hsubh:=zh hsub;have hhih:=zh hhi;have hgl:=hB.lt;clear hil hsub hhi;by_cases hlt:j<n
   ·have hlt':(j:Int)<n:=by omega
    have hlth:=zh hlt;have hj':j<l.length:=by omega
    have hcc:∀m u,(l[j]'hj').arr[m]? =some u→wr.cell? ⟨g,0+j*10+m,none⟩=some u:=fun m u hu=>by have hm:m<10:=(Array.getElem?_eq_some_iff.1 hu).1;rw [Nat.zero_add,hB.cell,hhih.o _ (by omega) (by omega)];exact callCells_at hj' (by unfold KA.cells;rw [Array.getElem?_toList];exact hu)
    have hdt:=zh (delK_take (low:=low) hj');have hpl:=zh (fun m u (hu:(l[j]'hj').cells[m]? =some u)=>callCells_at hj' hu);obtain⟨y,hy⟩:∃x,Hid (l[j]'hj'=x):=⟨_,zh rfl⟩
    rw [hy.o]at hcc hdt hpl;rw [show 0+j*10=j*10 by omega]at hcc;go_upto_region 8 with(first | (refine wpList_load_cells rfl 131 _ rfl rfl hcc uCall rfl (infoCall _) ?_) | (refine wpList_store_row rfl 131 _ _ rfl wr.heap.size y.arr rfl rfl 131 _ (Blk.new _ _ _) (infoCall _) (by kernel_rfl) y.one ?_))
    refine wp_gen (fun W3=>Blk W3 wr.heap.size 131 y.arr∧Fr [] wr W3) ⟨Blk.setRow (Blk.new _ _ _) _,((Fr.refl [] wr).alloc _).setRow (.inr (Nat.le_refl _)) _⟩ ?_;rintro W3 ⟨hBp,F3⟩;have hcall:=hfh.o W3 y (cell_fr F3 ((hF.cell (p:=⟨gx,0,none⟩) (block_lt_of_cell hxW) (by simpa using hgx)).trans hxW));obtain⟨gp,HGP⟩:∃x,Hid (wr.heap.size=x):=⟨_,zh rfl⟩
    rw [HGP.o]at hBp hgl⊢;have hB3:=hB.fr F3 (by simp);have d1:∀m u,y.arr[m]? =some u→W3.cell? ⟨gp,0+m,none⟩=some u:=fun m u hu=>by rw [Nat.zero_add,hBp.cell];exact hu
    clear hcc;obtain⟨r,hr⟩:∃z,Hid (lowB low y=z):=⟨_,zh rfl⟩
    rw [hr.o]at hcall;cases r with
    |true=>
     go_wp2_with (first | (refine wpList_load_cells rfl 131 _ rfl rfl d1 uCall rfl (infoCall _) ?_) | (go_at_fn f;refine hcall.mono ?_;rintro e w' ⟨rfl,F4⟩))
     go_roundg (n - j)
     case measure=>omega
     case rel=>
      refine⟨i,j+1,cu,rfl,by go_num,by have:=hlth.o;omega,by have:=hlth.o;omega,by omega,?_,hB3.fr F4 (by simp),hsz,?_,fun m h1 h2=>hhih.o m (by omega) h2,hF.trans (F3.nil.trans F4.nil)⟩
      ·rw [hdt.o,if_pos hr.o,List.append_nil];exact hilh.o
      ·rw [hdt.o,if_pos hr.o,List.append_nil];exact hsubh.o
    |false=>
     go_upto_region 9 with(first | (refine wpList_load_cells rfl 131 _ rfl rfl d1 uCall rfl (infoCall _) ?_) | (go_at_fn f;refine hcall.mono ?_;rintro e w' ⟨rfl,F4⟩))
     refine wp_gen (fun W4=>Blk W4 gp 131 y.arr∧Blk W4 g 131 cu∧Fr [] W3 W4) ⟨hBp.fr F4 (by simp),hB3.fr F4 (by simp),F4⟩ ?_;rintro W4 ⟨hBp4,hB4,F34⟩;have e1:∀m u,y.arr[m]? =some u→W4.cell? ⟨gp,0+m,none⟩=some u:=fun m u hu=>by rw [Nat.zero_add,hBp4.cell];exact hu
     have hg4:=hB4.lt;have hiln:(i:Int)<n:=by have:=hlth.o;omega
     have hfit:i*10+y.arr.toList.length≤cu.size:=by rw [Array.length_toList,y.size10];have:=hlth.o;omega
     clear d1 hBp hB3 hcall F4;go_wp2_with (first | (refine wpList_load_cells rfl 131 _ rfl rfl e1 uCall rfl (infoCall _) ?_) | (refine wpList_store_at rfl 131 _ _ rfl (off:=i*10) rfl rfl hB4 (infoCall _) (by simpa using hfit) y.ones ?_))
     go_roundg (n - j)
     case measure=>omega
     case rel=>
      refine⟨i+1,j+1,laid cu (i*10) y.arr.toList,by go_num,by go_num,by have:=hlth.o;omega,by have:=hlth.o;omega,by omega,?_,hB4.setRow _,by rw [laid_size hfit];exact hsz,?_,fun m h1 h2=> ?_,hF.trans ((F3.nil.trans F34.nil).setRow (.inl (by simp)) _)⟩
      ·rw [hdt.o,if_neg (by rw [hr.o];simp),List.length_append,←hilh.o];rfl
      ·rw [hdt.o,if_neg (by rw [hr.o];simp),callCells_snoc];intro m u hu;have hpl2:(callCells (delK low (l.take j))).length=i*10:=by rw [callCells_length,←hilh.o]
       rw [Nat.zero_add];by_cases h1:m<i*10
       ·rw [laid_far hfit (.inl h1)];rw [List.getElem?_append_left (by omega)]at hu;have:=hsubh.o m u hu;rwa [Nat.zero_add]at this
       ·rw [List.getElem?_append_right (by omega),hpl2]at hu;have hm:=(List.getElem?_eq_some_iff.1 hu).1;rw [laid_get hfit,if_pos ⟨by omega,by rw [arr_cells];omega⟩];exact hu
      ·rw [laid_far hfit (.inr (by rw [arr_cells,cells_len];omega))];exact hhih.o m (by omega) h2
   ·have hjn:j=n:=by omega
    subst hjn;obtain⟨fi,hfi,hfz2,hfs,hfb⟩:=info_parts tCalls.info;have hci:¬c=i:=by omega
    obtain⟨zv,hzv⟩:∃z,Hid ((Value.agg #[.int .i64 0,.int .i64 0,.int .i64 0,.int .i64 0,.int .i64 0,.slice none 0 0,.string ⟨#[]⟩,.string ⟨#[]⟩,.bool false,.bool false])=z):=⟨_,zh rfl⟩
    have hz10:=zeroC_size;have hz1:=zeroC_one;rw [hzv.o]at hfz2 hz10 hz1;have hclr:∀ty,(Builtin.clear_ #[49] ty #[.slice (some ⟨g,i*10,none⟩) (j - i) (c - i)]).run Tryz.prog wr= .ok (.tuple #[]) (wr.setRow g (laid cu (i*10) (Builtin.zeroCells zv.cells (j - i)).toList)):=
     fun ty=>T.run_clear_rows (ty:=ty) wr tCalls.ty hfi hfz2 hz1 hB (by omega) (by rw [hz10];omega)
    have hge:¬(j:Int)<j:=by omega
    have hij':(i:Int)≤j:=by omega
    have hic':(i:Int)≤c:=by omega
    have hzl:(Builtin.zeroCells zv.cells (j - i)).toList.length=(j - i)*10:=by rw [Array.length_toList,size_zeroCells,hz10]
    obtain⟨zs,hzs⟩:∃x,Hid ((Builtin.zeroCells zv.cells (j - i)).toList=x):=⟨_,zh rfl⟩
    rw [hzs.o]at hclr hzl;clear hlt hk hfz2;go_wp2;go_ret;have hsb:=hsubh.o;have hil:=hilh.o;rw [List.take_of_length_le (by omega)]at hsb hil;have hfit:i*10+zs.length≤cu.size:=by omega
    refine⟨_,rfl,?_,by simp [rowOf,Value.ownBlock],?_⟩
    ·rw [←hil];refine⟨by rw [callCells_length,←hil],.inr ⟨g,c,_,rfl,Nat.zero_le _,Blk.setRow hB _,by omega,hcm,by rw [laid_size hfit];exact hsz,?_⟩⟩;apply List.ext_getElem?;intro m;by_cases hm:m<i*10
     ·rw [List.getElem?_take_of_lt hm,Array.getElem?_toList,laid_far hfit (.inl hm)];have hlt2:m<(callCells (delK low l)).length:=by rw [callCells_length,←hil];exact hm
      have:=hsb m _ (List.getElem?_eq_getElem hlt2);rw [Nat.zero_add]at this;rw [this,List.getElem?_eq_getElem hlt2]
     ·rw [List.getElem?_eq_none (by rw [List.length_take];omega),List.getElem?_eq_none (by rw [callCells_length,←hil];omega)]
    ·have:rowOf (.slice (some ⟨g,0,none⟩) j c)= [g]:=rfl;rw [this];exact(fW.nil.trans hF).setRow (.inl (by simp)) _
end Go.Proofs.YtpmgepijkhaonaaGreat
namespace Go.Proofs.YtpmgepijkhaonaaGreat
open Go.RowKit Go.Sig
abbrev KS:={y:KA // 0≤y.k.seq∧y.k.seq≤1099511627776}
instance:Inhabited KS:=⟨⟨⟨⟨0,0,noA 0⟩,none,0⟩,by decide⟩⟩
def encC (y:KS):List Value:=y.1.cells
def cfC (x y:KS):Int:=x.1.k.seq - y.1.k.seq
theorem ltC (x y:KS):Go.Proofs.ltOf cfC x y=decide (x.1.k.seq<y.1.k.seq):=by
 unfold Go.Proofs.ltOf cfC;by_cases h:x.1.k.seq<y.1.k.seq
 ·rw [decide_eq_true h,decide_eq_true (by omega)]
 ·rw [decide_eq_false h,decide_eq_false (by omega)]
theorem swoC:Go.Sort.SWO (Go.Proofs.ltOf cfC) where
 irrefl x:=by rw [ltC];simp
 trans x y z h1 h2:=by rw [ltC]at*;simp at*;omega
 ntrans x y z h1 h2:=by rw [ltC]at*;simp at*;omega
theorem byC_t (x y:KS) (w:World):Calls Tryz.prog 84 #[.agg x.1.arr,.agg y.1.arr] w fun e w'=>e= .returned (.int .i64 (cfC x y))∧∃o1 o2,w'=(w.alloc o1).alloc o2:=by
 obtain⟨a,ha⟩:∃z,Hid (x.1.k.seq=z):=⟨_,zh rfl⟩
 obtain⟨b,hb⟩:∃z,Hid (y.1.k.seq=z):=⟨_,zh rfl⟩
 have hx:=x.2;have hy:=y.2;rw [ha.o]at hx;rw [hb.o]at hy;have hr:=zh (show a - b=cfC x y by unfold cfC;rw [ha.o,hb.o]);go_enter Tryz.func84,Tryz.ntmps84;go_upto_region 1 with(fail)
 refine wp_gen (fun V=>V=(w.alloc (.cells x.1.arr 131)).alloc (.cells y.1.arr 131)) rfl ?_;rintro V rfl;have B1:Blk ((w.alloc (.cells x.1.arr 131)).alloc (.cells y.1.arr 131)) w.heap.size 131 x.1.arr:=(Blk.new w 131 x.1.arr).fr ((Fr.refl [] _).alloc _) (by simp);have B2:Blk ((w.alloc (.cells x.1.arr 131)).alloc (.cells y.1.arr 131)) (w.heap.size+1) 131 y.1.arr:=by have:=Blk.new (w.alloc (.cells x.1.arr 131)) 131 y.1.arr;rwa [show(w.alloc (.cells x.1.arr 131)).heap.size=w.heap.size+1 from World.size_alloc _ _]at this
 have c1:=call_seq B1;have c2:=call_seq B2;rw [ha.o]at c1;rw [hb.o]at c2;obtain⟨V,hV⟩:∃z,Hid ((w.alloc (.cells x.1.arr 131)).alloc (.cells y.1.arr 131)=z):=⟨_,zh rfl⟩
 rw [hV.o]at c1 c2⊢;clear B1 B2;go_wp2_with fail
 go_ret;exact⟨by rw [←hr.o];rfl,_,_,hV.o.symm⟩
theorem cmpLaysC (blk off size:Nat) (w:World):Go.Proofs.CmpLays Tryz.prog 84 #[] encC 10 cfC blk off size w:=fun _ _ _ _ x y=>
 (byC_t x y _).mono fun e w' ⟨he,o1,o2,hw⟩=>⟨he,0,#[o1,o2],by rw [hw,Go.Sort.alloc_eq_grow,Go.Sort.alloc_eq_grow,Go.Sort.grow_grow];rfl⟩
def unKS (l:List KS):List KA:=l.map (·.1)
theorem flatK_calls (d:Array KS) (t:Nat) (ht:t<d.size*10):(Go.Sort.flatK encC 10 d)[t]? =(callCells (unKS d.toList))[t]? :=by
 have h1:t / 10<d.size:=by omega
 have h2:t / 10<(unKS d.toList).length:=by unfold unKS;simpa using h1
 have hm:t%10<(encC d[t / 10]).length:=by show _<10;omega
 have e:(Go.Sort.flatK encC 10 d)[t]? =some ((encC d[t / 10]!)[t%10]!):=by rw [←Go.Sort.get_flatK encC 10 d t ht,Array.getElem?_eq_getElem (by simpa using ht)];rw [getElem!_pos]
 rw [e,getElem!_pos d (t / 10) h1,getElem!_pos (encC d[t / 10]) (t%10) hm];have et:t=t / 10*10+t%10:=by omega
 have:=callCells_at (j:=t%10) (v:=(encC d[t / 10])[t%10]) h2 (by
  rw [List.getElem?_eq_some_iff];have e2:(unKS d.toList)[t / 10]=d[t / 10].1:=by unfold unKS;simp
  refine⟨by rw [e2];exact hm,?_⟩;unfold encC;simp only [e2];rfl)
 rw [←this,←et]
set_option maxHeartbeats 1000000 in
theorem sortC_t (w:World) (v:Value) (n:Nat) (ls:List KS) (hO:Own w 131 10 v n (callCells (unKS ls))) (hn:ls.length=n) (h0:0<n) (hmax:n≤1048576):
  Calls Tryz.prog 83 #[v,.func (.func 84) #[] #[]] w fun e w'=>e= .returned (.tuple #[])∧∃l',l'.Perm ls∧l'.Pairwise (fun a b=>¬b.1.k.seq<a.1.k.seq)∧Own w' 131 10 v n (callCells (unKS l'))∧Fr (rowOf v) w w':=by
 rcases hO.2 with⟨hv,hz⟩ | ⟨g,cap,cur,rfl,hbs,hh,hnc,hcm,hcs,htk⟩
 ·omega
 have eg:∀args w,(callFunc 84 args).run Tryz.prog w= .ok (.enter 84 args) w:=enters_of Tryz.func84 (by kernel_rfl) rfl;have hB:Blk w g 131 cur:=hh;have hcell:∀t,t<n*10→cur[t]? =(callCells (unKS ls))[t]? :=fun t ht=>by rw [←htk,List.getElem?_take_of_lt ht,Array.getElem?_toList]
 have hH:Go.Sort.HoldsK encC 10 w g 0 ls.toArray:=by intro t ht;simp only [Go.Sort.size_flatK,List.size_toArray]at ht;refine⟨?_,hB.frozen _⟩;rw [Nat.zero_add,hB.cell,hcell t (by omega)];have:=flatK_calls ls.toArray t (by simpa using ht);rw [←this,Array.getElem?_eq_getElem (by simpa using ht),getElem!_pos];rfl
 have hcon:=AnyQ.slices_SortFunc Tryz.sortCalls 10 Tryz.isAgg131 Tryz.sizeOf131 encC (fun _=>rfl) (fun x u hu=>List.all_eq_true.1 (show(encC x).all (·.oneCell')=true from by unfold encC KA.cells;rw [Array.all_toList];exact x.1.one) u hu) cfC swoC 84 #[] g 0 cap ls.toArray w eg (cmpLaysC g 0 ls.toArray.size w) hH hB.lt (by simp;omega);have e:ls.toArray.size=n:=by simpa using hn
 rw [e]at hcon;refine Calls.mono (show Calls Tryz.prog 83 _ _ _ from hcon) ?_;rintro e' w' ⟨rfl,d',m,os,hp,hs,rfl⟩;refine⟨rfl,d'.toList,?_,?_,?_,?_⟩
 ·have:=hp.2.2;rw [show d'.extract 0 n=d' by rw [←e,←hp.1];simp,show ls.toArray.extract 0 n=ls.toArray by rw [←e];simp]at this;exact this
 ·refine List.pairwise_iff_getElem.2 fun i j hi hj hij=> ?_;have hsz:=hp.1;simp only [Array.length_toList]at hi hj;have:=hs i j (Nat.zero_le _) hij (by omega);rw [ltC,getElem!_pos d' j hj,getElem!_pos d' i hi]at this;simpa using this
 ·have hsz:d'.size=n:=by rw [hp.1,e]
  have hF:(Go.Sort.flatK encC 10 d').size=n*10:=by rw [Go.Sort.size_flatK,hsz]
  have hul:(callCells (unKS d'.toList)).length=n*10:=by rw [callCells_length];unfold unKS;rw [List.length_map,Array.length_toList,hsz]
  refine⟨hul,.inr ⟨g,cap,Go.Sort.putCells id 0 (Go.Sort.flatK encC 10 d') cur,rfl,hbs,?_,hnc,hcm,by simp [Go.Sort.putCells,hcs],?_⟩⟩
  ·have hgl:=hB.lt;show(w.heap.modify g (Go.Sort.onCells (Go.Sort.putCells id 0 (Go.Sort.flatK encC 10 d')))++os)[g]? =_;rw [Array.getElem?_append_left (by simpa using hgl),Array.getElem?_modify,if_pos rfl,hh];rfl
  ·apply List.ext_getElem?;intro t;by_cases ht:t<n*10
   ·rw [List.getElem?_take_of_lt ht,Array.getElem?_toList,←flatK_calls d' t (by rw [hsz];exact ht)];have htc:t<cur.size:=by
     have:n*10≤cap*10:=Nat.mul_le_mul_right _ hnc;omega
    simp only [Go.Sort.putCells,Array.getElem?_mapIdx,Array.getElem?_eq_getElem htc,Option.map_some,Nat.zero_le,true_and,Nat.zero_add,Nat.sub_zero,id];rw [if_pos (by omega),Array.getElem?_eq_getElem (by omega),getElem!_pos]
   ·rw [List.getElem?_eq_none (by rw [List.length_take];omega),List.getElem?_eq_none (by rw [hul];omega)]
 ·have hgl:=hB.lt;refine⟨rfl,rfl,rfl,?_,fun i hi hn=> ?_⟩
  ·show w.heap.size≤(w.heap.modify g _++os).size;simp
  ·show(w.heap.modify g _++os)[i]? =_;rw [Array.getElem?_append_left (by simpa using hi),Array.getElem?_modify,if_neg];rintro rfl;exact hn (by simp [rowOf,Value.ownBlock])
theorem sortI_t (w:World) (v:Value) (l:List KA) (x:KA) (hO:Own w 131 10 v (l.length+1) (callCells (l++ [x]))) (hmax:l.length<1048576)
  (hs:∀y∈l++ [x],0≤y.k.seq∧y.k.seq≤1099511627776) (hr:(l.map (·.k)).Pairwise fun a b=>a.seq<b.seq) (hne:∀y∈l,y.k.seq≠x.k.seq):
  Calls Tryz.prog 83 #[v,.func (.func 84) #[] #[]] w fun e w'=>e= .returned (.tuple #[])∧∃l',l'.Perm (l++ [x])∧l'.map (·.k)=insC x.k (l.map (·.k))∧Own w' 131 10 v (l.length+1) (callCells l')∧Fr (rowOf v) w w':=by
 have hu:unKS ((l++ [x]).attachWith _ hs)=l++ [x]:=by unfold unKS;exact List.attachWith_map_subtype_val _
 have hq:=sortC_t w v (l.length+1) ((l++ [x]).attachWith _ hs) (by rw [hu];exact hO) (by simp) (by omega) (by omega);refine hq.mono ?_;rintro e w' ⟨rfl,l',hp,hw,hO',hF⟩;have hp2:(unKS l').Perm (l++ [x]):=by have:=hp.map (·.1);exact hu▸this
 have hne':∀z∈l.map (·.k),z.seq≠x.k.seq:=fun z hz=>by obtain⟨y,hy,rfl⟩:=List.mem_map.1 hz;exact hne y hy
 have hri:=insC_rise hr hne';have hpm:((unKS l').map (·.k)).Perm (insC x.k (l.map (·.k))):=by refine(hp2.map _).trans ?_;rw [List.map_append];exact(insC_perm _ _).symm
 refine⟨rfl,unKS l',hp2,?_,hO',hF⟩;refine calls_ext ?_ hri hpm;have hnd:((unKS l').map (·.k)).Pairwise fun a b=>a.seq≠b.seq:=(hpm.pairwise_iff (fun h e=>h e.symm)).2 (hri.imp fun h e=>by omega);refine(List.pairwise_iff_getElem.2 fun i j hi hj hij=> ?_);have h1:=List.pairwise_iff_getElem.1 hnd i j hi hj hij;have h2:=List.pairwise_iff_getElem.1 hw i j (by unfold unKS at hi;simpa using hi) (by unfold unKS at hj;simpa using hj) hij;simp only [unKS,List.map_map,List.getElem_map,Function.comp]at h1⊢;omega
end Go.Proofs.YtpmgepijkhaonaaGreat
namespace Go.Proofs.YtpmgepijkhaonaaGreat
open Go.RowKit Go.Sig
theorem TrieIn.to {w w':World}{X Y S:List Nat}{t:Nat}{l:List Pr}(h:T.TrieIn w X t l) (hF:Fr S w w') (hS:∀g∈S,g∈X∨w.heap.size≤g) (hY:∀g∈Y,g∈X∨w.heap.size≤g) (ht:t∉S) (hY2:∀g∈Y,g<w'.heap.size) (htY:t∈Y):T.TrieIn w' Y t l:=by
 obtain⟨p,h1,h2,h3,h4⟩:=h;exact⟨p,h1.fr hF ht,h2.go ⟨hF,hS,hY⟩,htY,hY2⟩
theorem EdgesIn.to {w w':World}{me:Nat}{X Y S:List Nat}{s:List (Int×GEdge)}(h:EdgesIn w me X s) (hF:Fr S w w') (hS:∀g∈S,g∈X∨w.heap.size≤g) (hY:∀g∈Y,g∈X∨w.heap.size≤g) (hm:me∉S):EdgesIn w' me Y s:=by
 obtain⟨l,h1,h2,h3⟩:=h;exact⟨l,h1.fr hF hm,h2,fun p hp=>(h3 p hp).to (hF.mono' hS) hY⟩
structure BkAt (w:World) (pb p mb t me:Nat) (room:Int) (X:List Nat) (s:BkS):Prop where
 hp:Blk w pb 124 #[.pointer (some ⟨p,0,none⟩),.pointer (some ⟨t,0,none⟩),.map (some me)]
 hg:BookAt w p mb room X s.g
 ht:T.TrieIn w X t (tabM s.g)
 he:EdgesIn w me X s.edges
 ok:BsOk room s
 hr:1≤room∧room≤256
 mX:me∈X
 nd: [pb,p,mb,t,me].Nodup
theorem BkAt.tX {w:World}{pb p mb t me:Nat}{room:Int}{X:List Nat}{s:BkS}(h:BkAt w pb p mb t me room X s):t∈X:=by
 obtain⟨_,_,_,h,_⟩:=h.ht;exact h
theorem BkAt.fr {w w':World}{pb p mb t me:Nat}{room:Int}{X S:List Nat}{s:BkS}(h:BkAt w pb p mb t me room X s) (hF:Fr S w w') (hS:∀g∈S,g∈X∨w.heap.size≤g) (hn:∀g∈ [pb,p,mb,t,me],g∉S):BkAt w' pb p mb t me room X s:=
 {h with hp:=h.hp.fr hF (hn _ (by simp)),hg:=h.hg.fr hF hS (hn _ (by simp)) (hn _ (by simp)),ht:=h.ht.fr hF hS (hn _ (by simp)),he:=h.he.fr hF hS (hn _ (by simp))}
theorem BkAt.fr0 {w w':World}{pb p mb t me:Nat}{room:Int}{X:List Nat}{s:BkS}(h:BkAt w pb p mb t me room X s) (hF:Fr [] w w'):BkAt w' pb p mb t me room X s:=h.fr hF (by simp) (by simp)
theorem BkAt.more {w w':World}{pb p mb t me:Nat}{room:Int}{X Y:List Nat}{s:BkS}(h:BkAt w pb p mb t me room X s) (hF:Fr [] w w') (hY:∀g∈Y,w.heap.size≤g∧g<w'.heap.size):BkAt w' pb p mb t me room (X++Y) s:=
 {h with
  hp:=h.hp.fr hF (by simp)
  hg:=h.hg.more hF hY
  ht:=TrieIn.to h.ht hF (by simp) (fun g hg=>(List.mem_append.1 hg).elim .inl fun hg=> .inr (hY g hg).1) (by simp) (fun g hg=>(List.mem_append.1 hg).elim (fun hg=>Nat.lt_of_lt_of_le (h.hg.hX g hg) hF.size) fun hg=>(hY g hg).2) (List.mem_append.2 (.inl h.tX))
  he:=h.he.more hF fun g hg=>(hY g hg).1
  mX:=List.mem_append.2 (.inl h.mX)}
theorem BkAt.mono {w:World}{pb p mb t me:Nat}{room:Int}{X Y:List Nat}{s:BkS}(h:BkAt w pb p mb t me room X s) (hS:∀g∈Y,g∈X) (hm:mb∈Y) (ht:t∈Y) (hme:me∈Y):BkAt w pb p mb t me room Y s:=
 {h with
  hg:=h.hg.mono hS hm
  ht:=TrieIn.to h.ht (Fr.refl [] _) (by simp) (fun g hg=> .inl (hS g hg)) (by simp) (fun g hg=>h.hg.hX g (hS g hg)) ht
  he:=h.he.to (Fr.refl [] _) (by simp) (fun g hg=> .inl (hS g hg)) (by simp)
  mX:=hme}
theorem tab_good {room:Int}{s:BkS}(h:BsOk room s) (hr:room≤256):T.Good (tabM s.g):=by
 refine⟨tabM_rising _,fun y hy=> ?_,?_⟩
 ·obtain⟨k,hk,rfl⟩:=List.mem_map.1 hy;have:=mem_idsM.1 hk;cases hag:aget k s.g with
  |none=>rw [hag]at this;cases this
  |some f=>obtain⟨rfl,hf⟩:=h.g.2 _ _ hag;have h1:=famText_size hf;have h2:=idM_size hf.id;simp only [Option.getD_some];exact⟨⟨h2.1,by omega⟩,by omega⟩
 ·rw [tabM_length h.g];have:=h.full;omega
theorem putM_fits {k v:ByteArray}{l:List Pr}(hk:1≤k.size∧k.size≤64) (hv:v.size≤60000) (hl:l.length<4096):T.putM k v l=put (k,v) l:=by
 unfold T.putM T.putE T.fitsE;rw [if_neg (show¬(k.size<1∨64<k.size) by omega),if_neg (show¬60000<v.size by omega),if_neg (show¬((0:Int)≠0)from fun h=>h rfl),if_neg (show¬((aget k l).isSome=false∧4096≤l.length)from fun h=>absurd h.2 (by omega)),if_pos rfl]
set_option maxRecDepth 100000 in
set_option maxHeartbeats 2000000 in
theorem lay_t (w:World) (pb p mb t me:Nat) (room:Int) (X Z:List Nat) (g:GBk) (l:List Pr) (hp:Blk w pb 124 #[.pointer (some ⟨p,0,none⟩),.pointer (some ⟨t,0,none⟩),.map (some me)]) (hg:BookAt w p mb room X g)
  (ht:T.TrieIn w Z t l) (hG:T.Good l) (hl:l.length<4096) (k:ByteArray) (hk:k.size≤150000000000000):
  Calls Tryz.prog 133 #[.pointer (some ⟨pb,0,none⟩),.string k] w fun e w'=>e= .returned (.tuple #[])∧T.TrieIn w' Z t (layM k (aget k g) l)∧Fr [t] w w':=by
 have hfam:=family_t w p mb room X g k hg;unfold FamPost at hfam;have hGh:=zh hG;have hlh:=zh hl;have hkh:=zh hk;have hth:=zh ht;have hok:=zh hg.ok;have hpl:=zh hp;have q0:=hp.cell 0;simp only [zG,zH]at q0;have hgl:=hp.lt;clear hG hl hk ht hg hp;go_enter Tryz.func133,Tryz.ntmps133;cases hag:aget k g with
 |none=>
  rw [hag]at hfam;have hagh:=zh hag;clear hag;go_upto_region 1 with(first | (go_at_call 89;refine hfam.mono ?_;rintro e W1 ⟨y,rfl,hy,hyW,F1⟩) | (refine wpList_store_row rfl 26 _ _ rfl W1.heap.size y.cells rfl rfl 26 _ (Blk.new _ _ _) (infoFamA y) (by kernel_rfl) y.all1 ?_))
  refine wp_gen (fun V=>Fr [] w V) ((F1.alloc _).setRow (.inr F1.size) _) ?_;rintro V F;have q1:=(hpl.o.fr F (by simp)).cell 1;simp only [zG,zH,zI]at q1;have hdel:=T.del_t V Z t l k hkh.o (hth.o.fr0 F) hGh.o;have Fh:=zh F;clear hfam F F1 hyW;go_wp2_with (go_at_call 183;refine hdel.mono ?_;rintro e W2 ⟨rfl,hT2,F2⟩)
  refine bodyPost_ret (results_none rfl _ _ _) rfl ?_;exact⟨rfl,hT2,Fh.o.nil.trans F2⟩
 |some f=>
  rw [hag]at hfam;obtain⟨hfid,hfok⟩:=hok.o.2 _ _ hag;subst hfid;have hfokh:=zh hfok;clear hag;go_upto_region 1 with(first | (go_at_call 89;refine hfam.mono ?_;rintro e W1 ⟨y,rfl,hy,hyW,F1⟩) | (refine wpList_store_row rfl 26 _ _ rfl W1.heap.size y.cells rfl rfl 26 _ (Blk.new _ _ _) (infoFamA y) (by kernel_rfl) y.all1 ?_))
  refine wp_gen (fun V=>Blk V W1.heap.size 26 y.cells∧Fr [] W1 V) ⟨Blk.setRow (Blk.new _ _ _) _,((Fr.refl [] W1).alloc _).setRow (.inr (Nat.le_refl _)) _⟩ ?_;rintro V ⟨hB,fV⟩;have hVF:=zh (F1.trans fV);have hyV:=(hyW.fam (X:= []) (by simp)).fr fV;have hye:y.f=f:=hy;have htx:=btext_t V y hyV (by rw [hye];exact hfok);rw [hye]at htx;obtain⟨gf,HGF⟩:∃z,Hid (W1.heap.size=z):=⟨_,zh rfl⟩
  rw [HGF.o]at hB⊢;have htx2:Calls Tryz.prog 8 #[.agg y.cells] V fun e w'=>e= .returned (.tuple #[.string (famText f),.int .i64 0])∧Fr [] V w':=htx;clear hfam F1 hyW hyV htx hfok fV;go_upto_region 4 with(first | (refine wpList_load_at rfl 26 _ rfl rfl hB (sub_self _) uFam rfl (infoFamL _) ?_;rw [Array.toArray_toList]) | (go_at_call 8;refine htx2.mono ?_;rintro e W2 ⟨rfl,F2⟩))
  refine wp_gen (fun V2=>Fr [] V V2) F2 ?_;rintro V2 F2;have hF3:=zh (hVF.o.trans F2);have q1:=(hpl.o.fr hF3.o (by simp)).cell 1;simp only [zG,zH,zI]at q1;have hs:=famText_size hfokh.o;have hput:=T.put_t V2 Z t l f.id (famText f) hkh.o (by omega) (hth.o.fr0 hF3.o) hGh.o;have hid:=idM_size hfokh.o.id;rw [putM_fits ⟨hid.1,by omega⟩ (by omega) hlh.o]at hput;clear htx2 F2 hB;go_wp2_with (go_at_call 60;refine hput.mono ?_;rintro e W3 ⟨rfl,hT3,F3⟩)
  refine bodyPost_end (results_none rfl _ _ _) rfl ?_;exact⟨rfl,hT3,hF3.o.nil.trans F3⟩
theorem infoAA (y:AA):(Tryz.prog.info? 67).map (·.size)=some y.cells.size:=by unfold AA.cells;exact infoAns
theorem AA.all1 (y:AA):y.cells.all (·.oneCell')=true:=by unfold AA.cells;kernel_rfl
def zeroAA:AA:=⟨noA 0,none,0⟩
def AOwn (w:World) (a:GAns) (e:Ending) (w':World):Prop:=∃z:AA,e= .returned z.val∧z.a=a∧AnsIn w' w.heap.size z∧Fr [] w w'
set_option maxRecDepth 100000 in
set_option maxHeartbeats 2000000 in
theorem bown_t (w:World) (y:AA) (h:Rd w 1 y.A y.a.scope.length (strCells y.a.scope)) (hmax:y.a.scope.length≤8000000000000):Calls Tryz.prog 79 #[y.val] w (AOwn w y.a):=by
 obtain⟨a,A,c⟩:=y;simp only at h hmax;obtain⟨n,hn⟩:∃z,Hid (a.scope.length=z):=⟨_,zh rfl⟩
 obtain⟨c0,h0⟩:∃z,Hid (a.why=z):=⟨_,zh rfl⟩
 obtain⟨c1,h1⟩:∃z,Hid (a.access=z):=⟨_,zh rfl⟩
 obtain⟨c2,h2⟩:∃z,Hid (a.refresh=z):=⟨_,zh rfl⟩
 obtain⟨c4,h4⟩:∃z,Hid (a.client=z):=⟨_,zh rfl⟩
 obtain⟨c5,h5⟩:∃z,Hid (a.user=z):=⟨_,zh rfl⟩
 obtain⟨c6,h6⟩:∃z,Hid (a.active=z):=⟨_,zh rfl⟩
 obtain⟨c7,h7⟩:∃z,Hid (a.wait=z):=⟨_,zh rfl⟩
 unfold AA.val AA.cells;simp only;rw [hn.o]at h hmax⊢;rw [h0.o,h1.o,h2.o,h4.o,h5.o,h6.o,h7.o];have hzs:∃zs:Array Value,zs.size=8∧Hid (zs=(zeroAA).cells):=⟨_,rfl,zh rfl⟩
 obtain⟨zs,hz,hzh⟩:=hzs;go_enter Tryz.func79,Tryz.ntmps79;go_upto_region 1 with(fail)
 refine wp_gen (fun W=>Blk W w.heap.size 67 #[.int .i64 c0,.int .i64 c1,.int .i64 c2,.slice A n c,.string c4,.string c5,.bool c6,.bool c7]∧Blk W (w.heap.size+1) 67 zs∧Fr [] w W) ⟨(Blk.new _ _ _).alloc _,by rw [hzh.o];exact Blk.new' _ _ (by simp),((Fr.refl _ _).alloc _).alloc _⟩ ?_;rintro W ⟨hB,hR,fW⟩;obtain⟨ga,HGA⟩:∃z,Hid (w.heap.size=z):=⟨_,zh rfl⟩
 rw [HGA.o]at hB hR⊢;obtain⟨gr,HGR⟩:∃z,Hid (ga+1=z):=⟨_,zh rfl⟩
 rw [HGR.o]at hR⊢;have hne:ga≠gr:=by have:=HGR.o;omega
 have e3:=hB.cell 3;simp only [zG,zH,zI]at e3;have hgl:=hB.lt;have hcl:=cloneS_t W A n c a.scope (h.fr fW (by simp [Off])) hn.o hmax;unfold ClonePost at hcl;have fWh:=zh fW;clear h fW;go_upto_region 2 with(go_at_call 134;refine hcl.mono ?_;rintro e W2 ⟨A2,d2,rfl,hO2,hA2,F2⟩;have b3:=(hB.fr F2 (by simp)).cell 3;simp only [zG,zH,zI]at b3;have bl:=(hB.fr F2 (by simp)).lt;have bf:=fun m=>(hB.fr F2 (by simp)).frozen m)
 have hrow:∀g,g∈rowOf (.slice A2 n d2)→g∉ [ga]:=rowOf_off fun ad e hm=>by have:=hA2 ad e;simp at hm;omega
 have hgrl:=hR.lt;have hrow2:=zh (show∀g,g∈rowOf (.slice A2 n d2)→g∉ [gr]from rowOf_off fun ad e hm=>by
  have:=hA2 ad e;simp at hm;omega)
 refine wp_gen (fun V=>Blk V ga 67 #[.int .i64 c0,.int .i64 c1,.int .i64 c2,.slice A2 n d2,.string c4,.string c5,.bool c6,.bool c7]∧Blk V gr 67 zs∧Own V 9 1 (.slice A2 n d2) n (strCells a.scope)∧Fr [] w V) ⟨(hB.fr F2 (by simp)).set 3 _,(hR.fr F2 (by simp)).fr ((Fr.refl [ga] W2).setCell (p:=⟨ga,3,none⟩) (.inl (by simp)) _) (by simpa using fun e=>hne e.symm),hO2.fr ((Fr.refl [ga] W2).setCell (p:=⟨ga,3,none⟩) (.inl (by simp)) _) hrow,(fWh.o.trans F2).setCell (p:=⟨ga,3,none⟩) (.inr (show w.heap.size≤ga by have:=HGA.o;omega)) _⟩ ?_;rintro V ⟨hB3,hR3,hO3,F3⟩;have hA3h:=zh (show From w.heap.size A2 from fun ad e=>by have:=hA2 ad e;have:=fWh.o.size;omega);have hO3h:=zh hO3;have F3h:=zh F3;have hR3h:=zh hR3;clear hcl F2 hO2 hA2 hrow hB hR hO3 F3;go_wp2_with (first | (refine wpList_load_at rfl 67 _ rfl rfl hB3 (sub_self _) uAns rfl (by rw [Array.length_toList];exact infoAns) ?_;rw [Array.toArray_toList]) | (refine wpList_store_row rfl 67 _ _ rfl gr _ rfl rfl 67 zs hR3h.o infoAns (by rw [hz];rfl) (by kernel_rfl) ?_))
 refine bodyPost_ret (results_cell_row rfl _ _ gr 67 _ (0,0) _ rfl (Blk.setRow hR3h.o _) uAns rfl infoAns) rfl ?_;refine⟨⟨a,A2,d2⟩,?_,rfl,⟨?_,hA3h.o⟩,F3h.o.setRow (.inr (by have:=HGA.o;have:=HGR.o;omega)) _⟩
 ·unfold AA.val AA.cells;simp only;rw [hn.o,h0.o,h1.o,h2.o,h4.o,h5.o,h6.o,h7.o]
 ·unfold AA.slice;simp only;rw [hn.o];exact hO3h.o.fr ((Fr.refl [gr] V).setRow (.inl (by simp)) _) hrow2.o
end Go.Proofs.YtpmgepijkhaonaaGreat
namespace Go.Proofs.YtpmgepijkhaonaaGreat
open Go.RowKit Go.Sig
def DoesPost (w:World) (pb p mb t me:Nat) (room:Int) (X:List Nat) (s:BkS) (c:GCmd) (e:Ending) (w':World):Prop:=
 ∃y:AA,e= .returned y.val∧y.a=(doM room c s.g).2∧AnsIn w' w.heap.size y∧BkAt w' pb p mb t me room (X++rowOf y.slice) ⟨(doM room c s.g).1,s.edges⟩∧Fr [mb,t] w w'
set_option maxRecDepth 100000 in
set_option maxHeartbeats 2000000 in
theorem does_t (w:World) (pb p mb t me:Nat) (room:Int) (X:List Nat) (s:BkS) (c:GCmd) (A:Option Addr) (n d:Nat) (h:BkAt w pb p mb t me room X s) (hc:CmdIn w c A n):
  Calls Tryz.prog 78 #[.pointer (some ⟨pb,0,none⟩),.agg (cmdV c A n d)] w (DoesPost w pb p mb t me room X s c):=by
 have hh:=zh h;have hch:=zh hc;have q0:=h.hp.cell 0;simp only [zG,zH]at q0;have hzs:∃zs:Array Value,zs.size=8∧Hid (zs=(zeroAA).cells):=⟨_,rfl,zh rfl⟩
 obtain⟨zs,hz,hzh⟩:=hzs;have hpl:=h.hp.lt;clear h hc;go_enter Tryz.func78,Tryz.ntmps78;go_upto_region 1 with(fail)
 refine wp_gen (fun W=>Blk W w.heap.size 70 (cmdV c A n d)∧Blk W (w.heap.size+1) 67 zs∧Fr [] w W) ⟨(Blk.new _ _ _).alloc _,by rw [hzh.o];exact Blk.new' _ _ (by simp),((Fr.refl _ _).alloc _).alloc _⟩ ?_;rintro W ⟨hB,hR,fW⟩;obtain⟨gc,HGC⟩:∃z,Hid (w.heap.size=z):=⟨_,zh rfl⟩
 rw [HGC.o]at hB hR⊢;obtain⟨gr,HGR⟩:∃z,Hid (gc+1=z):=⟨_,zh rfl⟩
 rw [HGR.o]at hR⊢;have hgc:=hB.lt;have hgr:=hR.lt;have q1:=cell_fr fW q0;have hw:=hh.o.more (Y:= [gr]) fW (fun g hg=>by
  obtain rfl:=List.mem_singleton.1 hg;exact⟨by have:=HGC.o;have:=HGR.o;omega,hgr⟩)
 have hwh:=zh hw;have hbp:=bdo_t;have hdo:∀V,Fr [] W V→Calls Tryz.prog 77 #[.pointer (some ⟨p,0,none⟩),.agg (cmdV c A n d)] V (DoPost V p mb room (X++ [gr]) (doM room c s.g)):=fun V hV=>bdo_t V p mb room (X++ [gr]) s.g c A n d (hw.hg.fr0 hV) (hch.o.fr (fW.trans hV) (by simp [Off]));have hdo2:∀V q,Fr [] W V→W.heap.size≤q→q<V.heap.size→Calls Tryz.prog 77 #[.pointer (some ⟨p,0,none⟩),.agg (cmdV c A n d)] V (DoPost V p mb room ((X++ [gr])++ [q]) (doM room c s.g)):=fun V q hV h1 h2=>bdo_t V p mb room _ s.g c A n d (hw.hg.more hV (fun g hg=>by
  obtain rfl:=List.mem_singleton.1 hg;exact⟨h1,h2⟩)) (hch.o.fr (fW.trans hV) (by simp [Off]))
 clear hbp;unfold DoPost at hdo hdo2;have hdoh:=zh hdo;have hdoh2:=zh hdo2;have fWh:=zh fW;have hBh:=zh hB;have hRh:=zh hR;have hP:=hh.o.hp.fr fW (by simp);have hPh:=zh hP;have nmb:gc≠mb:=by have:=hh.o.hg.hb.lt;have:=HGC.o;omega
 have rmb:gr≠mb:=by have:=hh.o.hg.hb.lt;have:=HGC.o;have:=HGR.o;omega
 have nmbW:W.heap.size≠mb:=by have:=hh.o.hg.hb.lt;have:=fW.size;omega
 have pmb:pb≠mb:=fun e=>by have:=hh.o.nd;rw [e]at this;simp at this
 have rC:=range_cells hB;have rC':W.rangeAt gc 0 [.int .i64 c.kind,.string c.family,.int .i64 c.serial,.int .i64 c.token,.string c.client,.string c.user,.slice A n d,.string c.redirect,.string c.challenge,.string c.method,.string c.verifier,.bool c.refresh,.int .i64 c.edge]:=rC;have hpl1:=hP.lt;clear fW q0 hw hdo hdo2 hP hB hR rC hpl;go_cut [5]from 6 to 11 (fun s5 wx=>∃gy y,s5= .pointer (some ⟨gy,0,none⟩)∧y.a=(doM room c s.g).2∧AnsIn wx W.heap.size y∧BookAt wx p mb room ((X++ [gr])++rowOf y.slice) (doM room c s.g).1∧Blk wx gy 67 y.cells∧W.heap.size≤gy∧Fr [mb] W wx)
 case first=>
  refine wp_region_z (fun w'=>w'.rangeAt gc 0 [.int .i64 c.kind,.string c.family,.int .i64 c.serial,.int .i64 c.token,.string c.client,.string c.user,.slice A n d,.string c.redirect,.string c.challenge,.string c.method,.string c.verifier,.bool c.refresh,.int .i64 c.edge]∧w'.cell? ⟨pb,0,none⟩=some (.pointer (some ⟨p,0,none⟩))) [7] (by kernel_rfl) ⟨rC',q1⟩ ?_;intro hHeld;refine wpZ_tk (i:=0) (v:= ?_) hHeld ?_ ?_;rotate_left
  ·(intro w hSw;go_simp<;>with_reducible rfl)
  try simp only [zA,zC,Act.put,zD,zE,zF]
  refine wpZ_tk (i:=1) (v:= ?_) hHeld ?_ ?_;rotate_left
  ·(intro w hSw;go_simp<;>with_reducible rfl)
  try simp only [zA,zB,zC,Act.put,zD,zE,zF]
  refine wpZ_tk (i:=2) (v:= ?_) hHeld ?_ ?_;rotate_left
  ·(intro w hSw;go_simp<;>with_reducible rfl)
  try simp only [zA,zB,zC,Act.put,zD,zE,zF]
  refine wpZ_tk (i:=3) (v:= ?_) hHeld ?_ ?_;rotate_left
  ·(intro w hSw;go_simp<;>with_reducible rfl)
  try simp only [zA,zB,zC,Act.put,zD,zE,zF]
  refine wpZ_take (i:=4) rfl (by kernel_rfl) (by kernel_rfl) (by kernel_rfl) (by kernel_rfl) (fun _ _ _ h=>h) (yieldsIf_load_mid (by kernel_rfl) 70 _ rfl gc 0 rfl ([.int .i64 c.kind,.string c.family,.int .i64 c.serial,.int .i64 c.token,.string c.client,.string c.user,.slice A n d,.string c.redirect,.string c.challenge,.string c.method,.string c.verifier,.bool c.refresh,.int .i64 c.edge]) _ (fun w h=>h.1) uCmd rfl (by kernel_rfl)) hHeld ?_;try simp only [zA,zB,zC,Act.put,zD,zE,zF]
  refine wpZ_two (i:=5) (j:=6) (by kernel_rfl) rfl rfl (fun K hK=> ?_) (fun K hK=> ?_)
  ·go_simp;refine Calls.mono (show Calls Tryz.prog 77 _ _ _ from hdoh.o W.drew (Fr.refl [] W).drew) ?_;rintro e W1 ⟨y,rfl,hy,hyA,hbk,F1⟩;have F1:Fr [mb] W W1:=F1.of_drew;have bc1:=hBh.o.fr F1 (by simpa using nmb);have rC1:=range_cells bc1;have bp1:=(hPh.o.fr F1 (by simpa using pmb)).cell 0;simp only [zG,zH]at bp1;try dsimp only
   refine hK.out _ _ ⟨rC1,bp1⟩ (fun hHeld=> ?_);clear hK K;try simp only [zA,zB,zC,Act.put,zD,zE,zF]
   refine wpZ_one (i:=6) (by kernel_rfl) rfl (fun K hK=> ?_);go_simp;refine hK.out _ _ ⟨range_fr1 ((Fr.refl [] W1).alloc _) rC1,cell_fr ((Fr.refl [] W1).alloc _) bp1⟩ (fun hHeld=> ?_);clear hK K;try simp only [zA,zB,zC,Act.put,zD,zE,zF]
   refine wpZ_end (i:=7) (by kernel_rfl) rfl rfl (fun K hK=> ?_);rw [if_pos (wanted_none rfl)];refine wp_store_row 67 _ _ rfl W1.heap.size y.cells rfl rfl 67 _ (Blk.new _ _ _) (infoAA y) (by kernel_rfl) y.all1 ?_;show K (Act.put _ none undef) _;refine hK.out _ _ ?_;clear hK K;try simp only [Act.put]
   refine wpZ_done (by kernel_rfl) ?_ _;go_wp2_with fail
   go_meet;exact⟨W1.heap.size,y,rfl,hy,ans_fr hyA (((Fr.refl [] W1).alloc _).setRow (.inr (Nat.le_refl _)) _) (by simp),hbk.fr (((Fr.refl [] W1).alloc _).setRow (.inr (Nat.le_refl _)) _) (by simp) (by simp) (by simp),Blk.setRow (Blk.new _ _ _) _,F1.size,(F1.alloc _).setRow (.inr F1.size) _⟩
  ·go_simp;refine hK.out _ _ ⟨range_fr1 ((Fr.refl [] W).drew.alloc _) rC',cell_fr ((Fr.refl [] W).drew.alloc _) q1⟩ (fun hHeld=> ?_);clear hK K;try simp only [zA,zB,zC,Act.put,zD,zE,zF]
   refine wpZ_one (i:=5) (by kernel_rfl) rfl (fun K hK=> ?_);go_simp;refine Calls.mono (show Calls Tryz.prog 77 _ _ _ from hdoh2.o _ W.heap.size ((Fr.refl [] W).alloc _).drew (Nat.le_refl _) (by simp)) ?_;rintro e W1 ⟨y,rfl,hy,hyA,hbk,F1⟩;have F01:Fr [mb] W W1:=((Fr.refl [] W).alloc _).drew.nil.trans F1;have bc1:=hBh.o.fr F01 (by simpa using nmb);have rC1:=range_cells bc1;have bp1:=(hPh.o.fr F01 (by simpa using pmb)).cell 0;simp only [zG,zH]at bp1;have hBa:Blk W1 W.heap.size 67 zeroAA.cells:=Blk.fr (w:=(W.alloc (.cells zeroAA.cells 67)).drew) (Blk.new W 67 zeroAA.cells) F1 (by simpa using nmbW);try dsimp only
   refine hK.out _ _ ⟨rC1,bp1⟩ (fun hHeld=> ?_);clear hK K;try simp only [zA,zB,zC,Act.put,zD,zE,zF]
   refine wpZ_end (i:=7) (by kernel_rfl) rfl rfl (fun K hK=> ?_);rw [if_pos (wanted_none rfl)];refine wp_store_row 67 _ _ rfl W.heap.size y.cells rfl rfl 67 _ hBa (infoAA y) (by kernel_rfl) y.all1 ?_;show K (Act.put _ none undef) _;refine hK.out _ _ ?_;clear hK K;try simp only [Act.put]
   refine wpZ_done (by kernel_rfl) ?_ _;go_wp2_with fail
   go_meet;have hs1:∀g,g∈rowOf y.slice→W.heap.size<g:=fun g hg=>by obtain⟨ad,e,rfl⟩:=rowOf_mem.1 hg;have:=hyA.2 ad e;simp at this;omega
   have hs2:∀g∈ [W.heap.size],g∈((X++ [gr])++ [W.heap.size])++rowOf y.slice∨W1.heap.size≤g:=fun g hg=> .inl (List.mem_append.2 (.inl (List.mem_append.2 (.inr hg))));have hp1:p∉ [W.heap.size]:=by have h1:=hh.o.hg.hp.lt;have h2:=fWh.o.size;simp;omega
   have hbk2:=hbk.fr ((Fr.refl [W.heap.size] W1).setRow (g:=W.heap.size) (.inl (by simp)) y.cells) hs2 (by simpa using fun e=>nmbW e.symm) hp1;refine⟨W.heap.size,y,rfl,hy,⟨hyA.1.fr ((Fr.refl [W.heap.size] W1).setRow (g:=W.heap.size) (.inl (by simp)) y.cells) (fun g hg hm=> ?_),hyA.2.mono (by simp)⟩,hbk2.mono (fun g hg=> ?_) ?_,Blk.setRow hBa _,Nat.le_refl _,F01.setRow (.inr (Nat.le_refl _)) _⟩
   ·have:=hs1 g hg;simp at hm;omega
   ·rcases List.mem_append.1 hg with hg |hg
    ·exact List.mem_append.2 (.inl (List.mem_append.2 (.inl hg)))
    ·exact List.mem_append.2 (.inr hg)
   ·exact List.mem_append.2 (.inl (List.mem_append.2 (.inl hh.o.hg.hmb)))
 case rest=>
  obtain⟨gy,y,rfl,hy,hyA,hbk,hY,hgy,F1⟩:=hcut;obtain⟨V,hV⟩:∃V:World,V=wc:=⟨_,rfl⟩
  subst hV;have hBV:=hBh.o.fr F1 (by simpa using nmb);have hRV:=hRh.o.fr F1 (by simpa using rmb);have hPV:=hPh.o.fr F1 (by simpa using pmb);have hYX:∀g∈(X++ [gr])++rowOf y.slice,g∈X++ [gr]∨W.heap.size≤g:=fun g hg=>(List.mem_append.1 hg).imp id fun hg=>by obtain⟨ad,e,rfl⟩:=rowOf_mem.1 hg;exact hyA.2 ad e
  have htm:t≠mb:=fun e=>by have:=hh.o.nd;rw [e]at this;simp at this
  have hmm:me≠mb:=fun e=>by have:=hh.o.nd;rw [e]at this;simp at this
  have htp:pb≠t∧p≠t∧mb≠t∧me≠t:=by have:=hh.o.nd;simp only [List.nodup_cons,List.mem_cons,List.not_mem_nil,or_false,not_or]at this;obtain⟨⟨a1,a2,a3,a4⟩,⟨b1,b2,b3⟩,⟨c1,c2⟩,d1,_⟩:=this;exact⟨a3,b2,c1,fun e=>d1 e.symm⟩
  have hmX:∀g∈ [mb],g∈X++ [gr]∨W.heap.size≤g:=fun g hg=> .inl (by obtain rfl:=List.mem_singleton.1 hg;exact hwh.o.hg.hmb);have hTV:=TrieIn.to hwh.o.ht F1 hmX hYX (by simpa using htm) hbk.hX (List.mem_append.2 (.inl hwh.o.tX));have hEV:=hwh.o.he.to F1 hmX hYX (by simpa using hmm);have htl:(tabM s.g).length<4096:=by rw [tabM_length hh.o.ok.g];have:=hh.o.ok.full;have:=hh.o.hr;omega
  have hlay:=lay_t V pb p mb t me room _ _ _ _ hPV hbk hTV (tab_good hh.o.ok hh.o.hr.2) htl c.family hch.o.hf;rw [←tab_lay (room:=room) (c:=c) hh.o.ok.g]at hlay;have q2:=hBV.cell 1;unfold cmdV at q2;simp only [zG,zH,zI]at q2;have hgcV:=hBV.lt;have hYh:=zh hY;have hRVh:=zh hRV;have hPVh:=zh hPV;have hbkh:=zh hbk;have hEVh:=zh hEV;have hyAh:=zh hyA;have F1h:=zh F1;have htph:=zh htp;have hgyt:=zh (show t<W.heap.size from hwh.o.hg.hX t hwh.o.tX);clear hBV hRV hPV hYX htm hmm htp hTV hEV hmX htl hbk hY hyA F1 rC' q1;go_wp2_with fail
  refine Calls.mono (show Calls Tryz.prog 133 _ _ _ from hlay) ?_;rintro e W2 ⟨rfl,hT2,F2⟩;have hgr4:gr<W.heap.size:=hRh.o.lt;have hwr:w.heap.size≤gr:=by have:=HGC.o;have:=HGR.o;omega
  have hgt:gr≠t:=by have:=hh.o.hg.hX t hh.o.tX;omega
  have hY2:=hYh.o.fr F2 (by have:=hgyt.o;simp;omega);have hR2:=hRVh.o.fr F2 (by simpa using hgt);have hT2h:=zh hT2;have F2h:=zh F2;have hR2h:=zh hR2;clear hlay hT2 F2 hR2 q2 hgcV;go_wp2_with (first | (refine wpList_load_at rfl 67 _ rfl rfl hY2 (sub_self _) uAns rfl (by rw [Array.length_toList];exact infoAA y) ?_;rw [Array.toArray_toList]) | (refine wpList_store_row rfl 67 _ _ rfl gr _ rfl rfl 67 zs hR2h.o (infoAA y) (by rw [hz];rfl) y.all1 ?_))
  refine bodyPost_ret (results_cell_row rfl _ _ gr 67 _ (0,0) _ rfl (Blk.setRow hR2h.o _) uAns rfl (infoAA y)) rfl ?_;have hrw:∀g∈rowOf y.slice,W.heap.size≤g:=fun g hg=>by obtain⟨ad,e,rfl⟩:=rowOf_mem.1 hg;exact hyAh.o.2 ad e
  have hS:∀g∈ [gr,t],g∈(X++ [gr])++rowOf y.slice∨V.heap.size≤g:=fun g hg=> .inl (List.mem_append.2 (.inl (by
   simp only [List.mem_cons,List.not_mem_nil,or_false]at hg;rcases hg with rfl |rfl
   ·exact List.mem_append.2 (.inr (by simp))
   ·exact List.mem_append.2 (.inl hh.o.tX))))
  have hlt:=hh.o.hp.lt;have hlp:=hh.o.hg.hp.lt;have hlm:=hh.o.hg.hb.lt;have hle:=hh.o.hg.hX me hh.o.mX;have htx:=htph.o;have FT:Fr [gr,t] V (W2.setRow gr y.cells):=(F2h.o.mono (by simp)).setRow (.inl (by simp)) _;have FW:Fr [gr,t] W2 (W2.setRow gr y.cells):=(Fr.refl _ _).setRow (.inl (by simp)) _;have hBk:BkAt (W2.setRow gr y.cells) pb p mb t me room ((X++ [gr])++rowOf y.slice) ⟨(doM room c s.g).1,s.edges⟩:=
   ⟨hPVh.o.fr FT (by simp;omega),hbkh.o.fr FT hS (by simp;omega) (by simp;omega),
    TrieIn.to hT2h.o ((Fr.refl [gr] W2).setRow (.inl (by simp)) _) (fun g hg=> .inl (List.mem_append.2 (.inl (List.mem_append.2 (.inr hg))))) (fun g hg=> .inl hg) (by simpa using fun e=>hgt e.symm) (fun g hg=>Nat.lt_of_lt_of_le (hbkh.o.hX g hg) FT.size) (List.mem_append.2 (.inl (List.mem_append.2 (.inl hh.o.tX)))),
    hEVh.o.fr FT hS (by simp;omega),⟨doM_ok hh.o.ok.g,do_room hh.o.ok.g hh.o.ok.full,hh.o.ok.nodup,hh.o.ok.each⟩,hh.o.hr,List.mem_append.2 (.inl (List.mem_append.2 (.inl hh.o.mX))),hh.o.nd⟩
  refine⟨y,rfl,hy,⟨hyAh.o.1.fr FT (fun g hg hm=> ?_),hyAh.o.2.mono fWh.o.size⟩,hBk.mono (fun g hg=> ?_) ?_ ?_ ?_,?_⟩
  ·have:=hrw g hg;have:=hgyt.o;simp only [List.mem_cons,List.not_mem_nil,or_false]at hm;omega
  ·rcases List.mem_append.1 hg with hg |hg
   ·exact List.mem_append.2 (.inl (List.mem_append.2 (.inl hg)))
   ·exact List.mem_append.2 (.inr hg)
  ·exact List.mem_append.2 (.inl hh.o.hg.hmb)
  ·exact List.mem_append.2 (.inl hh.o.tX)
  ·exact List.mem_append.2 (.inl hh.o.mX)
  ·exact((fWh.o.nil (S:= [mb,t])).trans ((F1h.o.mono (by simp)).trans (F2h.o.mono (by simp)))).setRow (.inr hwr) _
end Go.Proofs.YtpmgepijkhaonaaGreat
