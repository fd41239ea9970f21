/- Walks of a roll: a roll of right clients. Conditions: each theorem's own. -/
import Derived.Test.YtopfcgpeaaehgaaGreatDoorAq
namespace Go.Sig
open Go
section
variable {P:Program}{ops:Array Oper}{Q:Exit→Act→World→Prop}{a:Act}{w:World}{rest:List Oper}{o:Oper}{K:Act→World→Prop}
theorem wp_load_cells (ty:TypeId) (x:Operand) (ho:o.op= .load ty x) {g off:Nat}(hx:a.eval x= .pointer (some ⟨g,off,none⟩)) {ys:Array Value}{d:TypeDesc}(hc:∀j v,ys[j]? =some v→w.cell? ⟨g,off+j,none⟩=some v)
  (hu:P.underlying ty=some d) (hd:(match d with | .struct _ | .array _ _=>true |_=>false)=true) (hi:(P.info? ty).map (·.size)=some ys.size)
  (h:K (a.put o.dst (.agg ys)) w):o.wp P a w K Q:=by
 have hl:=run_loadVar_at (P:=P) (ys:=ys.toList) (fun j v hv=>hc j v (by rw [←Array.getElem?_toList];exact hv)) hu hd (by rw [Array.length_toList];exact hi);rw [Array.toArray_toList]at hl;unfold Oper.wp execOp;simp only [ho,hx,Instr.loadAt,Instr.sureAddr,Sem.run_bind,Sem.run_pure,Result.andThen_ok,hl];exact h
theorem wpList_load_cells (hgd:o.guard=none) (ty:TypeId) (x:Operand) (ho:o.op= .load ty x) {g off:Nat}(hx:a.eval x= .pointer (some ⟨g,off,none⟩)) {ys:Array Value}{d:TypeDesc}(hc:∀j v,ys[j]? =some v→w.cell? ⟨g,off+j,none⟩=some v)
  (hu:P.underlying ty=some d) (hd:(match d with | .struct _ | .array _ _=>true |_=>false)=true) (hi:(P.info? ty).map (·.size)=some ys.size)
  (h:wpList P ops Q rest (a.put o.dst (.agg ys)) w):wpList P ops Q (o::rest) a w:=
 wpList_plain hgd fun _ hK=>wp_load_cells ty x ho hx hc hu hd hi (hK _ _ h)
end
end Go.Sig
namespace Go.Proofs.YtopfcgpeaaehgaaGreatDoor
open Go.RowKit Go.Sig
theorem range_cells {w:World}{g:Nat}{t:TypeId}{cs:Array Value}(h:Blk w g t cs):w.rangeAt g 0 cs.toList:=fun j v hv=>by
 rw [h.cell,Nat.zero_add,←Array.getElem?_toList];exact hv
theorem range_fr1 {w w':World}{g:Nat}{cs:List Value}(hf:Fr [] w w') (h:w.rangeAt g 0 cs):w'.rangeAt g 0 cs:=fun j v hv=>cell_fr hf (h j v hv)
def cvCells (l:List CV):List Value:=l.flatMap fun x=>x.cells.toList
theorem cvCells_at:∀{l:List CV}{i j:Nat}(h:i<l.length) {v:Value},(l[i].cells)[j]? =some v→(cvCells l)[i*6+j]? =some v
 |x::l,0,j,_,v,hv=>by
  have hj:=(Array.getElem?_eq_some_iff.1 hv).1;have hj2:j<x.cells.toList.length:=by simpa using hj
  rw [cvCells,List.flatMap_cons,Nat.zero_mul,Nat.zero_add,List.getElem?_append_left hj2,Array.getElem?_toList];exact hv
 |x::l,i+1,j,h,v,hv=>by have:=cvCells_at (l:=l) (i:=i) (by simpa using h) hv;have hx:x.cells.toList.length=6:=rfl;rw [cvCells,List.flatMap_cons,List.getElem?_append_right (by rw [hx];omega),hx,show(i+1)*6+j - 6=i*6+j by omega];exact this
theorem CliFrom.mono {B C:Nat}{y:CV}(h:CliFrom B y) (hC:C≤B):CliFrom C y:=⟨h.1.mono hC,h.2.1.mono hC,h.2.2.mono hC⟩
theorem wpList_load_want {P:Program}{ops:Array Oper}{rest:List Oper}{o:Oper}{a:Act}{w:World}{Q:Exit→Act→World→Prop}(hw:Region.wanted o (yielded ops a.tmps)=true) (ty:TypeId) (x:Operand) (ho:o.op= .load ty x) {g off:Nat}(hx:a.eval x= .pointer (some ⟨g,off,none⟩)) {t:TypeId}{cs:Array Value}{ys:List Value}{d:TypeDesc}(hg:Blk w g t cs) (hs:Sub cs off ys)
  (hu:P.underlying ty=some d) (hd:(match d with | .struct _ | .array _ _=>true |_=>false)=true) (hi:(P.info? ty).map (·.size)=some ys.length)
  (h:wpList P ops Q rest (a.put o.dst (.agg ys.toArray)) w):wpList P ops Q (o::rest) a w:=
 wpList_step fun K hK=>by rw [if_pos hw];exact wp_load_at ty x ho hx hg hs hu hd hi (hK _ _ h)
structure CvsIn (w:World) (A:Option Addr) (n:Nat) (l:List CV):Prop where
 hR:Rd w 6 A n (cvCells l)
 hn:l.length=n
 each:∀x∈l,CliIn w x
theorem CvsIn.fr0 {w w':World}{A:Option Addr}{n:Nat}{l:List CV}(h:CvsIn w A n l) (hF:Fr [] w w'):CvsIn w' A n l:=⟨h.hR.fr hF (fun _=>off_nil _),h.hn,fun x hx=>(h.each x hx).fr0 hF⟩
theorem CvsIn.row {w:World}{A:Option Addr}{n i:Nat}{l:List CV}(h:CvsIn w A n l) (hi:i<n):
  ∃x b o,A=some ⟨b,o,none⟩∧l[i]? =some x∧(∀j v,x.cells[j]? =some v→w.cell? ⟨b,o+i*6+j,none⟩=some v)∧CliIn w x:=by
 have hi':i<l.length:=by rw [h.hn];exact hi
 obtain⟨b,o,e,hc⟩:=h.hR.2 (by omega);refine⟨l[i],b,o,e,List.getElem?_eq_getElem hi',fun j v hv=> ?_,h.each _ (List.getElem_mem hi')⟩;rw [Nat.add_assoc];exact hc _ _ (cvCells_at hi' hv)
structure RollW (w:World) (B r mb:Nat) (l:List GCli) (L:List (ByteArray×CV)):Prop where
 hB:Blk w r 70 #[.map (some mb)]
 hM:IsMap w mb Value.string CV.val L
 hL:L.map (fun p=>(p.1,p.2.c))=l.map (fun c=>(c.id,c))
 each:∀p∈L,CliIn w p.2∧CliFrom B p.2
 lr:r<B
 lm:mb<B
 ne:r≠mb
theorem RollW.at {w:World}{B r mb:Nat}{l:List GCli}{L:List (ByteArray×CV)}(h:RollW w B r mb l L):RollAt w r l:=⟨mb,L,h.hB,h.hM,h.hL,fun p hp=>(h.each p hp).1⟩
theorem RollW.fr0 {w w':World}{B r mb:Nat}{l:List GCli}{L:List (ByteArray×CV)}(h:RollW w B r mb l L) (hF:Fr [] w w'):RollW w' B r mb l L:=
 ⟨h.hB.fr hF (by simp),h.hM.fr hF (by simp),h.hL,fun p hp=>⟨(h.each p hp).1.fr0 hF,(h.each p hp).2⟩,h.lr,h.lm,h.ne⟩
theorem aset_new {ν:Type}{k:ByteArray}{v:ν}:∀{L:List (ByteArray×ν)},aget k L=none→aset k v L=L++ [(k,v)]
 | [],_=>rfl
 | (a,x)::L,h=>by
  unfold aget at h;unfold aset;by_cases ha:a=k
  ·rw [if_pos ha]at h;cases h
  ·rw [if_neg ha]at h⊢;rw [aset_new h];rfl
theorem RollW.more {w w':World}{B r mb:Nat}{l:List GCli}{L:List (ByteArray×CV)}{y:CV}(h:RollW w B r mb l L) (hn:aget y.c.id L=none) (hy:CliIn w y) (hf:CliFrom B y)
  (hM:IsMap w' mb Value.string CV.val (aset y.c.id y L)) (hF:Fr [mb] w w'):RollW w' B r mb (l++ [y.c]) (aset y.c.id y L):=by
 have hmb:∀g∈ [mb],g<B:=by simpa using h.lm
 refine⟨h.hB.fr hF (by simpa using h.ne),hM,by rw [aset_new hn,List.map_append,List.map_append,h.hL];rfl,fun p hp=> ?_,h.lr,h.lm,h.ne⟩;rw [aset_new hn,List.mem_append,List.mem_singleton]at hp;rcases hp with hp |rfl
 ·exact⟨(h.each p hp).1.frS hF (h.each p hp).2 hmb,(h.each p hp).2⟩
 ·exact⟨hy.frS hF hf hmb,hf⟩
theorem RollW.none {w:World}{B r mb:Nat}{l:List GCli}{L:List (ByteArray×CV)}(h:RollW w B r mb l L) {id:ByteArray}(hid:id∉l.map (·.id)):aget id L=none:=by
 rw [aget_none_iff];have:L.map (·.1)=l.map (·.id):=by have:=congrArg (List.map Prod.fst) h.hL;rw [List.map_map,List.map_map]at this;exact this
 rw [this];exact hid
def RNewPost (w:World) (l:List GCli) (e:Ending) (w':World):Prop:=∃r,e= .returned (.tuple #[.pointer (some ⟨r,0,none⟩),.int .i64 0])∧RollAt w' r l∧w.heap.size≤r∧Fr [] w w'
set_option maxRecDepth 100000 in
set_option maxHeartbeats 8000000 in
theorem rnew_t (w:World) (A:Option Addr) (n c:Nat) (xs:List CV) (h:CvsIn w A n xs) (hok:rollOk (xs.map (·.c))=true):Calls Tryz.prog 11 #[.slice A n c] w (RNewPost w (xs.map (·.c))):=by
 have hmm:= @run_makeMap Tryz.prog;unfold rollOk at hok;simp only [Bool.and_eq_true,decide_eq_true_eq,List.all_eq_true]at hok;obtain⟨⟨hok1,hok2⟩,hok3⟩:=hok;have hn64:n≤64:=by rw [List.length_map,h.hn]at hok3;exact hok3
 have h64:decide ((64:Int)<(n:Nat))=false:=by rw [decide_eq_false_iff_not];omega
 have hh:=zh h;have hok1h:=zh hok1;have hok2h:=zh hok2;clear h hok1 hok2 hok3;go_enter Tryz.func11,Tryz.ntmps11;go_upto_region 4 with(fail)
 refine wp_gen (fun V=>RollW V (w.heap.size+2) (w.heap.size+1) w.heap.size [] []∧Fr [] w V) ⟨⟨Blk.new' _ _ (by simp),(IsMap.new w Value.string CV.val).alloc _,rfl,fun p hp=>(by cases hp),by omega,by omega,by omega⟩,((Fr.refl _ _).alloc _).alloc _⟩ ?_;rintro V0 ⟨hW0,f0⟩;obtain⟨r,HR⟩:∃z,Hid (w.heap.size+1=z):=⟨_,zh rfl⟩
 obtain⟨B,HB⟩:∃z,Hid (w.heap.size+2=z):=⟨_,zh rfl⟩
 rw [HR.o,HB.o]at hW0;rw [HR.o];obtain⟨mb,HM⟩:∃z,Hid (w.heap.size=z):=⟨_,zh rfl⟩
 rw [HM.o]at hW0⊢;have hBr:Hid (w.heap.size≤mb∧w.heap.size≤r∧B≤V0.heap.size):=zh ⟨by rw [HM.o];exact Nat.le_refl _,by have:=HR.o;omega,by have:=HR.o;have:=HB.o;have:=hW0.hB.lt;omega⟩;have hRW0:=zh hW0;clear hW0;have f0h:=zh f0;clear f0;have hnl:Hid (xs.length=n):=zh hh.o.hn;go_upto_block 0 with(fail)
 go_wp2_with fail
 go_loopg [6,7,8,9,18] (n+1) (fun gk s6 s7 s8 s9 s18 wr=>∃(i:Nat) (L:List (ByteArray×CV)),s18= .int .i64 i∧i≤n∧n - i<gk∧RollW wr B r mb ((xs.take i).map (·.c)) L∧Fr [] w wr∧B≤wr.heap.size)
 case atStart=>exact⟨0,[],rfl,by omega,by omega,hRW0.o,f0h.o,hBr.o.2.2⟩
 case round=>
  obtain⟨i,L,rfl,hi,hk,hRW,hF,hBl⟩:=hrel;have hRW:=zh hRW;have hFh:=zh hF;have hBlh:=zh hBl;clear hF hBl;by_cases hlt:i<n
  ·have hlt':(i:Int)<(n:Nat):=by omega
   obtain⟨x,b,o,rfl,hxi,hcs,hxin⟩:=(hh.o.fr0 hFh.o).row hlt;have hlx:i<xs.length:=by rw [hnl.o];exact hlt
   have hxe:xs[i]'hlx=x:=(List.getElem?_eq_some_iff.1 hxi).2;have hxm:x∈xs:=List.mem_of_getElem? hxi;have hfine:=zh<|CliFine.of (hok1h.o x.c (List.mem_map.2 ⟨x,hxm,rfl⟩))
   have hsz:=zh hfine.o.sz;have hstep:Hid ((xs.take (i+1)).map (·.c)=(xs.take i).map (·.c)++ [x.c]):=zh (by rw [List.take_succ_eq_append_getElem hlx,hxe,List.map_append];rfl);have hnone:aget x.c.id L=none:=hRW.o.none (by
    have hnd:=hok2h.o;intro hm;have h2:(xs.map (·.c)).map (·.id)=((xs.take i).map (·.c)).map (·.id)++(x.c.id::((xs.drop (i+1)).map (·.c)).map (·.id)):=by
     have h0:xs=xs.take i++x::xs.drop (i+1):=by rw [←hxe,←List.drop_eq_getElem_cons hlx,List.take_append_drop]
     have h3:=congrArg (fun l:List CV=>(l.map (·.c)).map (·.id)) h0;simp only [List.map_append,List.map_cons]at h3;exact h3
    rw [h2]at hnd;exact(List.nodup_append.1 hnd).2.2 _ hm _ List.mem_cons_self rfl)
   have hlth:=zh hlt;have hnoneh:=zh hnone;have hxinh:=zh hxin;clear hxi hxe hxm hxin hnone;go_upto_region 7 with(first
    | (refine wpList_load_cells rfl 65 _ rfl rfl hcs uCli rfl (infoCli x) ?_)
    | (refine wpList_store_row rfl 65 _ _ rfl wr.heap.size x.cells rfl rfl 65 _ (Blk.new _ _ _) (infoCli x) (by rfl) (CV.all1 x) ?_))
   refine wp_gen (fun V=>Blk V wr.heap.size 65 x.cells∧Fr [] wr V) ⟨Blk.setRow (Blk.new _ _ _) _,((Fr.refl [] wr).alloc _).setRow (.inr (Nat.le_refl _)) _⟩ ?_;rintro W1 ⟨hB1,F1⟩;obtain⟨g6,HG6⟩:∃z,Hid (wr.heap.size=z):=⟨_,zh rfl⟩
   rw [HG6.o]at hB1⊢;have f1h:=zh F1;clear F1 hcs hlt hlx;go_upto_region 8 with(first
    | (refine wpList_load_at rfl 65 _ rfl rfl hB1 (sub_self _) uCli rfl (infoCliL _) ?_;rw [Array.toArray_toList];unfold CV.cells)
    | (refine wpList_store_row rfl 72 _ _ rfl W1.heap.size x.cells rfl rfl 72 _ (Blk.new _ _ _) (infoRcli x) (by rfl) (CV.all1 x) ?_))
   refine wp_gen (fun V=>Blk V W1.heap.size 72 x.cells∧Fr [] W1 V) ⟨Blk.setRow (Blk.new _ _ _) _,((Fr.refl [] W1).alloc _).setRow (.inr (Nat.le_refl _)) _⟩ ?_;rintro W2 ⟨hB2,F2⟩;obtain⟨g7,HG7⟩:∃z,Hid (W1.heap.size=z):=⟨_,zh rfl⟩
   rw [HG7.o]at hB2⊢;have f2h:=zh (f1h.o.trans F2);have hW2h:=zh (hRW.o.fr0 f2h.o);have hB2h:=zh hB2;have k1:=hW2h.o.hB.cell 0;have k2:=hB2.cell 0;unfold CV.cells at k2;simp only [zG,zH]at k1 k2;have hM2:=hW2h.o.hM;have hlk:∀v,IsMap v mb Value.string CV.val L→(Instr.lookup 68 (.map (some mb)) (.string x.c.id) true).run Tryz.prog v= .ok (.tuple #[.agg zeroCV.cells,.bool false]) v:=fun v hv=>by have h:=hv.run_lookup_ok kStr (z:=zeroCV.val) uMcli (fun w=>by kernel_rfl) x.c.id;rw [hnoneh.o]at h;exact h
   clear hB2 F2 hB1;have hrl:=hW2h.o.hB.lt;have hg7:=hB2h.o.lt;refine wp_region_z (fun v=>v.cell? ⟨r,0,none⟩=some (.map (some mb))∧v.cell? ⟨g7,0,none⟩=some (.string x.c.id)∧IsMap v mb Value.string CV.val L) [] (by kernel_rfl) ⟨k1,k2,hM2⟩ ?_;intro hHeld;refine wpZ_tk (i:=0) (v:= ?_) hHeld ?_ ?_;rotate_left
   ·(intro w hSw;go_simp<;>with_reducible rfl)
   try simp only [zA,zB,zC,Act.put,zD,zE,zF]
   refine wpZ_tk (i:=1) (v:= ?_) hHeld ?_ ?_;rotate_left
   ·(intro w hSw;go_simp<;>with_reducible rfl)
   try simp only [zA,zB,zC,Act.put,zD,zE,zF]
   refine wpZ_tk (i:=2) (v:= ?_) hHeld ?_ ?_;rotate_left
   ·(intro w hSw;go_simp<;>with_reducible rfl)
   try simp only [zA,zB,zC,Act.put,zD,zE,zF]
   refine wpZ_tk (i:=3) (v:= ?_) hHeld ?_ ?_;rotate_left
   ·(intro w hSw;go_simp<;>with_reducible rfl)
   try simp only [zA,zB,zC,Act.put,zD,zE,zF]
   refine wpZ_tk (i:=4) (v:= ?_) hHeld ?_ ?_;rotate_left
   ·(intro w hSw;go_simp<;>with_reducible rfl)
   try simp only [zA,zB,zC,Act.put,zD,zE,zF]
   refine wpZ_tk (i:=5) (v:= ?_) hHeld ?_ ?_;rotate_left
   ·(intro w hSw;go_simp<;>with_reducible rfl)
   try simp only [zA,zB,zC,Act.put,zD,zE,zF]
   refine wpZ_tk (i:=6) (v:= ?_) hHeld ?_ ?_;rotate_left
   ·(intro w hSw;go_simp<;>with_reducible rfl)
   try simp only [zA,zB,zC,Act.put,zD,zE,zF]
   refine wpZ_tk (i:=7) (v:= ?_) hHeld ?_ ?_;rotate_left
   ·(intro w hSw;(try dsimp only at hSw);have hlk2:=hlk w hSw.2.2;go_simp<;>with_reducible rfl)
   try simp only [zA,zB,zC,Act.put,zD,zE,zF]
   refine wpZ_tk (i:=8) (v:= ?_) hHeld ?_ ?_;rotate_left
   ·(intro w hSw;go_simp<;>with_reducible rfl)
   try simp only [zA,zB,zC,Act.put,zD,zE,zF]
   refine wpZ_tk (i:=9) (v:= ?_) hHeld ?_ ?_;rotate_left
   ·(intro w hSw;go_simp<;>with_reducible rfl)
   try simp only [zA,zB,zC,Act.put,zD,zE,zF]
   refine wpZ_tk (i:=10) (v:= ?_) hHeld ?_ ?_;rotate_left
   ·(intro w hSw;go_simp<;>with_reducible rfl)
   try simp only [zA,zB,zC,Act.put,zD,zE,zF]
   refine wpZ_one (i:=11) (by kernel_rfl) rfl (fun K hK=> ?_);go_simp;refine hK.out _ _ ⟨cell_fr ((Fr.refl [] _).alloc _) hHeld.1,cell_fr ((Fr.refl [] _).alloc _) hHeld.2.1,hHeld.2.2.alloc _⟩ (fun hHeld=> ?_);clear hK K;try simp only [zA,zB,zC,Act.put,zD,zE,zF]
   refine wpZ_one (i:=12) (by kernel_rfl) rfl (fun K hK=> ?_);rw [if_pos (wanted_none rfl)];refine wp_store_row 72 _ _ rfl W2.heap.size zeroCV.cells rfl rfl 72 _ (Blk.new _ _ _) (infoRcli _) (by rfl) (CV.all1 _) ?_;show K (Act.put _ none undef) _;have F3:Fr [] W2 ((W2.drew.alloc (.cells zeroCV.cells 72)).setRow W2.heap.size zeroCV.cells):=(((Fr.refl [] W2).drew.alloc _).setRow (.inr (Nat.le_refl _)) _)
   refine hK.out _ _ ⟨cell_fr F3 k1,cell_fr F3 k2,hM2.fr F3 (by simp)⟩ (fun hHeld=> ?_);clear hK K;try simp only [zA,zB,zC,Act.put,zD,zE,zF]
   refine wpZ_tk (i:=13) (v:= ?_) hHeld ?_ ?_;rotate_left
   ·(intro w hSw;go_simp<;>with_reducible rfl)
   try simp only [zA,zB,zC,Act.put,zD,zE,zF]
   refine wpZ_done (by kernel_rfl) ?_ _;go_upto_region 9 with(fail)
   refine wp_gen (fun V=>Fr [] W2 V) F3 ?_;rintro W4 F4;obtain⟨g8,HG8⟩:∃z,Hid (W2.heap.size=z):=⟨_,zh rfl⟩
   rw [HG8.o];have f4h:=zh (f2h.o.trans F4);have hB4:=hB2h.o.fr F4 (by simp);have hcr:=cright_t W4 x (hxinh.o.fr0 f4h.o) hfine.o;have hB4h:=zh hB4;clear k1 k2 hM2 hlk hrl hg7 F3 F4;go_upto_region 11 with(first
    | (refine wpList_load_want (by rfl) 72 _ rfl rfl hB4 (sub_self _) uRcli rfl (infoRcliL _) ?_;rw [Array.toArray_toList])
    | (go_at_call 24;refine hcr.mono ?_;clear hcr;rintro e W5 ⟨rfl,F5⟩;have f5h:=zh F5;clear F5))
   refine wp_gen (fun V=>Fr [] wr V∧Fr [] W4 V) ⟨f4h.o.trans f5h.o,f5h.o⟩ ?_;rintro W6 hF4;have hB6:=hB4h.o.fr (show Fr [] W4 W6 from hF4.2) (by simp);have hF4:=hF4.1;have hRW6:=hRW.o.fr0 hF4;have j1:=hRW6.hB.cell 0;have j2:=hB6.cell 0;have j3:=range_cells hB6;unfold CV.cells at j2;simp only [zG,zH]at j1 j2;have hrl:=hRW6.hB.lt;have hg7:=hB6.lt;have hown:=fun V (F:Fr [] wr V)=>cown_t V x (hxinh.o.fr0 F) hsz.o;clear hRW6 hB6 hB4;refine wp_region_z (fun v=>v.cell? ⟨r,0,none⟩=some (.map (some mb))∧v.cell? ⟨g7,0,none⟩=some (.string x.c.id)∧v.rangeAt g7 0 x.cells.toList) [9] (by kernel_rfl) ⟨j1,j2,j3⟩ ?_;intro hHeld;refine wpZ_tk (i:=0) (v:= ?_) hHeld ?_ ?_;rotate_left
   ·(intro w hSw;go_simp<;>with_reducible rfl)
   try simp only [zA,zB,zC,Act.put,zD,zE,zF]
   refine wpZ_tk (i:=1) (v:= ?_) hHeld ?_ ?_;rotate_left
   ·(intro w hSw;go_simp<;>with_reducible rfl)
   try simp only [zA,zB,zC,Act.put,zD,zE,zF]
   refine wpZ_tk (i:=2) (v:= ?_) hHeld ?_ ?_;rotate_left
   ·(intro w hSw;go_simp<;>with_reducible rfl)
   try simp only [zA,zB,zC,Act.put,zD,zE,zF]
   refine wpZ_tk (i:=3) (v:= ?_) hHeld ?_ ?_;rotate_left
   ·(intro w hSw;go_simp<;>with_reducible rfl)
   try simp only [zA,zB,zC,Act.put,zD,zE,zF]
   refine wpZ_tk (i:=4) (v:= ?_) hHeld ?_ ?_;rotate_left
   ·(intro w hSw;go_simp<;>with_reducible rfl)
   try simp only [zA,zB,zC,Act.put,zD,zE,zF]
   refine wpZ_tk (i:=5) (v:= ?_) hHeld ?_ ?_;rotate_left
   ·(intro w hSw;go_simp<;>with_reducible rfl)
   try simp only [zA,zB,zC,Act.put,zD,zE,zF]
   refine wpZ_tk (i:=6) (v:= ?_) hHeld ?_ ?_;rotate_left
   ·(intro w hSw;go_simp<;>with_reducible rfl)
   try simp only [zA,zB,zC,Act.put,zD,zE,zF]
   refine wpZ_take (i:=7) rfl (by kernel_rfl) (by kernel_rfl) (by kernel_rfl) (by kernel_rfl) (fun _ _ _ h=>h) (yieldsIf_load_mid (by kernel_rfl) 72 _ rfl g7 0 rfl (x.cells.toList) _ (fun w h=>h.2.2) uRcli rfl (infoRcliL _)) hHeld ?_;try simp only [zA,zB,zC,Act.put,zD,zE,zF]
   refine wpZ_one (i:=8) (by kernel_rfl) rfl (fun K hK=> ?_);go_simp;refine(hown _ hF4.drew).mono ?_;clear hown;rintro e W5 ⟨y,rfl,hyc,hy,hyf,F5⟩;have hF5:Fr [] wr W5:=hF4.drew.trans F5;obtain⟨W6,hrun,hM6,hT6⟩:=(hRW.o.hM.fr hF5 (by simp)).run_update kStr uMcli x.c.id y;have FS6:Fr [mb] W5 W6:=hT6.fr;rw [show y.val= .agg y.cells from rfl]at hrun;dsimp only;refine hK.out _ _ ⟨cell_fr F5 j1,cell_fr F5 j2,range_fr1 F5 j3⟩ (fun hHeld=> ?_);clear hK K;try simp only [zA,zB,zC,Act.put,zD,zE,zF]
   refine wpZ_end (i:=9) (by kernel_rfl) rfl rfl (fun K hK=> ?_);go_simp;refine hK.out _ _ ?_;clear hK K;try simp only [zA,zB,zC,Act.put,zD,zE,zF]
   refine wpZ_done (by kernel_rfl) ?_ _;have hyc':y.c.id=x.c.id:=by rw [hyc]
   have hW6:RollW W6 B r mb ((xs.take (i+1)).map (·.c)) (aset x.c.id y L):=by rw [hstep.o,←hyc];rw [←hyc']at hM6;exact(hRW.o.fr0 hF5).more (by rw [hyc'];exact hnoneh.o) hy (hyf.mono (Nat.le_trans hBlh.o hF4.drew.size)) hM6 FS6
   have hW6h:=zh hW6;have hF6h:Hid (Fr [] w W6):=zh ((hFh.o.trans hF5).andThen FS6 (fun g hg=> .inr (by simp at hg;subst hg;exact hBr.o.1)));have hB6h:Hid (B≤W6.heap.size):=zh (Nat.le_trans hBlh.o (Nat.le_trans hF5.size FS6.size));clear hW6 hyc hyc' hM6 hT6 FS6 hrun hF5 F5 hy hyf j1 j2 j3 hF4;go_wp2_with fail
   go_roundg (n - i)
   case measure=>have:=hlth.o;omega
   case rel=>exact⟨i+1,_,by go_num,by have:=hlth.o;omega,by have:=hlth.o;omega,hW6h.o,hF6h.o,hB6h.o⟩
  ·have hlt':¬(i:Int)<(n:Nat):=by omega
   have hi':i=n:=by omega
   have hxs:xs.take i=xs:=List.take_of_length_le (by rw [hnl.o];omega);rw [hxs]at hRW;clear hlt hi' hxs hk hi;go_wp2_with fail
   go_ret2;exact⟨r,rfl,hRW.o.at,hBr.o.2.1,hFh.o⟩
end Go.Proofs.YtopfcgpeaaehgaaGreatDoor
