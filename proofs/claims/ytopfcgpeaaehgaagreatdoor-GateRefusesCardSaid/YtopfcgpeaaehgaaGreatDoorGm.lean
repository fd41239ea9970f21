/- Walks: texts alike; sets that aren't too great; copies of lists. Conditions: each theorem's own. -/
import Derived.Test.YtopfcgpeaaehgaaGreatDoorGj
namespace Go.Proofs.YtopfcgpeaaehgaaGreatDoor
open Go.RowKit Go.Sig
theorem sset_t (w:World) (B:Option Addr) (m d:Nat) (ls:List ByteArray) (hB:Rd w 1 B m (strCells ls)) (hm:ls.length=m) (hmax:m≤1000000) (hs:∀s∈ls,s.size≤150000000000000):
  Calls Tryz.prog 63 #[.slice B m d] w (SRow w (setOf ls)):=by
 have hF:Fr [] w (w.alloc (.cells #[.slice B m d] 33)):=(Fr.refl _ _).alloc _;have hb:=both_t (w.alloc (.cells #[.slice B m d] 33)) w.heap.size B m d ls (by rw [(Blk.new w 33 #[.slice B m d]).cell];rfl) (Rd.fr hB hF (by simp [Off])) hm hmax hs;have hFh:=zh hF;clear hB hs hF;go_enter Tryz.func63,Tryz.ntmps63;go_wp2_with (go_at_call 108;refine hb.mono ?_;rintro e W1 ⟨v,rfl,O1,F1,R1⟩)
 go_ret;exact⟨v,rfl,O1,hFh.o.trans F1,fun g hg=>Nat.le_trans hFh.o.size (R1 g hg)⟩
theorem tail_len:∀(r:List ByteArray),(Lib.joinTail [32] (r.map (·.data.toList))).length=(r.map fun s=>s.size).sum+r.length
 | []=>rfl
 |x::r=>by have ih:=tail_len r;unfold Lib.joinTail at ih⊢;simp only [List.map_cons,List.flatten_cons,List.length_append,List.sum_cons,List.length_cons,ih];have:x.data.toList.length=x.size:=Array.length_toList;simp only [List.length_nil];omega
theorem join_len (xs:List ByteArray):(Lib.join (xs.map (·.data.toList)) [32]).length=(xs.map fun s=>s.size).sum+(xs.length - 1):=by
 cases xs with
 |nil=>rfl
 |cons x r=>rw [List.map_cons,Lib.join_cons,List.length_append,tail_len,List.map_cons,List.sum_cons,List.length_cons];have:x.data.toList.length=x.size:=Array.length_toList;omega
theorem sum_le:∀(xs:List ByteArray) (k:Nat),(∀x∈xs,x.size≤k)→(xs.map fun s=>s.size).sum≤xs.length*k
 | [],k,_=>by simp
 |x::xs,k,h=>by rw [List.map_cons,List.sum_cons,List.length_cons,Nat.add_mul,Nat.one_mul];have h1:=sum_le xs k (fun y hy=>h y (List.mem_cons_of_mem _ hy));have h2:=h x (by simp);omega
theorem isWord_size {s:ByteArray}(h:isWord s=true):1≤s.size∧s.size≤64:=by
 unfold isWord at h;simp only [Bool.and_eq_true,decide_eq_true_eq]at h;exact⟨h.1.2,h.2⟩
theorem setOf_length (ls:List ByteArray):(setOf ls).length≤ls.length:=(risN_nodup (setOf_rising ls)).length_le_of_subset (fun _x hx=>(mem_setOf.1 hx).1)
theorem print_le (ls:List ByteArray):printLen ls≤ls.length*65:=by
 unfold printLen;have h1:=sum_le (setOf ls) 64 (fun x hx=>(isWord_size (mem_setOf.1 hx).2).2);have h2:=setOf_length ls;have h3:(setOf ls).length*64≤ls.length*64:=Nat.mul_le_mul_right _ h2;omega
theorem sprint_t (w:World) (B:Option Addr) (m d:Nat) (ls:List ByteArray) (hB:Rd w 1 B m (strCells ls)) (hm:ls.length=m) (hmax:m≤1000000) (hs:∀s∈ls,s.size≤150000000000000):
  Calls Tryz.prog 64 #[.slice B m d] w fun e w'=>∃s:ByteArray,e= .returned (.string s)∧s.size=printLen ls∧Fr [] w w':=by
 have hF:Fr [] w (w.alloc (.cells #[.slice B m d] 33)):=(Fr.refl _ _).alloc _;have hb:=both_t (w.alloc (.cells #[.slice B m d] 33)) w.heap.size B m d ls (by rw [(Blk.new w 33 #[.slice B m d]).cell];rfl) (Rd.fr hB hF (by simp [Off])) hm hmax hs;have hFh:=zh hF;have hpl:=zh (show(Lib.join ((setOf ls).map (·.data.toList)) [32]).length=printLen ls from join_len (setOf ls));have hple:=print_le ls;have hsl:=setOf_length ls;obtain⟨q,hq⟩:∃z,Hid (setOf ls=z):=⟨_,zh rfl⟩
 rw [hq.o]at hb hpl hsl;clear hB hs hF;go_enter Tryz.func64,Tryz.ntmps64;go_wp2_with fail
 refine hb.mono ?_;rintro e W1 ⟨v,rfl,O1,F1,R1⟩;rcases O1.2 with⟨rfl,h0⟩ | ⟨g,cap,cur,rfl,hbs,hh,hnc,hcm,hcs,htk⟩
 ·have e0:q= []:=List.eq_nil_of_length_eq_zero h0;rw [e0]at hpl;have hj:=Tryz.strings_Join_none none 0 ⟨#[32]⟩ W1;clear hb;go_wp2_with (go_at_call 109;refine hj.mono ?_;rintro e w' ⟨rfl,rfl⟩)
  go_ret;exact⟨_,rfl,hpl.o,hFh.o.trans F1⟩
 ·have hgl:g<W1.heap.size:=lt_of_heap hh;have hcells:=O1.rd;have hj:=Tryz.strings_Join g 0 cap q ⟨#[32]⟩ W1 (fun j x hx=>by
   obtain⟨b,o,e,hc⟩:=hcells.2 (by
    have:=(List.getElem?_eq_some_iff.1 hx).1;omega)
   injection e with e
   injection e with e1 e2
   subst e1 e2;exact hc j _ (by unfold strCells;rw [List.getElem?_map,hx];rfl)) hgl (by omega) hnc (by
    rw [show((⟨#[32]⟩:ByteArray).data.toList)= [32]from rfl,hpl.o];omega)
  clear hb;go_wp2_with (go_at_call 109;refine hj.mono ?_;rintro e w' ⟨rfl,hbel⟩)
  go_ret;refine⟨_,rfl,?_,hFh.o.trans (F1.trans (Fr.of_below hbel))⟩;show(Lib.join _ _).toArray.size=_;rw [List.size_toArray];exact hpl.o
end Go.Proofs.YtopfcgpeaaehgaaGreatDoor
namespace Go.Proofs.YtopfcgpeaaehgaaGreatDoor
open Go.RowKit Go.Sig
theorem within_true {a b:List ByteArray}(h:∀s,s∈a→isWord s=true→s∈b):within a b=true:=by
 unfold within;rw [List.all_eq_true];intro s hs;cases hw:isWord s with
 |false=>rfl
 |true=>exact List.any_eq_true.2 ⟨s,h s hs hw,by simp⟩
theorem within_false {a b:List ByteArray}{s:ByteArray}(h1:s∈a) (h2:isWord s=true) (h3:s∉b):within a b=false:=by
 unfold within;rw [List.all_eq_false];refine⟨s,h1,?_⟩;rw [h2];simp only [Bool.not_true,Bool.false_or,List.any_eq_true,decide_eq_true_eq,not_exists,not_and];rintro x hx rfl;exact h3 hx
set_option maxRecDepth 100000 in
set_option maxHeartbeats 4000000 in
theorem swithin_t (w:World) (A B:Option Addr) (n m c d:Nat) (a b:List ByteArray) (hA:Rd w 1 A n (strCells a)) (hn:a.length=n) (hB:Rd w 1 B m (strCells b)) (hm:b.length=m) (hmax:n≤150000000000000) (hmax2:m≤150000000000000)
  (hsa:∀s∈a,s.size≤150000000000000) (hsb:∀s∈b,s.size≤150000000000000):
  Calls Tryz.prog 141 #[.slice A n c,.slice B m d] w fun e w'=>e= .returned (.bool (within a b))∧Fr [] w w':=by
 have hF:Fr [] w (w.alloc (.cells #[.slice B m d] 33)):=(Fr.refl _ _).alloc _;have hgb:=gath_t (w.alloc (.cells #[.slice B m d] 33)) w.heap.size B m d b (by rw [(Blk.new w 33 #[.slice B m d]).cell];rfl) (Rd.fr hB hF (by simp [Off])) hm hmax2 hsb;have hga:=zh (fun(W:World) (hF:Fr [] w W)=>gath_t (W.alloc (.cells #[.slice A n c] 33)) W.heap.size A n c a (by rw [(Blk.new W 33 #[.slice A n c]).cell];rfl) (Rd.fr hA (hF.alloc _) (by simp [Off])) hn hmax hsa);have hFh:=zh hF;clear hA hB hsa hsb hF;go_enter Tryz.func141,Tryz.ntmps141;go_wp2_with fail
 refine hgb.mono ?_;rintro e W1 ⟨gb,rfl,hW1,F1,hgb1⟩;have f1:=zh (hFh.o.trans F1);have hga1:=hga.o W1 f1.o;have hW1h:=zh hW1;have hgbl:gb<W1.heap.size:=by obtain⟨M,h,_⟩:=hW1;exact h.lt
 clear hgb F1 hW1;go_wp2_with fail
 refine hga1.mono ?_;rintro e W2 ⟨gm,rfl,⟨M,hM,hq,hv⟩,F2,hgm⟩;have hF12:Fr [] W1 (W1.alloc (.cells #[.slice A n c] 33)):=(Fr.refl _ _).alloc _;have f12:=zh (hF12.trans F2);obtain⟨lbm,clock,hBm,hlbm⟩:=hM.stamps;have hlbh:=zh (show lbm.map (·.1)=M.map (·.1) by
  rw [←hlbm,List.map_map];rfl)
 have hqh:=zh hq;have hrun:=hBm.run_range uMsb;have hBmh:=zh hBm;have hW2:=zh (hW1h.o.fr f12.o (by simp));have hgb2:gb<W2.heap.size:=Nat.lt_of_lt_of_le hgbl f12.o.size;clear hM hq hv hlbm hga1 F2 hF12;go_wp2_with fail
 obtain⟨r,HR⟩:∃z,Hid (W2.heap.size=z):=⟨_,zh rfl⟩
 go_loopg [6] (lbm.length+1) (fun gk s6 wr=>∃(seen:Array Nat),(todo lbm seen).length<gk∧It wr W2.heap.size gm clock seen∧IsMapB wr gm Value.string Value.bool lbm clock∧(∀x∈lbm,x∈todo lbm seen∨x.1∈b)∧Fr [] W2 wr)
 case atStart=>refine⟨#[],by have:=List.length_filter_le (fun x:ByteArray×Bool×Nat=> !(#[]:Array Nat).contains x.2.2) lbm;unfold todo;omega,It.new W2 gm clock,hBmh.o.fr ((Fr.refl [] W2).alloc _) (by simp),fun x hx=> .inl ?_,(Fr.refl _ _).alloc _⟩;rw [show todo lbm #[]=lbm from List.filter_eq_self.2 fun y _=>by simp];exact hx
 case round=>
  obtain⟨seen,hk,hI,hMr,hall,hF⟩:=hrel;have hallh:=zh hall;have hFh2:=zh hF;have hrl:=hI.lt;clear hall hF;go_upto_region 5 with(first
   | (refine wpList_map_next hMr hI rfl rfl rfl (fun h0=> ?_) (fun x wn hx hIn hMn ht=> ?_))
   | (refine wpList_map_entry hMn hIn (mem_todo hx) rfl rfl rfl ?_))
  ·go_wp2_with fail
   go_ret;refine⟨ret_eq (within_true fun s hs hw=> ?_).symm,f1.o.trans (f12.o.trans hFh2.o)⟩;have hmem:s∈lbm.map (·.1):=by rw [hlbh.o];exact(hqh.o s).2 ⟨hs,hw⟩
   obtain⟨x,hx,rfl⟩:=List.mem_map.1 hmem;rcases hallh.o x hx with h |h
   ·rw [h0]at h;cases h
   ·exact h
  ·have hFn:=zh (hFh2.o.andThen ht.fr (fun x hx=> .inr (by simp at hx;omega)));obtain⟨Mb,hMb,hqb,hvb⟩:=hW2.o.fr hFn.o (by simp);have hxa:=zh ((hqh.o x.1).1 (by rw [←hlbh.o];exact List.mem_map.2 ⟨x,mem_todo hx,rfl⟩));by_cases hxb:x.1∈b
   ·have hag:aget x.1 Mb=some true:=by
     have hk2:=(hqb x.1).2 ⟨hxb,hxa.o.2⟩;obtain⟨p,hp,e⟩:=List.mem_map.1 hk2;have:=aget_of_mem (k:=p.1) (v:=p.2) hMb.nodup hp;rw [e,hvb p hp]at this;exact this
    have hxbh:=zh hxb;clear hxb;go_wp2_with (refine wpList_map_get hMb kStr uMsb (z:= .bool false) (fun _=>rfl) x.1 rfl rfl rfl rfl ?_;rw [hag];simp only [Option.map_some,Option.getD_some])
    go_roundg ((todo lbm (seen.push x.2.2)).length+1)
    case measure=>have:=todo_lt hx;omega
    case rel=>
     refine⟨_,Nat.lt_succ_self _,hIn,hMn,fun y hy=> ?_,hFn.o⟩;rcases hallh.o y hy with h |h
     ·by_cases e:y.2.2=x.2.2
      ·right;have:y=x:=inj_of_nodup (hBmh.o.inc.imp (fun{a b} (h:a<b) (e:a=b)=>by omega):(lbm.map (·.2.2)).Nodup) hy (mem_todo hx) e;rw [this];exact hxbh.o
      ·left;unfold todo at h⊢;simp only [List.mem_filter,Array.contains_push,Bool.not_or,Bool.and_eq_true,Bool.not_eq_true',beq_eq_false_iff_ne,ne_eq]at h⊢;first
        |exact⟨h.1,h.2,e⟩
        |exact⟨h.1,e,h.2⟩
        |exact⟨h.1,h.2,fun e2=>e e2.symm⟩
        |exact⟨h.1,fun e2=>e e2.symm,h.2⟩
     ·exact .inr h
   ·have hag:aget x.1 Mb=none:=aget_none_iff.2 fun hk2=>hxb ((hqb x.1).1 hk2).1;have hxbh:=zh hxb;clear hxb;go_wp2_with (refine wpList_map_get hMb kStr uMsb (z:= .bool false) (fun _=>rfl) x.1 rfl rfl rfl rfl ?_;rw [hag];simp only [Option.map_none,Option.getD_none])
    go_ret;exact⟨ret_eq (within_false hxa.o.1 hxa.o.2 hxbh.o).symm,f1.o.trans (f12.o.trans hFn.o)⟩
end Go.Proofs.YtopfcgpeaaehgaaGreatDoor
namespace Go.Proofs.YtopfcgpeaaehgaaGreatDoor
open Go.RowKit Go.Sig
set_option maxRecDepth 100000 in
set_option maxHeartbeats 2000000 in
theorem eqS_t (w:World) (A B:Option Addr) (n m c d:Nat) (a b:List ByteArray) (hA:Rd w 1 A n (strCells a)) (hn:a.length=n) (hB:Rd w 1 B m (strCells b)) (hm:b.length=m) (hmax:n≤150000000000000) (hmax2:m≤150000000000000):
  Calls Tryz.prog 62 #[.slice A n c,.slice B m d] w fun e w'=>e= .returned (.bool (decide (a=b)))∧Fr [] w w':=by
 have hAh:=zh hA;have hBh:=zh hB;clear hA hB;by_cases hnm:n=m
 ·subst hnm;go_enter Tryz.func62,Tryz.ntmps62;go_wp2_with fail
  go_loopg [5,13] (n+1) (fun gk s5 s13 wr=>∃(i:Nat),s13= .int .i64 i∧i≤n∧n - i<gk∧a.take i=b.take i∧Fr [] w wr)
  case atStart=>exact⟨0,rfl,by omega,by omega,rfl,Fr.refl _ _⟩
  case round=>
   obtain⟨i,rfl,hi,hk,htk,hF⟩:=hrel;have hFh:=zh hF;have htkh:=zh htk;clear htk;by_cases hlt:i<n
   ·have hlt':(i:Int)<n:=by omega
    have hlth:=zh hlt;have ha':i<a.length:=by omega
    have hb':i<b.length:=by omega
    obtain⟨ba,oa,rfl,hca⟩:=(Rd.fr hAh.o hF (by simp [Off])).2 (by omega);obtain⟨bb,ob,rfl,hcb⟩:=(Rd.fr hBh.o hF (by simp [Off])).2 (by omega);have cn:=hca _ _ (strCells_at ha');have dn:=hcb _ _ (strCells_at hb');have hta:=zh (List.take_succ_eq_append_getElem ha');have htb:=zh (List.take_succ_eq_append_getElem hb');have hge:=zh (fun(h:a=b)=>show a[i]=b[i] by subst h;rfl);clear hca hcb hF;obtain⟨y,hy⟩:∃z,Hid (a[i]=z):=⟨_,zh rfl⟩
    obtain⟨z,hz⟩:∃z,Hid (b[i]=z):=⟨_,zh rfl⟩
    rw [hy.o]at cn hta hge;rw [hz.o]at dn htb hge;have h1:=toList_beq y z;by_cases e1:y=z
    ·rw [decide_eq_true e1]at h1;have hyz:=zh e1;clear e1;go_upto_region 6 with(fail)
     go_quiet (fail)
     go_wp2;go_roundg (n - i)
     case measure=>omega
     case rel=>refine⟨i+1,by go_num,by have:=hlth.o;omega,by have:=hlth.o;omega,?_,hFh.o.drewN _⟩;rw [hta.o,htb.o,htkh.o,hyz.o]
    ·rw [decide_eq_false e1]at h1;have hyz:=zh (show¬a=b from fun h=>e1 (hge.o h));clear e1;go_upto_region 6 with(fail)
     go_quiet (fail)
     go_wp2;go_ret;exact⟨ret_eq (decide_eq_false hyz.o).symm,hFh.o.drewN _⟩
   ·have hge:¬(i:Int)<n:=by omega
    have e:a=b:=by have:=htkh.o;rw [List.take_of_length_le (by omega),List.take_of_length_le (by omega)]at this;exact this
    have eh:=zh e;clear hlt hk e hF;go_wp2;go_ret;exact⟨ret_eq (decide_eq_true eh.o).symm,hFh.o⟩
 ·have hne:¬(n:Int)=m:=by omega
  have hne2:((n:Int) !=m)=true:=by simpa using hne
  have hab:=zh (show¬a=b from fun h=>hnm (by rw [←hn,←hm,h]));clear hnm hne;go_enter Tryz.func62,Tryz.ntmps62;go_wp2;go_ret;exact⟨ret_eq (decide_eq_false hab.o).symm,Fr.refl _ _⟩
end Go.Proofs.YtopfcgpeaaehgaaGreatDoor
