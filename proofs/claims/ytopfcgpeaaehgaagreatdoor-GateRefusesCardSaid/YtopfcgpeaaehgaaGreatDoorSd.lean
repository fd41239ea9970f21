/- Walks of the hash: bytes are written. Conditions: each theorem's own. -/
import Derived.Test.YtopfcgpeaaehgaaGreatDoorSb
namespace Go.Proofs.YtopfcgpeaaehgaaGreatDoor
open Go.RowKit Go.Sig
theorem run_copy_rows {P:Program}(w:World) (dT sT ty elem:TypeId) (size g o dLen dCap:Nat) (sp:Option Addr) (sLen sCap:Nat) (cur:Array Value) (t:TypeId) (cs:List Value)
  (hu:P.underlying dT=some (.slice elem)) (hs:(P.info? elem).map (·.size)=some size) (hg:w.heap[g]? =some (.cells cur t (0,0))) (hn:cs.length=Nat.min sLen dLen*size)
  (hsrc:0<Nat.min sLen dLen→∃a,sp=some a∧∀j v,cs[j]? =some v→w.cell? (a.add j)=some v) (hfit:o+cs.length≤cur.size) (h1:∀v∈cs,v.oneCell'=true):
  (Builtin.copy_ #[dT,sT] ty #[.slice (some ⟨g,o,none⟩) dLen dCap,.slice sp sLen sCap]).run P w=
   .ok (goInt (Nat.min sLen dLen)) (w.setRow g (laid cur o cs)):=by
 have hst:=run_storeCells_at (P:=P) g o t cs 0 cur w hg (by simpa using hfit) h1;cases hq:P.info? elem with
 |none=>simp [hq]at hs
 |some i=>
  have hi:i.size=size:=by simpa [hq]using hs
  have hload:(Builtin.firstCells size (Nat.min sLen dLen) (.slice sp sLen sCap)).run P w= .ok cs.toArray w:=by
   rcases Nat.eq_zero_or_pos (Nat.min sLen dLen)with h0 |h0
   ·have hc:cs= []:=List.eq_nil_of_length_eq_zero (by rw [hn,h0];simp);subst hc;rw [h0];cases sp with
    |none=>simp [Builtin.firstCells]
    |some a=>have:=run_loadCells_list (P:=P) w a [] (by simp);simpa [Builtin.firstCells]using this
   ·obtain⟨a,rfl,ha⟩:=hsrc h0;have:=run_loadCells_list (P:=P) w a cs ha;rw [hn]at this;simpa [Builtin.firstCells]using this
  simp [Builtin.copy_,run_underlying hu,Builtin.lenOf,sizeOf,typeInfo,hq,hi,hload,hst];rfl
theorem wpList_copy_rows {P:Program}{w:World}{ops:Array Oper}{rest:List Oper}{op:Oper}{a:Act}{Q:Exit→Act→World→Prop}{elem dT sT t:TypeId}{size g o dLen dCap:Nat}{sp:Option Addr}{sLen sCap:Nat}{cur:Array Value}{cs:List Value}(M:Nat)
  (hgd:op.guard=none) {d s:Operand}(ho:op.op= .call {callee:= .builtin .copy,args:=#[d,s],argTypes:=#[dT,sT]}) (hd:a.eval d= .slice (some ⟨g,o,none⟩) dLen dCap) (hs':a.eval s= .slice sp sLen sCap)
  (hu:P.underlying dT=some (.slice elem)) (hs:(P.info? elem).map (·.size)=some size) (hg:Blk w g t cur) (hM:Nat.min sLen dLen=M) (hn:cs.length=M*size)
  (hsrc:0<M→∃a,sp=some a∧∀j v,cs[j]? =some v→w.cell? (a.add j)=some v) (hfit:o+cs.length≤cur.size) (h1:∀v∈cs,v.oneCell'=true)
  (hK:wpList P ops Q rest (a.put op.dst (.int .i64 (M:Int))) (w.setRow g (laid cur o cs))):wpList P ops Q (op::rest) a w:=by
 subst hM;refine wpList_plain hgd fun K' hK'=> ?_;have hrun:=run_copy_rows (P:=P) w dT sT op.type elem size g o dLen dCap sp sLen sCap cur t cs hu hs hg hn hsrc hfit h1;unfold Oper.wp;simp [execOp,ho,resolve,invoke,builtin,hd,hs',hrun,Result.andThen];exact hK' _ _ hK
theorem byts_src {w:World}{A:Option Addr}{n M:Nat}{l:List UInt8}(h:Byts w A n l) (hM:M≤n):0<M→∃a,A=some a∧∀j v,((l.take M).map bv)[j]? =some v→w.cell? (a.add j)=some v:=by
 intro h0;obtain⟨b,o,hA,hc⟩:=h.2 (by omega);refine⟨_,hA,fun j v hv=> ?_⟩;have hl:=h.length;have hj:=(List.getElem?_eq_some_iff.1 hv).1;simp at hj;rw [Addr.add_lit];exact hc j v (by rw [←hv,List.map_take,List.getElem?_take_of_lt (by omega)])
def StOf (cs:Array Value) (bs:List UInt8):Prop:=
 cs.size=73∧HasW cs (pressN (bs.length / 64) shaInit bs)∧(∀j,j<bs.length%64→cs[8+j]? =some (bv (bs.getD (64*(bs.length / 64)+j) 0)))∧cs[72]? =some (.int .i64 bs.length)
theorem st_take {cs:Array Value}{bs m:List UInt8}(h0:bs.length%64=0) (hm:m.length=64) (hz:cs.size=73) (hW:HasW cs (press (pressN (bs.length / 64) shaInit bs) m)) (h72:cs[72]? =some (.int .i64 ((bs.length:Int)+64))):StOf cs (bs++m):=by
 have hl:(bs++m).length=bs.length+64:=by simp [hm]
 have hq:(bs++m).length / 64=bs.length / 64+1:=by omega
 have h64:64*(bs.length / 64)=bs.length:=by omega
 refine⟨hz,?_,fun j hj=>by omega,?_⟩
 ·rw [hq,press_snoc,pressN_take _ _ _ _ (by omega),h64,List.drop_append_of_le_length (Nat.le_refl _),List.drop_length,List.nil_append,List.take_of_length_le (by omega)];exact hW
 ·rw [h72,hl];rfl
theorem st_mid {cs:Array Value}{bs m:List UInt8}(h:StOf cs bs) (hm:bs.length%64+m.length≤64) (j:Nat) (hj:j<bs.length%64+m.length):
  ((laid cs (8+bs.length%64) (m.map bv)).setIfInBounds 72 (.int .i64 ((bs.length:Int)+m.length)))[8+j]? =some (bv ((bs++m).getD (64*(bs.length / 64)+j) 0)):=by
 have hz:=h.1;have hfit:8+bs.length%64+(m.map bv).length≤cs.size:=by simp;omega
 rw [Array.getElem?_setIfInBounds,if_neg (by omega),laid_get hfit];simp only [List.length_map];by_cases h1:j<bs.length%64
 ·rw [if_neg (by omega),h.2.2.1 j h1];simp only [List.getD];rw [List.getElem?_append_left (by omega)]
 ·rw [if_pos (by omega),List.getElem?_map];simp only [List.getD];rw [List.getElem?_append_right (by omega),show 64*(bs.length / 64)+j - bs.length=8+j - (8+bs.length%64) by omega,List.getElem?_eq_getElem (by omega)];rfl
theorem st_words {cs:Array Value}{bs m:List UInt8}(h:StOf cs bs) (hm:bs.length%64+m.length≤64):HasW ((laid cs (8+bs.length%64) (m.map bv)).setIfInBounds 72 (.int .i64 ((bs.length:Int)+m.length))) (pressN (bs.length / 64) shaInit (bs++m)):=by
 have hz:=h.1;have hfit:8+bs.length%64+(m.map bv).length≤cs.size:=by simp;omega
 rw [pressN_take _ _ _ _ (by omega)];intro j v hv;have hj:j<8:=(List.getElem?_eq_some_iff.1 hv).1;rw [Array.getElem?_setIfInBounds,if_neg (by omega),laid_far hfit (.inl (by omega))];exact h.2.1 j v hv
theorem st_size {cs:Array Value}{bs m:List UInt8}(h:StOf cs bs) (hm:bs.length%64+m.length≤64) (v:Value):((laid cs (8+bs.length%64) (m.map bv)).setIfInBounds 72 v).size=73:=by
 have hz:=h.1;rw [Array.size_setIfInBounds,laid_size (by simp;omega),hz]
theorem st_rest {cs:Array Value}{bs m:List UInt8}(h:StOf cs bs) (hm:bs.length%64+m.length<64):StOf ((laid cs (8+bs.length%64) (m.map bv)).setIfInBounds 72 (.int .i64 ((bs.length:Int)+m.length))) (bs++m):=by
 have hz:=h.1;have hfit:8+bs.length%64+(m.map bv).length≤cs.size:=by simp;omega
 have hq:(bs++m).length / 64=bs.length / 64:=by simp;omega
 have hr:(bs++m).length%64=bs.length%64+m.length:=by simp;omega
 refine⟨st_size h (by omega) _,?_,fun j hj=> ?_,?_⟩
 ·rw [hq];exact st_words h (by omega)
 ·rw [hq];exact st_mid h (by omega) j (by omega)
 ·rw [Array.getElem?_setIfInBounds,if_pos rfl,if_pos (by rw [laid_size hfit];omega)];simp
def fullRest (bs m:List UInt8):List UInt8:=((bs++m).drop (64*(bs.length / 64))).take 64
theorem fullRest_length {bs m:List UInt8}(hm:bs.length%64+m.length=64):(fullRest bs m).length=64:=by
 unfold fullRest;simp;omega
theorem fullRest_get {cs:Array Value}{bs m:List UInt8}(h:StOf cs bs) (hm:bs.length%64+m.length=64):
  Sub ((laid cs (8+bs.length%64) (m.map bv)).setIfInBounds 72 (.int .i64 ((bs.length:Int)+m.length))) 8 ((fullRest bs m).map bv):=by
 intro j v hv;have hj:j<64:=by have:=(List.getElem?_eq_some_iff.1 hv).1;simp only [List.length_map]at this;rw [fullRest_length hm]at this;exact this
 rw [st_mid h (by omega) j (by omega),←hv,List.getElem?_map];have:(fullRest bs m)[j]? =(bs++m)[64*(bs.length / 64)+j]? :=by unfold fullRest;rw [List.getElem?_take_of_lt hj,List.getElem?_drop]
 rw [this];simp only [List.getD];rw [List.getElem?_eq_getElem (show 64*(bs.length / 64)+j<(bs++m).length by simp;omega)];rfl
theorem st_full {cs cs':Array Value}{bs m:List UInt8}(h:StOf cs bs) (hm:bs.length%64+m.length=64) (hz:cs'.size=73)
  (hW:HasW cs' (press (pressN (bs.length / 64) shaInit (bs++m)) (fullRest bs m)))
  (hf:∀j,8≤j→cs'[j]? =((laid cs (8+bs.length%64) (m.map bv)).setIfInBounds 72 (.int .i64 ((bs.length:Int)+m.length)))[j]?):StOf cs' (bs++m):=by
 have hz0:=h.1;have hfit:8+bs.length%64+(m.map bv).length≤cs.size:=by simp;omega
 have hq:(bs++m).length / 64=bs.length / 64+1:=by simp;omega
 have hr:(bs++m).length%64=0:=by simp;omega
 refine⟨hz,?_,fun j hj=>by omega,?_⟩
 ·rw [hq,press_snoc];exact hW
 ·rw [hf 72 (by omega),Array.getElem?_setIfInBounds,if_pos rfl,if_pos (by rw [laid_size hfit];omega)];simp
theorem st_init:StOf initCells []:=by
 refine⟨rfl,?_,fun j hj=>by simp at hj,rfl⟩;intro j v hv;have hj:j<8:=(List.getElem?_eq_some_iff.1 hv).1;rw [←hv];have:j=0∨j=1∨j=2∨j=3∨j=4∨j=5∨j=6∨j=7:=by omega
 rcases this with e |e |e |e |e |e |e |e<;>subst e<;>rfl
def StIn (w:World) (g:Nat) (t:TypeId) (bs:List UInt8):Prop:=∃cs,Blk w g t cs∧StOf cs bs
theorem StIn.fr {w w':World}{g:Nat}{t:TypeId}{bs:List UInt8}{S:List Nat}(h:StIn w g t bs) (hf:Fr S w w') (hg:g∉S):StIn w' g t bs:=by
 obtain⟨cs,h1,h2⟩:=h;exact⟨cs,h1.fr hf hg,h2⟩
theorem StIn.lt {w:World}{g:Nat}{t:TypeId}{bs:List UInt8}(h:StIn w g t bs):g<w.heap.size:=h.choose_spec.1.lt
theorem byts_drop {w:World}{b o n i:Nat}{l:List UInt8}(h:Byts w (some ⟨b,o,none⟩) n l) (hi:i≤n):Byts w (some ⟨b,o+i,none⟩) (n - i) (l.drop i):=by
 have hl:=h.length;refine⟨by simp [hl],fun hn=>⟨b,o+i,rfl,fun j u hu=> ?_⟩⟩;obtain⟨b',o',e,hc⟩:=h.2 (by omega);cases e
 have:=hc (i+j) u (by rw [←List.getElem?_drop,List.map_drop.symm];exact hu);rw [Nat.add_assoc];exact this
theorem byts_take {w:World}{b o n i:Nat}{l:List UInt8}(h:Byts w (some ⟨b,o,none⟩) n l) (hi:i≤n):Byts w (some ⟨b,o,none⟩) i (l.take i):=by
 have hl:=h.length;refine⟨by simp [hl];omega,fun hn=>⟨b,o,rfl,fun j u hu=> ?_⟩⟩;obtain⟨b',o',e,hc⟩:=h.2 (by omega);cases e
 have hj:=(List.getElem?_eq_some_iff.1 hu).1;simp at hj;exact hc j u (by rw [←hu,List.map_take,List.getElem?_take_of_lt (by omega)])
theorem byts_slice {w:World}{b o n c i:Nat}{l:List UInt8}(h:Byts w (some ⟨b,o,none⟩) n l) (hi:i≤n) (hc:n≤c):Byts w (if c=i then some ⟨b,o,none⟩else some ⟨b,o+i,none⟩) (n - i) (l.drop i):=by
 split
 ·have hl:=h.length;have e:n - i=0:=by omega
  rw [e,List.drop_of_length_le (by omega)];exact Rd.nil _ _ _
 ·exact byts_drop h hi
theorem off_slice {S:List Nat}{b o c i:Nat}(h:Off S (some ⟨b,o,none⟩)):Off S (if c=i then some ⟨b,o,none⟩else some ⟨b,o+i,none⟩):=by
 split
 ·exact h
 ·intro ad e;cases e
  exact h ⟨b,o,none⟩ rfl
end Go.Proofs.YtopfcgpeaaehgaaGreatDoor
namespace Go.Proofs.YtopfcgpeaaehgaaGreatDoor
open Go.RowKit Go.Sig
theorem tBytes:Tryz.prog.underlying 23=some (.slice 5):=by kernel_rfl
set_option maxRecDepth 100000 in
set_option maxHeartbeats 4000000 in
theorem write_t (w:World) (g t:Nat) (bs l:List UInt8) (A:Option Addr) (n c:Nat) (hS:StIn w g t bs) (hb:Byts w A n l) (hA:0<n→Off [g] A) (hc:n≤c) (hmax:bs.length+n≤4611686018427387904):
  Calls Tryz.prog 190 #[.pointer (some ⟨g,0,none⟩),.slice A n c] w fun e w'=>e= .returned (.tuple #[])∧Fr [g] w w'∧StIn w' g t (bs++l):=by
 go_enter Tryz.func190,Tryz.ntmps190;go_wp2_with fail
 refine(consts_t w).mono ?_;rintro _ _ ⟨rfl,rfl⟩;have hgl:=hS.lt;go_upto_block 0 with(fail)
 have hl:=hb.length;refine wp_gen (fun W=>Blk W w.heap.size 251 kCells∧Fr [] w W) ⟨Blk.new _ _ _,(Fr.refl _ _).alloc _⟩ ?_;rintro W ⟨BK,fW⟩;obtain⟨gK,HGK⟩:∃x,Hid (w.heap.size=x):=⟨_,zh rfl⟩
 have hSW:=hS.fr fW (by simp);have hbW:Byts W A n l:=Rd.fr hb fW (fun _=>by simp [Off]);have hgK:g<gK:=by rw [←HGK.o];exact hgl
 have hAK:0<n→Off [gK] A:=fun h0 ad e=>by have:=Rd.lt hb (by decide) h0 ad e;rw [HGK.o]at this;simp;omega
 rw [HGK.o]at BK⊢;go_wp2_with fail
 go_loopg [1] (n+1) (fun k s1 wr=>∃(i:Nat) (A':Option Addr) (c':Nat),s1= .slice A' (n - i) c'∧i≤n∧n - i<k∧n - i≤c'∧Byts wr A' (n - i) (l.drop i)∧(0<n - i→Off [g] A')∧StIn wr g t (bs++l.take i)∧Blk wr gK 251 kCells∧Fr [g] W wr)
 case atStart=>exact⟨0,A,c,rfl,by omega,by omega,hc,by simpa using hbW,hA,by simpa using hSW,BK,Fr.refl _ _⟩
 case round=>
  obtain⟨i,A',c',rfl,hi,hk,hc',hb',hA',⟨cs,hB,hO⟩,hK',hF⟩:=hrel;have h72:=(hB.cell 72).trans hO.2.2.2;have hz:=hO.1;have hll:(l.drop i).length=n - i:=by simp [hl]
  have hL:(bs++l.take i).length=bs.length+i:=by simp [hl];omega
  obtain⟨r,hr⟩:∃r,n - i=r:=⟨_,rfl⟩
  obtain⟨bs',hbs⟩:∃x,Hid (bs++l.take i=x):=⟨_,zh rfl⟩
  obtain⟨l',hl'⟩:∃x,Hid (l.drop i=x):=⟨_,zh rfl⟩
  rw [hbs.o]at h72 hO hL;rw [hl'.o]at hb' hll;rw [hr]at hc' hb' hA' hll hk⊢;obtain⟨L,HL⟩:∃x,Hid (bs'.length=x):=⟨_,zh rfl⟩
  rw [HL.o]at h72 hL;have hLh:=zh hL;have hLb:L+r≤4611686018427387904:=by omega
  clear hL;by_cases h0:r=0
  ·subst h0;go_wp2;go_end0;have hin:i=n:=by omega
   subst hin;refine⟨rfl,fW.nil.trans hF,cs,hB,?_⟩;have e:=hbs.o;rw [List.take_of_length_le (by omega)]at e;rw [e];exact hO
  ·have h0':0<r:=by omega
   obtain⟨b,o,rfl,hbl,-⟩:=hb'.at (i:=0) h0';have hfr:=fun j=>hB.frozen j;by_cases hc1:L%64=0∧64≤r
   ·obtain⟨hat,h64⟩:=hc1;have h64c:64≤c':=by omega
    have h64i:(64:Int)≤(c':Int):=by omega
    go_wp2_with fail
    refine(take_t wr g t gK cs (pressN (bs'.length / 64) shaInit bs') (some ⟨b,o,none⟩) c' (l'.take 64) hB hz hO.2.1 (byts_take hb' h64) hK').mono ?_;rintro _ w2 ⟨rfl,hF2,cs2,hB2,hz2,hW2,hf2⟩;have g72:=(hB2.cell 72).trans ((hf2 72 (by omega)).trans ((hB.cell 72).symm.trans h72));have gfr:=fun j=>hB2.frozen j;have hgl2:=hB2.lt;clear h72 hfr;go_upto_region 5 with(fail)
    go_region
    obtain⟨A2,hA2⟩:∃A2,Hid ((if c'=64 then some (⟨b,o,none⟩:Addr)else some ⟨b,o+64,none⟩)=A2):=⟨_,zh rfl⟩
    rw [hA2.o];go_wp2;go_roundg r
    case measure=>exact hk
    case rel=>
     have hr2:n - (i+64)=r - 64:=by omega
     have hwn:Fr [g] wr (w2.setCell ⟨g,72,none⟩ (.int .i64 (↑L+64))).drew:=(hF2.setCell (.inl (by simp)) _).drew;have hm64:(l'.take 64).length=64:=by rw [List.length_take];omega
     refine⟨i+64,A2,c' - 64,by rw [hr2],by omega,by omega,by omega,?_,?_,⟨_,(hB2.set 72 (.int .i64 (↑L+64))).drew,?_⟩,hK'.fr hwn (by simp;omega),hF.trans hwn⟩
     ·rw [hr2,←List.drop_drop,hl'.o,←hA2.o];exact byts_slice (Rd.fr hb' hwn hA') h64 hc'
     ·intro _;rw [←hA2.o];exact off_slice (hA' h0')
     ·rw [List.take_add,←List.append_assoc,hbs.o,hl'.o];refine st_take (by rw [HL.o];exact hat) hm64 (by rw [Array.size_setIfInBounds,hz2,hz]) ?_ ?_
      ·intro j v hv;have hj:j<8:=(List.getElem?_eq_some_iff.1 hv).1;rw [Array.getElem?_setIfInBounds,if_neg (by omega)];exact hW2 j v hv
      ·rw [Array.getElem?_setIfInBounds,if_pos rfl,if_pos (by omega),HL.o]
   ·have hq64:L%64<64:=Nat.mod_lt _ (by decide);obtain⟨q,hq⟩:∃q,Hid (L%64=q):=⟨_,zh rfl⟩
    have hq':(L:Int)%64=q:=by have:=hq.o;omega
    have hqt:(L:Int).tmod 64=q:=by rw [←hq'];exact Int.tmod_eq_emod_of_nonneg (by omega)
    rw [hq.o]at hc1 hq64;obtain⟨d0,hd0,he0⟩:∃d,decide ((q:Int)=0)=d∧((q:Int)==0)=d:=⟨_,rfl,by simp [BEq.beq]⟩
    obtain⟨d1,hd1⟩:∃d,decide ((64:Int)≤(r:Int))=d:=⟨_,rfl⟩
    have hq8:(q:Int)≤64:=by omega
    have hq0:(0:Int)≤q:=by omega
    obtain⟨M,hM⟩:∃M,Nat.min r (64 - q)=M:=⟨_,rfl⟩
    have hMr:M≤r:=by rw [←hM];exact Nat.min_le_left _ _
    have hMq:M≤64 - q:=by rw [←hM];exact Nat.min_le_right _ _
    have hM0:0<M:=by rw [←hM];exact Nat.lt_min.2 ⟨h0',by omega⟩
    have hqL:bs'.length%64=q:=by rw [HL.o];exact hq.o
    have hml:(l'.take M).length=M:=by rw [List.length_take];omega
    have hMh:=zh hM;have hn:((l'.take M).map bv).length=M*1:=by rw [List.length_map,hml,Nat.mul_one]
    have hsrc:=byts_src hb' hMr;have hone:=bv_one (l'.take M);obtain⟨ms,hms⟩:∃x,Hid ((l'.take M).map bv=x):=⟨_,zh rfl⟩
    rw [hms.o]at hn hsrc hone;have hfit:8+q+ms.length≤cs.size:=by omega
    have hqLh:=zh hqL;have hmlh:=zh hml;clear hM hqL hml;cases d0<;>cases d1
    case true.true=>simp at hd0 hd1;omega
    all_goals
     go_upto_region 7 with(refine wpList_copy_rows (elem:=5) (size:=1) (cs:=ms) M rfl rfl rfl rfl tBytes (by kernel_rfl) hB hMh.o hn hsrc hfit hone ?_)
     refine wp_gen (fun W2=>Blk W2 g t (laid cs (8+q) ms)∧Fr [g] wr W2) ⟨Blk.setRow hB _,(Fr.refl _ _).setRow (.inl (by simp)) _⟩ ?_;rintro W2 ⟨hB2,hF2⟩;have g72:=(hB2.cell 72).trans ((laid_far hfit (.inr (by omega))).trans ((hB.cell 72).symm.trans h72));have gfr:=fun j=>hB2.frozen j;have hgl2:=hB2.lt;have hMc:M≤c':=by omega
     have hMci:(M:Int)≤(c':Int):=by omega
     have hMri:(M:Int)≤(r:Int):=by omega
     clear h72 hfr;go_region
     obtain⟨A2,hA2⟩:∃A2,Hid ((if c'=M then some (⟨b,o,none⟩:Addr)else some ⟨b,o+M,none⟩)=A2):=⟨_,zh rfl⟩
     rw [hA2.o];go_upto_region 8 with(fail)
     refine wp_gen (fun W3=>Blk W3 g t ((laid cs (8+q) ms).setIfInBounds 72 (.int .i64 (↑L+↑M)))∧Fr [g] wr W3) ⟨(hB2.set 72 _).drew,(hF2.setCell (.inl (by simp)) _).drew⟩ ?_;rintro W3 ⟨hB3,hF3⟩;have hm72:((laid cs (8+q) ms).setIfInBounds 72 (.int .i64 (↑L+↑M)))[72]? =some (.int .i64 (↑L+↑M)):=by rw [Array.getElem?_setIfInBounds,if_pos rfl,if_pos (by rw [laid_size hfit];omega)]
     have k72:=(hB3.cell 72).trans hm72;have hLM:((L:Int)+M)%64=((q+M)%64:Nat):=by have:=hq.o;omega
     have hLMt:((L:Int)+M).tmod 64=((q+M)%64:Nat):=by rw [←hLM];exact Int.tmod_eq_emod_of_nonneg (by omega)
     obtain⟨q2,hq2⟩:∃x,Hid ((q+M)%64=x):=⟨_,zh rfl⟩
     rw [hq2.o]at hLM hLMt;have hend:n - (i+M)=r - M:=by omega
     have hby:∀{X:World},Fr [g] wr X→Byts X A2 (r - M) (l.drop (i+M)):=fun{X} hX=>by rw [←List.drop_drop,hl'.o,←hA2.o];exact byts_slice (Rd.fr hb' hX hA') hMr hc'
     have hoff:Off [g] A2:=by rw [←hA2.o];exact off_slice (hA' h0')
     have hbs2:bs++l.take (i+M)=bs'++l'.take M:=by rw [List.take_add,←List.append_assoc,hbs.o,hl'.o]
     have hK3:=hK'.fr hF3 (by simp;omega);clear g72 gfr hB2 hF2 hLM;have hbs2h:=zh hbs2;clear hbs2;cases hd2:((q2:Int)==0)
     case false=>
      clear hd0 he0 hd1;have hz2:(q+M)%64≠0:=by rw [hq2.o];rintro rfl;simp at hd2
      go_wp2_with fail
      go_roundg r
      case measure=>exact hk
      case rel=>
       refine⟨i+M,A2,c' - M,by rw [hend],by omega,by omega,by omega,?_,fun _=>hoff,⟨_,hB3,?_⟩,hK3,hF.trans hF3⟩
       ·rw [hend];exact hby hF3
       ·rw [hbs2h.o];have:=st_rest (m:=l'.take M) hO (by rw [hqLh.o,hmlh.o];omega);rw [hqLh.o,hms.o,HL.o,hmlh.o]at this;exact this
     case true=>
      clear hd0 he0 hd1;have hz2:q+M=64:=by
       have:q2=0:=by simpa using hd2
       have:=hq2.o;omega
      have hfull:bs'.length%64+(l'.take M).length=64:=by rw [hqLh.o,hmlh.o];exact hz2
      have hrest:=fullRest_get (m:=l'.take M) hO hfull;have hwords:=st_words (m:=l'.take M) hO (by omega);have hsz3:=st_size (m:=l'.take M) hO (by omega) (.int .i64 (↑L+↑M));rw [hqLh.o,hms.o,HL.o,hmlh.o]at hrest hwords;rw [hqLh.o,hms.o]at hsz3;have hflen:=fullRest_length hfull;have hbyt:Byts W3 (some ⟨g,8,none⟩) 64 (fullRest bs' (l'.take M)):=⟨by rw [List.length_map,hflen],fun _=>⟨g,8,rfl,fun j u hu=>(hB3.cell _).trans (hrest j u hu)⟩⟩
      have hfin:=fun(cs':Array Value)=>st_full (cs':=cs') hO hfull;rw [hqLh.o,hms.o,HL.o,hmlh.o]at hfin;go_wp2_with fail
      refine(take_t W3 g t gK _ _ (some ⟨g,8,none⟩) 64 _ hB3 hsz3 hwords hbyt hK3).mono ?_;rintro _ w4 ⟨rfl,hF4,cs4,hB4,hz4,hW4,hf4⟩;go_wp2;go_roundg r
      case measure=>exact hk
      case rel=>
       refine⟨i+M,A2,c' - M,by rw [hend],by omega,by omega,by omega,?_,fun _=>hoff,⟨cs4,hB4,?_⟩,hK3.fr hF4 (by simp;omega),hF.trans (hF3.trans hF4)⟩
       ·rw [hend];exact hby (hF3.trans hF4)
       ·rw [hbs2h.o];refine hfin cs4 (by rw [hz4,hsz3]) ?_ hf4;exact hW4
end Go.Proofs.YtopfcgpeaaehgaaGreatDoor
