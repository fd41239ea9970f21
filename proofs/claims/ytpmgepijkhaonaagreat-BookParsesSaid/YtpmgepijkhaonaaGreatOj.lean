/- Walk: a family's text by the document. Conditions: each theorem's own. -/
import Derived.Test.YtpmgepijkhaonaaGreatOa
import Derived.Test.YtpmgepijkhaonaaGreatOe
import Derived.Test.YtpmgepijkhaonaaGreatJr
namespace Go.Proofs.YtpmgepijkhaonaaGreat
open Go.RowKit Go.Sig
theorem wpList_grow {w:World}{b0 o0 n cap m c:Nat}{A:Option Addr}{olds news:List UInt8}{ops:Array Oper}{rest:List Oper}{o:Oper}{a:Act}{Q:Exit→Act→World→Prop}(ho:Byts w (some ⟨b0,o0,none⟩) n olds) (hn0:0<n) (hx:Byts w A m news) (hm:0<m) (hfull:cap<n+m) (hmax:n+m≤1000000)
  (hg:o.guard=none) {s x:Operand}(hop:o.op= .call {callee:= .builtin .append,args:=#[s,x],argTypes:=#[42,42]}) (hs:a.eval s= .slice (some ⟨b0,o0,none⟩) n cap) (hv:a.eval x= .slice A m c)
  (hK:∀A' c' w',Own w' 5 1 (.slice A' (n+m) c') (n+m) ((olds++news).map bv)→From w.heap.size A'→Fr [] w w'→wpList Tryz.prog ops Q rest (a.put o.dst (.slice A' (n+m) c')) w'):wpList Tryz.prog ops Q (o::rest) a w:=by
 obtain⟨i,hi,hz,hs1,hby⟩:=info_parts tW1.info;obtain⟨b1,o1,rfl,hc1⟩:=hx.2 hm;obtain⟨b2,o2,e2,hc2⟩:=ho.2 hn0;cases e2
 refine wpList_append_grows w hg s x 42 hop 5 i (.int .u8 0) 1 1 tW1.ty hi hz hs1 hby rfl (by decide) (some ⟨b0,o0,none⟩) n cap (olds.map bv) hs (fun h=>by cases h) ho.1 (fun b e j u hu=> ?_) ⟨b1,o1,none⟩ m c (news.map bv) hv hx.1 (fun j u hu=> ?_) (bv_one _) hfull (by unfold maxLen;omega) (by omega) fun v' w' k1 k2=> ?_
 ·cases e
  rw [Addr.add_lit];exact hc2 j u hu
 ·rw [Addr.add_lit];exact hc1 j u hu
 ·obtain⟨A',c',rfl,k3,k4⟩:=own_of_row k1;refine hK A' c' w' (by rw [List.map_append];exact k3) k4 ((Fr.refl _ _).grown k2 (fun k hk=>by cases hk))
set_option maxRecDepth 100000 in
set_option maxHeartbeats 2000000 in
theorem rframe08_t (w:World) (A:Option Addr) (n c:Nat) (b:List UInt8) (hb:Byts w A n b) (hmax:n≤65536) (hnA:A=none→n=0):Calls Tryz.prog 107 #[.slice A n c] w (YRow w (frameB b)):=by
 have hbh:=zh hb;have hbl:=hb.length;have hx:(n:Int)=((UInt32.ofNat n).toNat:Int):=by rw [UInt32.toNat_ofNat_of_lt' (by simp [UInt32.size];omega)]
 have hf1:=fun V=>rfour08_t V (UInt32.ofNat n);have hf2:=fun V=>rfour08_t V (crcM b);have hxu:UInt32.ofNat n=UInt32.ofNat b.length:=by rw [hbl]
 have hxuh:=zh hxu;obtain⟨X,hX⟩:∃z,Hid (UInt32.ofNat n=z):=⟨_,zh rfl⟩
 rw [hX.o]at hx hf1;have hf1h:=zh hf1;have hf2h:=zh hf2;have hsum:=zh (fun(V:World) (hF:Fr [] w V)=>rsum02_t V A n c b (hb.fr hF (by simp [Off])) (by omega));have hx2:IntKind.u32.wrap (n:Int)=(X.toNat:Int):=by rw [IntKind.wrap_u32'];omega
 obtain⟨Y,hY⟩:∃z,Hid (crcM b=z):=⟨_,zh rfl⟩
 rw [hY.o]at hf2h hsum;have hbll:=zh hbl;have hnAh:=zh hnA;clear hb hxu hf1 hf2 hbl hnA hx;go_enter Tryz.func107,Tryz.ntmps107;go_wp2_with fail
 refine Calls.mono (show Calls Tryz.prog 158 _ _ _ from hf1h.o w) ?_;rintro e V1 ⟨g1,rfl,hB1,F1⟩;have hB1h:=zh hB1;have F1h:=zh F1;clear hB1 F1;go_wp2_with fail
 refine Calls.mono (show Calls Tryz.prog 111 _ _ _ from hsum.o _ F1h.o) ?_;rintro e V2 ⟨rfl,rfl⟩;go_wp2_with fail
 refine Calls.mono (show Calls Tryz.prog 158 _ _ _ from hf2h.o V1) ?_;rintro e V3 ⟨g3,rfl,hB3,F3⟩;have hB13:=zh (hB1h.o.fr F3 (by simp [Off]));have hB3h:=zh hB3;have F3h:=zh (F1h.o.trans F3);clear hB3 F3;go_wp2_with (first
  | (refine wpList_grow hB13.o (by decide) hB3h.o (by decide) (by decide) (by decide) rfl rfl rfl rfl (fun A4 c4 V4 hO4 hA4 F4=> ?_);have hO4h:=zh hO4;have hA4h:=zh hA4;have F4h:=zh (F3h.o.trans F4);have hR4:=zh (hbh.o.fr F4h.o (by simp [Off]));clear hO4 hA4 F4)
  | (refine wpList_own_append tW1 hO4h.o hR4.o (bv_one _) hnAh.o (by unfold maxLen;omega) (by omega) rfl rfl rfl rfl (fun v2 w5 p1 p2 p3=> ?_);obtain⟨A5,c5,rfl,hA5⟩:=p1.form))
 go_ret;have hl:(frameB b).length=8+n:=by rw [frameB_length,hbll.o];omega
 have he:(bytes4 X++bytes4 Y).map bv++b.map bv=(frameB b).map bv:=by unfold frameB;rw [←hX.o,hxuh.o,←hY.o];simp
 have hV:=F3h.o.size;refine⟨_,rfl,A5,c5,by rw [hl];rfl,?_,fun ad e=> ?_,F4h.o.andThen p2 (fun i hi=> .inr ?_)⟩
 ·rw [hl,←he];exact p1
 ·rcases p3 ad.block (rowOf_mem.2 ⟨ad,e,rfl⟩)with h |h
  ·obtain⟨ad2,e2,h2⟩:=rowOf_mem.1 h;have:=hA4h.o ad2 e2;omega
  ·have:=F4h.o.size;omega
 ·obtain⟨ad2,e2,h2⟩:=rowOf_mem.1 hi;have:=hA4h.o ad2 e2;omega
structure QA where
 p:PutM
 A:Option Addr
 c:Nat
def boolI (b:Bool):Int:=if b=true then 1 else 0
def QA.arr (q:QA):Array Value:=match q.p with
 | .num n=>#[.int .i64 0,.int .i64 n,.string ⟨#[]⟩,.slice none 0 0]
 | .txt s=>#[.int .i64 1,.int .i64 0,.string s,.slice none 0 0]
 | .tru b=>#[.int .i64 2,.int .i64 (boolI b),.string ⟨#[]⟩,.slice none 0 0]
 | .cnt n=>#[.int .i64 3,.int .i64 n,.string ⟨#[]⟩,.slice none 0 0]
 | .txs l=>#[.int .i64 4,.int .i64 0,.string ⟨#[]⟩,.slice q.A l.length q.c]
def QA.cells (q:QA):List Value:=q.arr.toList
theorem QA.len (q:QA):q.cells.length=4:=by
 obtain⟨p,A,c⟩:=q;cases p<;>rfl
def QA.ok (w:World) (q:QA):Prop:=match q.p with
 | .num n=> -9223372036854775808≤n∧n<9223372036854775808
 | .txt s=>s.size≤150000000000000
 | .tru _=>True
 | .cnt n=> -9223372036854775808≤n∧n<9223372036854775808
 | .txs l=>Rd w 1 q.A l.length (strCells l)∧l.length≤150000000000000∧∀s∈l,s.size≤150000000000000
theorem QA.ok_fr {w w':World}{q:QA}(h:q.ok w) (hF:Fr [] w w'):q.ok w':=by
 obtain⟨p,A,c⟩:=q;cases p with
 |txs l=>exact⟨h.1.fr hF (by simp [Off]),h.2⟩
 |_=>exact h
structure PutsIn (w:World) (A:Option Addr) (n:Nat) (l:List QA):Prop where
 rd:Rd w 4 A n (l.flatMap QA.cells)
 len:l.length=n
 ok:∀q∈l,q.ok w
 small:n≤1000000
theorem PutsIn.fr {w w':World}{A:Option Addr}{n:Nat}{l:List QA}(h:PutsIn w A n l) (hF:Fr [] w w'):PutsIn w' A n l:=⟨h.rd.fr hF (by simp [Off]),h.len,fun q hq=>QA.ok_fr (h.ok q hq) hF,h.small⟩
theorem flat_at4 {f:QA→List Value}(hf:∀q,(f q).length=4):∀{l:List QA}{i:Nat}(h:i<l.length) (j:Nat),j<4→(l.flatMap f)[i*4+j]? =(f l[i])[j]?
 |q::l,0,_,j,hj=>by rw [List.flatMap_cons,List.getElem?_append_left (by rw [hf];omega)];simp
 |q::l,i+1,h,j,hj=>by rw [List.flatMap_cons,List.getElem?_append_right (by rw [hf];omega),hf,show(i+1)*4+j - 4=i*4+j by omega];exact flat_at4 hf (Nat.lt_of_succ_lt_succ h) j hj
theorem PutsIn.row {w:World}{A:Option Addr}{n i:Nat}{l:List QA}(h:PutsIn w A n l) (hi:i<n):∃q b o,A=some ⟨b,o,none⟩∧l[i]? =some q∧w.rangeAt b (o+i*4) q.cells∧q.ok w:=by
 have hi':i<l.length:=by rw [h.len];exact hi
 obtain⟨b,o,e,hc⟩:=h.rd.2 (by omega);refine⟨l[i],b,o,e,List.getElem?_eq_getElem hi',fun j v hv=> ?_,h.ok _ (List.getElem_mem hi')⟩;have hj:j<4:=by have:=(List.getElem?_eq_some_iff.1 hv).1;rwa [QA.len]at this
 rw [Nat.add_assoc];exact hc _ _ (by rw [flat_at4 QA.len hi' j hj];exact hv)
theorem own_less {w:World}{e s n k c:Nat}{A:Option Addr}{xs:List Value}(h:Own w e s (.slice A n c) n xs) (hk:k≤n):Own w e s (.slice A k c) k (xs.take (k*s)):=by
 obtain⟨h1,h2⟩:=h;have hle:k*s≤n*s:=Nat.mul_le_mul_right _ hk;refine⟨by rw [List.length_take,h1];omega,?_⟩;rcases h2 with⟨hv,h0⟩ | ⟨g,cap,cur,hv,hg,hh,a,b,d,r⟩
 ·injection hv with e1 e2 e3
  subst e1 e2 e3;obtain rfl:k=0:=by omega
  exact .inl ⟨rfl,rfl⟩
 ·injection hv with e1 e2 e3
  subst e1 e3;exact .inr ⟨g,c,cur,rfl,hg,hh,by omega,b,d,by rw [←r,List.take_take];congr 1;omega⟩
theorem YAcc.less {w wr:World}{A:Option Addr}{c:Nat}{l:List UInt8}(h:YAcc w wr (.slice A l.length c) l) (hk:65537≤l.length):YAcc w wr (.slice A 65537 c) (l.take 65537):=by
 obtain⟨A',c',e,h2,h3,h4⟩:=h;injection e with e1 e2 e3
 subst e1 e3;have hl:(l.take 65537).length=65537:=by rw [List.length_take];omega
 refine⟨A,c,by rw [hl],?_,h3,h4⟩;have:=own_less h2 hk;rw [hl,List.map_take];simpa using this
end Go.Proofs.YtpmgepijkhaonaaGreat
namespace Go.Proofs.YtpmgepijkhaonaaGreat
open Go.RowKit Go.Sig
theorem txt_cut (s:ByteArray):(txtC s=textB s∨(65536<(textB s).length∧65536<(txtC s).length))∧(txtC s).length≤65547:=by
 have h1:=numB_length s.size;have h2:s.data.toList.length=s.size:=rfl;unfold txtC textB;by_cases h:s.size≤65537
 ·rw [List.take_of_length_le (by rw [h2];exact h)];exact⟨.inl rfl,by rw [List.length_append,h2];omega⟩
 ·refine⟨.inr ⟨by rw [List.length_append,h2];omega,by rw [List.length_append,List.length_take,h2];omega⟩,by rw [List.length_append,List.length_take];omega⟩
theorem infoQA (q:QA):(Tryz.prog.info? 95).map (·.size)=some q.arr.size:=by
 obtain⟨p,A,c⟩:=q;cases p<;>kernel_rfl
theorem QA.sz (q:QA):q.arr.size=4:=by
 obtain⟨p,A,c⟩:=q;cases p<;>rfl
theorem QA.one (q:QA):q.arr.all (·.oneCell')=true:=by
 obtain⟨p,A,c⟩:=q;cases p<;>kernel_rfl
def BtPost (w:World) (l:List QA) (e:Ending) (w':World):Prop:=
 ∃v x,e= .returned (.tuple #[v,.bool ((l.map (·.p)).any putBad)])∧YAcc w w' v x∧Cut (flatP (l.map (·.p))) x∧x.length≤400000
theorem flat_take {l:List QA}{i:Nat}{q:QA}(h:l[i]? =some q):flatP ((l.take (i+1)).map (·.p))=flatP ((l.take i).map (·.p))++putF q.p∧((l.take (i+1)).map (·.p)).any putBad=(((l.take i).map (·.p)).any putBad ||putBad q.p):=by
 obtain⟨hi,rfl⟩:=List.getElem?_eq_some_iff.1 h;rw [List.take_succ_eq_append_getElem hi,List.map_append,flatP_append,List.any_append];simp [flatP]
set_option maxRecDepth 100000 in
set_option maxHeartbeats 8000000 in
theorem rbytes08_t (w:World) (A:Option Addr) (n c:Nat) (l:List QA) (h:PutsIn w A n l):Calls Tryz.prog 106 #[.slice A n c] w (BtPost w l):=by
 have hh:=zh h;have hsm:=h.small;have hln:=zh h.len;clear h;go_enter Tryz.func106,Tryz.ntmps106;go_wp2_with fail
 go_loopg [4,5,6] (n+1) (fun gk s4 s5 s6 wr=>∃(i:Nat) (x:List UInt8) (bb:Bool),s6= .int .i64 i∧s5= .bool bb∧Hid (bb=((l.take i).map (·.p)).any putBad)∧i≤n∧n - i<gk∧YAcc w wr s4 x∧Hid (Cut (flatP ((l.take i).map (·.p))) x)∧x.length≤400000)
 case atStart=>exact⟨0,[],false,rfl,rfl,zh rfl,by omega,by omega,YAcc.nil w,zh (by simpa [flatP]using Cut.nil),by simp⟩
 case round=>
  obtain⟨i,x,bb,rfl,rfl,hbb,hi,hk,hY,hC,hxl⟩:=hrel;have hYh:=zh hY;obtain⟨A4,c4,rfl,hO,hA4,hF⟩:=hY;have hFh:=zh hF;obtain⟨xn,hxn⟩:∃z,Hid (x.length=z):=⟨_,zh rfl⟩
  rw [hxn.o]at hO hxl hYh⊢;have hxc:xn≤c4:=by
   rcases hO.2 with⟨hv,h0⟩ | ⟨_,cap,_,hv,_,_,h1,_⟩
   ·omega
   ·injection hv with _ _ e
    omega
  clear hO hA4 hF;by_cases hlt:i<n
  ·have hlt':(i:Int)<n:=by omega
   have hlth:=zh hlt;have hkh:=zh hk;obtain⟨q,qb,qo,rfl,hqi,hqr,hqo⟩:=(hh.o.fr hFh.o).row hlt;have hqih:=zh hqi;have hqrh:=zh hqr;have hqoh:=zh hqo;clear hlt hk hqi hqr hqo;obtain⟨bt,hbt⟩:∃z,decide ((65536:Int)<(xn:Int))=z:=⟨_,rfl⟩
   have hbth:=zh hbt;go_upto_if 17 with(fail)
   clear hbt;go_cut [4]from 18 to 19 (fun s4 wx=>∃y,YAcc w wx s4 y∧Hid (Cut (flatP ((l.take i).map (·.p))) y)∧y.length≤65537∧wr=wx)
   case first=>
    cases bt with
    |true=>
     have hbig:65536<xn:=by have:=of_decide_eq_true hbth.o;omega
     have hbj:(65537:Int)≤c4:=by omega
     have hbigh:=zh hbig;clear hbig;go_wp2_with fail
     go_meet;refine⟨x.take 65537,?_,zh hC.o.take,by rw [List.length_take];omega,rfl⟩;have h:=hYh.o;rw [←hxn.o]at h;exact h.less (by rw [hxn.o];exact hbigh.o)
    |false=>
     have hbig:¬65536<xn:=by have:=of_decide_eq_false hbth.o;omega
     have hbigh:=zh hbig;clear hbig;go_wp2_with fail
     go_meet;exact⟨x,hYh.o,hC,by rw [hxn.o];have:=hbigh.o;omega,rfl⟩
   case rest=>
    obtain⟨y,hYc,hCy,hyl,rfl⟩:=hcut;obtain⟨A6,c6,rfl,hO6,hA6,hF6⟩:=hYc;obtain⟨yn,hyn⟩:∃z,Hid (y.length=z):=⟨_,zh rfl⟩
    rw [hyn.o]at hO6 hyl⊢;have hO6h:=zh hO6;have hA6h:=zh hA6;clear hO6 hA6 hF6 hxl hxc;have hfl:=zh (flat_take hqih.o);have hkh2:=hkh;go_upto_region 9 with(first
     | (refine wpList_load_cells rfl 95 _ rfl rfl (ys:=q.arr) (fun j v hv=>hqrh.o j v (by unfold QA.cells;rw [Array.getElem?_toList];exact hv)) uPut rfl (infoQA q) ?_)
     | (refine wpList_store_row rfl 95 _ _ rfl wr.heap.size _ rfl rfl 95 _ (Blk.new _ _ _) (infoQA q) (by rw [QA.sz];rfl) (QA.one q) ?_))
    refine wp_gen (fun W=>Blk W wr.heap.size 95 q.arr∧Fr [] wr W) ⟨Blk.setRow (Blk.new _ _ _) _,((Fr.refl [] wr).alloc _).setRow (.inr (Nat.le_refl _)) _⟩ ?_;rintro W7 ⟨hT,f7⟩;obtain⟨g7,HG7⟩:∃z,Hid (wr.heap.size=z):=⟨_,zh rfl⟩
    rw [HG7.o]at hT⊢;have f7h:=zh f7;have hO7h:=zh (hO6h.o.fr f7 (by simp));have hok7:=zh (QA.ok_fr hqoh.o f7);clear f7;obtain⟨qp,qA,qc⟩:=q;have hTl:=hT.lt;cases qp with
    |num v=>
     have hcel:=hT.cell;simp only [QA.arr]at hcel;have q0:=hcel 0;have q1:=hcel 1;simp only [zG,zH,zI]at q0 q1;have hv:=hok7.o;have hin:=rint08_t W7 v hv.1 hv.2;have hnl:=zh (show(intB v).length≤10 from numB_length _);clear hcel hT hv;go_wp2_with (first
      | (go_at_call 155;refine hin.mono ?_;rintro e V ⟨v1,rfl,B1,d1,rfl,hO1,hB1,F1⟩;have hO1h:=zh hO1.rd;have F1h:=zh F1;clear hO1 hB1 F1)
      | (refine wpList_own_append tW1 (hO7h.o.fr F1h.o (by simp)) hO1h.o (bv_one _) (fun e=>by subst e;exact rd_none hO1h.o) (by have:=hnl.o;unfold maxLen;omega) (by have:=hnl.o;omega) rfl rfl rfl rfl (fun v2 w2 p1 p2 p3=> ?_);obtain⟨A8,c8,rfl,hA8⟩:=p1.form))
     go_roundg (n - i)
     case measure=>exact hkh2.o
     case rel=>exact⟨i+1,y++intB v,bb,by go_num,rfl,zh (by rw [hfl.o.2,←hbb.o];simp [putBad]),by have:=hlth.o;omega,by have:=hlth.o;omega,YAcc.push hyn.o rfl hA6h.o (hFh.o.trans f7h.o) F1h.o p1 p2 (fun g hg=>(p3 g hg).imp id (fun e=>by omega)),zh (by rw [hfl.o.1];exact hCy.o.add (.inl (by simp [putF,putBad,putB]))),by rw [List.length_append,hyn.o];have:=hnl.o;omega⟩
    |txt s=>
     have hcel:=hT.cell;simp only [QA.arr]at hcel;have q0:=hcel 0;have q2:=hcel 2;simp only [zG,zH,zI]at q0 q2;have hin:=rtxt08_t W7 s hok7.o;have hnl:=zh (txt_cut s).2;have hcu:=zh (txt_cut s).1;clear hcel hT;go_wp2_with (first
      | (go_at_call 156;refine hin.mono ?_;rintro e V ⟨v1,rfl,B1,d1,rfl,hO1,hB1,F1⟩;have hO1h:=zh hO1.rd;have F1h:=zh F1;clear hO1 hB1 F1)
      | (refine wpList_own_append tW1 (hO7h.o.fr F1h.o (by simp)) hO1h.o (bv_one _) (fun e=>by subst e;exact rd_none hO1h.o) (by have:=hnl.o;unfold maxLen;omega) (by have:=hnl.o;omega) rfl rfl rfl rfl (fun v2 w2 p1 p2 p3=> ?_);obtain⟨A8,c8,rfl,hA8⟩:=p1.form))
     go_roundg (n - i)
     case measure=>exact hkh2.o
     case rel=>exact⟨i+1,y++txtC s,bb,by go_num,rfl,zh (by rw [hfl.o.2,←hbb.o];simp [putBad]),by have:=hlth.o;omega,by have:=hlth.o;omega,YAcc.push hyn.o rfl hA6h.o (hFh.o.trans f7h.o) F1h.o p1 p2 (fun g hg=>(p3 g hg).imp id (fun e=>by omega)),zh (by rw [hfl.o.1];exact hCy.o.add (by have h:=hcu.o;simpa [putF,putBad,putB]using h)),by rw [List.length_append,hyn.o];have:=hnl.o;omega⟩
    |tru b=>
     have hcel:=hT.cell;simp only [QA.arr]at hcel;have q0:=hcel 0;have q1:=hcel 1;simp only [zG,zH,zI]at q0 q1;clear hcel hT;cases b with
     |true=>
      have q1:W7.cell? ⟨g7,1,none⟩=some (.int .i64 1):=q1;go_wp2_with (refine wpList_own_append tW1 (hO7h.o.fr ((Fr.refl [] _).alloc _) (by simp)) (byteW_new _ _ 1 _ rfl) (fun u hu=>by simp at hu;rw [hu];rfl) (by simp) (by unfold maxLen;omega) (by omega) rfl rfl rfl rfl (fun v2 w2 p1 p2 p3=> ?_);obtain⟨A8,c8,rfl,hA8⟩:=p1.form)
      go_roundg (n - i)
      case measure=>exact hkh2.o
      case rel=>exact⟨i+1,y++ [1],bb,by go_num,rfl,zh (by rw [hfl.o.2,←hbb.o];simp [putBad]),by have:=hlth.o;omega,by have:=hlth.o;omega,YAcc.push hyn.o rfl hA6h.o (hFh.o.trans f7h.o) ((Fr.refl [] W7).alloc _) p1 p2 (fun g hg=>(p3 g hg).imp id (fun e=>by omega)),zh (by rw [hfl.o.1];exact hCy.o.add (.inl (by simp [putF,putBad,putB,boolB]))),by rw [List.length_append,hyn.o];simp;omega⟩
     |false=>
      have q1:W7.cell? ⟨g7,1,none⟩=some (.int .i64 0):=q1;go_wp2_with (refine wpList_own_append tW1 (hO7h.o.fr ((Fr.refl [] _).alloc _) (by simp)) (byteW_new _ _ 0 _ rfl) (fun u hu=>by simp at hu;rw [hu];rfl) (by simp) (by unfold maxLen;omega) (by omega) rfl rfl rfl rfl (fun v2 w2 p1 p2 p3=> ?_);obtain⟨A8,c8,rfl,hA8⟩:=p1.form)
      go_roundg (n - i)
      case measure=>exact hkh2.o
      case rel=>exact⟨i+1,y++ [0],bb,by go_num,rfl,zh (by rw [hfl.o.2,←hbb.o];simp [putBad]),by have:=hlth.o;omega,by have:=hlth.o;omega,YAcc.push hyn.o rfl hA6h.o (hFh.o.trans f7h.o) ((Fr.refl [] W7).alloc _) p1 p2 (fun g hg=>(p3 g hg).imp id (fun e=>by omega)),zh (by rw [hfl.o.1];exact hCy.o.add (.inl (by simp [putF,putBad,putB,boolB]))),by rw [List.length_append,hyn.o];simp;omega⟩
    |cnt v=>
     have hcel:=hT.cell;simp only [QA.arr]at hcel;have q0:=hcel 0;have q1:=hcel 1;simp only [zG,zH,zI]at q0 q1;clear hcel hT;by_cases hbad:putBad (.cnt v)=true
     ·have hnil:=zh (show putF (.cnt v)= [] by unfold putF;rw [if_pos hbad]);have hbadh:=zh hbad;have hcs:decide (v<0)=true∨(decide (v<0)=false∧decide (4096<v)=true):=by
       simp only [putBad,Bool.or_eq_true]at hbad;cases h:decide (v<0)with
       |true=>exact .inl rfl
       |false=>exact .inr ⟨rfl,hbad.resolve_left (by rw [h];simp)⟩
      clear hbad;rcases hcs with d1 | ⟨d1,d2⟩<;>
       (go_wp2_with fail
        go_roundg (n - i)
        (case measure=>exact hkh2.o)
        (case rel=>exact⟨i+1,y,true,by go_num,rfl,zh (by rw [hfl.o.2,hbadh.o];simp),by have:=hlth.o;omega,by have:=hlth.o;omega,⟨A6,c6,by rw [hyn.o],by rw [hyn.o];exact hO7h.o,hA6h.o,hFh.o.trans f7h.o⟩,zh (by rw [hfl.o.1];simp only [hnil.o,List.append_nil];exact hCy.o),by rw [hyn.o];omega⟩))
     ·have hcs:0≤v∧v≤4096:=by
       simp only [putBad,Bool.or_eq_true,decide_eq_true_eq]at hbad;omega
      obtain⟨m,rfl⟩:∃m:Nat,v=(m:Int):=⟨v.toNat,by omega⟩
      have hbadh:=zh (show putBad (.cnt (m:Int))=false by simpa using hbad);have d1:decide ((m:Int)<0)=false:=decide_eq_false (by omega);have d2:decide (4096<(m:Int))=false:=decide_eq_false (by omega);have hin:=rnumb08_t W7 m (by omega);have hnl:=zh (numB_length m);have hm4:m≤4096:=by omega
      clear hbad hcs;go_wp2_with (first
       | (go_at_call 157;refine hin.mono ?_;rintro e V ⟨v1,rfl,B1,d1,rfl,hO1,hB1,F1⟩;have hO1h:=zh hO1.rd;have F1h:=zh F1;clear hO1 hB1 F1)
       | (refine wpList_own_append tW1 (hO7h.o.fr F1h.o (by simp)) hO1h.o (bv_one _) (fun e=>by subst e;exact rd_none hO1h.o) (by have:=hnl.o;unfold maxLen;omega) (by have:=hnl.o;omega) rfl rfl rfl rfl (fun v2 w2 p1 p2 p3=> ?_);obtain⟨A8,c8,rfl,hA8⟩:=p1.form))
      go_roundg (n - i)
      case measure=>exact hkh2.o
      case rel=>exact⟨i+1,y++numB m,bb,by go_num,rfl,zh (by rw [hfl.o.2,←hbb.o];simp [hbadh.o]),by have:=hlth.o;omega,by have:=hlth.o;omega,YAcc.push hyn.o rfl hA6h.o (hFh.o.trans f7h.o) F1h.o p1 p2 (fun g hg=>(p3 g hg).imp id (fun e=>by omega)),zh (by rw [hfl.o.1];exact hCy.o.add (.inl (by simp [putF,hbadh.o,putB]))),by rw [List.length_append,hyn.o];have:=hnl.o;omega⟩
    |txs ls=>
     have hcel:=hT.cell;simp only [QA.arr]at hcel;have q0:=hcel 0;have q3:=hcel 3;simp only [zG,zH,zI]at q0 q3;have hTh:=zh hT;clear hcel hT;obtain⟨m,hm⟩:∃z,Hid (ls.length=z):=⟨_,zh rfl⟩
     rw [hm.o]at q3;by_cases hbad:4096<m
     ·have hpb:=zh (show putBad (.txs ls)=true by show decide (4096<ls.length)=true;rw [hm.o];exact decide_eq_true hbad);have hnil:=zh (show putF (.txs ls)= [] by unfold putF;rw [if_pos hpb.o]);have d1:decide ((4096:Int)<(m:Int))=true:=decide_eq_true (by omega);clear hbad;go_wp2_with fail
      go_roundg (n - i)
      case measure=>exact hkh2.o
      case rel=>exact⟨i+1,y,true,by go_num,rfl,zh (by rw [hfl.o.2,hpb.o];simp),by have:=hlth.o;omega,by have:=hlth.o;omega,⟨A6,c6,by rw [hyn.o],by rw [hyn.o];exact hO7h.o,hA6h.o,hFh.o.trans f7h.o⟩,zh (by rw [hfl.o.1];simp only [hnil.o,List.append_nil];exact hCy.o),by rw [hyn.o];omega⟩
     ·have hpb:=zh (show putBad (.txs ls)=false by show decide (4096<ls.length)=false;rw [hm.o];exact decide_eq_false hbad);have hput:=zh (show putF (.txs ls)=textsB ls by unfold putF;rw [hpb.o];rfl);have d1:decide ((4096:Int)<(m:Int))=false:=decide_eq_false (by omega);have hm4:m≤4096:=by omega
      have hin:=rnumb08_t W7 m (by omega);have hnl:=zh (numB_length m);have hls:=zh hok7.o;clear hbad;go_upto_region 26 with(first
       | (go_at_call 157;refine hin.mono ?_;rintro e V ⟨v1,rfl,B1,d1,rfl,hO1,hB1,F1⟩;have hO1h:=zh hO1.rd;have F1h:=zh F1;have q3:=cell_fr F1 q3;clear hO1 hB1 F1)
       | (refine wpList_own_append tW1 (hO7h.o.fr F1h.o (by simp)) hO1h.o (bv_one _) (fun e=>by subst e;exact rd_none hO1h.o) (by have:=hnl.o;unfold maxLen;omega) (by have:=hnl.o;omega) rfl rfl rfl rfl (fun v2 w2 p1 p2 p3=> ?_);obtain⟨A8,c8,rfl,hA8⟩:=p1.form))
      have hT2:=zh ((hTh.o.fr F1h.o (by simp)).fr p2 (row_neT (by decide) (hTh.o.fr F1h.o (by simp)) (hO7h.o.fr F1h.o (by simp))));have hY2:=zh (YAcc.push hyn.o rfl hA6h.o (hFh.o.trans f7h.o) F1h.o p1 p2 (fun g hg=>(p3 g hg).imp id (fun e=>by omega)));have hls0:=zh (hh.o.ok _ (List.mem_of_getElem? hqih.o));refine wp_gen (fun U=>YAcc w U (.slice A8 (yn+(numB m).length) c8) (y++numB m)∧Blk U g7 95 (QA.mk (.txs ls) qA qc).arr) ⟨hY2.o,hT2.o⟩ ?_;rintro U ⟨hYU,hTU⟩;have hYUh:=zh hYU;have hTUh:=zh hTU;clear q0 q3 p1 p2 p3 hYU hTU hTl hin;have hzl:=zh (show(y++numB m).length≤140000 by rw [List.length_append,hyn.o];have:=hnl.o;omega);have hC0:=zh (show Cut (flatP ((l.take i).map (·.p))++(numB m++(ls.take 0).flatMap textB)) (y++numB m) by simpa using hCy.o.add (.inl rfl));go_wp2_with fail
      go_loopg [4,8] (m+1) (fun gk s4 s8 wr=>∃(k:Nat) (z:List UInt8),s8= .int .i64 k∧k≤m∧m - k<gk∧YAcc w wr s4 z∧Hid (Cut (flatP ((l.take i).map (·.p))++(numB m++(ls.take k).flatMap textB)) z)∧z.length≤140000∧Blk wr g7 95 (QA.mk (.txs ls) qA qc).arr)
      case atStart=>exact⟨0,y++numB m,rfl,by omega,by omega,hYUh.o,hC0,hzl.o,hTUh.o⟩
      case round=>
       obtain⟨k,z,rfl,hkm,hkk,hYz,hCz,hzb,hTz⟩:=hrel;obtain⟨A9,c9,rfl,hO9,hA9,hF9⟩:=hYz;obtain⟨zn,hzn⟩:∃v,Hid (z.length=v):=⟨_,zh rfl⟩
       rw [hzn.o]at hO9 hzb⊢;have hO9h:=zh hO9;have hA9h:=zh hA9;have hF9h:=zh hF9;have hcel:=hTz.cell;simp only [QA.arr]at hcel;have q3:=hcel 3;simp only [zG,zH,zI]at q3;rw [hm.o]at q3;have hTzh:=zh hTz;have hTl:=hTz.lt;have hkkh:=zh hkk;clear hcel hO9 hA9 hF9 hTz hkk;by_cases hgo:k<m∧zn≤65536
       ·obtain⟨hkm2,hz65⟩:=hgo;have t1:decide (k<m)=true:=decide_eq_true hkm2;have t2:decide ((zn:Int)≤65536)=true:=decide_eq_true (by omega);have hkl:k<ls.length:=by rw [hm.o];exact hkm2
        obtain⟨b9,o9,hA,hc9⟩:=(Rd.fr hls0.o.1 hF9h.o (by simp [Off])).2 (by omega);obtain rfl:qA=some ⟨b9,o9,none⟩:=hA;have ck:=hc9 k _ (strs_at hkl);have hin:=rtxt08_t wr ls[k] (hls0.o.2.2 _ (List.getElem_mem hkl));have hnl2:=zh (txt_cut ls[k]).2;have hcu:=zh (txt_cut ls[k]).1;have htk:=zh (show(ls.take (k+1)).flatMap textB=(ls.take k).flatMap textB++textB ls[k] by rw [List.take_succ_eq_append_getElem hkl,List.flatMap_append];simp);obtain⟨s,hs⟩:∃v,Hid (ls[k]=v):=⟨_,zh rfl⟩
        rw [hs.o]at ck hin hnl2 hcu htk;have hk2h:=zh hkm2;clear hc9 hkm2;go_wp2_with (first
         | (go_at_call 156;refine hin.mono ?_;rintro e V ⟨v1,rfl,B1,d1,rfl,hO1,hB1,F1⟩;have hO1h:=zh hO1.rd;have F1h:=zh F1;clear hO1 hB1 F1)
         | (refine wpList_own_append tW1 (hO9h.o.fr F1h.o (by simp)) hO1h.o (bv_one _) (fun e=>by subst e;exact rd_none hO1h.o) (by have:=hnl2.o;unfold maxLen;omega) (by have:=hnl2.o;omega) rfl rfl rfl rfl (fun v2 w2 p1 p2 p3=> ?_);obtain⟨A8,c8,rfl,hA8⟩:=p1.form))
        go_roundg (m - k)
        case measure=>exact hkkh.o
        case rel=>refine⟨k+1,z++txtC s,by go_num,by have:=hk2h.o;omega,by have:=hk2h.o;omega,YAcc.push hzn.o rfl hA9h.o hF9h.o F1h.o p1 p2 (fun g hg=>(p3 g hg).imp id (fun e=>by omega)),zh ?_,by rw [List.length_append,hzn.o];have:=hnl2.o;omega,(hTzh.o.fr F1h.o (by simp)).fr p2 (row_neT (by decide) (hTzh.o.fr F1h.o (by simp)) (hO9h.o.fr F1h.o (by simp)))⟩;rw [htk.o,←List.append_assoc,←List.append_assoc];have h:=hCz.o.add hcu.o;rwa [←List.append_assoc]at h
       ·have hfin:=zh (show Cut (flatP ((l.take i).map (·.p))++textsB ls) z by
         unfold textsB;rw [hm.o];by_cases h1:k<m
         ·have h2:65536<z.length:=by rw [hzn.o];omega
          have h:=hCz.o.full (x:=(ls.drop k).flatMap textB) h2;rw [List.append_assoc,List.append_assoc,←List.flatMap_append,List.take_append_drop]at h;exact h
         ·have h:=hCz.o;have e:ls.take k=ls:=List.take_of_length_le (by rw [hm.o];omega);rwa [e]at h)
        have hcs:decide (k<m)=false∨(decide (k<m)=true∧decide ((zn:Int)≤65536)=false):=by simp only [decide_eq_true_eq,decide_eq_false_iff_not];omega
        clear hgo;rcases hcs with t1 | ⟨t1,t2⟩<;>
         (go_wp2_with fail
          go_roundg (n - i)
          (case measure=>exact hkh2.o)
          (case rel=>exact⟨i+1,z,bb,by go_num,rfl,zh (by rw [hfl.o.2,←hbb.o,hpb.o];simp),by have:=hlth.o;omega,by have:=hlth.o;omega,⟨A9,c9,by rw [hzn.o],by rw [hzn.o];exact hO9h.o,hA9h.o,hF9h.o⟩,zh (by rw [hfl.o.1];simp only [hput.o];exact hfin.o),by rw [hzn.o];omega⟩))
  ·have hin:i=n:=by omega
   have hge:¬(i:Int)<n:=by omega
   have htl:=zh (show l.take i=l by rw [List.take_of_length_le (by rw [hln.o];omega)]);clear hlt;go_wp2_with fail
   go_ret2;refine⟨_,x,by rw [hbb.o,htl.o];rfl,hYh.o,?_,by rw [hxn.o];omega⟩;have h:=hC.o;rwa [htl.o]at h
end Go.Proofs.YtpmgepijkhaonaaGreat
namespace Go.Proofs.YtpmgepijkhaonaaGreat
open Go.RowKit Go.Sig
theorem Cut.cases {f c:List UInt8}(h:Cut f c):(f.length≤65536∧c=f)∨(65536<f.length∧65536<c.length):=by
 unfold Cut at h;split at h
 ·rename_i h1;exact .inl ⟨h1,h⟩
 ·rename_i h1;exact .inr ⟨by omega,h⟩
def WrPost (w:World) (r:List UInt8×Int) (e:Ending) (w':World):Prop:=∃A c,e= .returned (.tuple #[.slice A r.1.length c,.int .i64 r.2])∧YAcc w w' (.slice A r.1.length c) r.1
theorem wr_none {w w':World}{k:Int}(hF:Fr [] w w'):WrPost w ([],k) (.returned (.tuple #[.slice none 0 0,.int .i64 k])) w':=⟨none,0,rfl,none,0,rfl,Own.nil _ _ _,(fun _ e=>by cases e),hF⟩
set_option maxRecDepth 100000 in
set_option maxHeartbeats 4000000 in
theorem rwrite08_t (w:World) (A:Option Addr) (n c:Nat) (l:List QA) (h:PutsIn w A n l):Calls Tryz.prog 45 #[.slice A n c] w (WrPost w (writeM (l.map (·.p)))):=by
 have hb:=rbytes08_t w A n c l h;obtain⟨ps,hps⟩:∃z,Hid (l.map (·.p)=z):=⟨_,zh rfl⟩
 unfold BtPost at hb;rw [hps.o]at hb⊢;have hw0:writeM ps=if ps.any putBad=true then([],3)else if 65536<(flatP ps).length then([],2)else(frameB (flatP ps),0):=rfl
 have hwh:=zh hw0;obtain⟨bd,hbd⟩:∃z,Hid (ps.any putBad=z):=⟨_,zh rfl⟩
 rw [hbd.o]at hb hwh;clear h hw0;cases bd with
 |true=>
  have hv:=zh (show writeM ps=([],3) by rw [hwh.o,if_pos rfl]);go_enter Tryz.func45,Tryz.ntmps45;go_wp2_with (go_at_call 106;refine hb.mono ?_;rintro e V ⟨v,x,rfl,hY,hC,hx⟩;have hYh:=zh hY;clear hY hC hx)
  go_ret2;rw [hv.o];obtain⟨_,_,_,_,_,hF⟩:=hYh.o;exact wr_none hF
 |false=>
  have hv0:=zh (show writeM ps=if 65536<(flatP ps).length then([],2)else(frameB (flatP ps),0) by rw [hwh.o,if_neg (by simp)]);go_enter Tryz.func45,Tryz.ntmps45;go_upto_region 4 with(go_at_call 106;refine hb.mono ?_;rintro e V ⟨v,x,rfl,hY,hC,hx⟩;have hYh:=zh hY;have hCh:=zh hC;have hxh:=zh hx;clear hY hC hx)
  obtain⟨B,d,rfl,hO,hB,hF⟩:=hYh.o;have hOh:=zh hO;have hFh:=zh hF;obtain⟨xn,hxn⟩:∃z,Hid (x.length=z):=⟨_,zh rfl⟩
  rw [hxn.o]at hOh⊢;clear hO hB hF hb;rcases hCh.o.cases with⟨h1,h2⟩ | ⟨h1,h2⟩
  ·have hv:=zh (show writeM ps=(frameB x,0) by rw [hv0.o,if_neg (by omega),h2]);have hle:xn≤65536:=by rw [←hxn.o,h2];exact h1
   have hd:decide ((65536:Int)<(xn:Int))=false:=decide_eq_false (by omega);have hfr:=rframe08_t V B xn d x hOh.o.rd hle (fun e=>by subst e;exact rd_none hOh.o.rd);clear h1 h2;go_wp2_with (go_at_call 107;refine hfr.mono ?_;rintro e V2 ⟨v2,rfl,A3,c3,rfl,hO3,hA3,hF3⟩)
   go_ret2;rw [hv.o];exact⟨A3,c3,rfl,A3,c3,rfl,hO3,hA3.mono hFh.o.size,hFh.o.trans hF3⟩
  ·have hv:=zh (show writeM ps=([],2) by rw [hv0.o,if_pos h1]);have hd:decide ((65536:Int)<(xn:Int))=true:=decide_eq_true (by rw [←hxn.o];omega);clear h1 h2;go_wp2_with fail
   go_ret2;rw [hv.o];exact wr_none hFh.o
theorem ptxt_t (w:World) (s:ByteArray):Calls Tryz.prog 40 #[.string s] w fun e w'=>e= .returned (.agg #[.int .i64 1,.int .i64 0,.string s,.slice none 0 0])∧Fr [] w w':=by
 go_enter Tryz.func40,Tryz.ntmps40;go_wp2_with fail
 refine bodyPost_ret (results_cell_row rfl _ _ w.heap.size 95 #[.int .i64 1,.int .i64 0,.string s,.slice none 0 0] (0,0) _ rfl (Blk.new _ _ _) uPut rfl (by kernel_rfl)) rfl ?_;exact⟨rfl,(Fr.refl _ _).alloc _⟩
theorem pcnt_t (w:World) (n:Int):Calls Tryz.prog 42 #[.int .i64 n] w fun e w'=>e= .returned (.agg #[.int .i64 3,.int .i64 n,.string ⟨#[]⟩,.slice none 0 0])∧Fr [] w w':=by
 go_enter Tryz.func42,Tryz.ntmps42;go_wp2_with fail
 refine bodyPost_ret (results_cell_row rfl _ _ w.heap.size 95 #[.int .i64 3,.int .i64 n,.string ⟨#[]⟩,.slice none 0 0] (0,0) _ rfl (Blk.new _ _ _) uPut rfl (by kernel_rfl)) rfl ?_;exact⟨rfl,(Fr.refl _ _).alloc _⟩
theorem pnum_t (w:World) (n:Int):Calls Tryz.prog 44 #[.int .i64 n] w fun e w'=>e= .returned (.agg #[.int .i64 0,.int .i64 n,.string ⟨#[]⟩,.slice none 0 0])∧Fr [] w w':=by
 go_enter Tryz.func44,Tryz.ntmps44;go_wp2_with fail
 refine bodyPost_ret (results_cell_row rfl _ _ w.heap.size 95 #[.int .i64 0,.int .i64 n,.string ⟨#[]⟩,.slice none 0 0] (0,0) _ rfl (Blk.new _ _ _) uPut rfl (by kernel_rfl)) rfl ?_;exact⟨rfl,(Fr.refl _ _).alloc _⟩
theorem ptxs_t (w:World) (A:Option Addr) (m c:Nat):Calls Tryz.prog 41 #[.slice A m c] w fun e w'=>e= .returned (.agg #[.int .i64 4,.int .i64 0,.string ⟨#[]⟩,.slice A m c])∧Fr [] w w':=by
 go_enter Tryz.func41,Tryz.ntmps41;go_wp2_with fail
 refine bodyPost_ret (results_cell_row rfl _ _ w.heap.size 95 #[.int .i64 4,.int .i64 0,.string ⟨#[]⟩,.slice A m c] (0,0) _ rfl (Blk.new _ _ _) uPut rfl (by kernel_rfl)) rfl ?_;exact⟨rfl,(Fr.refl _ _).alloc _⟩
theorem ptru_t (w:World) (b:Bool):Calls Tryz.prog 43 #[.bool b] w fun e w'=>e= .returned (.agg #[.int .i64 2,.int .i64 (boolI b),.string ⟨#[]⟩,.slice none 0 0])∧Fr [] w w':=by
 cases b with
 |true=>
  go_enter Tryz.func43,Tryz.ntmps43;go_wp2_with fail
  refine bodyPost_ret (results_cell_row rfl _ _ w.heap.size 95 #[.int .i64 2,.int .i64 1,.string ⟨#[]⟩,.slice none 0 0] (0,0) _ rfl (Blk.new _ _ _) uPut rfl (by kernel_rfl)) rfl ?_;exact⟨rfl,(Fr.refl _ _).alloc _⟩
 |false=>
  go_enter Tryz.func43,Tryz.ntmps43;go_wp2_with fail
  refine bodyPost_ret (results_cell_row rfl _ _ w.heap.size 95 #[.int .i64 2,.int .i64 0,.string ⟨#[]⟩,.slice none 0 0] (0,0) _ rfl (Blk.new _ _ _) uPut rfl (by kernel_rfl)) rfl ?_;exact⟨rfl,(Fr.refl _ _).alloc _⟩
end Go.Proofs.YtpmgepijkhaonaaGreat
namespace Go.Proofs.YtpmgepijkhaonaaGreat
open Go.RowKit Go.Sig
theorem tPuts:SliceTy Tryz.prog 99 95 4 56 (.agg #[.int .i64 0,.int .i64 0,.string ⟨#[]⟩,.slice none 0 0]):=⟨by kernel_rfl,by kernel_rfl,rfl,by decide⟩
theorem QA.ones (l:List QA):∀u∈l.flatMap QA.cells,u.oneCell'=true:=by
 intro u hu;obtain⟨q,_,h⟩:=List.mem_flatMap.1 hu;have h2:=Array.all_eq_true'.1 q.one u (by unfold QA.cells at h;simpa using h);exact h2
theorem QA.flen (l:List QA):(l.flatMap QA.cells).length=l.length*4:=by
 induction l with
 |nil=>rfl
 |cons q l ih=>rw [List.flatMap_cons,List.length_append,ih,QA.len,List.length_cons];omega
theorem puts_new (w:World) (l:List QA) (ty:TypeId):Rd (w.alloc (.cells (l.flatMap QA.cells).toArray ty)) 4 (some ⟨w.heap.size,0,none⟩) l.length (l.flatMap QA.cells):=by
 refine⟨QA.flen l,fun _=>⟨_,0,rfl,fun j u hu=> ?_⟩⟩;rw [(Blk.new w ty _).cell,Nat.zero_add,zG];exact hu
theorem puts_made (w:World) (l:List QA) (hl:l.length≤1000):Own (w.alloc (.cells (l.flatMap QA.cells).toArray 95)) 95 4 (.slice (some ⟨w.heap.size,0,none⟩) l.length l.length) l.length (l.flatMap QA.cells):=by
 have h:=Own.made w (l.flatMap QA.cells).toArray 95 4 l.length l.length (Nat.le_refl _) (by unfold maxLen;omega) (by rw [List.size_toArray,QA.flen]);rwa [List.take_of_length_le (by rw [←QA.flen];simp)]at h
def baseQ (x:FA):List QA:= [⟨.txt x.f.id,none,0⟩,⟨.txt x.f.client,none,0⟩,⟨.txt x.f.user,none,0⟩,⟨.txs x.f.scope,x.sA,x.sc⟩,⟨.txt x.f.redirect,none,0⟩,⟨.txt x.f.challenge,none,0⟩,⟨.txt x.f.method,none,0⟩,⟨.cnt x.f.code,none,0⟩,⟨.cnt x.ts.length,none,0⟩]
def tokQ (t:TA):List QA:= [⟨.cnt t.tok.kind,none,0⟩,⟨.txs t.tok.scope,t.A,t.c⟩,⟨.tru t.tok.used,none,0⟩]
def endQ (x:FA):List QA:= [⟨.tru x.f.revoked,none,0⟩,⟨.cnt x.f.leases.length,none,0⟩]
def leaQ (e:Int):QA:=⟨.num e,none,0⟩
theorem row_put {w:World}{g n c:Nat}{t:TypeId}{A:Option Addr}{cs:Array Value}{xs:List Value}(ht:t≠95) (hB:Blk w g t cs) (h:Own w 95 4 (.slice A n c) n xs):g∉rowOf (.slice A n c):=fun hg=>by
 obtain⟨ad,e,rfl⟩:=rowOf_mem.1 hg;rcases h.2 with⟨hv,_⟩ | ⟨g',cap,cur,hv,_,hh,_⟩
 ·injection hv with hv _ _
  rw [e]at hv;cases hv
 ·injection hv with hv _ _
  rw [e]at hv;obtain rfl:=Option.some.inj hv;have hB2:w.heap[g']? =_:=hB;rw [hh]at hB2;injection hB2 with hB2
  injection hB2 with _ hB2 _
  exact ht hB2.symm
theorem tok_cells3 {w:World}{g:Nat}{t:TA}(h:Blk w g 29 t.cells.toArray):w.cell? ⟨g,0,none⟩=some (.int .i64 t.tok.kind)∧w.cell? ⟨g,1,none⟩=some (.slice t.A t.tok.scope.length t.c)∧w.cell? ⟨g,2,none⟩=some (.bool t.tok.used):=⟨h.cell 0,h.cell 1,h.cell 2⟩
def PAcc (w wr:World) (s:Value) (l:List QA):Prop:=∃A c,s= .slice A l.length c∧Own wr 95 4 (.slice A l.length c) l.length (l.flatMap QA.cells)∧From w.heap.size A∧Fr [] w wr
theorem PAcc.push {w W Y w3:World}{A A3:Option Addr}{c c3 n m:Nat}{ls qs:List QA}{o:Obj}(hn:ls.length=n) (hm:qs.length=m) (hA:From w.heap.size A) (hF:Fr [] w W) (hY:Fr [] W Y)
  (g1:Own w3 95 4 (.slice A3 (n+m) c3) (n+m) (ls.flatMap QA.cells++qs.flatMap QA.cells)) (g2:Fr (rowOf (.slice A n c)) (Y.alloc o) w3) (g3:∀g,g∈rowOf (.slice A3 (n+m) c3)→g∈rowOf (.slice A n c)∨g=(Y.alloc o).heap.size):
  PAcc w w3 (.slice A3 (n+m) c3) (ls++qs):=by
 have hl:(ls++qs).length=n+m:=by rw [List.length_append,hn,hm]
 have row:∀g∈rowOf (.slice A n c),w.heap.size≤g:=fun g hg=>by obtain⟨ad,e,rfl⟩:=rowOf_mem.1 hg;exact hA ad e
 have hFY:=hF.trans hY;refine⟨A3,c3,by rw [hl],by rw [hl,List.flatMap_append];exact g1,fun ad e=> ?_,(hFY.alloc o).andThen g2 (fun i hi=> .inr (row i hi))⟩;rcases g3 ad.block (rowOf_mem.2 ⟨ad,e,rfl⟩)with h |h
 ·exact row _ h
 ·have:=hFY.size;rw [World.size_alloc]at h;omega
theorem famP_Q (x:FA) (h:x.ts.map (·.tok)=x.f.tokens):(baseQ x++x.ts.flatMap tokQ++endQ x++x.f.leases.map leaQ).map (·.p)=famP x.f:=by
 have e1:(x.ts.flatMap tokQ).map (·.p)=x.f.tokens.flatMap tokP:=by
  rw [←h];generalize x.ts=l;induction l with
  |nil=>rfl
  |cons t l ih=>rw [List.flatMap_cons,List.map_append,ih,List.map_cons,List.flatMap_cons];rfl
 have e2:x.ts.length=x.f.tokens.length:=by rw [←h,List.length_map]
 unfold famP;rw [List.map_append,List.map_append,List.map_append,e1,List.map_map];simp only [baseQ,endQ,famP0,List.map_cons,List.map_nil,e2];congr 1
theorem puts_ok {x:FA}{w wr:World}{q:QA}(hok:FamOk x.f) (hx:FamIn w [] x) (hF:Fr [] w wr) (hq:q∈baseQ x++x.ts.flatMap tokQ++endQ x++x.f.leases.map leaQ):q.ok wr:=by
 have ht:∀s∈ [x.f.client,x.f.user,x.f.redirect,x.f.challenge,x.f.method],s.size≤128:=fun s hs=>textsM_mem hok.texts hs;simp only [List.mem_cons,List.not_mem_nil,or_false,forall_eq_or_imp,forall_eq]at ht;have hid:=(idM_size hok.id).2;have hcode:=hok.code;have hlen:=hx.len;have htk:=hok.tokens;simp only [List.mem_append,List.mem_flatMap,List.mem_map]at hq;rcases hq with((hq | ⟨t,htm,hq⟩) |hq) | ⟨e,he,rfl⟩
 ·simp only [baseQ,List.mem_cons,List.not_mem_nil,or_false]at hq;rcases hq with rfl |rfl |rfl |rfl |rfl |rfl |rfl |rfl |rfl
  ·show x.f.id.size≤_;omega
  ·show x.f.client.size≤_;omega
  ·show x.f.user.size≤_;omega
  ·exact⟨hx.scope.1.fr hF (by simp [Off]),by have:=(setM_sizes hok.set).1;omega,fun s hs=>by have:=(setM_sizes hok.set).2 s hs;omega⟩
  ·show x.f.redirect.size≤_;omega
  ·show x.f.challenge.size≤_;omega
  ·show x.f.method.size≤_;omega
  ·show _≤x.f.code∧x.f.code<_;omega
  ·show _≤(x.ts.length:Int)∧(x.ts.length:Int)<_;omega
 ·have h1:t.tok∈x.f.tokens:=by rw [←hx.ts];exact List.mem_map_of_mem htm
  have h2:=hok.each _ h1;have h3:=h2.kind;have h4:=setM_sizes h2.set;simp only [tokQ,List.mem_cons,List.not_mem_nil,or_false]at hq;rcases hq with rfl |rfl |rfl
  ·show _≤t.tok.kind∧t.tok.kind<_;omega
  ·exact⟨(hx.each t htm).1.fr hF (by simp [Off]),by have:=h4.1;omega,fun s hs=>by have:=h4.2 s hs;omega⟩
  ·trivial
 ·simp only [endQ,List.mem_cons,List.not_mem_nil,or_false]at hq;rcases hq with rfl |rfl
  ·trivial
  ·have:=leases_len hok.leases hok.edges;show _≤(x.f.leases.length:Int)∧(x.f.leases.length:Int)<_;omega
 ·have:=hok.edges e he;show _≤e∧e<_;omega
set_option maxRecDepth 100000 in
set_option maxHeartbeats 8000000 in
theorem rtext18_t (w:World) (x:FA) (hx:FamIn w [] x) (hz:FamSz x) (hz2:x.f.scope.length≤1000000∧∀t∈x.ts,t.tok.scope.length≤1000000):Calls Tryz.prog 9 #[x.val] w fun e w'=>e= .returned (.tuple #[.string (textM x.f).1,.int .i64 (textM x.f).2])∧Fr [] w w':=by
 have hxh:=zh hx;have hzh:=zh hz;have hz2h:=zh hz2;clear hx hz hz2;unfold FA.val;go_enter Tryz.func9,Tryz.ntmps9;go_upto_region 1 with(fail)
 refine wp_gen (fun W=>Blk W w.heap.size 26 x.cells∧Fr [] w W) ⟨Blk.new _ _ _,(Fr.refl _ _).alloc _⟩ ?_;rintro W0 ⟨hB,f0⟩;obtain⟨gf,HGF⟩:∃z,Hid (w.heap.size=z):=⟨_,zh rfl⟩
 rw [HGF.o]at hB⊢;have hr:=rright_t W0 x (hxh.o.fr f0) hzh.o hz2h.o;have f0h:=zh f0;clear f0;cases hrm:rightM x.f with
 |false=>
  have hv:=zh (show textM x.f=(⟨#[]⟩,1) by unfold textM;rw [hrm,if_neg (by simp)]);rw [hrm]at hr;clear hrm;go_wp2_with (refine wpList_load_at rfl 26 _ rfl rfl hB (sub_self _) uFam rfl (infoFamL _) ?_;rw [Array.toArray_toList])
  refine hr.mono ?_;rintro e W1 ⟨rfl,F1⟩;have FF:=zh (f0h.o.trans F1);clear hr F1 hB;go_wp2_with fail
  go_ret2;rw [hv.o];exact⟨rfl,FF.o⟩
 |true=>
  have hv:=zh (show textM x.f=(famText x.f,0) by unfold textM;rw [hrm,if_pos rfl]);have hok:=zh (rightM_ok.1 hrm);rw [hrm]at hr;clear hrm;go_upto_region 3 with(first | (refine wpList_load_at rfl 26 _ rfl rfl hB (sub_self _) uFam rfl (infoFamL _) ?_;rw [Array.toArray_toList]) | (go_at_call 39;refine hr.mono ?_;rintro e W1 ⟨rfl,F1⟩))
  have hB0:=hB.fr F1 (by simp);have FW1:=zh (f0h.o.trans F1);clear hB hr F1;have hB:=zh hB0;clear hB0;refine wp_region_z (fun w'=>w'.cell? ⟨gf,0,none⟩=some (.string x.f.id)∧w'.cell? ⟨gf,1,none⟩=some (.string x.f.client)∧w'.cell? ⟨gf,2,none⟩=some (.string x.f.user)∧w'.cell? ⟨gf,3,none⟩=some (.slice x.sA x.f.scope.length x.sc)∧w'.cell? ⟨gf,4,none⟩=some (.string x.f.redirect)∧w'.cell? ⟨gf,5,none⟩=some (.string x.f.challenge)∧w'.cell? ⟨gf,6,none⟩=some (.string x.f.method)∧w'.cell? ⟨gf,7,none⟩=some (.int .i64 x.f.code)∧w'.cell? ⟨gf,8,none⟩=some (.slice x.tA x.ts.length x.tc)∧w'.cell? ⟨gf,9,none⟩=some (.bool x.f.revoked)∧w'.cell? ⟨gf,10,none⟩=some (.slice x.lA x.f.leases.length x.lc)∧gf<w'.heap.size) [] (by kernel_rfl) (fam_cells hB.o) ?_;intro hHeld;refine wpZ_tk (i:=0) (v:= ?_) hHeld ?_ ?_;rotate_left
  ·(intro w hSw;go_simp<;>with_reducible rfl)
  try simp only [zA,zC,Act.put,zD,zE,zF]
  refine wpZ_tk (i:=1) (v:= ?_) hHeld ?_ ?_;rotate_left
  ·(intro w hSw;go_simp<;>with_reducible rfl)
  try simp only [zA,zB,zC,Act.put,zD,zE,zF]
  refine wpZ_tk (i:=3) (v:= ?_) hHeld ?_ ?_;rotate_left
  ·(intro w hSw;go_simp<;>with_reducible rfl)
  try simp only [zA,zB,zC,Act.put,zD,zE,zF]
  refine wpZ_tk (i:=4) (v:= ?_) hHeld ?_ ?_;rotate_left
  ·(intro w hSw;go_simp<;>with_reducible rfl)
  try simp only [zA,zB,zC,Act.put,zD,zE,zF]
  refine wpZ_tk (i:=6) (v:= ?_) hHeld ?_ ?_;rotate_left
  ·(intro w hSw;go_simp<;>with_reducible rfl)
  try simp only [zA,zB,zC,Act.put,zD,zE,zF]
  refine wpZ_tk (i:=7) (v:= ?_) hHeld ?_ ?_;rotate_left
  ·(intro w hSw;go_simp<;>with_reducible rfl)
  try simp only [zA,zB,zC,Act.put,zD,zE,zF]
  refine wpZ_tk (i:=9) (v:= ?_) hHeld ?_ ?_;rotate_left
  ·(intro w hSw;go_simp<;>with_reducible rfl)
  try simp only [zA,zB,zC,Act.put,zD,zE,zF]
  refine wpZ_tk (i:=10) (v:= ?_) hHeld ?_ ?_;rotate_left
  ·(intro w hSw;go_simp<;>with_reducible rfl)
  try simp only [zA,zB,zC,Act.put,zD,zE,zF]
  refine wpZ_tk (i:=12) (v:= ?_) hHeld ?_ ?_;rotate_left
  ·(intro w hSw;go_simp<;>with_reducible rfl)
  try simp only [zA,zB,zC,Act.put,zD,zE,zF]
  refine wpZ_tk (i:=13) (v:= ?_) hHeld ?_ ?_;rotate_left
  ·(intro w hSw;go_simp<;>with_reducible rfl)
  try simp only [zA,zB,zC,Act.put,zD,zE,zF]
  refine wpZ_tk (i:=15) (v:= ?_) hHeld ?_ ?_;rotate_left
  ·(intro w hSw;go_simp<;>with_reducible rfl)
  try simp only [zA,zB,zC,Act.put,zD,zE,zF]
  refine wpZ_tk (i:=16) (v:= ?_) hHeld ?_ ?_;rotate_left
  ·(intro w hSw;go_simp<;>with_reducible rfl)
  try simp only [zA,zB,zC,Act.put,zD,zE,zF]
  refine wpZ_tk (i:=18) (v:= ?_) hHeld ?_ ?_;rotate_left
  ·(intro w hSw;go_simp<;>with_reducible rfl)
  try simp only [zA,zB,zC,Act.put,zD,zE,zF]
  refine wpZ_tk (i:=19) (v:= ?_) hHeld ?_ ?_;rotate_left
  ·(intro w hSw;go_simp<;>with_reducible rfl)
  try simp only [zA,zB,zC,Act.put,zD,zE,zF]
  refine wpZ_tk (i:=21) (v:= ?_) hHeld ?_ ?_;rotate_left
  ·(intro w hSw;go_simp<;>with_reducible rfl)
  try simp only [zA,zB,zC,Act.put,zD,zE,zF]
  refine wpZ_tk (i:=22) (v:= ?_) hHeld ?_ ?_;rotate_left
  ·(intro w hSw;go_simp<;>with_reducible rfl)
  try simp only [zA,zB,zC,Act.put,zD,zE,zF]
  refine wpZ_tk (i:=24) (v:= ?_) hHeld ?_ ?_;rotate_left
  ·(intro w hSw;go_simp<;>with_reducible rfl)
  try simp only [zA,zB,zC,Act.put,zD,zE,zF]
  refine wpZ_tk (i:=25) (v:= ?_) hHeld ?_ ?_;rotate_left
  ·(intro w hSw;go_simp<;>with_reducible rfl)
  try simp only [zA,zB,zC,Act.put,zD,zE,zF]
  refine wpZ_tk (i:=26) (v:= ?_) hHeld ?_ ?_;rotate_left
  ·(intro w hSw;go_simp<;>with_reducible rfl)
  try simp only [zA,zB,zC,Act.put,zD,zE,zF]
  refine wpZ_one (i:=2) (by kernel_rfl) rfl (fun K hK=> ?_);go_simp;refine Calls.mono (show Calls Tryz.prog 40 _ _ _ from ptxt_t _ _) ?_;rintro e Y1 ⟨rfl,G1⟩;have G1:Fr [] W1 Y1:=G1.of_drew;have fy1:Fr [] W1 Y1:=G1;try dsimp only
  clear hHeld;refine hK.out _ _ (fam_cells (hB.o.fr fy1 (by simp))) (fun hHeld=> ?_);clear hK K;try simp only [zA,zB,zC,Act.put,zD,zE,zF]
  refine wpZ_one (i:=5) (by kernel_rfl) rfl (fun K hK=> ?_);go_simp;refine Calls.mono (show Calls Tryz.prog 40 _ _ _ from ptxt_t _ _) ?_;rintro e Y2 ⟨rfl,G2⟩;have fy2:=fy1.trans G2;try dsimp only
  clear hHeld;refine hK.out _ _ (fam_cells (hB.o.fr fy2 (by simp))) (fun hHeld=> ?_);clear hK K;try simp only [zA,zB,zC,Act.put,zD,zE,zF]
  refine wpZ_one (i:=8) (by kernel_rfl) rfl (fun K hK=> ?_);go_simp;refine Calls.mono (show Calls Tryz.prog 40 _ _ _ from ptxt_t _ _) ?_;rintro e Y3 ⟨rfl,G3⟩;have fy3:=fy2.trans G3;try dsimp only
  clear hHeld;refine hK.out _ _ (fam_cells (hB.o.fr fy3 (by simp))) (fun hHeld=> ?_);clear hK K;try simp only [zA,zB,zC,Act.put,zD,zE,zF]
  refine wpZ_one (i:=11) (by kernel_rfl) rfl (fun K hK=> ?_);go_simp;refine Calls.mono (show Calls Tryz.prog 41 _ _ _ from ptxs_t _ _ _ _) ?_;rintro e Y4 ⟨rfl,G4⟩;have fy4:=fy3.trans G4;try dsimp only
  clear hHeld;refine hK.out _ _ (fam_cells (hB.o.fr fy4 (by simp))) (fun hHeld=> ?_);clear hK K;try simp only [zA,zB,zC,Act.put,zD,zE,zF]
  refine wpZ_one (i:=14) (by kernel_rfl) rfl (fun K hK=> ?_);go_simp;refine Calls.mono (show Calls Tryz.prog 40 _ _ _ from ptxt_t _ _) ?_;rintro e Y5 ⟨rfl,G5⟩;have fy5:=fy4.trans G5;try dsimp only
  clear hHeld;refine hK.out _ _ (fam_cells (hB.o.fr fy5 (by simp))) (fun hHeld=> ?_);clear hK K;try simp only [zA,zB,zC,Act.put,zD,zE,zF]
  refine wpZ_one (i:=17) (by kernel_rfl) rfl (fun K hK=> ?_);go_simp;refine Calls.mono (show Calls Tryz.prog 40 _ _ _ from ptxt_t _ _) ?_;rintro e Y6 ⟨rfl,G6⟩;have fy6:=fy5.trans G6;try dsimp only
  clear hHeld;refine hK.out _ _ (fam_cells (hB.o.fr fy6 (by simp))) (fun hHeld=> ?_);clear hK K;try simp only [zA,zB,zC,Act.put,zD,zE,zF]
  refine wpZ_one (i:=20) (by kernel_rfl) rfl (fun K hK=> ?_);go_simp;refine Calls.mono (show Calls Tryz.prog 40 _ _ _ from ptxt_t _ _) ?_;rintro e Y7 ⟨rfl,G7⟩;have fy7:=fy6.trans G7;try dsimp only
  clear hHeld;refine hK.out _ _ (fam_cells (hB.o.fr fy7 (by simp))) (fun hHeld=> ?_);clear hK K;try simp only [zA,zB,zC,Act.put,zD,zE,zF]
  refine wpZ_one (i:=23) (by kernel_rfl) rfl (fun K hK=> ?_);go_simp;refine Calls.mono (show Calls Tryz.prog 42 _ _ _ from pcnt_t _ _) ?_;rintro e Y8 ⟨rfl,G8⟩;have fy8:=fy7.trans G8;try dsimp only
  clear hHeld;refine hK.out _ _ (fam_cells (hB.o.fr fy8 (by simp))) (fun hHeld=> ?_);clear hK K;try simp only [zA,zB,zC,Act.put,zD,zE,zF]
  refine wpZ_one (i:=27) (by kernel_rfl) rfl (fun K hK=> ?_);go_simp;refine Calls.mono (show Calls Tryz.prog 42 _ _ _ from pcnt_t _ _) ?_;rintro e Y9 ⟨rfl,G9⟩;have fy9:=fy8.trans G9;try dsimp only
  clear hHeld;refine hK.out _ _ (fam_cells (hB.o.fr fy9 (by simp))) (fun hHeld=> ?_);clear hK K;try simp only [zA,zB,zC,Act.put,zD,zE,zF]
  refine wpZ_one (i:=28) (by kernel_rfl) rfl (fun K hK=> ?_);go_simp;clear hHeld;refine hK.out _ _ (fam_cells ((hB.o.fr fy9 (by simp)).alloc _)) (fun hHeld=> ?_);clear hK K;try simp only [zA,zB,zC,Act.put,zD,zE,zF]
  refine wpZ_tk (i:=29) (v:= ?_) hHeld ?_ ?_;rotate_left
  ·(intro w hSw;go_simp<;>with_reducible rfl)
  try simp only [zA,zB,zC,Act.put,zD,zE,zF]
  refine wpZ_done (by kernel_rfl) ?_ _;clear hHeld;go_upto_region 4 with(fail)
  refine wp_gen (fun U=>Own U 95 4 (.slice (some ⟨Y9.heap.size,0,none⟩) 9 9) 9 ((baseQ x).flatMap QA.cells)∧Fr [] W1 U) ⟨puts_made Y9 (baseQ x) (by simp [baseQ]),fy9.alloc _⟩ ?_;rintro U ⟨hOU,FU⟩;have hPU:=zh (show PAcc W1 U (.slice (some ⟨Y9.heap.size,0,none⟩) 9 9) (baseQ x)from⟨_,_,rfl,hOU,fun ad e=>by cases e;exact fy9.size,FU⟩);obtain⟨yb,hyb⟩:∃z,Hid (Y9.heap.size=z):=⟨_,zh rfl⟩
  rw [hyb.o]at hPU⊢;obtain⟨n,hn⟩:∃z,Hid (x.ts.length=z):=⟨_,zh rfl⟩
  have hn8:n≤8:=by rw [←hn.o,hxh.o.len];exact hok.o.tokens
  clear hOU FU;obtain⟨tA,htA⟩:∃z,Hid (x.tA=z):=⟨_,zh rfl⟩
  go_wp2_with fail
  go_loopg [4,5] (n+1) (fun gk s4 s5 wr=>∃(i:Nat) (ls:List QA),s5= .int .i64 i∧i≤n∧n - i<gk∧Hid (ls=baseQ x++(x.ts.take i).flatMap tokQ)∧ls.length≤9+3*i∧PAcc W1 wr s4 ls)
  case atStart=>exact⟨0,baseQ x,rfl,by omega,by omega,zh (by simp),by simp [baseQ],hPU.o⟩
  case round=>
   obtain⟨i,ls,rfl,hi,hk,hls,hll,hP⟩:=hrel;obtain⟨A4,c4,rfl,hO,hA4,hF⟩:=hP;obtain⟨ln,hln⟩:∃z,Hid (ls.length=z):=⟨_,zh rfl⟩
   rw [hln.o]at hO hll⊢;have hOh:=zh hO;have hA4h:=zh hA4;have hFh:=zh hF;have hBr:=zh (hB.o.fr hF (by simp));have c8:=hBr.o.cell 8;unfold FA.cells at c8;simp only [zG,zH,zI]at c8;rw [hn.o,htA.o]at c8;have hbl:=hBr.o.lt;clear hO hA4 hF;by_cases hlt:i<n
   ·have hlt':(i:Int)<n:=by omega
    have hlth:=zh hlt;have hkh:=zh hk;obtain⟨t,tb,tof,eA,hti,htr⟩:=TA.row (Rd.fr hxh.o.toks.1 (FW1.o.trans hFh.o) (by simp [Off])) rfl (by rw [hn.o];exact hlt);rw [htA.o]at eA;subst eA;have htrh:=zh htr;have htih:=zh hti;clear hti htr hlt hk;go_upto_region 8 with(first
     | (refine wpList_load_cells rfl 29 _ rfl rfl (ys:=t.cells.toArray) (fun j v hv=>htrh.o j v (by rw [←zG];exact hv)) uIss rfl (infoTA _) ?_)
     | (refine wpList_store_row rfl 29 _ _ rfl wr.heap.size _ rfl rfl 29 _ (Blk.new _ _ _) (infoTA t) (by kernel_rfl) (TA.all1 t) ?_))
    refine wp_gen (fun W=>Blk W wr.heap.size 29 t.cells.toArray∧Fr [] wr W) ⟨Blk.setRow (Blk.new _ _ _) _,((Fr.refl [] wr).alloc _).setRow (.inr (Nat.le_refl _)) _⟩ ?_;rintro W3 ⟨hT0,f3⟩;obtain⟨g6,HG6⟩:∃z,Hid (wr.heap.size=z):=⟨_,zh rfl⟩
    rw [HG6.o]at hT0⊢;have hT:=zh hT0;have f3h:=zh f3;have hO3:=zh (hOh.o.fr f3 (by simp));have hoffT:=zh (row_put (t:=29) (by decide) hT0 hO3.o);have g6l:=hT0.lt;clear hT0 f3 c8 hbl;refine wp_region_z (fun w'=>w'.cell? ⟨g6,0,none⟩=some (.int .i64 t.tok.kind)∧w'.cell? ⟨g6,1,none⟩=some (.slice t.A t.tok.scope.length t.c)∧w'.cell? ⟨g6,2,none⟩=some (.bool t.tok.used)) [] (by kernel_rfl) (tok_cells3 hT.o) ?_;intro hHeld;refine wpZ_tk (i:=0) (v:= ?_) hHeld ?_ ?_;rotate_left
    ·(intro w hSw;go_simp<;>with_reducible rfl)
    try simp only [zA,zC,Act.put,zD,zE,zF]
    refine wpZ_tk (i:=1) (v:= ?_) hHeld ?_ ?_;rotate_left
    ·(intro w hSw;go_simp<;>with_reducible rfl)
    try simp only [zA,zB,zC,Act.put,zD,zE,zF]
    refine wpZ_tk (i:=2) (v:= ?_) hHeld ?_ ?_;rotate_left
    ·(intro w hSw;go_simp<;>with_reducible rfl)
    try simp only [zA,zB,zC,Act.put,zD,zE,zF]
    refine wpZ_tk (i:=4) (v:= ?_) hHeld ?_ ?_;rotate_left
    ·(intro w hSw;go_simp<;>with_reducible rfl)
    try simp only [zA,zB,zC,Act.put,zD,zE,zF]
    refine wpZ_tk (i:=5) (v:= ?_) hHeld ?_ ?_;rotate_left
    ·(intro w hSw;go_simp<;>with_reducible rfl)
    try simp only [zA,zB,zC,Act.put,zD,zE,zF]
    refine wpZ_tk (i:=7) (v:= ?_) hHeld ?_ ?_;rotate_left
    ·(intro w hSw;go_simp<;>with_reducible rfl)
    try simp only [zA,zB,zC,Act.put,zD,zE,zF]
    refine wpZ_tk (i:=8) (v:= ?_) hHeld ?_ ?_;rotate_left
    ·(intro w hSw;go_simp<;>with_reducible rfl)
    try simp only [zA,zB,zC,Act.put,zD,zE,zF]
    refine wpZ_one (i:=3) (by kernel_rfl) rfl (fun K hK=> ?_);go_simp;refine Calls.mono (show Calls Tryz.prog 42 _ _ _ from pcnt_t _ _) ?_;rintro e Y1 ⟨rfl,G1⟩;have G1:Fr [] W3 Y1:=G1.of_drew;have fy1:Fr [] W3 Y1:=G1;try dsimp only
    clear hHeld;refine hK.out _ _ (tok_cells3 (hT.o.fr fy1 (by simp))) (fun hHeld=> ?_);clear hK K;try simp only [zA,zB,zC,Act.put,zD,zE,zF]
    refine wpZ_one (i:=6) (by kernel_rfl) rfl (fun K hK=> ?_);go_simp;refine Calls.mono (show Calls Tryz.prog 41 _ _ _ from ptxs_t _ _ _ _) ?_;rintro e Y2 ⟨rfl,G2⟩;have fy2:=fy1.trans G2;try dsimp only
    clear hHeld;refine hK.out _ _ (tok_cells3 (hT.o.fr fy2 (by simp))) (fun hHeld=> ?_);clear hK K;try simp only [zA,zB,zC,Act.put,zD,zE,zF]
    refine wpZ_one (i:=9) (by kernel_rfl) rfl (fun K hK=> ?_);go_simp;refine Calls.mono (show Calls Tryz.prog 43 _ _ _ from ptru_t _ _) ?_;rintro e Y3 ⟨rfl,G3⟩;have fy3:=fy2.trans G3;try dsimp only
    clear hHeld;refine hK.out _ _ (tok_cells3 (hT.o.fr fy3 (by simp))) (fun hHeld=> ?_);clear hK K;try simp only [zA,zB,zC,Act.put,zD,zE,zF]
    refine wpZ_one (i:=10) (by kernel_rfl) rfl (fun K hK=> ?_);go_simp;clear hHeld;refine hK.out _ _ (tok_cells3 ((hT.o.fr fy3 (by simp)).alloc _)) (fun hHeld=> ?_);clear hK K;try simp only [zA,zB,zC,Act.put,zD,zE,zF]
    refine wpZ_one (i:=11) (by kernel_rfl) rfl (fun K hK=> ?_);refine own_append_op (P:=Tryz.prog) (xs:=ls.flatMap QA.cells) (news:=(tokQ t).flatMap QA.cells) tPuts ((hO3.o.fr fy3 (by simp)).fr ((Fr.refl [] Y3).alloc _) (by simp)) (m:=3) (c:=3) (A:=some ⟨Y3.heap.size,0,none⟩) (puts_new Y3 (tokQ t) 95) (QA.ones _) (by simp) (by unfold maxLen;omega) (by omega) rfl rfl rfl rfl (fun v' w3 g1 g2 g3=> ?_);have g1:=g1;obtain⟨A3,c3,rfl,_⟩:=g1.form;try dsimp only
    clear hHeld;refine hK.out _ _ (tok_cells3 (((hT.o.fr fy3 (by simp)).alloc _).fr g2 hoffT.o)) (fun hHeld=> ?_);clear hK K;try simp only [zA,zB,zC,Act.put,zD,zE,zF]
    refine wpZ_tk (i:=12) (v:= ?_) hHeld ?_ ?_;rotate_left
    ·(intro w hSw;go_simp<;>with_reducible rfl)
    try simp only [zA,zB,zC,Act.put,zD,zE,zF]
    refine wpZ_done (by kernel_rfl) ?_ _;clear hHeld;go_wp2_with fail
    go_roundg (n - i)
    case measure=>exact hkh.o
    case rel=>refine⟨i+1,ls++tokQ t,by go_num,by have:=hlth.o;omega,by have:=hlth.o;omega,zh ?_,by rw [List.length_append,hln.o];simp [tokQ];omega,PAcc.push (qs:=tokQ t) hln.o rfl hA4h.o hFh.o (f3h.o.trans fy3) g1 g2 g3⟩;obtain⟨hi2,rfl⟩:=List.getElem?_eq_some_iff.1 htih.o;rw [hls.o,List.take_succ_eq_append_getElem hi2,List.flatMap_append];simp
   ·have hge:¬(i:Int)<n:=by omega
    have hlsE:=zh (show ls=baseQ x++x.ts.flatMap tokQ by rw [hls.o,List.take_of_length_le (by rw [hn.o];omega)]);clear hlt;go_upto_region 9 with(fail)
    have hB5:=hBr;have hO5:=hOh;obtain⟨W5,hW5⟩:∃z,Hid (wr=z):=⟨_,zh rfl⟩
    rw [hW5.o]at hB5 hO5 hFh⊢;have hoffB:=zh (row_put (t:=26) (by decide) hB5.o hO5.o);clear c8 hbl;refine wp_region_z (fun w'=>w'.cell? ⟨gf,0,none⟩=some (.string x.f.id)∧w'.cell? ⟨gf,1,none⟩=some (.string x.f.client)∧w'.cell? ⟨gf,2,none⟩=some (.string x.f.user)∧w'.cell? ⟨gf,3,none⟩=some (.slice x.sA x.f.scope.length x.sc)∧w'.cell? ⟨gf,4,none⟩=some (.string x.f.redirect)∧w'.cell? ⟨gf,5,none⟩=some (.string x.f.challenge)∧w'.cell? ⟨gf,6,none⟩=some (.string x.f.method)∧w'.cell? ⟨gf,7,none⟩=some (.int .i64 x.f.code)∧w'.cell? ⟨gf,8,none⟩=some (.slice x.tA x.ts.length x.tc)∧w'.cell? ⟨gf,9,none⟩=some (.bool x.f.revoked)∧w'.cell? ⟨gf,10,none⟩=some (.slice x.lA x.f.leases.length x.lc)∧gf<w'.heap.size) [] (by kernel_rfl) (fam_cells hB5.o) ?_;intro hHeld;refine wpZ_tk (i:=0) (v:= ?_) hHeld ?_ ?_;rotate_left
    ·(intro w hSw;go_simp<;>with_reducible rfl)
    try simp only [zA,zC,Act.put,zD,zE,zF]
    refine wpZ_tk (i:=1) (v:= ?_) hHeld ?_ ?_;rotate_left
    ·(intro w hSw;go_simp<;>with_reducible rfl)
    try simp only [zA,zB,zC,Act.put,zD,zE,zF]
    refine wpZ_tk (i:=2) (v:= ?_) hHeld ?_ ?_;rotate_left
    ·(intro w hSw;go_simp<;>with_reducible rfl)
    try simp only [zA,zB,zC,Act.put,zD,zE,zF]
    refine wpZ_tk (i:=4) (v:= ?_) hHeld ?_ ?_;rotate_left
    ·(intro w hSw;go_simp<;>with_reducible rfl)
    try simp only [zA,zB,zC,Act.put,zD,zE,zF]
    refine wpZ_tk (i:=5) (v:= ?_) hHeld ?_ ?_;rotate_left
    ·(intro w hSw;go_simp<;>with_reducible rfl)
    try simp only [zA,zB,zC,Act.put,zD,zE,zF]
    refine wpZ_tk (i:=6) (v:= ?_) hHeld ?_ ?_;rotate_left
    ·(intro w hSw;go_simp<;>with_reducible rfl)
    try simp only [zA,zB,zC,Act.put,zD,zE,zF]
    refine wpZ_one (i:=3) (by kernel_rfl) rfl (fun K hK=> ?_);go_simp;refine Calls.mono (show Calls Tryz.prog 43 _ _ _ from ptru_t _ _) ?_;rintro e Y1 ⟨rfl,G1⟩;have G1:Fr [] W5 Y1:=G1.of_drew;have fy1:Fr [] W5 Y1:=G1;try dsimp only
    clear hHeld;refine hK.out _ _ (fam_cells (hB5.o.fr fy1 (by simp))) (fun hHeld=> ?_);clear hK K;try simp only [zA,zB,zC,Act.put,zD,zE,zF]
    refine wpZ_one (i:=7) (by kernel_rfl) rfl (fun K hK=> ?_);go_simp;refine Calls.mono (show Calls Tryz.prog 42 _ _ _ from pcnt_t _ _) ?_;rintro e Y2 ⟨rfl,G2⟩;have fy2:=fy1.trans G2;try dsimp only
    clear hHeld;refine hK.out _ _ (fam_cells (hB5.o.fr fy2 (by simp))) (fun hHeld=> ?_);clear hK K;try simp only [zA,zB,zC,Act.put,zD,zE,zF]
    refine wpZ_one (i:=8) (by kernel_rfl) rfl (fun K hK=> ?_);go_simp;clear hHeld;refine hK.out _ _ (fam_cells ((hB5.o.fr fy2 (by simp)).alloc _)) (fun hHeld=> ?_);clear hK K;try simp only [zA,zB,zC,Act.put,zD,zE,zF]
    refine wpZ_one (i:=9) (by kernel_rfl) rfl (fun K hK=> ?_);refine own_append_op (P:=Tryz.prog) (xs:=ls.flatMap QA.cells) (news:=(endQ x).flatMap QA.cells) tPuts ((hO5.o.fr fy2 (by simp)).fr ((Fr.refl [] Y2).alloc _) (by simp)) (m:=2) (c:=2) (A:=some ⟨Y2.heap.size,0,none⟩) (puts_new Y2 (endQ x) 95) (QA.ones _) (by simp) (by unfold maxLen;omega) (by omega) rfl rfl rfl rfl (fun v' w3 g1 g2 g3=> ?_);have g1:=g1;obtain⟨A3,c3,rfl,_⟩:=g1.form;try dsimp only
    clear hHeld;refine hK.out _ _ (fam_cells (((hB5.o.fr fy2 (by simp)).alloc _).fr g2 hoffB.o)) (fun hHeld=> ?_);clear hK K;try simp only [zA,zB,zC,Act.put,zD,zE,zF]
    refine wpZ_tk (i:=10) (v:= ?_) hHeld ?_ ?_;rotate_left
    ·(intro w hSw;go_simp<;>with_reducible rfl)
    try simp only [zA,zB,zC,Act.put,zD,zE,zF]
    refine wpZ_done (by kernel_rfl) ?_ _;clear hHeld;go_upto_region 10 with(fail)
    have hPE:=zh (PAcc.push (qs:=endQ x) hln.o rfl hA4h.o hFh.o fy2 g1 g2 g3);refine wp_gen (fun U=>PAcc W1 U (.slice A3 (ln+2) c3) (ls++endQ x)) hPE.o ?_;rintro U2 hPU2;have hPU2h:=zh hPU2;have hll2:=zh (show(ls++endQ x).length≤35 by rw [List.length_append,hln.o];simp [endQ];omega);obtain⟨m,hm⟩:∃z,Hid (x.f.leases.length=z):=⟨_,zh rfl⟩
    have hm100:m≤100:=by rw [←hm.o];exact leases_len hok.o.leases hok.o.edges
    clear g1 g2 g3 hPU2;go_wp2_with fail
    go_loopg [4,7] (m+1) (fun gk s4 s7 wr=>∃(k:Nat) (qs:List QA),s7= .int .i64 k∧k≤m∧m - k<gk∧Hid (qs=ls++endQ x++(x.f.leases.take k).map leaQ)∧qs.length≤35+k∧PAcc W1 wr s4 qs)
    case atStart=>exact⟨0,ls++endQ x,rfl,by omega,by omega,zh (by simp),hll2.o,hPU2h.o⟩
    case round=>
     obtain⟨k,qs,rfl,hk2,hkk,hqs,hql,hP⟩:=hrel;obtain⟨A7,c7,rfl,hO7,hA7,hF7⟩:=hP;obtain⟨qn,hqn⟩:∃z,Hid (qs.length=z):=⟨_,zh rfl⟩
     rw [hqn.o]at hO7 hql⊢;have hO7h:=zh hO7;have hA7h:=zh hA7;have hF7h:=zh hF7;have hB7:=zh (hB.o.fr hF7 (by simp));have c10:=hB7.o.cell 10;unfold FA.cells at c10;simp only [zG,zH,zI]at c10;rw [hm.o]at c10;have hbl7:=hB7.o.lt;have hlR:=zh (Rd.fr hxh.o.leases.1 (FW1.o.trans hF7) (by simp [Off]));clear hO7 hA7 hF7;by_cases hlt2:k<m
     ·have hlt3:(k:Int)<m:=by omega
      have hlth2:=zh hlt2;have hkkh:=zh hkk;have hkl:k<x.f.leases.length:=by rw [hm.o];exact hlt2
      obtain⟨b9,o9,hla,hc9⟩:=hlR.o.2 (by omega);rw [hla]at c10;clear hla;have ck:=hc9 k _ (show(intCells x.f.leases)[k]? =some (.int .i64 x.f.leases[k]) by unfold intCells;rw [List.getElem?_map,List.getElem?_eq_getElem hkl];rfl);obtain⟨e9,he9⟩:∃z,Hid (x.f.leases[k]=z):=⟨_,zh rfl⟩
      rw [he9.o]at ck;clear hc9 hkk hlt2;go_wp2_with (first
       | (go_at_call 44;refine(pnum_t _ _).mono ?_;rintro e Z1 ⟨rfl,H1⟩;have H1h:=zh H1;clear H1)
       | (refine wpList_own_append tPuts (xs:=qs.flatMap QA.cells) (news:= [leaQ e9].flatMap QA.cells) ((hO7h.o.fr H1h.o (by simp)).fr ((Fr.refl [] _).alloc _) (by simp)) (m:=1) (c:=1) (A:=some ⟨Z1.heap.size,0,none⟩) (puts_new Z1 [leaQ e9] 95) (QA.ones _) (by simp) (by unfold maxLen;omega) (by omega) rfl rfl rfl rfl (fun v2 w2 p1 p2 p3=> ?_);obtain⟨A8,c8,rfl,hA8⟩:=p1.form))
      go_roundg (m - k)
      case measure=>exact hkkh.o
      case rel=>refine⟨k+1,qs++ [leaQ e9],by go_num,by have:=hlth2.o;omega,by have:=hlth2.o;omega,zh ?_,by rw [List.length_append,hqn.o];simp;omega,PAcc.push (qs:= [leaQ e9]) hqn.o rfl hA7h.o hF7h.o H1h.o p1 p2 p3⟩;rw [hqs.o,List.take_succ_eq_append_getElem hkl,List.map_append,List.map_singleton,he9.o];simp
     ·have hge2:¬(k:Int)<m:=by omega
      have hqE:=zh (show qs.map (·.p)=famP x.f by
       rw [hqs.o,List.take_of_length_le (by rw [hm.o];omega),hlsE.o];exact famP_Q x hxh.o.ts)
      clear hlt2;have hFw:=FW1.o.trans hF7h.o;have hPI:PutsIn wr A7 qn qs:=⟨hO7h.o.rd,hqn.o,fun q hq=> ?_,by omega⟩
      ·have hwr:=rwrite08_t wr A7 qn c7 qs hPI;rw [hqE.o,write_fam hok.o]at hwr;unfold WrPost at hwr;dsimp only at hwr;have hfl:=zh (frameB_length (famB x.f));clear hPI;go_upto_region 15 with(go_at_call 45;go_loud (refine hwr.mono ?_;rintro e Z1 ⟨B1,d1,rfl,hY⟩;have hYh:=zh hY;clear hY))
       obtain⟨B2,d2,e2,hOB,hBB,hFB⟩:=hYh.o;injection e2 with e2 _ e3
       subst e2 e3;have hOBh:=zh hOB;have hFBh:=zh hFB;obtain⟨fb,hfb⟩:∃z,Hid (frameB (famB x.f)=z):=⟨_,zh rfl⟩
       rw [hfb.o]at hfl;rw [hfb.o]at hOBh⊢;obtain⟨b8,o8,rfl,hc8⟩:=hOBh.o.rd.2 (by rw [hfl.o];omega);have hcv:(convert 42 9 (.slice (some ⟨b8,o8,none⟩) fb.length d1)).run Tryz.prog Z1= .ok (.string ⟨fb.toArray⟩) Z1:=
        run_convert_bytes_back (P:=Tryz.prog) Z1 42 9 5 ⟨b8,o8,none⟩ d1 fb tW1.ty (by kernel_rfl) und_str (fun j hj=>by
         rw [Addr.add_lit];exact hc8 j _ (by rw [List.getElem?_map,List.getElem?_eq_getElem hj];rfl))
       have hft:=zh (show famText x.f=⟨fb.toArray⟩ by unfold famText;rw [hfb.o]);obtain⟨tx,htx⟩:∃z,Hid ((⟨fb.toArray⟩:ByteArray)=z):=⟨_,zh rfl⟩
       rw [htx.o]at hcv hft;clear hOB hBB hFB hc8;go_wp2_with fail
       go_ret2;rw [hv.o,hft.o];exact⟨rfl,hFw.trans hFBh.o⟩
      ·rw [hqs.o,List.take_of_length_le (by rw [hm.o];omega),hlsE.o]at hq;exact puts_ok hok.o hxh.o hFw hq
end Go.Proofs.YtpmgepijkhaonaaGreat
