/- Walk: a family's text. Conditions: each theorem's own. -/
import Derived.Test.YtpmgepijkhaonaaGreatGr
import Derived.Test.YtpmgepijkhaonaaGreatSb
import Derived.Test.YtpmgepijkhaonaaGreatHf
import Derived.Test.YtpmgepijkhaonaaGreatTp
import Derived.Test.YtpmgepijkhaonaaGreatHy
import Derived.Test.YtpmgepijkhaonaaGreatGt
import Derived.Lib.AppendStr
import Derived.Test.YtpmgepijkhaonaaGreatIb
namespace Go.Sig
open Go.RowKit
def numF:Nat→Nat→List UInt8
 | 0,n=> [UInt8.ofNat n]
 |k+1,n=>if n<128 then [UInt8.ofNat n]else UInt8.ofNat (n%128+128)::numF k (n / 128)
def numB (n:Nat):List UInt8:=numF 9 n
theorem numF_end {k n:Nat}(h:n<128):numF k n= [UInt8.ofNat n]:=by
 cases k with
 |zero=>rfl
 |succ k=>unfold numF;rw [if_pos h]
theorem numF_more {k n:Nat}(h:128≤n):numF (k+1) n=UInt8.ofNat (n%128+128)::numF k (n / 128):=by
 conv=>lhs;unfold numF
 rw [if_neg (by omega)]
theorem numF_length (k n:Nat):(numF k n).length≤k+1∧1≤(numF k n).length:=by
 induction k generalizing n with
 |zero=>simp [numF]
 |succ k ih=>
  unfold numF;split
  ·simp
  ·have:=ih (n / 128);simp only [List.length_cons];omega
theorem numB_length (n:Nat):(numB n).length≤10:=(numF_length 9 n).1
def textB (s:ByteArray):List UInt8:=numB s.size++s.data.toList
def textsB (l:List ByteArray):List UInt8:=numB l.length++l.flatMap textB
def boolB (b:Bool):List UInt8:= [if b then 1 else 0]
def zig (n:Int):Nat:=if 0≤n then 2*n.toNat else 2*(-n).toNat - 1
def intB (n:Int):List UInt8:=numB (zig n)
def tokB (t:GTok):List UInt8:=numB t.kind.toNat++textsB t.scope++boolB t.used
def famB (f:GFam):List UInt8:=
 textB f.id++textB f.client++textB f.user++textsB f.scope++textB f.redirect++textB f.challenge++textB f.method++numB f.code.toNat++numB f.tokens.length++f.tokens.flatMap tokB++boolB f.revoked++numB f.leases.length++f.leases.flatMap intB
def crcTab:List UInt32:= [0x00000000,0x105ec76f,0x20bd8ede,0x30e349b1,0x417b1dbc,0x5125dad3,0x61c69362,0x7198540d,0x82f63b78,0x92a8fc17,0xa24bb5a6,0xb21572c9,0xc38d26c4,0xd3d3e1ab,0xe330a81a,0xf36e6f75]
def crcHalf (c:UInt32):UInt32:=(c>>>4)^^^crcTab.getD (c&&&15).toNat 0
def crcStep (c:UInt32) (x:UInt8):UInt32:=crcHalf (crcHalf (c^^^UInt32.ofNat x.toNat))
def crcM (l:List UInt8):UInt32:=4294967295^^^l.foldl crcStep 4294967295
def frameB (b:List UInt8):List UInt8:=bytes4 (UInt32.ofNat b.length)++bytes4 (crcM b)++b
def famText (f:GFam):ByteArray:=⟨(frameB (famB f)).toArray⟩
theorem or128:∀n:Nat,n<256→n ||| 128=n%128+128:=by decide+kernel
theorem crc_take {l:List UInt8}{i:Nat}(h:i<l.length):(l.take (i+1)).foldl crcStep 4294967295=crcStep ((l.take i).foldl crcStep 4294967295) l[i]:=by
 rw [List.take_succ_eq_append_getElem h,List.foldl_append];rfl
theorem bytes4_length (x:UInt32):(bytes4 x).length=4:=rfl
theorem frameB_length (b:List UInt8):(frameB b).length=b.length+8:=by
 unfold frameB;simp only [List.length_append,bytes4_length];omega
theorem textB_length (s:ByteArray):(textB s).length≤s.size+10:=by
 unfold textB;have:=numB_length s.size;have h:s.data.toList.length=s.size:=rfl;rw [List.length_append,h];omega
theorem flatMap_le {α:Type}{f:α→List UInt8}{k:Nat}:∀{l:List α},(∀x∈l,(f x).length≤k)→(l.flatMap f).length≤l.length*k
 | [],_=>by simp
 |x::l,h=>by have h1:=h x (List.mem_cons_self ..);have h2:=flatMap_le (l:=l) fun y hy=>h y (List.mem_cons_of_mem _ hy);rw [List.flatMap_cons,List.length_append,List.length_cons,Nat.succ_mul];omega
theorem textsB_length {l:List ByteArray}{n k:Nat}(hn:l.length≤n) (hk:∀s∈l,s.size≤k):(textsB l).length≤n*(k+10)+10:=by
 unfold textsB;have h1:=numB_length l.length;have h2:=flatMap_le (f:=textB) (k:=k+10) (l:=l) fun s hs=>by have:=textB_length s;have:=hk s hs;omega
 have h3:=Nat.mul_le_mul_right (k+10) hn;rw [List.length_append];omega
end Go.Sig
namespace Go.Sig
open Go.RowKit
theorem flatMap_le2 {α:Type}{f:α→List UInt8}{n k:Nat}{l:List α}(hn:l.length≤n) (h:∀x∈l,(f x).length≤k):(l.flatMap f).length≤n*k:=
 Nat.le_trans (flatMap_le h) (Nat.mul_le_mul_right k hn)
end Go.Sig
namespace Go.Proofs.YtpmgepijkhaonaaGreat
open Go.RowKit Go.Sig
theorem scopeB_length {l:List ByteArray}(h:setM l=true):(textsB l).length≤2378:=textsB_length (n:=32) (k:=64) (setM_sizes h).1 (setM_sizes h).2
theorem idM_size {s:ByteArray}(h:idM s=true):1≤s.size∧s.size≤32:=by
 unfold idM at h;simp only [Bool.and_eq_true,decide_eq_true_eq]at h;exact⟨h.1.2,h.2⟩
theorem famB_length {f:GFam}(h:FamOk f):(famB f).length≤30000:=by
 have h1:=(idM_size h.id).2;have ht:∀s∈ [f.client,f.user,f.redirect,f.challenge,f.method],s.size≤128:=fun s hs=>textsM_mem h.texts hs;simp only [List.mem_cons,List.not_mem_nil,or_false,forall_eq_or_imp,forall_eq]at ht;obtain⟨t1,t2,t3,t4,t5⟩:=ht;have e0:=textB_length f.id;have e1:=textB_length f.client;have e2:=textB_length f.user;have e3:=textB_length f.redirect;have e4:=textB_length f.challenge;have e5:=textB_length f.method;have e6:=scopeB_length h.set;have e7:=numB_length f.code.toNat;have e8:=numB_length f.tokens.length;have e9:=numB_length f.leases.length;have ea:=flatMap_le2 (f:=tokB) (k:=2389) h.tokens fun t ht=>by have k1:=numB_length t.kind.toNat;have k2:=scopeB_length (h.each t ht).set;unfold tokB boolB;simp only [List.length_append,List.length_cons,List.length_nil];omega
 have eb:=flatMap_le2 (f:=intB) (n:=100) (k:=10) (leases_len h.leases h.edges) fun x hx=>numB_length _;unfold famB boolB;simp only [List.length_append,List.length_cons,List.length_nil];omega
theorem famText_size {f:GFam}(h:FamOk f):(famText f).size≤30008:=by
 have h1:=famB_length h;have h2:=frameB_length (famB f);show(frameB (famB f)).toArray.size≤_;rw [List.size_toArray];omega
end Go.Proofs.YtpmgepijkhaonaaGreat
namespace Go.Proofs.YtpmgepijkhaonaaGreat
open Go.RowKit Go.Sig
theorem aget_iff {l:List Pr}(h:Rising l) (y:Pr):y∈l↔aget y.1 l=some y.2:=⟨fun hy=>aget_of_mem (rising_nodup h) hy,fun hy=>mem_of_aget hy⟩
theorem rising_aget_ext {l m:List Pr}(hl:Rising l) (hm:Rising m) (h:∀k,aget k l=aget k m):l=m:=by
 refine rising_ext hl hm ((List.perm_ext_iff_of_nodup (hl.imp fun h e=> ?_) (hm.imp fun h e=> ?_)).2 fun y=>by rw [aget_iff hl,aget_iff hm,h])
 ·rw [e,bl_irrefl]at h;cases h
 ·rw [e,bl_irrefl]at h;cases h
def tabM (g:GBk):List Pr:=(idsM g).map fun k=>(k,famText ((aget k g).getD zeroF))
theorem tabM_rising (g:GBk):Rising (tabM g):=by
 unfold tabM Rising;rw [List.pairwise_map];exact sortN_rising _
theorem aget_tabM (g:GBk) (k:ByteArray):aget k (tabM g)=(aget k g).map famText:=by
 cases h:aget k g with
 |none=>refine aget_none_iff.2 fun hk=> ?_;obtain⟨y,hy,rfl⟩:=List.mem_map.1 hk;obtain⟨s,hs,rfl⟩:=List.mem_map.1 hy;have:=mem_idsM.1 hs;simp only at h;rw [h]at this;cases this
 |some f=>refine aget_of_mem (rising_nodup (tabM_rising g)) (List.mem_map.2 ⟨k,mem_idsM.2 (by rw [h];rfl),?_⟩);rw [h];rfl
theorem tabM_length {g:GBk}(hb:BkOk g):(tabM g).length=g.length:=by
 unfold tabM;rw [List.length_map];exact idsM_length g hb
def layM (k:ByteArray) (o:Option GFam) (l:List Pr):List Pr:=match o with
 |some f=>put (k,famText f) l
 |none=>del k l
theorem tab_lay {room:Int}{c:GCmd}{g:GBk}(hb:BkOk g):tabM (doM room c g).1=layM c.family (aget c.family (doM room c g).1) (tabM g):=by
 unfold layM;cases h:aget c.family (doM room c g).1 with
 |some f=>
  refine rising_aget_ext (tabM_rising _) (put_rising (tabM_rising g)) fun k=> ?_;rw [aget_tabM];by_cases hk:k=c.family
  ·subst hk;rw [h];exact(aget_put_same (x:=(c.family,famText f))).symm
  ·rw [aget_put_other (x:=(c.family,famText f)) hk,aget_tabM,do_other hb (.inl fun e=>hk e.symm)]
 |none=>
  refine rising_aget_ext (tabM_rising _) (del_rising (tabM_rising g)) fun k=> ?_;rw [aget_tabM];by_cases hk:k=c.family
  ·subst hk;rw [h,aget_del_same];rfl
  ·rw [aget_del_other hk,aget_tabM,do_other hb (.inl fun e=>hk e.symm)]
structure GCall where
 edge:Int
 seq:Int
 ans:GAns
structure GEdge where
 low:Int
 calls:List GCall
structure GOp where
 edge:Int
 seq:Int
 low:Int
 c:GCmd
structure BkS where
 g:GBk
 edges:List (Int×GEdge)
def opMay (o:GOp):Bool:=
 !(decide (o.edge<0) ||decide (32≤o.edge) ||decide (o.seq<0) ||decide (1099511627776<o.seq) ||decide (o.low<0) ||decide (o.seq<o.low) || !mayM o.c)&&
 (if o.seq=0 then decide (o.c.kind=7)&&decide (o.edge=0)else !decide (o.c.kind=7))
def keepC (low:Int) (l:List GCall):List GCall:=l.filter fun c=> !decide (c.seq<low)
def insC (x:GCall):List GCall→List GCall
 | []=> [x]
 |y::l=>if x.seq<y.seq then x::y::l else y::insC x l
def edgeOf (e:Int) (s:BkS):GEdge:=(aget e s.edges).getD ⟨0,[]⟩
def bookDo (room:Int) (o:GOp) (s:BkS):BkS×GAns:=
 if opMay o=false then(s,noA 1)
 else if o.seq=0 then(⟨(doM room o.c s.g).1,s.edges⟩,(doM room o.c s.g).2)
 else match (edgeOf o.edge s).calls.find? fun c=>decide (c.seq=o.seq)with
  |some c=>(s,c.ans)
  |none=>
   if o.seq<(edgeOf o.edge s).low then(s,noA 1)
   else if 8≤(keepC (max (edgeOf o.edge s).low o.low) (edgeOf o.edge s).calls).length then(s,noA 7)
   else(⟨(doM room o.c s.g).1,aset o.edge ⟨max (edgeOf o.edge s).low o.low,insC ⟨o.edge,o.seq,(doM room o.c s.g).2⟩ (keepC (max (edgeOf o.edge s).low o.low) (edgeOf o.edge s).calls)⟩ s.edges⟩,(doM room o.c s.g).2)
structure EdgeOk (k:Int) (e:GEdge):Prop where
 key:0≤k∧k<32
 low:0≤e.low∧e.low≤1099511627776
 rise:e.calls.Pairwise fun a b=>a.seq<b.seq
 each:∀c∈e.calls,c.edge=k∧1≤c.seq∧c.seq≤1099511627776∧e.low≤c.seq∧setM c.ans.scope=true
 few:e.calls.length≤8
structure BsOk (room:Int) (s:BkS):Prop where
 g:BkOk s.g
 full:(s.g.length:Int)≤room
 nodup:(s.edges.map (·.1)).Nodup
 each:∀k e,aget k s.edges=some e→EdgeOk k e
end Go.Proofs.YtpmgepijkhaonaaGreat
namespace Go.Proofs.YtpmgepijkhaonaaGreat
open Go.RowKit Go.Sig
theorem mem_insC {x z:GCall}:∀{l:List GCall},z∈insC x l↔z=x∨z∈l
 | []=>by simp [insC]
 |y::l=>by
  unfold insC;split
  ·simp
  ·rw [List.mem_cons,mem_insC,List.mem_cons];constructor
   ·rintro(h |h |h)
    ·exact .inr (.inl h)
    ·exact .inl h
    ·exact .inr (.inr h)
   ·rintro(h |h |h)
    ·exact .inr (.inl h)
    ·exact .inl h
    ·exact .inr (.inr h)
theorem insC_length (x:GCall):∀l:List GCall,(insC x l).length=l.length+1
 | []=>rfl
 |y::l=>by
  unfold insC;split
  ·rfl
  ·rw [List.length_cons,insC_length x l,List.length_cons]
theorem insC_perm (x:GCall):∀l:List GCall,(insC x l).Perm (l++ [x])
 | []=>List.Perm.refl _
 |y::l=>by
  unfold insC;split
  ·exact(List.perm_append_comm (l₁:= [x]) (l₂:=y::l))
  ·exact(insC_perm x l).cons y
theorem insC_rise {x:GCall}:∀{l:List GCall},l.Pairwise (fun a b=>a.seq<b.seq)→(∀z∈l,z.seq≠x.seq)→(insC x l).Pairwise (fun a b=>a.seq<b.seq)
 | [],_,_=>List.pairwise_singleton _ _
 |y::l,h,hx=>by
  rw [List.pairwise_cons]at h;unfold insC;split
  ·rename_i hlt;refine List.pairwise_cons.2 ⟨fun z hz=> ?_,List.pairwise_cons.2 h⟩;rcases List.mem_cons.1 hz with rfl |hz
   ·exact hlt
   ·exact Int.lt_trans hlt (h.1 z hz)
  ·rename_i hge;refine List.pairwise_cons.2 ⟨fun z hz=> ?_,insC_rise h.2 fun z hz=>hx z (List.mem_cons_of_mem _ hz)⟩;rcases mem_insC.1 hz with rfl |hz
   ·have:=hx y (List.mem_cons_self ..);omega
   ·exact h.1 z hz
theorem calls_ext {l m:List GCall}(hl:l.Pairwise fun a b=>a.seq<b.seq) (hm:m.Pairwise fun a b=>a.seq<b.seq) (hp:l.Perm m):l=m:=
 hp.eq_of_pairwise (fun a b _ _ h1 h2=>by omega) hl hm
theorem keepC_mem {low:Int}{l:List GCall}{c:GCall}:c∈keepC low l↔c∈l∧low≤c.seq:=by
 unfold keepC;rw [List.mem_filter];simp only [Bool.not_eq_true',decide_eq_false_iff_not,Int.not_lt]
theorem opMay_ok {o:GOp}(h:opMay o=true):0≤o.edge∧o.edge<32∧0≤o.seq∧o.seq≤1099511627776∧0≤o.low∧o.low≤o.seq∧mayM o.c=true:=by
 unfold opMay at h;simp only [Bool.and_eq_true,Bool.not_eq_true',Bool.or_eq_false_iff,decide_eq_false_iff_not,Bool.not_eq_false']at h;obtain⟨⟨⟨⟨⟨⟨⟨h1,h2⟩,h3⟩,h4⟩,h5⟩,h6⟩,h7⟩,_⟩:=h;exact⟨by omega,by omega,by omega,by omega,by omega,by omega,h7⟩
theorem edge_ok {room:Int}{s:BkS}(h:BsOk room s) {e:Int}(he:0≤e∧e<32):EdgeOk e (edgeOf e s):=by
 unfold edgeOf;cases ha:aget e s.edges with
 |none=>exact⟨he,by decide,List.Pairwise.nil,fun c hc=>(by cases hc),Nat.zero_le _⟩
 |some x=>exact h.each e x ha
theorem bookDo_ok {room:Int}{o:GOp}{s:BkS}(h:BsOk room s):BsOk room (bookDo room o s).1:=by
 have hg:BkOk (doM room o.c s.g).1:=doM_ok h.g;have hr:((doM room o.c s.g).1.length:Int)≤room:=do_room h.g h.full;unfold bookDo;split
 ·exact h
 ·rename_i hm;obtain⟨m1,m2,m3,m4,m5,m6,_⟩:=opMay_ok (o:=o) (by simpa using hm);have he:=edge_ok h ⟨m1,m2⟩;split
  ·exact⟨hg,hr,h.nodup,h.each⟩
  ·rename_i h0;split
   ·exact h
   ·rename_i hf;have hne:∀c∈(edgeOf o.edge s).calls,c.seq≠o.seq:=fun c hc e=>by
     have:=List.find?_eq_none.1 hf c hc;simp [e]at this
    split
    ·exact h
    ·rename_i hlow;split
     ·exact h
     ·rename_i hfew;refine⟨hg,hr,nodup_aset h.nodup,fun k e hk=> ?_⟩;by_cases hke:k=o.edge
      ·subst hke;rw [aget_aset_same]at hk;obtain rfl:=Option.some.inj hk;refine⟨⟨m1,m2⟩,by have:=he.low;simp only;omega,?_,fun c hc=> ?_,?_⟩
       ·exact insC_rise (he.rise.filter _) fun z hz=>hne z (keepC_mem.1 hz).1
       ·rcases mem_insC.1 hc with rfl |hc
        ·exact⟨rfl,by simp only;omega,m4,by simp only;omega,do_set h.g⟩
        ·obtain⟨c1,c2⟩:=keepC_mem.1 hc;obtain⟨d1,d2,d3,_,d5⟩:=he.each c c1;exact⟨d1,d2,d3,c2,d5⟩
       ·rw [insC_length];omega
      ·rw [aget_aset_other hke]at hk;exact h.each k e hk
end Go.Proofs.YtpmgepijkhaonaaGreat
namespace Go.Proofs.YtpmgepijkhaonaaGreat
open Go.RowKit Go.Sig
structure KA where
 k:GCall
 A:Option Addr
 c:Nat
def KA.arr (x:KA):Array Value:=#[.int .i64 x.k.edge,.int .i64 x.k.seq,.int .i64 x.k.ans.why,.int .i64 x.k.ans.access,.int .i64 x.k.ans.refresh,.slice x.A x.k.ans.scope.length x.c,.string x.k.ans.client,.string x.k.ans.user,.bool x.k.ans.active,.bool x.k.ans.wait]
def KA.cells (x:KA):List Value:=x.arr.toList
def callCells (l:List KA):List Value:=l.flatMap KA.cells
theorem callCells_append (a b:List KA):callCells (a++b)=callCells a++callCells b:=List.flatMap_append
theorem callCells_length:∀l:List KA,(callCells l).length=l.length*10
 | []=>rfl
 |x::l=>by have h:=callCells_length l;unfold callCells at h⊢;rw [List.flatMap_cons,List.length_append,h,List.length_cons,Nat.succ_mul,Nat.add_comm];rfl
theorem callCells_one (l:List KA):∀u∈callCells l,u.oneCell'=true:=by
 intro u hu;obtain⟨x,_,hx⟩:=List.mem_flatMap.1 hu;have h:x.arr.toList.all (·.oneCell')=true:=by unfold KA.arr;rfl
 exact List.all_eq_true.1 h u hx
theorem callCells_at {j:Nat}{v:Value}:∀{l:List KA}{i:Nat}(h:i<l.length),l[i].cells[j]? =some v→(callCells l)[i*10+j]? =some v
 |x::l,0,_,hv=>by have hv':x.cells[j]? =some v:=hv;unfold callCells;rw [List.flatMap_cons,Nat.zero_mul,Nat.zero_add,List.getElem?_append_left (List.getElem?_eq_some_iff.1 hv').1];exact hv'
 |x::l,i+1,h,hv=>by
  have ih:=callCells_at (l:=l) (i:=i) (by simpa using h) hv;have hx:x.cells.length=10:=rfl;have e:(i+1)*10+j=x.cells.length+(i*10+j):=by rw [hx];omega
  unfold callCells at ih⊢;rw [List.flatMap_cons,e,List.getElem?_append_right (by omega),Nat.add_sub_cancel_left];exact ih
structure EA where
 low:Int
 A:Option Addr
 c:Nat
 l:List KA
def EA.e (x:EA):GEdge:=⟨x.low,x.l.map (·.k)⟩
def EA.val (x:EA):Value:= .agg #[.int .i64 x.low,.slice x.A x.l.length x.c]
def zeroEA:EA:=⟨0,none,0,[]⟩
structure CallsIn (w:World) (X:List Nat) (A:Option Addr) (l:List KA):Prop where
 row:RdX w X 10 A l.length (callCells l)
 each:∀y∈l,RdX w X 1 y.A y.k.ans.scope.length (strCells y.k.ans.scope)
theorem CallsIn.fr {w w':World}{X:List Nat}{A:Option Addr}{l:List KA}(h:CallsIn w X A l) (hF:Fr X w w'):CallsIn w' X A l:=⟨h.row.fr hF,fun y hy=>(h.each y hy).fr hF⟩
theorem CallsIn.mono {w:World}{X Y:List Nat}{A:Option Addr}{l:List KA}(h:CallsIn w X A l) (hS:∀g∈Y,g∈X):CallsIn w Y A l:=⟨h.row.mono hS,fun y hy=>(h.each y hy).mono hS⟩
theorem CallsIn.to {w w':World}{X Y:List Nat}{A:Option Addr}{l:List KA}(h:CallsIn w X A l) (hF:Fr X w w') (hY:∀g∈Y,g∈X∨w.heap.size≤g):CallsIn w' Y A l:=
 ⟨h.row.to (by decide) hF hY,fun y hy=>(h.each y hy).to (by decide) hF hY⟩
theorem CallsIn.nil (w:World) (X:List Nat):CallsIn w X none []:=⟨RdX.nil _ _ _ _,fun y hy=>by cases hy⟩
def EdgesIn (w:World) (me:Nat) (X:List Nat) (s:List (Int×GEdge)):Prop:=∃l:List (Int×EA),IsMap w me (Value.int .i64) EA.val l∧l.map (fun p=>(p.1,p.2.e))=s∧∀p∈l,CallsIn w X p.2.A p.2.l
theorem EdgesIn.fr {w w':World}{me:Nat}{X S:List Nat}{s:List (Int×GEdge)}(h:EdgesIn w me X s) (hF:Fr S w w') (hS:∀g∈S,g∈X∨w.heap.size≤g) (hm:me∉S):EdgesIn w' me X s:=by
 obtain⟨l,h1,h2,h3⟩:=h;exact⟨l,h1.fr hF hm,h2,fun p hp=>(h3 p hp).fr (hF.mono' hS)⟩
theorem EdgesIn.more {w w':World}{me:Nat}{X Y:List Nat}{s:List (Int×GEdge)}(h:EdgesIn w me X s) (hF:Fr [] w w') (hY:∀g∈Y,w.heap.size≤g):EdgesIn w' me (X++Y) s:=by
 obtain⟨l,h1,h2,h3⟩:=h;refine⟨l,h1.fr hF (by simp),h2,fun p hp=>(h3 p hp).to hF.nil fun g hg=> ?_⟩;rcases List.mem_append.1 hg with hg |hg
 ·exact .inl hg
 ·exact .inr (hY g hg)
theorem aget_ea {k:Int}:∀(l:List (Int×EA)),aget k (l.map fun p=>(p.1,p.2.e))=(aget k l).map (·.e)
 | []=>rfl
 | (a,x)::l=>by
  rw [List.map_cons,aget,aget];split
  ·rfl
  ·exact aget_ea l
theorem aset_ea {k:Int}{x:EA}:∀(l:List (Int×EA)),(aset k x l).map (fun p=>(p.1,p.2.e))=aset k x.e (l.map fun p=>(p.1,p.2.e))
 | []=>rfl
 | (a,y)::l=>by
  rw [List.map_cons,aset,aset];split
  ·rfl
  ·rw [List.map_cons,aset_ea l]
end Go.Proofs.YtpmgepijkhaonaaGreat
namespace Go.Proofs.YtpmgepijkhaonaaGreat
open Go.RowKit Go.Sig
theorem tW1:SliceTy Tryz.prog 42 5 1 1 (.int .u8 0):=⟨by kernel_rfl,by kernel_rfl,rfl,by decide⟩
theorem byteW_new (w:World) (x:Int) (b:UInt8) (ty:TypeId) (h:x=(b.toNat:Int)):Rd (w.alloc (.cells #[.int .u8 x] ty)) 1 (some ⟨w.heap.size,0,none⟩) 1 ([b].map bv):=by
 subst h;refine⟨rfl,fun _=>⟨_,0,rfl,fun j u hu=> ?_⟩⟩;rw [(Blk.new w ty #[.int .u8 (b.toNat:Int)]).cell,Nat.zero_add];simpa [bv]using hu
theorem own_to_row {w:World}{B e s n c:Nat}{A:Option Addr}{xs:List Value}(h:Own w e s (.slice A n c) n xs) (hB:From B A):w.ownsRow B e s (.slice A n c) n xs:=by
 obtain⟨h1,h2⟩:=h;refine⟨h1,?_⟩;rcases h2 with h2 | ⟨g,cap,cur,hv,_,r⟩
 ·exact .inl h2
 ·refine .inr ⟨g,cap,cur,hv,?_,r⟩;injection hv with hv _ _
  exact hB _ hv
theorem info_u8:(Tryz.prog.info? 5).map (fun i=>(i.zero,i.size,i.bytes))=some (some (.int .u8 0),1,1):=by kernel_rfl
theorem und_str:Tryz.prog.underlying 9=some .string:=by kernel_rfl
set_option maxRecDepth 10000 in
theorem wpList_own_append_str {w:World}{n c B:Nat}{A:Option Addr}{xs:List Value}{ops:Array Oper}{rest:List Oper}{o:Oper}{a:Act}{Q:Exit→Act→World→Prop}(h:Own w 5 1 (.slice A n c) n xs) (hB:From B A) (hBw:B≤w.heap.size) (s:ByteArray)
  (hmax:n+s.size≤100000000) (hg:o.guard=none) {sl x:Operand}(hop:o.op= .call {callee:= .builtin .append,args:=#[sl,x],argTypes:=#[42,9]}) (hs:a.eval sl= .slice A n c) (hx:a.eval x= .string s)
  (hK:∀A' c' w',Own w' 5 1 (.slice A' (n+s.size) c') (n+s.size) (xs++s.data.toList.map bv)→From B A'→Fr (rowOf (.slice A n c)) w w'→wpList Tryz.prog ops Q rest (a.put o.dst (.slice A' (n+s.size) c')) w'):wpList Tryz.prog ops Q (o::rest) a w:=by
 obtain⟨i,hi,hz,hs1,hb⟩:=info_parts info_u8;refine Go.Lib.wpList_append_own_string w hg sl x 42 9 hop B 5 i tW1.ty und_str hi hz hs1 hb _ n xs hs (own_to_row h hB) s hx (by unfold maxLen;omega) (by omega) hBw fun v' w' k1 k2 _=> ?_;obtain⟨A',c',rfl,k3,k4⟩:=own_of_row k1;refine hK A' c' w' ?_ k4 ((Fr.refl _ _).grown k2 (fun k hk=> .inl (by simp [rowOf,hk])));have e:Go.Lib.strCells s=s.data.toList.map bv:=by unfold Go.Lib.strCells;rfl
 rw [←e];exact k3
abbrev KL:=List (Nat×Array Value×TypeId)
structure WrAt (W0:World) (K:KL) (w:World) (g:Nat) (l:List UInt8):Prop where
 hg:W0.heap.size≤g
 fr:Fr [] W0 w
 kp:∀p∈K,Blk w p.1 p.2.2 p.2.1∧p.2.2≠5∧p.1≠g
 st:∃A c,Blk w g 166 #[.slice A l.length c,.int .i64 0]∧Own w 5 1 (.slice A l.length c) l.length (l.map bv)∧From W0.heap.size A
theorem WrAt.fr0 {W0 w w':World}{K:KL}{g:Nat}{l:List UInt8}(h:WrAt W0 K w g l) (hF:Fr [] w w'):WrAt W0 K w' g l:=by
 obtain⟨h1,h2,hk,A,c,h3,h4,h5⟩:=h;exact⟨h1,h2.trans hF,fun p hp=>⟨(hk p hp).1.fr hF (by simp),(hk p hp).2⟩,A,c,h3.fr hF (by simp),h4.fr hF (by simp),h5⟩
theorem row_neT {w:World}{g n c:Nat}{t:TypeId}{A:Option Addr}{cs:Array Value}{xs:List Value}(ht:t≠5) (hB:Blk w g t cs) (h:Own w 5 1 (.slice A n c) n xs):g∉rowOf (.slice A n c):=fun hg=>by
 obtain⟨ad,e,rfl⟩:=rowOf_mem.1 hg;rcases h.2 with⟨hv,_⟩ | ⟨g',cap,cur,hv,_,hh,_⟩
 ·injection hv with hv _ _
  rw [e]at hv;cases hv
 ·injection hv with hv _ _
  rw [e]at hv;obtain rfl:=Option.some.inj hv;have hB2:w.heap[g']? =_:=hB;rw [hh]at hB2;injection hB2 with hB2
  injection hB2 with _ hB2 _
  exact ht hB2.symm
theorem row_ne {w:World}{g n c:Nat}{A:Option Addr}{cs:Array Value}{xs:List Value}(hB:Blk w g 166 cs) (h:Own w 5 1 (.slice A n c) n xs):g∉rowOf (.slice A n c):=row_neT (by decide) hB h
theorem WrAt.push {W0 w w2:World}{K:KL}{g n c c3 k:Nat}{l xs:List UInt8}{A A3:Option Addr}{o:Obj}(hg:W0.heap.size≤g) (hF:Fr [] W0 w) (hkp:∀p∈K,Blk w p.1 p.2.2 p.2.1∧p.2.2≠5∧p.1≠g) (hB:Blk w g 166 #[.slice A n c,.int .i64 0]) (hO:Own w 5 1 (.slice A n c) n (l.map bv)) (hA:From W0.heap.size A) (hn:l.length=n) (hk:xs.length=k)
  (p1:Own w2 5 1 (.slice A3 (n+k) c3) (n+k) (l.map bv++xs.map bv)) (p2:Fr (rowOf (.slice A n c)) (w.alloc o) w2) (p3:∀g,g∈rowOf (.slice A3 (n+k) c3)→g∈rowOf (.slice A n c)∨g=(w.alloc o).heap.size):
  WrAt W0 K (w2.setCell ⟨g,0,none⟩ (.slice A3 (n+k) c3)) g (l++xs):=by
 have hl:(l++xs).length=n+k:=by rw [List.length_append,hn,hk]
 have hrow:g∉rowOf (.slice A n c):=row_ne hB hO;have hB2:=(hB.alloc o).fr p2 hrow;have hs:=hB2.set 0 (.slice A3 (n+k) c3);simp only [zD,zE]at hs;have F3:Fr [g] w2 (w2.setCell ⟨g,0,none⟩ (.slice A3 (n+k) c3)):=(Fr.refl [g] w2).setCell (p:=⟨g,0,none⟩) (.inl (by simp)) _;have hrow2:g∉rowOf (.slice A3 (n+k) c3):=row_ne hB2 p1;have hA3:From W0.heap.size A3:=fun ad e=>by
  rcases p3 ad.block (rowOf_mem.2 ⟨ad,e,rfl⟩)with h |h
  ·obtain⟨ad2,e2,h2⟩:=rowOf_mem.1 h;rw [←h2];exact hA ad2 e2
  ·have:=hF.size;rw [h];simp;omega
 refine⟨hg,((hF.alloc o).andThen p2 (fun i hi=> .inr ?_)).andThen F3 (fun i hi=> .inr (by simp at hi;omega)),fun p hp=> ?_,A3,c3,?_,?_,hA3⟩
 ·obtain⟨ad,e,rfl⟩:=rowOf_mem.1 hi;exact hA ad e
 ·obtain⟨q1,q2,q3⟩:=hkp p hp;exact⟨((q1.alloc o).fr p2 (row_neT q2 q1 hO)).fr F3 (by simp;exact q3),q2,q3⟩
 ·rw [hl];exact hs
 ·rw [hl,List.map_append];exact p1.fr F3 (fun i hi h=>by simp at h;subst h;exact hrow2 hi)
theorem WrAt.keep {W0 w:World}{K:KL}{g i:Nat}{t:TypeId}{cs:Array Value}{l:List UInt8}(h:WrAt W0 K w g l) (hB:Blk w i t cs) (ht:t≠5) (hi:i≠g):WrAt W0 ((i,cs,t)::K) w g l:=
 ⟨h.hg,h.fr,fun p hp=>by
  rcases List.mem_cons.1 hp with rfl |hp
  ·exact⟨hB,ht,hi⟩
  ·exact h.kp p hp,h.st⟩
theorem WrAt.less {W0 w:World}{K:KL}{g:Nat}{k:Nat×Array Value×TypeId}{l:List UInt8}(h:WrAt W0 (k::K) w g l):WrAt W0 K w g l:=⟨h.hg,h.fr,fun p hp=>h.kp p (List.mem_cons_of_mem _ hp),h.st⟩
theorem WrAt.lt {W0 w:World}{K:KL}{g:Nat}{l:List UInt8}(h:WrAt W0 K w g l):g<w.heap.size:=by
 obtain⟨_,_,hB,_,_⟩:=h.st;exact hB.lt
theorem or_num (m:Nat):bits .or .u8 ((m:Int)%256) 128=(((UInt8.ofNat (m%128+128)).toNat:Nat):Int):=by
 have h1:=or128 (m%256) (by omega);have h2:(UInt8.ofNat (m%128+128)).toNat=m%128+128:=by simp;omega
 have h3:(m:Int)%256=((m%256:Nat):Int):=by omega
 rw [h2,h3];have h4:=u8_or_nat (m%256) 128 (by omega) (by omega);rw [show(128:Int)=((128:Nat):Int)from rfl,h4,h1];omega
set_option maxRecDepth 100000 in
set_option maxHeartbeats 2000000 in
theorem wnum_t (W0:World) (K:KL) (w:World) (g:Nat) (l:List UInt8) (n:Nat) (h:WrAt W0 K w g l) (hn:n<18446744073709551616) (hl:l.length≤50000000):
  Calls Tryz.prog 97 #[.pointer (some ⟨g,0,none⟩),.int .u64 n] w fun e w'=>e= .returned (.tuple #[])∧WrAt W0 K w' g (l++numB n):=by
 have hh:=zh h;clear h;have hpow:n<128^(9+1):=by
  have:(128:Nat)^(9+1)=1180591620717411303424:=by decide
  omega
 have hpowh:=zh hpow;clear hpow;go_enter Tryz.func97,Tryz.ntmps97;go_wp2_with fail
 go_loopg [1] 11 (fun gk s1 wr=>∃(m kf:Nat) (pre:List UInt8),s1= .int .u64 m∧m<128^(kf+1)∧pre++numF kf m=l++numB n∧kf<gk∧pre.length+kf≤l.length+9∧WrAt W0 K wr g pre)
 case atStart=>exact⟨n,9,l,rfl,hpowh.o,rfl,by omega,by omega,hh.o⟩
 case round=>
  obtain⟨m,kf,pre,rfl,hm,he,hk,hlen,hW⟩:=hrel;have hmh:=zh hm;have heh:=zh he;obtain⟨hg,hF,hkp,A,c,hB,hO,hA⟩:=hW;have hkph:=zh hkp;obtain⟨pn,hpn⟩:∃z,Hid (pre.length=z):=⟨_,zh rfl⟩
  rw [hpn.o]at hB hO hlen;have hgh:=zh hg;have hFh:=zh hF;have hBh:=zh hB;have hOh:=zh hO;have hAh:=zh hA;have hrow:=row_ne hB hO;have c0:=hB.cell 0;simp only [zG,zH]at c0;have hgl:=hB.lt;clear hm he hg hF hkp hB hO hA;by_cases hge:128≤m
  ·obtain⟨k',rfl⟩:∃k',kf=k'+1:=⟨kf - 1,by
    rcases Nat.eq_zero_or_pos kf with h0 |h0
    ·subst h0;have:=hmh.o;simp at this;omega
    ·omega⟩
   have hge':(128:Int)≤(m:Int):=by omega
   have hgeh:=zh hge;have hor:=or_num m;obtain⟨by1,hby⟩:∃z,Hid (UInt8.ofNat (m%128+128)=z):=⟨_,zh rfl⟩
   rw [hby.o]at hor;clear hge;go_wp2_with (refine wpList_own_append tW1 (hOh.o.fr ((Fr.refl [] _).alloc _) (by simp)) (byteW_new _ _ by1 _ rfl) (fun u hu=>by simp at hu;rw [hu];rfl) (by simp) (by unfold maxLen;omega) (by omega) rfl rfl rfl rfl (fun v2 w2 p1 p2 p3=> ?_);obtain⟨A3,c3,rfl,hA3⟩:=p1.form;have hB3:=(hBh.o.alloc _).fr p2 hrow;have hz3:=hB3.frozen 0;have hl3:=hB3.lt;have k3:=hB3.cell 0;simp only [zG,zH]at k3;clear hB3 c0 hgl)
   go_roundg (k'+1)
   case measure=>omega
   case rel=>
    refine⟨m / 128,k',pre++ [by1],by go_num,?_,?_,by omega,by rw [List.length_append,hpn.o];simp;omega,WrAt.push hgh.o hFh.o hkph.o hBh.o hOh.o hAh.o hpn.o rfl p1 p2 p3⟩
    ·have:=hmh.o;rw [Nat.pow_succ]at this;exact Nat.div_lt_of_lt_mul (by rw [Nat.mul_comm];exact this)
    ·rw [←heh.o,numF_more hgeh.o,hby.o];simp
  ·have hge':¬(128:Int)≤(m:Int):=by omega
   have hgeh:=zh (show m<128 by omega);obtain⟨by1,hby⟩:∃z,Hid (UInt8.ofNat m=z):=⟨_,zh rfl⟩
   have hnb:=zh (show(m:Int)=((by1.toNat:Nat):Int) by rw [←hby.o];simp;omega);clear hge;go_wp2_with (refine wpList_own_append tW1 (hOh.o.fr ((Fr.refl [] _).alloc _) (by simp)) (byteW_new _ _ by1 _ hnb.o) (fun u hu=>by simp at hu;rw [hu];rfl) (by simp) (by unfold maxLen;omega) (by omega) rfl rfl rfl rfl (fun v2 w2 p1 p2 p3=> ?_);obtain⟨A3,c3,rfl,hA3⟩:=p1.form;have hB3:=(hBh.o.alloc _).fr p2 hrow;have hz3:=hB3.frozen 0;have hl3:=hB3.lt;have k3:=hB3.cell 0;simp only [zG,zH]at k3;clear hB3 c0 hgl)
   (try simp only [Exit.inBlock,Exit.then]);refine bodyPost_end (results_none rfl _ _ _) rfl ?_
   refine⟨rfl,?_⟩;rw [←heh.o,numF_end hgeh.o,hby.o];exact WrAt.push hgh.o hFh.o hkph.o hBh.o hOh.o hAh.o hpn.o rfl p1 p2 p3
theorem wnew_t (w:World):Calls Tryz.prog 32 #[] w fun e w'=>∃g,e= .returned (.pointer (some ⟨g,0,none⟩))∧WrAt w [] w' g []:=by
 go_enter Tryz.func32,Tryz.ntmps32;go_wp2;go_ret;exact⟨_,rfl,Nat.le_refl _,(Fr.refl _ _).alloc _,fun p hp=>(by cases hp),none,0,Blk.new _ _ _,Own.nil _ _ _,fun ad e=>by cases e⟩
theorem wcount_t (W0:World) (K:KL) (w:World) (g:Nat) (l:List UInt8) (n:Nat) (h:WrAt W0 K w g l) (hn:n≤4096) (hl:l.length≤50000000):
  Calls Tryz.prog 35 #[.pointer (some ⟨g,0,none⟩),.int .i64 n] w fun e w'=>e= .returned (.tuple #[])∧WrAt W0 K w' g (l++numB n):=by
 have hnum:=wnum_t W0 K w g l n h (by omega) hl;have d1:decide ((n:Int)<0)=false:=decide_eq_false (by omega);have d2:decide (4096<(n:Int))=false:=decide_eq_false (by omega);have h1:¬(n:Int)<0:=by omega
 have h2:¬4096<(n:Int):=by omega
 go_enter Tryz.func35,Tryz.ntmps35;go_wp2_with fail
 refine Calls.mono (show Calls Tryz.prog 97 _ _ _ from(by simpa using hnum)) ?_;rintro e w' ⟨rfl,hW⟩;go_wp2_with fail
 (try simp only [Exit.inBlock,Exit.then]);refine bodyPost_end (results_none rfl _ _ _) rfl ?_
 exact⟨rfl,hW⟩
theorem wbool_t (W0:World) (K:KL) (w:World) (g:Nat) (l:List UInt8) (b:Bool) (h:WrAt W0 K w g l) (hl:l.length≤50000000):
  Calls Tryz.prog 36 #[.pointer (some ⟨g,0,none⟩),.bool b] w fun e w'=>e= .returned (.tuple #[])∧WrAt W0 K w' g (l++boolB b):=by
 have h1:=wnum_t W0 K w g l 1 h (by omega) hl;have h0:=wnum_t W0 K w g l 0 h (by omega) hl;cases b with
 |true=>
  go_enter Tryz.func36,Tryz.ntmps36;go_wp2_with fail
  refine Calls.mono (show Calls Tryz.prog 97 _ _ _ from h1) ?_;rintro e w' ⟨rfl,hW⟩;go_wp2_with fail
  (try simp only [Exit.inBlock,Exit.then]);refine bodyPost_end (results_none rfl _ _ _) rfl ?_
  exact⟨rfl,hW⟩
 |false=>
  go_enter Tryz.func36,Tryz.ntmps36;go_wp2_with fail
  refine Calls.mono (show Calls Tryz.prog 97 _ _ _ from h0) ?_;rintro e w' ⟨rfl,hW⟩;go_wp2_with fail
  (try simp only [Exit.inBlock,Exit.then]);refine bodyPost_end (results_none rfl _ _ _) rfl ?_
  exact⟨rfl,hW⟩
end Go.Proofs.YtpmgepijkhaonaaGreat
namespace Go.Proofs.YtpmgepijkhaonaaGreat
open Go.RowKit Go.Sig
theorem ext_all (s:ByteArray):s.extract 0 s.size=s:=by
 apply ByteArray.ext;rw [ByteArray.data_extract];exact Array.extract_size
theorem wp_append_str {o:Oper}{a:Act}{w w':World}{K:Act→World→Prop}{Q:Exit→Act→World→Prop}{sl x:Operand}{v v':Value}{s:ByteArray}(hop:o.op= .call {callee:= .builtin .append,args:=#[sl,x],argTypes:=#[42,9]}) (hs:a.eval sl=v) (hx:a.eval x= .string s)
  (hrun:(Builtin.append_ #[42,9] o.type #[v,.string s]).run Tryz.prog w= .ok v' w') (h:K (a.put o.dst v') w'):Oper.wp Tryz.prog o a w K Q:=by
 unfold Oper.wp;simp [execOp,hop,resolve,invoke,builtin,hs,hx,hrun,Result.andThen];exact h
set_option maxRecDepth 100000 in
set_option maxHeartbeats 2000000 in
theorem wtext_t (W0:World) (K:KL) (w:World) (g:Nat) (l:List UInt8) (s:ByteArray) (h:WrAt W0 K w g l) (hs:s.size≤65536) (hl:l.length≤50000000):
  Calls Tryz.prog 33 #[.pointer (some ⟨g,0,none⟩),.string s] w fun e w'=>e= .returned (.tuple #[])∧WrAt W0 K w' g (l++textB s):=by
 have hnum:=wnum_t W0 K w g l s.size h (by omega) (by omega);have hnl:=zh (show(l++numB s.size).length≤50000010 by have:=numB_length s.size;rw [List.length_append];omega);go_enter Tryz.func33,Tryz.ntmps33;go_wp2_with fail
 refine Calls.mono (show Calls Tryz.prog 97 _ _ _ from(by simpa using hnum)) ?_;rintro e W1 ⟨rfl,hW⟩;clear hnum h;obtain⟨hg,hF,hkp,A,c,hB,hO,hA⟩:=hW;have hkph:=zh hkp;obtain⟨pre,hpre⟩:∃z,Hid (l++numB s.size=z):=⟨_,zh rfl⟩
 have hcat:=zh (show l++textB s=pre++s.data.toList by unfold textB;rw [←hpre.o,List.append_assoc]);rw [hpre.o]at hB hO hnl;obtain⟨pn,hpn⟩:∃z,Hid (pre.length=z):=⟨_,zh rfl⟩
 have hpl:pn≤50000010:=by have:=hnl.o;have:=hpn.o;omega
 rw [hpn.o]at hB hO;have hrow:=row_ne hB hO;have c0:=hB.cell 0;simp only [zG,zH]at c0;have hgl:=hB.lt;obtain⟨i,hi,hz,hs1,hb⟩:=info_parts info_u8;obtain⟨v',w',hrun,k1,k2,_⟩:=Go.Lib.run_append_own_string (P:=Tryz.prog) (w:=W1.drew) W0.heap.size 42 9 42 5 i tW1.ty und_str hi hz hs1 hb _ pn (pre.map bv) (own_to_row (hO.fr ((Fr.refl [] W1).drew) (by simp)) hA) s (by unfold maxLen;omega) (by omega) (by have:=hF.size;simpa using this);obtain⟨A',c',rfl,k3,k4⟩:=own_of_row k1;have hFw:Fr (rowOf (.slice A pn c)) W1 w':=(((Fr.refl _ W1).drew).grown k2 (fun k hk=> .inl (by simp [rowOf,hk])))
 have hB2:=hB.fr hFw hrow;have hz3:=hB2.frozen 0;have hl3:=hB2.lt;have k5:=hB2.cell 0;simp only [zG,zH]at k5;have hmin:min (s.size:Int) 65536=(s.size:Int):=by omega
 have hex:=ext_all s;have hgh:=zh hg;have hFh:=zh hF;have hBh:=zh hB2;have hOh:=zh hO;have k3h:=zh k3;have k4h:=zh k4;have hFwh:=zh hFw;have hAh:=zh hA;clear hg hF hkp hB2 hO k1 k2 k3 k4 hFw hA hB hi hz hs1 hb;go_upto_region 2 with(fail)
 refine wp_region_z (fun w'=>w'.cell? ⟨g,0,none⟩=some (.slice A pn c)) [12,13,14,15] (by kernel_rfl) c0 ?_;intro hHeld;refine wpZ_tk (i:=0) (v:= ?_) hHeld ?_ ?_;rotate_left
 ·(intro w hSw;go_simp<;>with_reducible rfl)
 try simp only [zA,zC,Act.put,zD,zE,zF]
 refine wpZ_tk (i:=1) (v:= ?_) hHeld ?_ ?_;rotate_left
 ·(intro w hSw;go_simp<;>with_reducible rfl)
 try simp only [zA,zB,zC,Act.put,zD,zE,zF]
 refine wpZ_tk (i:=2) (v:= ?_) hHeld ?_ ?_;rotate_left
 ·(intro w hSw;go_simp<;>with_reducible rfl)
 try simp only [zA,zB,zC,Act.put,zD,zE,zF]
 refine wpZ_tk (i:=3) (v:= ?_) hHeld ?_ ?_;rotate_left
 ·(intro w hSw;go_simp<;>with_reducible rfl)
 try simp only [zA,zB,zC,Act.put,zD,zE,zF]
 refine wpZ_tk (i:=4) (v:= ?_) hHeld ?_ ?_;rotate_left
 ·(intro w hSw;go_simp<;>with_reducible rfl)
 try simp only [zA,zB,zC,Act.put,zD,zE,zF]
 refine wpZ_tk (i:=5) (v:= ?_) hHeld ?_ ?_;rotate_left
 ·(intro w hSw;go_simp<;>with_reducible rfl)
 try simp only [zA,zB,zC,Act.put,zD,zE,zF]
 refine wpZ_tk (i:=6) (v:= ?_) hHeld ?_ ?_;rotate_left
 ·(intro w hSw;go_simp<;>with_reducible rfl)
 try simp only [zA,zB,zC,Act.put,zD,zE,zF]
 refine wpZ_tk (i:=7) (v:= ?_) hHeld ?_ ?_;rotate_left
 ·(intro w hSw;go_simp<;>with_reducible rfl)
 try simp only [zA,zB,zC,Act.put,zD,zE,zF]
 refine wpZ_tk (i:=8) (v:= ?_) hHeld ?_ ?_;rotate_left
 ·(intro w hSw;go_simp<;>with_reducible rfl)
 try simp only [zA,zB,zC,Act.put,zD,zE,zF]
 refine wpZ_tk (i:=9) (v:= ?_) hHeld ?_ ?_;rotate_left
 ·(intro w hSw;go_simp<;>with_reducible rfl)
 try simp only [zA,zB,zC,Act.put,zD,zE,zF]
 refine wpZ_take (i:=10) (v:= .string s) rfl (by kernel_rfl) (by kernel_rfl) (by kernel_rfl) (by kernel_rfl) (fun _ _ _ h=>h) (Or.inl ⟨by rfl,?_⟩) hHeld ?_
 ·(intro w hSw;(try dsimp only at hSw);go_simp)
 try simp only [zA,zB,zC,Act.put,zD,zE,zF]
 refine wpZ_one (i:=11) (by kernel_rfl) rfl (fun K hK=> ?_);rw [if_pos (wanted_none rfl)];refine wp_append_str rfl rfl rfl hrun ?_;refine hK.out _ _ k5 (fun hHeld=> ?_);clear hK K;try simp only [zA,zB,zC,Act.put,zD,zE,zF]
 refine wpZ_end (i:=12) (by kernel_rfl) rfl rfl (fun K hK=> ?_);go_simp;refine hK.out _ _ ?_;clear hK K;try simp only [zA,zB,zC,Act.put,zD,zE,zF]
 refine wpZ_end (i:=13) (by kernel_rfl) rfl rfl (fun K hK=> ?_);go_simp;refine hK.out _ _ ?_;clear hK K;try simp only [zA,zB,zC,Act.put,zD,zE,zF]
 refine wpZ_end (i:=14) (by kernel_rfl) rfl rfl (fun K hK=> ?_);go_simp;refine hK.out _ _ ?_;clear hK K;try simp only [zA,zB,zC,Act.put,zD,zE,zF]
 refine wpZ_end (i:=15) (by kernel_rfl) rfl rfl (fun K hK=> ?_);go_simp;refine hK.out _ _ ?_;clear hK K;try simp only [zA,zB,zC,Act.put,zD,zE,zF]
 refine wpZ_done (by kernel_rfl) ?_ _;go_wp2_with fail
 (try simp only [Exit.inBlock,Exit.then]);refine bodyPost_end (results_none rfl _ _ _) rfl ?_
 refine⟨rfl,hgh.o,(hFh.o.andThen hFwh.o (fun i hi=> .inr ?_)).andThen ((Fr.refl [g] w').setCell (p:=⟨g,0,none⟩) (.inl (by simp)) _) (fun i hi=> .inr (by simp at hi;rw [hi];exact hgh.o)),fun p hp=> ?_,A',c',?_,?_,k4h.o⟩
 ·obtain⟨ad,e,rfl⟩:=rowOf_mem.1 hi;exact hAh.o ad e
 ·obtain⟨q1,q2,q3⟩:=hkph.o p hp;exact⟨(q1.fr hFwh.o (row_neT q2 q1 hOh.o)).fr ((Fr.refl [g] w').setCell (p:=⟨g,0,none⟩) (.inl (by simp)) _) (by simp;exact q3),q2,q3⟩
 ·have hs:=hBh.o.set 0 (.slice A' (pn+s.size) c');simp only [zD,zE]at hs;rw [hcat.o,List.length_append,hpn.o];exact hs
 ·have hr2:=row_ne hBh.o k3h.o;rw [hcat.o,List.length_append,hpn.o,List.map_append];have e:Go.Lib.strCells s=s.data.toList.map bv:=rfl;have hds:s.data.toList.length=s.size:=rfl;rw [hds,←e];exact k3h.o.fr ((Fr.refl [g] w').setCell (p:=⟨g,0,none⟩) (.inl (by simp)) _) (fun i hi h=>by simp at h;rw [h]at hi;exact hr2 hi)
theorem zig_nat (n:Nat):zig (n:Int)=2*n:=by
 unfold zig;rw [if_pos (by omega)];omega
theorem wint_t (W0:World) (K:KL) (w:World) (g:Nat) (l:List UInt8) (n:Nat) (h:WrAt W0 K w g l) (hn:n≤1099511627776) (hl:l.length≤50000000):
  Calls Tryz.prog 37 #[.pointer (some ⟨g,0,none⟩),.int .i64 n] w fun e w'=>e= .returned (.tuple #[])∧WrAt W0 K w' g (l++intB n):=by
 have hnum:=wnum_t W0 K w g l (2*n) h (by omega) hl;have hx:bits .xor .u64 ((n:Int)*2) 0=((2*n:Nat):Int):=by
  have h:=u64_xor_nat (n*2) 0 (by omega) (by omega);rw [Nat.xor_zero]at h;have e:((n*2:Nat):Int)=(n:Int)*2:=by omega
  rw [e]at h;rw [show((2*n:Nat):Int)=(n:Int)*2 by omega];exact h
 have hm1:(n:Int)*2%18446744073709551616=(n:Int)*2:=by omega
 have hm2:(n:Int) / 9223372036854775808=0:=by omega
 go_enter Tryz.func37,Tryz.ntmps37;go_wp2_with fail
 refine Calls.mono (show Calls Tryz.prog 97 _ _ _ from(by simpa using hnum)) ?_;rintro e w' ⟨rfl,hW⟩;go_wp2_with fail
 (try simp only [Exit.inBlock,Exit.then]);refine bodyPost_end (results_none rfl _ _ _) rfl ?_
 refine⟨rfl,?_⟩;unfold intB;rw [zig_nat];exact hW
theorem strs_at {l:List ByteArray}{i:Nat}(h:i<l.length):(strCells l)[i]? =some (.string l[i]):=strCells_at h
set_option maxRecDepth 100000 in
set_option maxHeartbeats 2000000 in
theorem wtexts_t (W0:World) (K:KL) (w:World) (g:Nat) (pre:List UInt8) (A:Option Addr) (n c:Nat) (l:List ByteArray) (h:WrAt W0 K w g pre) (hR:Rd W0 1 A n (strCells l)) (hn:l.length=n) (hm:n≤4096) (hs:∀s∈l,s.size≤65536) (hl:pre.length+(textsB l).length≤50000000):
  Calls Tryz.prog 34 #[.pointer (some ⟨g,0,none⟩),.slice A n c] w fun e w'=>e= .returned (.tuple #[])∧WrAt W0 K w' g (pre++textsB l):=by
 have hRh:=zh hR;have hcnt:=wcount_t W0 K w g pre n h (by omega) (by omega);have d1:decide (4096<(n:Int))=false:=decide_eq_false (by omega);have h1:¬4096<(n:Int):=by omega
 clear hR h;go_enter Tryz.func34,Tryz.ntmps34;go_wp2_with fail
 refine Calls.mono (show Calls Tryz.prog 35 _ _ _ from hcnt) ?_;rintro e W1 ⟨rfl,hW⟩;have hWh:=zh hW;clear hcnt hW;go_wp2_with fail
 go_loopg [15] (n+1) (fun gk s15 wr=>∃i:Nat,s15= .int .i64 i∧i≤n∧n - i<gk∧WrAt W0 K wr g (pre++numB n++(l.take i).flatMap textB))
 case atStart=>exact⟨0,rfl,by omega,by omega,by simpa using hWh.o⟩
 case round=>
  obtain⟨i,rfl,hi,hk,hW⟩:=hrel;have hWh:=zh hW;clear hW;by_cases hlt:i<n
  ·have hlt':(i:Int)<n:=by omega
   have hlth:=zh hlt;have hil:i<l.length:=by omega
   obtain⟨b,o,rfl,hc⟩:=(Rd.fr hRh.o hWh.o.fr (by simp [Off])).2 (by omega);have ck:=hc i _ (strs_at hil);have hlen:(pre++numB n++(l.take i).flatMap textB).length≤50000000:=by
    have k1:=hl;unfold textsB at k1;rw [hn,List.length_append]at k1;conv at k1=>lhs;rw [←List.take_append_drop i l]
    rw [List.flatMap_append,List.length_append]at k1;rw [List.length_append,List.length_append];omega
   have ht:=wtext_t W0 K wr g _ l[i] hWh.o (by have:=hs l[i] (List.getElem_mem hil);omega) hlen;have htk:=zh (show pre++numB n++(l.take i).flatMap textB++textB l[i]=pre++numB n++(l.take (i+1)).flatMap textB by rw [List.take_succ_eq_append_getElem hil,List.flatMap_append];simp);obtain⟨x,hx⟩:∃z,Hid (l[i]=z):=⟨_,zh rfl⟩
   rw [hx.o]at ck ht htk;clear hc hlen;go_wp2_with fail
   refine Calls.mono (show Calls Tryz.prog 33 _ _ _ from ht) ?_;rintro e w' ⟨rfl,hW2⟩;have hW2h:=zh hW2;clear hW2 ht ck;go_wp2_with fail
   go_roundg (n - i)
   case measure=>have:=hlth.o;omega
   case rel=>exact⟨i+1,by go_num,by have:=hlth.o;omega,by have:=hlth.o;omega,by rw [←htk.o];exact hW2h.o⟩
  ·have hin:i=n:=by omega
   have hge:¬(i:Int)<n:=by omega
   have hfin:=zh (show pre++numB n++(l.take i).flatMap textB=pre++textsB l by unfold textsB;rw [hin,List.take_of_length_le (by omega),hn];simp);clear hlt;go_wp2_with fail
   (try simp only [Exit.inBlock,Exit.then]);refine bodyPost_end (results_none rfl _ _ _) rfl ?_
   refine⟨rfl,?_⟩;rw [←hfin.o];exact hWh.o
end Go.Proofs.YtpmgepijkhaonaaGreat
namespace Go.Proofs.YtpmgepijkhaonaaGreat
open Go.RowKit Go.Sig
def crcCells:Array Value:=(crcTab.map wv).toArray
theorem infoCrc:(Tryz.prog.info? 274).map (·.size)=some crcCells.size:=by kernel_rfl
theorem uCrc:Tryz.prog.underlying 274=some (.array 16 171):=by kernel_rfl
theorem crcOne:crcCells.all (·.oneCell')=true:=by kernel_rfl
theorem crcCells_get {i:Nat}(hi:i<16):crcCells[i]? =some (.int .u32 ((crcTab.getD i 0).toNat:Int)):=by
 unfold crcCells;have h:i<crcTab.length:=hi;simp [List.getD,List.getElem?_map,List.getElem?_eq_getElem h,wv]
theorem halves_t (w:World):Calls Tryz.prog 203 #[] w fun e w'=>e= .returned (.agg crcCells)∧Fr [] w w':=by
 go_enter Tryz.func203,Tryz.ntmps203;go_wp2_with (first
  | (refine wpList_build_k rfl 274 _ rfl (cells:=crcCells) ?_ ?_;(focus kernel_rfl))
  | (refine wpList_store_row rfl 274 _ _ rfl w.heap.size crcCells rfl rfl 274 _ (Blk.new w 274 _) infoCrc (by kernel_rfl) crcOne ?_))
 have B:=fun cs=>Blk.setRow (Blk.new w 274 cs) crcCells;exact bodyPost_ret (v:= .agg crcCells) (results_cell_row rfl _ _ w.heap.size 274 crcCells (0,0) _ rfl (B _) uCrc rfl infoCrc) rfl ⟨rfl,((Fr.refl _ _).alloc _).setRow (.inr (Nat.le_refl _)) _⟩
theorem crc_in (c:UInt32) (x:UInt8):bits .xor .u32 (c.toNat:Int) ((x.toNat:Int)%4294967296)=((c^^^UInt32.ofNat x.toNat).toNat:Int):=by
 have hx:=x.toNat_lt;have e:(x.toNat:Int)%4294967296=((UInt32.ofNat x.toNat).toNat:Int):=by rw [UInt32.toNat_ofNat_of_lt' (by simp [UInt32.size];omega)];omega
 rw [e,w_xor]
theorem crc_and (c:UInt32):bits .and .u32 (c.toNat:Int) 15=(((c&&&15).toNat:Nat):Int):=w_and c 15
theorem crc_and_lt (c:UInt32):(c&&&15).toNat<16:=by
 rw [UInt32.toNat_and];exact Nat.lt_of_le_of_lt Nat.and_le_right (by decide)
theorem crc_half (c:UInt32) (t:Nat) (ht:(c&&&15).toNat=t):bits .xor .u32 ((c.toNat:Int) / 16) ((crcTab.getD t 0).toNat:Int)=((crcHalf c).toNat:Int):=by
 subst ht;rw [w_shr c 4 4 (by decide) 16 (by decide),w_xor];rfl
theorem crc_not (c:UInt32):bits .xor .u32 IntKind.u32.max (c.toNat:Int)=((4294967295^^^c).toNat:Int):=w_xor 4294967295 c
set_option maxRecDepth 100000 in
set_option maxHeartbeats 2000000 in
theorem more_t (w:World) (A:Option Addr) (n c:Nat) (l:List UInt8) (h:Byts w A n l) (hmax:n≤1000000):
  Calls Tryz.prog 148 #[.int .u32 0,.slice A n c] w fun e w'=>e= .returned (.int .u32 ((crcM l).toNat:Int))∧Fr [] w w':=by
 have hh:=zh h;have hln:=h.length;clear h;go_enter Tryz.func148,Tryz.ntmps148;go_wp2_with fail
 refine Calls.mono (show Calls Tryz.prog 203 _ _ _ from halves_t w) ?_;rintro e W1 ⟨rfl,F1⟩;go_upto_region 2 with(refine wpList_store_row rfl 274 _ _ rfl W1.heap.size crcCells rfl rfl 274 _ (Blk.new _ _ _) infoCrc (by kernel_rfl) crcOne ?_)
 refine wp_gen (fun W=>Blk W W1.heap.size 274 crcCells∧Fr [] w W) ⟨Blk.setRow (Blk.new _ _ _) _,(F1.alloc _).setRow (.inr F1.size) _⟩ ?_;rintro W ⟨hT,FW⟩;obtain⟨gt,HGT⟩:∃z,Hid (W1.heap.size=z):=⟨_,zh rfl⟩
 rw [HGT.o]at hT⊢;have hTh:=zh hT;have FWh:=zh FW;have hbW:=zh (Rd.fr hh.o FW (by simp [Off]));have hgt:=hT.lt;have hx0:=crc_not 0;clear F1 hT FW;go_wp2_with fail
 go_loopg [0,13] (n+1) (fun gk s0 s13 wr=>∃i:Nat,s0= .int .u32 (((l.take i).foldl crcStep 4294967295).toNat:Int)∧s13= .int .i64 i∧i≤n∧n - i<gk∧W=wr)
 case atStart=>exact⟨0,by rfl,rfl,by omega,by omega,rfl⟩
 case round=>
  obtain⟨i,rfl,rfl,hi,hk,rfl⟩:=hrel;obtain⟨C,hC⟩:∃z,Hid ((l.take i).foldl crcStep 4294967295=z):=⟨_,zh rfl⟩
  rw [hC.o];by_cases hlt:i<n
  ·have hlt':(i:Int)<n:=by omega
   have hlth:=zh hlt;have hil:i<l.length:=by omega
   obtain⟨b,o,rfl,hbl,hcell⟩:=Byts.at hbW.o hlt;have hx:l.getD i 0=l[i]:=by simp [List.getD,hil]
   rw [hx]at hcell;have htk:=zh (crc_take hil);obtain⟨x,hxe⟩:∃z,Hid (l[i]=z):=⟨_,zh rfl⟩
   rw [hxe.o]at hcell htk;have e1:=crc_in C x;obtain⟨C1,hC1⟩:∃z,Hid (C^^^UInt32.ofNat x.toNat=z):=⟨_,zh rfl⟩
   rw [hC1.o]at e1;have e2:=crc_and C1;have e2l:=crc_and_lt C1;obtain⟨t1,ht1⟩:∃z,Hid ((C1&&&15).toNat=z):=⟨_,zh rfl⟩
   rw [ht1.o]at e2 e2l;have e3:=crc_half C1 t1 ht1.o;have g1:=(hTh.o.cell t1).trans (crcCells_get e2l);obtain⟨T1,hT1⟩:∃z,Hid (crcTab.getD t1 0=z):=⟨_,zh rfl⟩
   rw [hT1.o]at e3 g1;obtain⟨C2,hC2⟩:∃z,Hid (crcHalf C1=z):=⟨_,zh rfl⟩
   rw [hC2.o]at e3;have e4:=crc_and C2;have e4l:=crc_and_lt C2;obtain⟨t2,ht2⟩:∃z,Hid ((C2&&&15).toNat=z):=⟨_,zh rfl⟩
   rw [ht2.o]at e4 e4l;have e5:=crc_half C2 t2 ht2.o;have g2:=(hTh.o.cell t2).trans (crcCells_get e4l);obtain⟨T2,hT2⟩:∃z,Hid (crcTab.getD t2 0=z):=⟨_,zh rfl⟩
   rw [hT2.o]at e5 g2;obtain⟨C3,hC3⟩:∃z,Hid (crcHalf C2=z):=⟨_,zh rfl⟩
   rw [hC3.o]at e5;have hlt1:(t1:Int)<16:=by omega
   have hlt2:(t2:Int)<16:=by omega
   clear hx0;go_wp2_with fail
   go_roundg (n - i)
   case measure=>have:=hlth.o;omega
   case rel=>refine⟨i+1,?_,by go_num,by have:=hlth.o;omega,by have:=hlth.o;omega,rfl⟩;rw [htk.o,hC.o,←hC3.o,←hC2.o,←hC1.o];rfl
  ·have hin:i=n:=by omega
   have hge:¬(i:Int)<n:=by omega
   have hfin:=zh (show crcM l=4294967295^^^C by rw [←hC.o,hin,List.take_of_length_le (by omega)];rfl);have hnot:=crc_not C;rw [←hfin.o]at hnot;clear hlt;go_wp2_with fail
   go_ret;exact⟨rfl,FWh.o⟩
theorem crcsum_t (w:World) (A:Option Addr) (n c:Nat) (l:List UInt8) (h:Byts w A n l) (hmax:n≤1000000):
  Calls Tryz.prog 100 #[.slice A n c] w fun e w'=>e= .returned (.int .u32 ((crcM l).toNat:Int))∧Fr [] w w':=by
 have hm:=more_t w A n c l h hmax;go_enter Tryz.func100,Tryz.ntmps100;go_wp2_with fail
 refine Calls.mono (show Calls Tryz.prog 148 _ _ _ from hm) ?_;rintro e w' ⟨rfl,F⟩;go_wp2_with fail
 go_ret;exact⟨rfl,F⟩
end Go.Proofs.YtpmgepijkhaonaaGreat
namespace Go.Proofs.YtpmgepijkhaonaaGreat
open Go.RowKit Go.Sig
theorem mk_bytes (w:World) (c:Nat) (hc:c≤100000000):∃w',(Instr.makeSlice 42 (.int .i64 0) (.int .i64 (c:Int))).run Tryz.prog w= .ok (.slice (some ⟨w.heap.size,0,none⟩) 0 c) w'∧
  Own w' 5 1 (.slice (some ⟨w.heap.size,0,none⟩) 0 c) 0 []∧Fr [] w w':=by
 obtain⟨i,hi,hz,hs,hby⟩:=info_parts tW1.info;obtain⟨w',h1,h2,h3⟩:=run_make_own (P:=Tryz.prog) w 0 42 5 i (.int .u8 0) 1 tW1.ty hi hz hs .i64 .i64 c (by rw [hby];omega) (by unfold maxLen;omega) (Nat.zero_le _);exact⟨w',h1,h2,(Fr.refl _ _).grown h3 (fun k hk=>by cases hk)⟩
theorem four_new (w:World) (x:UInt32) (a b c d:Int) (ty:TypeId) (ha:a=((x.toNat / 16777216%256:Nat):Int)) (hb:b=((x.toNat / 65536%256:Nat):Int)) (hc:c=((x.toNat / 256%256:Nat):Int)) (hd:d=((x.toNat%256:Nat):Int)):
  Rd (w.alloc (.cells #[.int .u8 a,.int .u8 b,.int .u8 c,.int .u8 d] ty)) 1 (some ⟨w.heap.size,0,none⟩) 4 ((bytes4 x).map bv):=by
 subst ha hb hc hd;refine⟨rfl,fun _=>⟨_,0,rfl,fun j u hu=> ?_⟩⟩;rw [(Blk.new w ty _).cell,Nat.zero_add];have e:(bytes4 x).map bv= [Value.int .u8 ((x.toNat / 16777216%256:Nat):Int),.int .u8 ((x.toNat / 65536%256:Nat):Int),.int .u8 ((x.toNat / 256%256:Nat):Int),.int .u8 ((x.toNat%256:Nat):Int)]:=by simp [bytes4,bv]
 rw [e]at hu;simpa using hu
def FourPost (w:World) (A:Option Addr) (n c:Nat) (l:List UInt8) (x:UInt32) (e:Ending) (w':World):Prop:=
 ∃A' c',e= .returned (.slice A' (n+4) c')∧Own w' 5 1 (.slice A' (n+4) c') (n+4) ((l++bytes4 x).map bv)∧Fr (rowOf (.slice A n c)) w w'∧∀g∈rowOf (.slice A' (n+4) c'),g∈rowOf (.slice A n c)∨w.heap.size≤g
theorem four_t (w:World) (A:Option Addr) (n c:Nat) (l:List UInt8) (x:UInt32) (h:Own w 5 1 (.slice A n c) n (l.map bv)) (hn:l.length=n) (hmax:n≤1000000):
  Calls Tryz.prog 99 #[.slice A n c,.int .u32 (x.toNat:Int)] w (FourPost w A n c l x):=by
 have hx:=x.toNat_lt;have hh:=zh h;clear h;go_enter Tryz.func99,Tryz.ntmps99;go_wp2_with (refine wpList_own_append tW1 (hh.o.fr ((Fr.refl [] _).alloc _) (by simp)) (four_new _ x _ _ _ _ _ (by omega) (by omega) (by omega) (by omega)) (bv_one _) (by simp) (by unfold maxLen;omega) (by omega) rfl rfl rfl rfl (fun v2 w2 p1 p2 p3=> ?_);obtain⟨A3,c3,rfl,hA3⟩:=p1.form)
 go_ret;refine⟨A3,c3,rfl,by rw [List.map_append];exact p1,(((Fr.refl [] w).alloc _).nil).trans p2,fun g hg=> ?_⟩;rcases p3 g hg with h |h
 ·exact .inl h
 ·exact .inr (by rw [h];simp)
def FramePost (w:World) (b:List UInt8) (e:Ending) (w':World):Prop:=
 ∃A c,e= .returned (.tuple #[.slice A (b.length+8) c,.int .i64 0])∧Own w' 5 1 (.slice A (b.length+8) c) (b.length+8) ((frameB b).map bv)∧Fr [] w w'
set_option maxRecDepth 100000 in
set_option maxHeartbeats 2000000 in
theorem wframe_t (W0:World) (K:KL) (w:World) (g:Nat) (b:List UInt8) (h:WrAt W0 K w g b) (hmax:b.length≤65536):
  Calls Tryz.prog 38 #[.pointer (some ⟨g,0,none⟩)] w (FramePost w b):=by
 obtain⟨hg,hF,_,A,c,hB,hO,hA⟩:=h;obtain⟨n,hn⟩:∃z,Hid (b.length=z):=⟨_,zh rfl⟩
 have hnm:n≤65536:=by have:=hn.o;omega
 rw [hn.o]at hB hO;have c0:=hB.cell 0;have c1:=hB.cell 1;simp only [zG,zH,zI]at c0 c1;have hgl:=hB.lt;have hnm':¬(65536:Int)<(n:Int):=by omega
 have hd:decide ((65536:Int)<(n:Int))=false:=decide_eq_false hnm';have hBh:=zh hB;have hOh:=zh hO;clear hB hO hA hF hg;go_enter Tryz.func38,Tryz.ntmps38;go_upto_region 7 with(fail)
 have c0h:=zh c0;have hcv:(n:Int)%4294967296=((UInt32.ofNat n).toNat:Int):=by rw [UInt32.toNat_ofNat_of_lt' (by simp [UInt32.size];omega)];omega
 obtain⟨x,hx⟩:∃z,Hid (UInt32.ofNat n=z):=⟨_,zh rfl⟩
 rw [hx.o]at hcv;have hcvh:=zh hcv;have hw1:IntKind.i64.wrap ((n:Int)+8)=(n:Int)+8:=by simp [IntKind.wrap,IntKind.bits,IntKind.signed];omega
 have hw2:IntKind.u32.wrap (n:Int)=(x.toNat:Int):=by rw [IntKind.wrap_u32'];exact hcv
 clear c1 hcv hnm' hd;refine wp_region_z (fun w'=>w'.cell? ⟨g,0,none⟩=some (.slice A n c)) [] (by kernel_rfl) c0 ?_;intro hHeld;refine wpZ_tk (i:=0) (v:= ?_) hHeld ?_ ?_;rotate_left
 ·(intro w hSw;go_simp<;>with_reducible rfl)
 try simp only [zA,zC,Act.put,zD,zE,zF]
 refine wpZ_tk (i:=1) (v:= ?_) hHeld ?_ ?_;rotate_left
 ·(intro w hSw;go_simp<;>with_reducible rfl)
 try simp only [zA,zB,zC,Act.put,zD,zE,zF]
 refine wpZ_tk (i:=2) (v:= ?_) hHeld ?_ ?_;rotate_left
 ·(intro w hSw;go_simp<;>with_reducible rfl)
 try simp only [zA,zB,zC,Act.put,zD,zE,zF]
 refine wpZ_tk (i:=3) (v:= ?_) hHeld ?_ ?_;rotate_left
 ·(intro w hSw;go_simp<;>with_reducible rfl)
 try simp only [zA,zB,zC,Act.put,zD,zE,zF]
 refine wpZ_tk (i:=4) (v:= ?_) hHeld ?_ ?_;rotate_left
 ·(intro w hSw;go_simp<;>with_reducible rfl)
 try simp only [zA,zB,zC,Act.put,zD,zE,zF]
 refine wpZ_tk (i:=5) (v:= ?_) hHeld ?_ ?_;rotate_left
 ·(intro w hSw;go_simp<;>with_reducible rfl)
 try simp only [zA,zB,zC,Act.put,zD,zE,zF]
 refine wpZ_tk (i:=6) (v:= ?_) hHeld ?_ ?_;rotate_left
 ·(intro w hSw;go_simp<;>with_reducible rfl)
 try simp only [zA,zB,zC,Act.put,zD,zE,zF]
 refine wpZ_tk (i:=8) (v:= ?_) hHeld ?_ ?_;rotate_left
 ·(intro w hSw;go_simp<;>with_reducible rfl)
 try simp only [zA,zB,zC,Act.put,zD,zE,zF]
 refine wpZ_tk (i:=9) (v:= ?_) hHeld ?_ ?_;rotate_left
 ·(intro w hSw;go_simp<;>with_reducible rfl)
 try simp only [zA,zB,zC,Act.put,zD,zE,zF]
 refine wpZ_tk (i:=10) (v:= ?_) hHeld ?_ ?_;rotate_left
 ·(intro w hSw;go_simp<;>with_reducible rfl)
 try simp only [zA,zB,zC,Act.put,zD,zE,zF]
 refine wpZ_tk (i:=11) (v:= ?_) hHeld ?_ ?_;rotate_left
 ·(intro w hSw;go_simp<;>with_reducible rfl)
 try simp only [zA,zB,zC,Act.put,zD,zE,zF]
 refine wpZ_tk (i:=12) (v:= ?_) hHeld ?_ ?_;rotate_left
 ·(intro w hSw;go_simp<;>with_reducible rfl)
 try simp only [zA,zB,zC,Act.put,zD,zE,zF]
 refine wpZ_tk (i:=13) (v:= ?_) hHeld ?_ ?_;rotate_left
 ·(intro w hSw;go_simp<;>with_reducible rfl)
 try simp only [zA,zB,zC,Act.put,zD,zE,zF]
 refine wpZ_tk (i:=14) (v:= ?_) hHeld ?_ ?_;rotate_left
 ·(intro w hSw;go_simp<;>with_reducible rfl)
 try simp only [zA,zB,zC,Act.put,zD,zE,zF]
 refine wpZ_one (i:=7) (by kernel_rfl) rfl (fun K hK=> ?_);obtain⟨w1,hmk,hO1,F1⟩:=mk_bytes w.drew (n+8) (by omega);have e8:(((n+8:Nat):Nat):Int)=(n:Int)+8:=by omega
 rw [e8]at hmk;have F1:Fr [] w w1:=F1.of_drew;go_simp;refine hK.out _ _ (cell_fr F1 c0h.o) (fun hHeld=> ?_);clear hK K;try simp only [zA,zB,zC,Act.put,zD,zE,zF]
 refine wpZ_one (i:=15) (by kernel_rfl) rfl (fun K hK=> ?_);go_simp;refine Calls.mono (show Calls Tryz.prog 99 _ _ _ from four_t w1 _ 0 (n+8) [] x hO1 rfl (by omega)) ?_;rintro e w2 ⟨A2,c2,rfl,hO2,F2,hr2⟩;have hgr:g∉rowOf (.slice (some ⟨w.drew.heap.size,0,none⟩) 0 (n+8)):=fun hg=>by obtain⟨ad,e,rfl⟩:=rowOf_mem.1 hg;obtain rfl:=Option.some.inj e;exact Nat.lt_irrefl _ hgl
 have k1:=cell_fr F1 c0h.o;have k2:=(F2.cell (p:=⟨g,0,none⟩) (block_lt_of_cell k1) hgr).trans k1;try dsimp only
 refine hK.out _ _ (k2) (fun hHeld=> ?_);clear hK K;try simp only [zA,zB,zC,Act.put,zD,zE,zF]
 refine wpZ_tk (i:=16) (v:= ?_) hHeld ?_ ?_;rotate_left
 ·(intro w hSw;go_simp<;>with_reducible rfl)
 try simp only [zA,zB,zC,Act.put,zD,zE,zF]
 refine wpZ_done (by kernel_rfl) ?_ _;go_upto_region 8 with(fail)
 have FW2:Fr [] w w2:=F1.andThen F2 (fun i hi=> .inr (by obtain⟨ad,e,rfl⟩:=rowOf_mem.1 hi;obtain rfl:=Option.some.inj e;exact Nat.le_refl _));have hfresh:∀i∈rowOf (.slice A2 (0+4) c2),w.heap.size≤i:=fun i hi=>by
  rcases hr2 i hi with h |h
  ·obtain⟨ad,e,rfl⟩:=rowOf_mem.1 h;obtain rfl:=Option.some.inj e;exact Nat.le_refl _
  ·have:=F1.size;omega
 refine wp_gen (fun V=>Own V 5 1 (.slice A2 (0+4) c2) (0+4) ((bytes4 x).map bv)∧Fr [] w V) ⟨hO2,FW2⟩ ?_;rintro V ⟨hOV,FV⟩;rw [Nat.zero_add]at hOV hfresh⊢;have hOVh:=zh hOV;have FVh:=zh FV;have hfreshh:=zh hfresh;have hBV:=hBh.o.fr FV (by simp);have c0:=hBV.cell 0;simp only [zG,zH]at c0;have hgl:=hBV.lt;have hsum:=crcsum_t V A n c b (show Byts V A n b from(hOh.o.fr FV (by simp)).rd) (by omega);clear hHeld hO1 F1 hmk hO2 F2 hr2 hgr k1 k2 FW2 hOV FV hfresh hBV c0h hw1 hw2;go_wp2_with fail
 refine Calls.mono (show Calls Tryz.prog 100 _ _ _ from hsum) ?_;rintro e V1 ⟨rfl,F1⟩;have hf2:=four_t V1 A2 4 c2 (bytes4 x) (crcM b) (hOVh.o.fr F1 (by simp)) rfl (by omega);have F1h:=zh F1;clear hsum F1 c0 hgl;go_wp2_with fail
 refine Calls.mono (show Calls Tryz.prog 99 _ _ _ from hf2) ?_;rintro e V2 ⟨A3,c3,rfl,hO3,F3,hr3⟩;have FW:Fr [] w V2:=(FVh.o.trans F1h.o).andThen F3 (fun i hi=> .inr (hfreshh.o i hi));have hBV2:=hBh.o.fr FW (by simp);have c0:=hBV2.cell 0;simp only [zG,zH]at c0;have hgl:=hBV2.lt;have hRb:=(hOh.o.fr FW (by simp)).rd;have hnA:A=none→n=0:=fun e=>by subst e;exact rd_none hRb
 have hO3h:=zh hO3;have FWh:=zh FW;have hr3h:=zh (show∀i∈rowOf (.slice A3 (4+4) c3),w.heap.size≤i from fun i hi=>by
  rcases hr3 i hi with h |h
  ·exact hfreshh.o i h
  ·have:=(FVh.o.trans F1h.o).size;omega)
 have hRbh:=zh hRb;clear hf2 hO3 F3 hr3 FW hBV2 hRb;go_wp2_with (refine wpList_own_append tW1 hO3h.o hRbh.o (bv_one _) hnA (by unfold maxLen;omega) (by omega) rfl rfl rfl rfl (fun v2 w3 p1 p2 p3=> ?_);obtain⟨A4,c4,rfl,hA4⟩:=p1.form)
 go_ret2;refine⟨A4,c4,?_,?_,FWh.o.andThen p2 (fun i hi=> .inr (hr3h.o i hi))⟩
 ·rw [hn.o,show 4+4+n=n+8 by omega];rfl
 ·have e8:4+4+n=b.length+8:=by rw [hn.o];omega
  rw [e8]at p1;have ef:(bytes4 x++bytes4 (crcM b)).map bv++b.map bv=(frameB b).map bv:=by unfold frameB;rw [hn.o,hx.o];simp
  rw [←ef];exact p1
end Go.Proofs.YtpmgepijkhaonaaGreat
namespace Go.Proofs.YtpmgepijkhaonaaGreat
open Go.RowKit Go.Sig
theorem famOk_sz {w:World}{x:FA}(hx:FamIn w [] x) (ok:FamOk x.f):FamSz x:=by
 have hsh:=fam_short hx (.inl ok);have h1:=(idM_size ok.id).2;have h2:=setM_sizes ok.set;refine⟨by omega,by have:=hsh.scope;omega,fun s hs=>by have:=h2.2 s hs;omega,by have:=hsh.toks;omega,fun t ht=> ?_,by have:=hsh.leases;omega⟩;have hm:t.tok∈x.f.tokens:=by rw [←hx.ts];exact List.mem_map_of_mem ht
 have h3:=setM_sizes (ok.each _ hm).set;exact⟨by have:=hsh.each t ht;omega,fun s hs=>by have:=h3.2 s hs;omega⟩
theorem take_flat {α:Type}{f:α→List UInt8}{l:List α}{i:Nat}{pre:List UInt8}(h:i<l.length):pre++(l.take i).flatMap f++f l[i]=pre++(l.take (i+1)).flatMap f:=by
 rw [List.take_succ_eq_append_getElem h,List.flatMap_append];simp
theorem three_at {w:World}{g:Nat}{t:TypeId}{a b c:ByteArray}(h:Blk w g t #[.string a,.string b,.string c]) {i:Nat}(hi:i< [a,b,c].length):w.cell? ⟨g,i,none⟩=some (.string [a,b,c][i]):=by
 rw [h.cell];match i,hi with
 | 0,_=>rfl
 | 1,_=>rfl
 | 2,_=>rfl
def tokArr (t:TA):Array Value:=#[.int .i64 t.tok.kind,.slice t.A t.tok.scope.length t.c,.bool t.tok.used]
theorem tokArr_info (t:TA):(Tryz.prog.info? 29).map (·.size)=some (tokArr t).size:=by unfold tokArr;exact infoIss
theorem tokArr_one (t:TA):(tokArr t).all (·.oneCell')=true:=by unfold tokArr;kernel_rfl
theorem tokArr_size (t:TA):(tokArr t).size=3:=rfl
theorem tok_range {w:World}{g o:Nat}{t:TA}(h:w.rangeAt g o t.cells):∀j v,(tokArr t)[j]? =some v→w.cell? ⟨g,o+j,none⟩=some v:=fun j v hv=>h j v (by
 rw [←Array.getElem?_toList]at hv;exact hv)
set_option maxRecDepth 100000 in
set_option maxHeartbeats 8000000 in
theorem btext_t (w:World) (x:FA) (hx:FamIn w [] x) (ok:FamOk x.f):
  Calls Tryz.prog 8 #[x.val] w fun e w'=>e= .returned (.tuple #[.string (famText x.f),.int .i64 0])∧Fr [] w w':=by
 have hxh:=zh hx;have okh:=zh ok;have hrt:=zh (rightM_ok.2 ok);have hszh:=zh (famOk_sz hx ok);have hsh:=zh (fam_short hx (.inl ok));clear hx ok;unfold FA.val;go_enter Tryz.func8,Tryz.ntmps8;go_upto_region 1 with(fail)
 refine wp_gen (fun W=>Blk W w.heap.size 26 x.cells∧Fr [] w W) ⟨Blk.new _ _ _,(Fr.refl _ _).alloc _⟩ ?_;rintro W0 ⟨hB,f0⟩;obtain⟨gf,HGF⟩:∃z,Hid (w.heap.size=z):=⟨_,zh rfl⟩
 rw [HGF.o]at hB⊢;have hr:=right_t W0 x (hxh.o.fr f0) hszh.o;rw [hrt.o]at hr;have hBh:=zh hB;have f0h:=zh f0;clear f0;go_wp2_with (refine wpList_load_at rfl 26 _ rfl rfl hB (sub_self _) uFam rfl (infoFamL _) ?_;rw [Array.toArray_toList])
 refine hr.mono ?_;rintro e W1 ⟨rfl,F1⟩;have F1h:=zh (f0h.o.trans F1);have hB1h:=zh (hBh.o.fr F1 (by simp));clear hr F1 hB;go_wp2_with fail
 refine Calls.mono (show Calls Tryz.prog 32 _ _ _ from wnew_t W1) ?_;rintro e W2 ⟨gw,rfl,hW⟩;have hx1:=zh (hxh.o.fr F1h.o);have hWh:=zh hW;have hfam:=zh (show∀v g l K,WrAt W1 K v g l→Blk v gf 26 x.cells from fun v g l K hv=>hB1h.o.fr hv.fr (by simp));clear hW;obtain⟨i0,i1,i2,i3,i4,i5,i6,i7,i8,i9,i10,hgl⟩:=fam_cells (hfam.o _ _ _ _ hWh.o);go_upto_block 0 with(fail)
 refine wp_gen (fun V=>Blk V W2.heap.size 9 #[.string x.f.id,.string x.f.client,.string x.f.user]∧WrAt W1 [] V gw []) ⟨Blk.new _ _ _,hWh.o.fr0 ((Fr.refl _ _).alloc _)⟩ ?_;rintro V ⟨hS,hV⟩;obtain⟨gs,HGS⟩:∃z,Hid (W2.heap.size=z):=⟨_,zh rfl⟩
 rw [HGS.o]at hS⊢;have hVh:=zh (hV.keep hS (by decide) (by have:=hWh.o.lt;have:=HGS.o;omega));have htx:∀q∈ [x.f.client,x.f.user,x.f.redirect,x.f.challenge,x.f.method],q.size≤128:=fun q hq=>textsM_mem okh.o.texts hq;simp only [List.mem_cons,List.not_mem_nil,or_false,forall_eq_or_imp,forall_eq]at htx;obtain⟨t1,t2,t3,t4,t5⟩:=htx;have hsz3:=zh (show∀q∈ [x.f.id,x.f.client,x.f.user],q.size≤128 by
  simp only [List.mem_cons,List.not_mem_nil,or_false,forall_eq_or_imp,forall_eq];have:=(idM_size okh.o.id).2;exact⟨by omega,t1,t2⟩)
 have hsz6:=zh (show∀q∈ [x.f.redirect,x.f.challenge,x.f.method],q.size≤128 by
  simp only [List.mem_cons,List.not_mem_nil,or_false,forall_eq_or_imp,forall_eq];exact⟨t3,t4,t5⟩)
 clear hS hV t1 t2 t3 t4 t5 i0 i1 i2 i3 i4 i5 i6 i7 i8 i9 i10 hgl;go_cut [6]from 28 to 34 (fun s6 wx=>WrAt W1 [] wx gw (([]:List UInt8)++ [x.f.id,x.f.client,x.f.user].flatMap textB))
 case first=>
  go_wp2_with fail
  go_loopg [27] 4 (fun gk s27 wr=>∃i:Nat,s27= .int .i64 i∧i≤3∧3 - i<gk∧WrAt W1 [(gs,#[.string x.f.id,.string x.f.client,.string x.f.user],9)] wr gw (([]:List UInt8)++([x.f.id,x.f.client,x.f.user].take i).flatMap textB))
  case atStart=>exact⟨0,rfl,by omega,by omega,by simpa using hVh.o⟩
  case round=>
   obtain⟨i,rfl,hi,hk,hW⟩:=hrel;have hWh:=zh hW;clear hW;by_cases hlt:i<3
   ·have hlt':(i:Int)<3:=by omega
    have hlth:=zh hlt;have hil:i< [x.f.id,x.f.client,x.f.user].length:=hlt;have hS:=(hWh.o.kp _ (List.mem_singleton.2 rfl)).1;have ck:=three_at hS hil;have hgs:=hS.lt;have hsz:=hsz3.o ([x.f.id,x.f.client,x.f.user][i]) (List.getElem_mem hil);have hlen:(([]:List UInt8)++([x.f.id,x.f.client,x.f.user].take i).flatMap textB).length≤500000:=by
     have k2:=flatMap_le (f:=textB) (k:=138) (l:= [x.f.id,x.f.client,x.f.user].take i) fun q hq=>by have:=textB_length q;have:=hsz3.o q (List.mem_of_mem_take hq);omega
     have k3:([x.f.id,x.f.client,x.f.user].take i).length≤3:=by rw [List.length_take];exact Nat.min_le_right _ _
     have k4:=Nat.mul_le_mul_right 138 k3;have k5:=(show([]:List UInt8).length≤0 by simp)
     rw [List.length_append];omega
    have ht:=wtext_t W1 [(gs,#[.string x.f.id,.string x.f.client,.string x.f.user],9)] wr gw _ ([x.f.id,x.f.client,x.f.user][i]) hWh.o (by omega) (by omega);have htk:=zh (take_flat (f:=textB) (pre:=([]:List UInt8)) hil);obtain⟨y,hy⟩:∃z,Hid ([x.f.id,x.f.client,x.f.user][i]=z):=⟨_,zh rfl⟩
    rw [hy.o]at ck ht htk;clear hS hlen hsz;go_wp2_with fail
    refine Calls.mono (show Calls Tryz.prog 33 _ _ _ from ht) ?_;rintro e w' ⟨rfl,hW2⟩;have hW2h:=zh hW2;clear hW2 ht ck hgs;go_wp2_with fail
    go_roundg (3 - i)
    case measure=>have:=hlth.o;omega
    case rel=>exact⟨i+1,by go_num,by have:=hlth.o;omega,by have:=hlth.o;omega,by rw [←htk.o];exact hW2h.o⟩
   ·have hin:i=3:=by omega
    have hge:¬(i:Int)<3:=by omega
    have hfin:=zh (show WrAt W1 [] wr gw (([]:List UInt8)++ [x.f.id,x.f.client,x.f.user].flatMap textB) by have:=hWh.o.less;rwa [hin]at this);clear hlt;go_wp2_with fail
    go_meet;exact hfin.o
 case rest=>
  have hW3:=zh hcut;clear hcut;obtain⟨b1,hb1⟩:∃z,Hid (([]:List UInt8)++ [x.f.id,x.f.client,x.f.user].flatMap textB=z):=⟨_,zh rfl⟩
  have hb1l:=zh (show b1.length≤414 by
   rw [←hb1.o,List.nil_append];have k2:=flatMap_le (f:=textB) (k:=138) (l:= [x.f.id,x.f.client,x.f.user]) fun q hq=>by have:=textB_length q;have:=hsz3.o q hq;omega
   simpa using k2)
  rw [hb1.o]at hW3;obtain⟨i0,i1,i2,i3,i4,i5,i6,i7,i8,i9,i10,hgl⟩:=fam_cells (hfam.o _ _ _ _ hW3.o);have hts:=wtexts_t W1 [] wc gw b1 x.sA x.f.scope.length x.sc x.f.scope hW3.o hx1.o.scope.1 rfl (by have:=(setM_sizes okh.o.set).1;omega) (fun q hq=>by have:=(setM_sizes okh.o.set).2 q hq;omega) (by have:=hb1l.o;have:=scopeB_length okh.o.set;omega);go_wp2_with fail
  refine Calls.mono (show Calls Tryz.prog 34 _ _ _ from hts) ?_;rintro e W4 ⟨rfl,hW4⟩;have hW4h:=zh hW4;clear hts hW4 i0 i1 i2 i3 i4 i5 i6 i7 i8 i9 i10 hgl;obtain⟨b2,hb2⟩:∃z,Hid (b1++textsB x.f.scope=z):=⟨_,zh rfl⟩
  have hb2l:=zh (show b2.length≤2792 by rw [←hb2.o,List.length_append];have:=scopeB_length okh.o.set;have:=hb1l.o;omega);rw [hb2.o]at hW4h;obtain⟨i0,i1,i2,i3,i4,i5,i6,i7,i8,i9,i10,hgl⟩:=fam_cells (hfam.o _ _ _ _ hW4h.o);go_upto_block 2 with(fail)
  refine wp_gen (fun V=>Blk V W4.heap.size 9 #[.string x.f.redirect,.string x.f.challenge,.string x.f.method]∧WrAt W1 [] V gw b2) ⟨Blk.new _ _ _,hW4h.o.fr0 ((Fr.refl _ _).alloc _)⟩ ?_;rintro V2 ⟨hS,hV⟩;obtain⟨gs2,HGS2⟩:∃z,Hid (W4.heap.size=z):=⟨_,zh rfl⟩
  rw [HGS2.o]at hS⊢;have hVh:=zh (hV.keep hS (by decide) (by have:=hW4h.o.lt;have:=HGS2.o;omega));have hsz3:=hsz6;clear hS hV i0 i1 i2 i3 i4 i5 i6 i7 i8 i9 i10 hgl;go_cut [8]from 48 to 54 (fun s8 wx=>WrAt W1 [] wx gw (b2++ [x.f.redirect,x.f.challenge,x.f.method].flatMap textB))
  case first=>
   go_wp2_with fail
   go_loopg [47] 4 (fun gk s47 wr=>∃i:Nat,s47= .int .i64 i∧i≤3∧3 - i<gk∧WrAt W1 [(gs2,#[.string x.f.redirect,.string x.f.challenge,.string x.f.method],9)] wr gw (b2++([x.f.redirect,x.f.challenge,x.f.method].take i).flatMap textB))
   case atStart=>exact⟨0,rfl,by omega,by omega,by simpa using hVh.o⟩
   case round=>
    obtain⟨i,rfl,hi,hk,hW⟩:=hrel;have hWh:=zh hW;clear hW;by_cases hlt:i<3
    ·have hlt':(i:Int)<3:=by omega
     have hlth:=zh hlt;have hil:i< [x.f.redirect,x.f.challenge,x.f.method].length:=hlt;have hS:=(hWh.o.kp _ (List.mem_singleton.2 rfl)).1;have ck:=three_at hS hil;have hgs:=hS.lt;have hsz:=hsz3.o ([x.f.redirect,x.f.challenge,x.f.method][i]) (List.getElem_mem hil);have hlen:(b2++([x.f.redirect,x.f.challenge,x.f.method].take i).flatMap textB).length≤500000:=by
      have k2:=flatMap_le (f:=textB) (k:=138) (l:= [x.f.redirect,x.f.challenge,x.f.method].take i) fun q hq=>by have:=textB_length q;have:=hsz3.o q (List.mem_of_mem_take hq);omega
      have k3:([x.f.redirect,x.f.challenge,x.f.method].take i).length≤3:=by rw [List.length_take];exact Nat.min_le_right _ _
      have k4:=Nat.mul_le_mul_right 138 k3;have k5:=hb2l.o;rw [List.length_append];omega
     have ht:=wtext_t W1 [(gs2,#[.string x.f.redirect,.string x.f.challenge,.string x.f.method],9)] wr gw _ ([x.f.redirect,x.f.challenge,x.f.method][i]) hWh.o (by omega) (by omega);have htk:=zh (take_flat (f:=textB) (pre:=b2) hil);obtain⟨y,hy⟩:∃z,Hid ([x.f.redirect,x.f.challenge,x.f.method][i]=z):=⟨_,zh rfl⟩
     rw [hy.o]at ck ht htk;clear hS hlen hsz;go_wp2_with fail
     refine Calls.mono (show Calls Tryz.prog 33 _ _ _ from ht) ?_;rintro e w' ⟨rfl,hW2⟩;have hW2h:=zh hW2;clear hW2 ht ck hgs;go_wp2_with fail
     go_roundg (3 - i)
     case measure=>have:=hlth.o;omega
     case rel=>exact⟨i+1,by go_num,by have:=hlth.o;omega,by have:=hlth.o;omega,by rw [←htk.o];exact hW2h.o⟩
    ·have hin:i=3:=by omega
     have hge:¬(i:Int)<3:=by omega
     have hfin:=zh (show WrAt W1 [] wr gw (b2++ [x.f.redirect,x.f.challenge,x.f.method].flatMap textB) by have:=hWh.o.less;rwa [hin]at this);clear hlt;go_wp2_with fail
     go_meet;exact hfin.o
  case rest=>
   have hW5:=zh hcut;clear hcut;obtain⟨b3,hb3⟩:∃z,Hid (b2++ [x.f.redirect,x.f.challenge,x.f.method].flatMap textB=z):=⟨_,zh rfl⟩
   have hb3l:=zh (show b3.length≤3206 by
    rw [←hb3.o,List.length_append];have k2:=flatMap_le (f:=textB) (k:=138) (l:= [x.f.redirect,x.f.challenge,x.f.method]) fun q hq=>by have:=textB_length q;have:=hsz6.o q hq;omega
    have k3:([x.f.redirect,x.f.challenge,x.f.method].flatMap textB).length≤414:=by simpa using k2
    have:=hb2l.o;omega)
   rw [hb3.o]at hW5;obtain⟨kc,hkc⟩:∃k:Nat,x.f.code=k∧k≤2:=by
    rcases okh.o.code with h |h |h
    ·exact⟨0,h,by omega⟩
    ·exact⟨1,h,by omega⟩
    ·exact⟨2,h,by omega⟩
   have hkch:=zh hkc;obtain⟨i0,i1,i2,i3,i4,i5,i6,i7,i8,i9,i10,hgl⟩:=fam_cells (hfam.o _ _ _ _ hW5.o);rw [hkc.1]at i7;have hc1:=wcount_t W1 [] wc gw b3 kc hW5.o (by omega) (by have:=hb3l.o;omega);clear hkc;go_wp2_with fail
   refine Calls.mono (show Calls Tryz.prog 35 _ _ _ from hc1) ?_;rintro e W6 ⟨rfl,hW6⟩;have hW6h:=zh hW6;clear hc1 hW6 i0 i1 i2 i3 i4 i5 i6 i7 i8 i9 i10 hgl;obtain⟨b4,hb4⟩:∃z,Hid (b3++numB kc=z):=⟨_,zh rfl⟩
   have hb4l:=zh (show b4.length≤3216 by rw [←hb4.o,List.length_append];have:=numB_length kc;have:=hb3l.o;omega);rw [hb4.o]at hW6h;obtain⟨i0,i1,i2,i3,i4,i5,i6,i7,i8,i9,i10,hgl⟩:=fam_cells (hfam.o _ _ _ _ hW6h.o);have htn8:x.ts.length≤8:=by have:=okh.o.tokens;have:=hx1.o.len;omega
   have hc2:=wcount_t W1 [] W6 gw b4 x.ts.length hW6h.o (by omega) (by have:=hb4l.o;omega);go_wp2_with fail
   refine Calls.mono (show Calls Tryz.prog 35 _ _ _ from hc2) ?_;rintro e W7 ⟨rfl,hW7⟩;have hW7h:=zh hW7;clear hc2 hW7 i0 i1 i2 i3 i4 i5 i6 i7 i8 i9 i10 hgl;obtain⟨b5,hb5⟩:∃z,Hid (b4++numB x.ts.length=z):=⟨_,zh rfl⟩
   have hb5l:=zh (show b5.length≤3226 by rw [←hb5.o,List.length_append];have:=numB_length x.ts.length;have:=hb4l.o;omega);rw [hb5.o]at hW7h;obtain⟨i0,i1,i2,i3,i4,i5,i6,i7,i8,i9,i10,hgl⟩:=fam_cells (hfam.o _ _ _ _ hW7h.o);obtain⟨tn,htn⟩:∃z,Hid (x.ts.length=z):=⟨_,zh rfl⟩
   obtain⟨tA,htA⟩:∃z,Hid (x.tA=z):=⟨_,zh rfl⟩
   rw [htn.o]at htn8;rw [htn.o,htA.o]at i8;have htoks:=zh (show Rd W1 3 x.tA x.ts.length (tokCells x.ts)from hx1.o.toks.1);go_upto_block 4 with(fail)
   go_cut [10]from 68 to 83 (fun s10 wx=>WrAt W1 [] wx gw (b5++(x.ts.map (·.tok)).flatMap tokB))
   case first=>
    go_wp2_with fail
    go_loopg [67] (tn+1) (fun gk s67 wr=>∃i:Nat,s67= .int .i64 i∧i≤tn∧tn - i<gk∧WrAt W1 [] wr gw (b5++((x.ts.map (·.tok)).take i).flatMap tokB))
    case atStart=>exact⟨0,rfl,by omega,by omega,by simpa using hW7h.o⟩
    case round=>
     obtain⟨i,rfl,hi,hk,hW⟩:=hrel;have hWh:=zh hW;clear hW;by_cases hlt:i<tn
     ·have hlt':(i:Int)<tn:=by omega
      have hlth:=zh hlt;obtain⟨t,tb,tof,eA,hti,htr⟩:=TA.row (Rd.fr htoks.o hWh.o.fr (by simp [Off])) rfl (by rw [htn.o];exact hlt);rw [htA.o]at eA;subst eA;have htm:=List.mem_of_getElem? hti;have hil:i<(x.ts.map (·.tok)).length:=by rw [List.length_map,htn.o];exact hlt
      have hgi:(x.ts.map (·.tok))[i]=t.tok:=by rw [List.getElem_map];have:=List.getElem?_eq_some_iff.1 hti;rw [this.2]
      have htok:=okh.o.each t.tok (by rw [←hx1.o.ts];exact List.mem_map_of_mem htm);have htS:=zh (hx1.o.each t htm).1;have htokh:=zh htok;have hlen:(b5++((x.ts.map (·.tok)).take i).flatMap tokB).length≤30000:=by
       have k2:=flatMap_le (f:=tokB) (k:=2389) (l:=(x.ts.map (·.tok)).take i) fun q hq=>by have hq2:=okh.o.each q (by rw [←hx1.o.ts];exact List.mem_of_mem_take hq);have k1:=numB_length q.kind.toNat;have k2:=scopeB_length hq2.set;unfold tokB boolB;simp only [List.length_append,List.length_cons,List.length_nil];omega
       have k3:((x.ts.map (·.tok)).take i).length≤8:=by rw [List.length_take];omega
       have k4:=Nat.mul_le_mul_right 2389 k3;have:=hb5l.o;rw [List.length_append];omega
      have hlenh:=zh hlen;have htk:=zh (take_flat (f:=tokB) (pre:=b5) hil);rw [hgi]at htk;obtain⟨c5,hc5⟩:∃z,Hid (b5++((x.ts.map (·.tok)).take i).flatMap tokB=z):=⟨_,zh rfl⟩
      rw [hc5.o]at hlenh htk hWh;clear htm hil hgi htok hlen hti i0 i1 i2 i3 i4 i5 i6 i7 i9 i10;have hcs:=tok_range htr;go_upto_region 20 with(first
       | (refine wpList_load_cells rfl 29 _ rfl rfl hcs uIss rfl (tokArr_info t) ?_)
       | (refine wpList_store_row rfl 29 _ _ rfl wr.heap.size (tokArr t) rfl rfl 29 _ (Blk.new _ _ _) (tokArr_info t) (by rw [tokArr_size];rfl) (tokArr_one t) ?_))
      refine wp_gen (fun V=>Blk V wr.heap.size 29 (tokArr t)∧WrAt W1 [] V gw c5) ⟨Blk.setRow (Blk.new _ _ _) _,hWh.o.fr0 (((Fr.refl [] wr).alloc _).setRow (.inr (Nat.le_refl _)) _)⟩ ?_;rintro V5 ⟨hS,hV⟩;obtain⟨g10,HG10⟩:∃z,Hid (wr.heap.size=z):=⟨_,zh rfl⟩
      rw [HG10.o]at hS⊢;have hVh:=zh (hV.keep hS (by decide) (by have:=hWh.o.lt;have:=HG10.o;omega));obtain⟨kk,hkk⟩:∃k:Nat,t.tok.kind=k∧k≤3:=by
       rcases htokh.o.kind with h |h
       ·exact⟨2,h,by omega⟩
       ·exact⟨3,h,by omega⟩
      have hkkh:=zh hkk;have e0:=hS.cell 0;have hgl:=hS.lt;unfold tokArr at e0;simp only [zG,zH]at e0;rw [hkk.1]at e0;have hc5:=wcount_t W1 _ V5 gw c5 kk hVh.o (by omega) (by have:=hlenh.o;omega);clear hS hV hkk hcs htr;go_wp2_with fail
      refine Calls.mono (show Calls Tryz.prog 35 _ _ _ from hc5) ?_;rintro e V6 ⟨rfl,hV6⟩;have hV6h:=zh hV6;have hS:=(hV6.kp _ (List.mem_singleton.2 rfl)).1;have e1:=hS.cell 1;have hgl:=hS.lt;unfold tokArr at e1;simp only [zG,zH,zI]at e1;have hl6:=zh (show(c5++numB kk).length≤30010 by rw [List.length_append];have:=numB_length kk;have:=hlenh.o;omega);have hts:=wtexts_t W1 _ V6 gw (c5++numB kk) t.A t.tok.scope.length t.c t.tok.scope hV6 htS.o rfl (by have:=(setM_sizes htokh.o.set).1;omega) (fun q hq=>by have:=(setM_sizes htokh.o.set).2 q hq;omega) (by have:=hl6.o;have:=scopeB_length htokh.o.set;omega);clear hc5 hV6 hS e0;go_wp2_with fail
      refine Calls.mono (show Calls Tryz.prog 34 _ _ _ from hts) ?_;rintro e V7 ⟨rfl,hV7⟩;have hS:=(hV7.kp _ (List.mem_singleton.2 rfl)).1;have e2:=hS.cell 2;have hgl:=hS.lt;unfold tokArr at e2;simp only [zG,zH,zI]at e2;have hbo:=wbool_t W1 _ V7 gw _ t.tok.used hV7 (by rw [List.length_append];have:=scopeB_length htokh.o.set;have:=hl6.o;omega);clear hts hV7 hS e1;go_wp2_with fail
      refine Calls.mono (show Calls Tryz.prog 36 _ _ _ from hbo) ?_;rintro e V8 ⟨rfl,hV8⟩;have hV8h:=zh hV8;clear hbo hV8 e2;go_wp2_with fail
      go_roundg (tn - i)
      case measure=>have:=hlth.o;omega
      case rel=>refine⟨i+1,by go_num,by have:=hlth.o;omega,by have:=hlth.o;omega,?_⟩;have e:=htk.o;unfold tokB at e;rw [hkkh.o.1,Int.toNat_natCast,←List.append_assoc,←List.append_assoc]at e;unfold tokB;rw [←e];exact hV8h.o.less
     ·have hin:i=tn:=by omega
      have hge:¬(i:Int)<tn:=by omega
      have hfin:=zh (show WrAt W1 [] wr gw (b5++(x.ts.map (·.tok)).flatMap tokB) by have:=hWh.o;rwa [hin,List.take_of_length_le (by rw [List.length_map,htn.o];exact Nat.le_refl _)]at this);clear hlt;go_wp2_with fail
      go_meet;exact hfin.o
   case rest=>
    have hW8:=zh hcut;clear hcut i0 i1 i2 i3 i4 i5 i6 i7 i8 i9 i10 hgl;obtain⟨b6,hb6⟩:∃z,Hid (b5++(x.ts.map (·.tok)).flatMap tokB=z):=⟨_,zh rfl⟩
    have hb6l:=zh (show b6.length≤30000 by
     rw [←hb6.o,List.length_append,hx1.o.ts];have k2:=flatMap_le2 (f:=tokB) (k:=2389) okh.o.tokens fun q hq=>by have hq2:=okh.o.each q hq;have k1:=numB_length q.kind.toNat;have k2:=scopeB_length hq2.set;unfold tokB boolB;simp only [List.length_append,List.length_cons,List.length_nil];omega
     have:=hb5l.o;omega)
    rw [hb6.o]at hW8;obtain⟨i0,i1,i2,i3,i4,i5,i6,i7,i8,i9,i10,hgl⟩:=fam_cells (hfam.o _ _ _ _ hW8.o);have hbo:=wbool_t W1 [] wc gw b6 x.f.revoked hW8.o (by have:=hb6l.o;omega);go_wp2_with fail
    refine Calls.mono (show Calls Tryz.prog 36 _ _ _ from hbo) ?_;rintro e W9 ⟨rfl,hW9⟩;have hW9h:=zh hW9;clear hbo hW9 i0 i1 i2 i3 i4 i5 i6 i7 i8 i9 i10 hgl;obtain⟨b7,hb7⟩:∃z,Hid (b6++boolB x.f.revoked=z):=⟨_,zh rfl⟩
    have hb7l:=zh (show b7.length≤30001 by rw [←hb7.o,List.length_append];have:=hb6l.o;unfold boolB;simp;omega);rw [hb7.o]at hW9h;obtain⟨i0,i1,i2,i3,i4,i5,i6,i7,i8,i9,i10,hgl⟩:=fam_cells (hfam.o _ _ _ _ hW9h.o);have hln:x.f.leases.length≤100:=leases_len okh.o.leases okh.o.edges;have hc9:=wcount_t W1 [] W9 gw b7 x.f.leases.length hW9h.o (by omega) (by have:=hb7l.o;omega);go_wp2_with fail
    refine Calls.mono (show Calls Tryz.prog 35 _ _ _ from hc9) ?_;rintro e WA ⟨rfl,hWA⟩;have hWAh:=zh hWA;clear hc9 hWA i0 i1 i2 i3 i4 i5 i6 i7 i8 i9 i10 hgl;obtain⟨b8,hb8⟩:∃z,Hid (b7++numB x.f.leases.length=z):=⟨_,zh rfl⟩
    have hb8l:=zh (show b8.length≤30011 by rw [←hb8.o,List.length_append];have:=numB_length x.f.leases.length;have:=hb7l.o;omega);rw [hb8.o]at hWAh;obtain⟨i0,i1,i2,i3,i4,i5,i6,i7,i8,i9,i10,hgl⟩:=fam_cells (hfam.o _ _ _ _ hWAh.o);obtain⟨ln,hlne⟩:∃z,Hid (x.f.leases.length=z):=⟨_,zh rfl⟩
    obtain⟨lA,hlA⟩:∃z,Hid (x.lA=z):=⟨_,zh rfl⟩
    rw [hlne.o]at hln;rw [hlne.o,hlA.o]at i10;have hlr:=zh (show Rd W1 1 lA ln (intCells x.f.leases) by rw [←hlA.o,←hlne.o];exact hx1.o.leases.1);go_upto_block 6 with(fail)
    go_cut [12]from 97 to 103 (fun s12 wx=>WrAt W1 [] wx gw (b8++x.f.leases.flatMap intB))
    case first=>
     go_wp2_with fail
     go_loopg [96] (ln+1) (fun gk s96 wr=>∃i:Nat,s96= .int .i64 i∧i≤ln∧ln - i<gk∧WrAt W1 [] wr gw (b8++(x.f.leases.take i).flatMap intB))
     case atStart=>exact⟨0,rfl,by omega,by omega,by simpa using hWAh.o⟩
     case round=>
      obtain⟨i,rfl,hi,hk,hW⟩:=hrel;have hWh:=zh hW;clear hW;by_cases hlt:i<ln
      ·have hlt':(i:Int)<ln:=by omega
       have hlth:=zh hlt;have hil:i<x.f.leases.length:=by rw [hlne.o];exact hlt
       obtain⟨b,o,rfl,hc⟩:=(Rd.fr hlr.o hWh.o.fr (by simp [Off])).2 (by omega);have ck:=hc i _ (intCells_at hil);have hed:=okh.o.edges _ (List.getElem_mem hil);have hlen:(b8++(x.f.leases.take i).flatMap intB).length≤100000:=by
        have k2:=flatMap_le (f:=intB) (k:=10) (l:=x.f.leases.take i) fun q hq=>numB_length _;have k3:(x.f.leases.take i).length≤100:=by rw [List.length_take];omega
        have:=hb8l.o;rw [List.length_append];omega
       have htk:=zh (take_flat (f:=intB) (pre:=b8) hil);obtain⟨y,hy⟩:∃z,Hid (x.f.leases[i]=z):=⟨_,zh rfl⟩
       rw [hy.o]at ck htk hed;obtain⟨m,rfl⟩:∃m:Nat,y=m:=⟨y.toNat,by omega⟩
       have ht:=wint_t W1 [] wr gw _ m hWh.o (by omega) (by omega);clear hc hlen hed;go_wp2_with fail
       refine Calls.mono (show Calls Tryz.prog 37 _ _ _ from ht) ?_;rintro e w' ⟨rfl,hW2⟩;have hW2h:=zh hW2;clear hW2 ht ck;go_wp2_with fail
       go_roundg (ln - i)
       case measure=>have:=hlth.o;omega
       case rel=>exact⟨i+1,by go_num,by have:=hlth.o;omega,by have:=hlth.o;omega,by rw [←htk.o];exact hW2h.o⟩
      ·have hin:i=ln:=by omega
       have hge:¬(i:Int)<ln:=by omega
       have hfin:=zh (show WrAt W1 [] wr gw (b8++x.f.leases.flatMap intB) by have:=hWh.o;rwa [hin,List.take_of_length_le (by rw [hlne.o];exact Nat.le_refl _)]at this);clear hlt;go_wp2_with fail
       go_meet;exact hfin.o
    case rest=>
     have hall:=zh (show b8++x.f.leases.flatMap intB=famB x.f by
      unfold famB;rw [←hb8.o,←hb7.o,←hb6.o,←hb5.o,←hb4.o,←hb3.o,←hb2.o,←hb1.o,hx1.o.ts,←hx1.o.len,hkch.o.1,Int.toNat_natCast];simp [List.append_assoc])
     rw [hall.o]at hcut;have hfl:=zh (famB_length okh.o);have hfr:=zh (F1h.o.trans hcut.fr);have hfm:=wframe_t W1 [] wc gw (famB x.f) hcut (by have:=hfl.o;omega);clear hcut i0 i1 i2 i3 i4 i5 i6 i7 i8 i9 i10 hgl;go_wp2_with fail
     refine Calls.mono (show Calls Tryz.prog 38 _ _ _ from hfm) ?_;rintro e WZ ⟨Az,cz,rfl,hOz,FZ⟩;have hlz:(frameB (famB x.f)).length=(famB x.f).length+8:=frameB_length _;obtain⟨bq,oq,rfl,hcell⟩:=hOz.rd.2 (by omega);have hcv:=run_convert_bytes_back (P:=Tryz.prog) WZ 42 9 5 ⟨bq,oq,none⟩ cz (frameB (famB x.f)) tW1.ty (by kernel_rfl) und_str (fun j hj=>by
      rw [Addr.add_lit];exact hcell j _ (by rw [List.getElem?_map,List.getElem?_eq_getElem hj];rfl))
     rw [hlz]at hcv;have FZh:=zh (hfr.o.trans FZ);clear hfm hOz hcell FZ;go_wp2_with fail
     go_ret2;exact⟨rfl,FZh.o⟩
end Go.Proofs.YtpmgepijkhaonaaGreat
