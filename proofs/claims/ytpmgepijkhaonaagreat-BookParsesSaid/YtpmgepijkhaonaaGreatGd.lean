/- Walks: a sign's place; the bytes of signs. Conditions: each theorem's own. -/
import Derived.Test.YtpmgepijkhaonaaGreatSb
import Derived.Test.YtpmgepijkhaonaaGreatGr
import Derived.Lib.Walk
import Derived.Shelf.Abstract
import Derived.Test.YtpmgepijkhaonaaGreatGy
import Derived.Test.YtpmgepijkhaonaaGreatSf
namespace Go.Proofs.YtpmgepijkhaonaaGreat
open Go.RowKit Go.Sig
theorem str_take {s:ByteArray}{i:Nat}(h:i<s.size):s.data.toList.take (i+1)=s.data.toList.take i++ [s[i]]:=by
 have h':i<s.data.toList.length:=by rw [Array.length_toList];exact h
 rw [List.take_succ_eq_append_getElem h',Array.getElem_toList];rfl
theorem str_full {s:ByteArray}{i:Nat}(h:s.size≤i):s.data.toList.take i=s.data.toList:=List.take_of_length_le (by rw [Array.length_toList];exact h)
theorem all_no {s:ByteArray}{q:UInt8→Bool}{i:Nat}(h:i<s.size) (hq:q s[i]=false):s.data.toList.all q=false:=by
 rw [List.all_eq_false];refine⟨s[i],?_,by simp [hq]⟩;have h':i<s.data.toList.length:=by rw [Array.length_toList];exact h
 have:=List.getElem_mem h';rw [Array.getElem_toList]at this;exact this
theorem all_next {s:ByteArray}{q:UInt8→Bool}{i:Nat}(h:i<s.size) (ha:(s.data.toList.take i).all q=true) (hq:q s[i]=true):(s.data.toList.take (i+1)).all q=true:=by
 rw [str_take h,List.all_append,ha];simp [hq]
theorem ret_eq {b c:Bool}(h:b=c):Ending.returned (.bool b)=Ending.returned (.bool c):=by rw [h]
set_option maxHeartbeats 1000000 in
theorem isWord_t (w:World) (s:ByteArray) (hs:s.size≤150000000000000):Calls Tryz.prog 202 #[.string s] w fun e w'=>e= .returned (.bool (isWord s))∧w=w':=by
 go_enter Tryz.func202,Tryz.ntmps202;go_wp2_with fail
 go_loopg [3,4] (s.size+1) (fun gk s3 s4 wr=>∃(i:Nat),s3= .int .i64 i∧i≤s.size∧s.size - i<gk∧(s.data.toList.take i).all wordB=true∧w=wr)
 case atStart=>exact⟨0,rfl,by omega,by omega,rfl,rfl⟩
 case round=>
  obtain⟨i,rfl,hi,hk,hall,rfl⟩:=hrel;have hallh:=zh hall;clear hall;by_cases hlt:i<s.size
  ·have hlt':(i:Int)<s.size:=by omega
   have hlth:=zh hlt;by_cases hg:33≤s[i].toNat∧¬s[i].toNat=34∧¬s[i].toNat=92∧s[i].toNat≤126
   ·have hgh:=zh hg;have hw:=zh (show wordB s[i]=true by unfold wordB;simp;omega);clear hg;go_wp2_with fail
    all_goals first
     | (exfalso;have hx:=hgh.o;(try simp only [beq_iff_eq,beq_eq_false_iff_ne,ne_eq]at*);omega)
     |skip
    go_roundg (s.size - i)
    case measure=>omega
    case rel=>exact⟨i+1,by go_num,by have:=hlth.o;omega,by have:=hlth.o;omega,all_next hlth.o hallh.o hw.o,rfl⟩
   ·have hgh:=zh hg;have hw:=zh (show wordB s[i]=false by unfold wordB;simp;omega);clear hg;go_wp2_with fail
    all_goals first
     | (exfalso;have hx:=hgh.o;(try simp only [beq_iff_eq,beq_eq_false_iff_ne,ne_eq]at*);omega)
     | (go_ret;exact⟨ret_eq (by unfold isWord;rw [all_no hlth.o hw.o];rfl),rfl⟩)
  ·have hge:¬(i:Int)<s.size:=by omega
   have ha:=hallh.o;rw [str_full (by omega)]at ha;have hah:=zh ha;clear hlt ha hk;by_cases h1:1≤s.size
   ·have h1':1≤(s.size:Int):=by omega
    have h1h:=zh h1;by_cases h2:s.size≤64
    ·have h2':(s.size:Int)≤64:=by omega
     have h2h:=zh h2;clear h1 h2;go_wp2_with fail
     go_ret;exact⟨ret_eq (by unfold isWord;rw [hah.o,decide_eq_true h1h.o,decide_eq_true h2h.o];rfl),rfl⟩
    ·have h2':¬(s.size:Int)≤64:=by omega
     have h2h:=zh h2;clear h1 h2;go_wp2_with fail
     go_ret;exact⟨ret_eq (by unfold isWord;rw [decide_eq_false h2h.o,Bool.and_false]),rfl⟩
   ·have h1':¬1≤(s.size:Int):=by omega
    have h1h:=zh h1;clear h1;go_wp2_with fail
    go_ret;exact⟨ret_eq (by unfold isWord;rw [decide_eq_false h1h.o,Bool.and_false,Bool.false_and]),rfl⟩
set_option maxHeartbeats 1000000 in
theorem sign_t (w:World) (c:UInt8):Calls Tryz.prog 197 #[.int .u8 (c.toNat:Int)] w fun e w'=>e= .returned (.bool (signB c))∧w=w':=by
 go_enter Tryz.func197,Tryz.ntmps197;go_wp2_with fail
 all_goals go_ret
 all_goals refine⟨ret_eq ?_,rfl⟩
 all_goals unfold signB
 all_goals (rw [Bool.eq_iff_iff];simp only [Bool.or_eq_true,decide_eq_true_eq,beq_iff_eq,true_iff];omega)
end Go.Proofs.YtpmgepijkhaonaaGreat
namespace Go.Proofs.YtpmgepijkhaonaaGreat
open Go.RowKit Go.Sig
def strCells (ls:List ByteArray):List Value:=ls.map Value.string
theorem strCells_append (a b:List ByteArray):strCells (a++b)=strCells a++strCells b:=List.map_append
theorem strCells_one (l:List ByteArray):∀u∈strCells l,u.oneCell'=true:=strings_one l
theorem strCells_at {l:List ByteArray}{i:Nat}(h:i<l.length):(strCells l)[i]? =some (.string l[i]):=by
 unfold strCells;rw [List.getElem?_map,List.getElem?_eq_getElem h];rfl
theorem strCells_length (l:List ByteArray):(strCells l).length=l.length:=List.length_map _
set_option maxHeartbeats 1000000 in
theorem right1_t (w:World) (s:ByteArray) (hs:s.size≤150000000000000):Calls Tryz.prog 141 #[.agg #[.int .i64 1,.string s,.int .i64 0]] w fun e w'=>e= .returned (.bool (idM s))∧Fr [] w w':=by
 go_enter Tryz.func141,Tryz.ntmps141;go_upto_region 1 with(fail)
 refine wp_gen (fun W=>Blk W w.heap.size 208 #[.int .i64 1,.string s,.int .i64 0]∧Fr [] w W) ⟨Blk.new _ _ _,(Fr.refl _ _).alloc _⟩ ?_;rintro W ⟨hB,fW⟩;obtain⟨g,HG⟩:∃z,Hid (w.heap.size=z):=⟨_,zh rfl⟩
 rw [HG.o]at hB⊢;obtain⟨e0,e1,e2⟩:=hB.c3;have hgl:=hB.lt;clear hB;go_wp2_with fail
 go_loopg [3] (s.size+1) (fun gk s3 wr=>∃(i:Nat),s3= .int .i64 i∧i≤s.size∧s.size - i<gk∧(s.data.toList.take i).all signB=true∧W=wr)
 case atStart=>exact⟨0,rfl,by omega,by omega,rfl,rfl⟩
 case round=>
  obtain⟨i,rfl,hi,hk,hall,rfl⟩:=hrel;have hallh:=zh hall;clear hall;by_cases hlt:i<s.size
  ·have hlt':(i:Int)<s.size:=by omega
   have hlth:=zh hlt;have hsg:=sign_t W s[i];obtain⟨r,hr⟩:∃z,Hid (signB s[i]=z):=⟨_,zh rfl⟩
   rw [hr.o]at hsg;cases r with
   |true=>
    go_wp2_with (go_at_call 197;refine hsg.mono ?_;rintro e w' ⟨rfl,rfl⟩)
    go_roundg (s.size - i)
    case measure=>omega
    case rel=>exact⟨i+1,by go_num,by have:=hlth.o;omega,by have:=hlth.o;omega,all_next hlth.o hallh.o hr.o,rfl⟩
   |false=>
    go_wp2_with (go_at_call 197;refine hsg.mono ?_;rintro e w' ⟨rfl,rfl⟩)
    go_ret;exact⟨ret_eq (by unfold idM;rw [all_no hlth.o hr.o];rfl),fW⟩
  ·have hge:¬(i:Int)<s.size:=by omega
   have ha:=hallh.o;rw [str_full (by omega)]at ha;have hah:=zh ha;clear hlt ha hk;by_cases h1:1≤s.size
   ·have h1':1≤(s.size:Int):=by omega
    have h1h:=zh h1;by_cases h2:s.size≤32
    ·have h2':(s.size:Int)≤32:=by omega
     have h2h:=zh h2;clear h1 h2;go_wp2_with fail
     go_ret;exact⟨ret_eq (by unfold idM;rw [hah.o,decide_eq_true h1h.o,decide_eq_true h2h.o];rfl),fW⟩
    ·have h2':¬(s.size:Int)≤32:=by omega
     have h2h:=zh h2;clear h1 h2;go_wp2_with fail
     go_ret;exact⟨ret_eq (by unfold idM;rw [decide_eq_false h2h.o,Bool.and_false]),fW⟩
   ·have h1':¬1≤(s.size:Int):=by omega
    have h1h:=zh h1;clear h1;go_wp2_with fail
    go_ret;exact⟨ret_eq (by unfold idM;rw [decide_eq_false h1h.o,Bool.and_false,Bool.false_and]),fW⟩
theorem id_t (w:World) (s:ByteArray) (hs:s.size≤150000000000000):Calls Tryz.prog 91 #[.string s] w fun e w'=>e= .returned (.bool (idM s))∧Fr [] w w':=by
 have hr:=right1_t w s hs;go_enter Tryz.func91,Tryz.ntmps91;go_wp2_with (go_at_call 141;refine hr.mono ?_;rintro e w' ⟨rfl,F⟩)
 go_ret;exact⟨rfl,F⟩
theorem textsA_t (w:World) (s:ByteArray):Calls Tryz.prog 143 #[.string s] w fun e w'=>e= .returned (.bool (decide (128<s.size)))∧w=w':=by
 by_cases h:128<s.size
 ·have h':(128:Int)<s.size:=by omega
  rw [decide_eq_true h];go_enter Tryz.func143,Tryz.ntmps143;go_wp2_with fail
  go_ret;exact⟨rfl,rfl⟩
 ·have h':¬(128:Int)<s.size:=by omega
  rw [decide_eq_false h];go_enter Tryz.func143,Tryz.ntmps143;go_wp2_with fail
  go_ret;exact⟨rfl,rfl⟩
def IdxPost (w:World) (b:Bool) (e:Ending) (w':World):Prop:=∃k:Int,e= .returned (.int .i64 k)∧(0≤k↔b=true)∧w=w'
set_option maxHeartbeats 1000000 in
theorem idxT_t (w:World) (A:Option Addr) (n c:Nat) (ls:List ByteArray) (hR:Rd w 1 A n (strCells ls)) (hn:ls.length=n) (hmax:n≤150000000000000):
  Calls Tryz.prog 198 #[.slice A n c,.func (.func 143) #[] #[]] w (IdxPost w (ls.any fun s=>decide (128<s.size))):=by
 have eg:∀args w,(callFunc 143 args).run Tryz.prog w= .ok (.enter 143 args) w:=enters_of Tryz.func143 (by kernel_rfl) rfl;go_enter Tryz.func198,Tryz.ntmps198;go_wp2_with fail
 go_loopg [5,8] (n+1) (fun gk s5 s8 wr=>∃(i:Nat),s8= .int .i64 i∧i≤n∧n - i<gk∧((ls.take i).any fun s=>decide (128<s.size))=false∧w=wr)
 case atStart=>exact⟨0,rfl,by omega,by omega,rfl,rfl⟩
 case round=>
  obtain⟨i,rfl,hi,hk,hno,rfl⟩:=hrel;have hnoh:=zh hno;clear hno;by_cases hlt:i<n
  ·have hlt':(i:Int)<n:=by omega
   have hlth:=zh hlt;have hi':i<ls.length:=by omega
   obtain⟨b,o,rfl,hcell⟩:=hR.2 (by omega);have cs:=hcell _ _ (strCells_at hi');have htk:=zh (List.take_succ_eq_append_getElem hi');have hmem:=zh (List.getElem_mem hi');have hRh:=zh hR;clear hcell hR;obtain⟨s,hs⟩:∃z,Hid (ls[i]=z):=⟨_,zh rfl⟩
   rw [hs.o]at cs htk hmem;have hc:=textsA_t w s;obtain⟨r,hr⟩:∃z,Hid (decide (128<s.size)=z):=⟨_,zh rfl⟩
   rw [hr.o]at hc;cases r with
   |true=>
    go_wp2_with (go_at_call 143;refine hc.mono ?_;rintro e w' ⟨rfl,rfl⟩)
    go_ret;exact⟨i,rfl,⟨fun _=>List.any_eq_true.2 ⟨s,hmem.o,hr.o⟩,fun _=>by omega⟩,rfl⟩
   |false=>
    go_wp2_with (go_at_call 143;refine hc.mono ?_;rintro e w' ⟨rfl,rfl⟩)
    go_roundg (n - i)
    case measure=>omega
    case rel=>refine⟨i+1,by go_num,by have:=hlth.o;omega,by have:=hlth.o;omega,?_,rfl⟩;rw [htk.o,List.any_append,hnoh.o];simp [hr.o]
  ·have hge:¬(i:Int)<n:=by omega
   have ha:=hnoh.o;rw [List.take_of_length_le (by omega)]at ha;have hah:=zh ha;clear hlt ha hk;go_wp2_with fail
   go_ret;exact⟨-1,rfl,⟨fun h=>by omega,fun h=>by rw [hah.o]at h;cases h⟩,rfl⟩
theorem texts_t (w:World) (A:Option Addr) (n c:Nat) (ls:List ByteArray) (hR:Rd w 1 A n (strCells ls)) (hn:ls.length=n) (hmax:n≤150000000000000):
  Calls Tryz.prog 92 #[.slice A n c] w fun e w'=>e= .returned (.bool (textsM ls))∧w=w':=by
 have hi:=idxT_t w A n c ls hR hn hmax;have hc:Calls Tryz.prog 142 #[.slice A n c,.func (.func 143) #[] #[]] w fun e w'=>e= .returned (.bool (ls.any fun s=>decide (128<s.size)))∧w=w':=by
  go_enter Tryz.func142,Tryz.ntmps142;go_wp2_with (go_at_call 198;refine hi.mono ?_;rintro e w' ⟨k,rfl,hk,rfl⟩)
  go_ret;refine⟨ret_eq ?_,rfl⟩;first
   |rfl
   | (rw [Bool.eq_iff_iff,decide_eq_true_eq];first |exact hk |exact hk.symm)
   | (rw [Bool.eq_iff_iff,List.any_eq_true];simp)
 have ht:(!ls.any fun s=>decide (128<s.size))=textsM ls:=by unfold textsM;rw [List.not_any_eq_all_not];congr 1;funext s;rw [Bool.eq_iff_iff];simp
 go_enter Tryz.func92,Tryz.ntmps92;go_wp2_with (go_at_call 142;refine hc.mono ?_;rintro e w' ⟨rfl,rfl⟩)
 go_ret;exact⟨rfl,rfl⟩
end Go.Proofs.YtpmgepijkhaonaaGreat
namespace Go.Proofs.YtpmgepijkhaonaaGreat
open Go.RowKit Go.Sig
def verS (n:Nat):Prop:=n=45∨n=46∨n=95∨n=126
theorem idxB_t (w:World) (c:UInt8):Calls Tryz.prog 280 #[.string ⟨#[45,46,95,126]⟩,.int .u8 (c.toNat:Int)] w fun e w'=>∃k:Int,e= .returned (.int .i64 k)∧(k<0↔¬verS c.toNat)∧w=w':=by
 refine(Tryz.strings_IndexByte ⟨#[45,46,95,126]⟩ (c.toNat:Int) w).mono ?_;rintro e w' ⟨rfl,rfl⟩;refine⟨_,rfl,?_,rfl⟩;have key:∀n:Fin 256,(Lib.indexByte [45,46,95,126] (((n.val:Nat):Int).toNat.toUInt8)<0↔¬(n.val=45∨n.val=46∨n.val=95∨n.val=126)):=by decide+kernel
 exact key ⟨c.toNat,c.toNat_lt⟩
set_option maxHeartbeats 2000000 in
theorem isVer_t (w:World) (s:ByteArray) (hs:s.size≤150000000000000):Calls Tryz.prog 244 #[.string s] w fun e w'=>e= .returned (.bool (verM s))∧w=w':=by
 go_enter Tryz.func244,Tryz.ntmps244;go_wp2_with fail
 go_loopg [3,4] (s.size+1) (fun gk s3 s4 wr=>∃(i:Nat),s3= .int .i64 i∧i≤s.size∧s.size - i<gk∧(s.data.toList.take i).all verB=true∧w=wr)
 case atStart=>exact⟨0,rfl,by omega,by omega,rfl,rfl⟩
 case round=>
  obtain⟨i,rfl,hi,hk,hall,rfl⟩:=hrel;have hallh:=zh hall;clear hall;by_cases hlt:i<s.size
  ·have hlt':(i:Int)<s.size:=by omega
   have hlth:=zh hlt;have hib:=idxB_t w s[i];unfold verS at hib;by_cases hg:(97≤s[i].toNat∧s[i].toNat≤122)∨(65≤s[i].toNat∧s[i].toNat≤90)∨(48≤s[i].toNat∧s[i].toNat≤57)∨(s[i].toNat=45∨s[i].toNat=46∨s[i].toNat=95∨s[i].toNat=126)
   ·have hgh:=zh hg;have hw:=zh (show verB s[i]=true by unfold verB;simp [←UInt8.toNat_inj];omega);clear hg;go_wp2_with (go_at_call 280;refine hib.mono ?_;rintro e w' ⟨k,rfl,hkk,rfl⟩)
    all_goals first
     | (exfalso;have hx:=hgh.o;(try simp only [Bool.not_eq_eq_eq_not,Bool.not_true,Bool.not_false,decide_eq_true_eq,decide_eq_false_iff_not]at*);omega)
     |skip
    all_goals (go_roundg (s.size - i))
    all_goals first
     | (case measure=>omega)
     |skip
    all_goals exact⟨i+1,by go_num,by have:=hlth.o;omega,by have:=hlth.o;omega,all_next hlth.o hallh.o hw.o,rfl⟩
   ·have hgh:=zh hg;have hw:=zh (show verB s[i]=false by unfold verB;simp [←UInt8.toNat_inj];omega);clear hg;go_wp2_with (go_at_call 280;refine hib.mono ?_;rintro e w' ⟨k,rfl,hkk,rfl⟩)
    all_goals first
     | (exfalso;have hx:=hgh.o;(try simp only [Bool.not_eq_eq_eq_not,Bool.not_true,Bool.not_false,decide_eq_true_eq,decide_eq_false_iff_not]at*);omega)
     | (go_ret;exact⟨ret_eq (by unfold verM;rw [all_no hlth.o hw.o];rfl),rfl⟩)
  ·have hge:¬(i:Int)<s.size:=by omega
   have ha:=hallh.o;rw [str_full (by omega)]at ha;have hah:=zh ha;clear hlt ha hk;by_cases h1:43≤s.size
   ·have h1':43≤(s.size:Int):=by omega
    have h1h:=zh h1;by_cases h2:s.size≤128
    ·have h2':(s.size:Int)≤128:=by omega
     have h2h:=zh h2;clear h1 h2;go_wp2_with fail
     go_ret;exact⟨ret_eq (by unfold verM;rw [hah.o,decide_eq_true h1h.o,decide_eq_true h2h.o];rfl),rfl⟩
    ·have h2':¬(s.size:Int)≤128:=by omega
     have h2h:=zh h2;clear h1 h2;go_wp2_with fail
     go_ret;exact⟨ret_eq (by unfold verM;rw [decide_eq_false h2h.o,Bool.and_false]),rfl⟩
   ·have h1':¬43≤(s.size:Int):=by omega
    have h1h:=zh h1;clear h1;go_wp2_with fail
    go_ret;exact⟨ret_eq (by unfold verM;rw [decide_eq_false h1h.o,Bool.and_false,Bool.false_and]),rfl⟩
end Go.Proofs.YtpmgepijkhaonaaGreat
namespace Go.Proofs.YtpmgepijkhaonaaGreat
open Go.RowKit Go.Sig
def WorthIs (l:List UInt8) (c:UInt8) (k:Int):Prop:=(∃v:Nat,l.findIdx? (fun x=>x==c)=some v∧k=v)∨(l.findIdx? (fun x=>x==c)=none∧k= -1)
theorem u8_beq {a b:UInt8}:(((a.toNat:Nat):Int)==((b.toNat:Nat):Int))=(a==b):=by
 rw [Bool.eq_iff_iff,beq_iff_eq,beq_iff_eq,←UInt8.toNat_inj];omega
set_option maxHeartbeats 1000000 in
theorem worth_t (w:World) (s:ByteArray) (hs:s.size≤1000) (c:UInt8):Calls Tryz.prog 300 #[.string s,.int .u8 (c.toNat:Int)] w fun e w'=>∃k:Int,e= .returned (.int .i64 k)∧WorthIs s.data.toList c k∧w=w':=by
 go_enter Tryz.func300,Tryz.ntmps300;go_wp2_with fail
 go_loopg [5] (s.size+1) (fun gk s5 wr=>∃(i:Nat),s5= .int .i64 i∧i≤s.size∧s.size - i<gk∧(∀x∈s.data.toList.take i,(x==c)=false)∧w=wr)
 case atStart=>exact⟨0,rfl,by omega,by omega,by simp,rfl⟩
 case round=>
  obtain⟨i,rfl,hi,hk,hall,rfl⟩:=hrel;have hallh:=zh hall;clear hall;by_cases hlt:i<s.size
  ·have hlt':(i:Int)<s.size:=by omega
   have hlth:=zh hlt;have htk:=zh (str_take hlt);have hu:=u8_beq (a:=s[i]) (b:=c);cases hb:s[i]==c with
   |true=>
    have hbh:=zh hb;rw [hb]at hu;clear hb;go_wp2_with fail
    go_ret;refine⟨i,rfl,.inl ⟨i,?_,rfl⟩,rfl⟩;have h':i<s.data.toList.length:=by rw [Array.length_toList];exact hlth.o
    rw [List.findIdx?_eq_some_iff_getElem];refine⟨h',?_,fun j hj=> ?_⟩
    ·rw [Array.getElem_toList];exact hbh.o
    ·have hm:s.data.toList[j]'(by omega)∈s.data.toList.take i:=by
      rw [List.mem_take_iff_getElem];exact⟨j,by omega,rfl⟩
     rw [hallh.o _ hm];simp
   |false=>
    have hbh:=zh hb;rw [hb]at hu;clear hb;go_wp2_with fail
    go_roundg (s.size - i)
    case measure=>omega
    case rel=>
     refine⟨i+1,by go_num,by have:=hlth.o;omega,by have:=hlth.o;omega,fun x hx=> ?_,rfl⟩;rw [htk.o]at hx;rcases List.mem_append.1 hx with h |h
     ·exact hallh.o x h
     ·rw [List.mem_singleton.1 h];exact hbh.o
  ·have hge:¬(i:Int)<s.size:=by omega
   have ha:=hallh.o;rw [str_full (by omega)]at ha;have hah:=zh ha;clear hlt ha hk;go_wp2_with fail
   go_ret;exact⟨-1,rfl,.inr ⟨List.findIdx?_eq_none_iff.2 hah.o,rfl⟩,rfl⟩
def sWeb:ByteArray:=⟨webS.toArray⟩
theorem worthM_lt {c:UInt8}{v:Nat}(h:worthM c=some v):v<64:=by
 unfold worthM at h;rw [List.findIdx?_eq_some_iff_getElem]at h;obtain⟨h,_⟩:=h;exact h
def worthI (c:UInt8):Int:=match worthM c with |some v=>v |none=> -1
theorem worthW_t (w:World) (c:UInt8):Calls Tryz.prog 300 #[.string sWeb,.int .u8 (c.toNat:Int)] w fun e w'=>e= .returned (.int .i64 (worthI c))∧w=w':=by
 refine(worth_t w sWeb (by decide) c).mono ?_;rintro e w' ⟨k,rfl,hk,rfl⟩;refine⟨?_,rfl⟩;have e1:sWeb.data.toList=webS:=by decide
 unfold WorthIs at hk;rw [e1]at hk;unfold worthI worthM;rcases hk with⟨v,h1,rfl⟩ | ⟨h1,rfl⟩<;>rw [h1]
def BIn (w wr:World) (s:Value) (bs:List UInt8):Prop:=
 ∃A c,s= .slice A bs.length c∧Own wr 5 1 (.slice A bs.length c) bs.length (bs.map bv)∧(∀g,g∈rowOf (.slice A bs.length c)→w.heap.size≤g)∧Fr [] w wr
theorem BIn.nil (w:World):BIn w w (.slice none 0 0) []:=⟨none,0,rfl,Own.nil _ _ _,by simp [rowOf,Value.ownBlock],Fr.refl _ _⟩
theorem tB1:SliceTy Tryz.prog 42 5 1 1 (.int .u8 0):=⟨by kernel_rfl,by kernel_rfl,rfl,by decide⟩
theorem byte_new (w:World) (x:Int) (b:UInt8) (ty:TypeId) (h:x=(b.toNat:Int)):Rd (w.alloc (.cells #[.int .u8 x] ty)) 1 (some ⟨w.heap.size,0,none⟩) 1 ([b].map bv):=by
 subst h;refine⟨rfl,fun _=>⟨_,0,rfl,fun j u hu=> ?_⟩⟩;rw [(Blk.new w ty #[.int .u8 (b.toNat:Int)]).cell,Nat.zero_add];simpa [bv]using hu
theorem BIn.push {w wr w2:World}{o:Obj}{A A2:Option Addr}{c c2 n:Nat}{bs:List UInt8}{b:UInt8}(hn:bs.length=n) (hR:∀g,g∈rowOf (.slice A n c)→w.heap.size≤g) (hF:Fr [] w wr)
  (p1:Own w2 5 1 (.slice A2 (n+1) c2) (n+1) (bs.map bv++ [b].map bv)) (p2:Fr (rowOf (.slice A n c)) (wr.alloc o) w2)
  (p3:∀g,g∈rowOf (.slice A2 (n+1) c2)→g∈rowOf (.slice A n c)∨g=(wr.alloc o).heap.size):BIn w w2 (.slice A2 (n+1) c2) (bs++ [b]):=by
 have hl:(bs++ [b]).length=n+1:=by simp [hn]
 refine⟨A2,c2,by rw [hl],?_,?_,(hF.alloc _).andThen p2 (fun x hx=> .inr (hR x hx))⟩
 ·rw [hl,List.map_append];exact p1
 ·rw [hl];exact fun g hg=>(p3 g hg).elim (hR g) (fun e=>by rw [e];exact Nat.le_trans hF.size (by simp))
def BytesPost (w:World) (r:Option (List UInt8)) (e:Ending) (w':World):Prop:=match r with
 |some bs=>∃v,e= .returned (.tuple #[v,.int .i64 0])∧BIn w w' v bs
 |none=>e= .returned (.tuple #[.slice none 0 0,.int .i64 3])∧Fr [] w w'
theorem or_six:∀(a b:Fin 64),bits .or .i64 ((a.val:Int)*64) (b.val:Int)=((a.val*64+b.val:Nat):Int):=by decide+kernel
theorem and_all:∀(a b:Fin 64),bits .and .i64 ((a.val*64+b.val:Nat):Int) 0=0∧bits .and .i64 ((a.val*64+b.val:Nat):Int) 3=((b.val%4:Nat):Int)∧bits .and .i64 ((a.val*64+b.val:Nat):Int) 15=((b.val%16:Nat):Int):=by decide+kernel
theorem and_at {h:Nat}(hh:h<4096):bits .and .i64 (h:Int) 0=0∧bits .and .i64 (h:Int) 3=((h%4:Nat):Int)∧bits .and .i64 (h:Int) 15=((h%16:Nat):Int):=by
 have:=and_all ⟨h / 64,by omega⟩ ⟨h%64,by omega⟩;simp only at this;rw [show h / 64*64+h%64=h by omega,show h%64%4=h%4 by omega,show h%64%16=h%16 by omega]at this;exact this
def unsixStep (held bits v:Nat):Nat×Nat×List UInt8:=if 8≤bits+6 then((held*64+v)%2^(bits+6 - 8),bits+6 - 8,[UInt8.ofNat ((held*64+v) / 2^(bits+6 - 8))])else(held*64+v,bits+6,[])
theorem unsixGo_step {c:UInt8}{cs:List UInt8}{held bits v:Nat}{out:List UInt8}(h:worthM c=some v):unsixGo (c::cs) held bits out=unsixGo cs (unsixStep held bits v).1 (unsixStep held bits v).2.1 (out++(unsixStep held bits v).2.2):=by
 rw [unsixGo,h];unfold unsixStep;simp only;split<;>simp
set_option maxHeartbeats 2000000 in
theorem unsixes_t (w:World) (s:ByteArray) (hs:s.size≤1000000):Calls Tryz.prog 282 #[.string sWeb,.string s] w (BytesPost w (unwebM s.data.toList)):=by
 have hw:=fun W c=>worthW_t W c;obtain⟨q,hq⟩:∃z,Hid (sWeb=z):=⟨_,zh rfl⟩
 rw [hq.o]at hw⊢;go_enter Tryz.func282,Tryz.ntmps282;by_cases h4:s.size%4=1
 ·have h4':((s.size:Int)%4==1)=true:=by rw [beq_iff_eq];omega
  have h4h:=zh h4;clear h4;go_wp2_with fail
  go_ret2;have e:unwebM s.data.toList=none:=by unfold unwebM;rw [if_pos (by rw [Array.length_toList];exact h4h.o)]
  rw [e];exact⟨rfl,Fr.refl _ _⟩
 ·have h4':((s.size:Int)%4==1)=false:=by rw [beq_eq_false_iff_ne];omega
  have hun:=zh (show unwebM s.data.toList=unsixGo s.data.toList 0 0 [] by
   unfold unwebM;rw [if_neg (by rw [Array.length_toList];exact h4)])
  clear h4;go_wp2_with fail
  clear h4';go_loopg [6,7,8,9,10] (s.size+1) (fun gk s6 s7 s8 s9 s10 wr=>∃(i held nb:Nat) (out:List UInt8),s9= .int .i64 i∧s7= .int .i64 held∧s8= .int .i64 nb∧i≤s.size∧s.size - i<gk∧BIn w wr s6 out∧(nb=0∨nb=2∨nb=4∨nb=6)∧held<2^nb∧out.length≤i∧unsixGo (s.data.toList.drop i) held nb out=unwebM s.data.toList)
  case atStart=>exact⟨0,0,0,[],rfl,rfl,rfl,by omega,by omega,BIn.nil w,by omega,by decide,by simp,hun.o.symm⟩
  case round=>
   obtain⟨i,held,nb,out,rfl,rfl,rfl,hi,hk,hB,hbits,hheld,hlen,hgo⟩:=hrel;have hgoh:=zh hgo;have hBh:=zh hB;clear hgo hun hB;by_cases hlt:i<s.size
   ·have hlt':(i:Int)<s.size:=by omega
    have hlth:=zh hlt;have hdr:=zh (show s.data.toList.drop i=s[i]::s.data.toList.drop (i+1) by
     have h':i<s.data.toList.length:=by rw [Array.length_toList];exact hlt
     rw [List.drop_eq_getElem_cons h',Array.getElem_toList];rfl)
    have hwi:=hw wr s[i];obtain⟨c,hc⟩:∃z,Hid (s[i]=z):=⟨_,zh rfl⟩
    rw [hc.o]at hdr hwi;have hix:(s[i]'hlth.o)=c:=hc.o;cases hv:worthM c with
    |none=>
     have hvh:=zh hv;rw [show worthI c= -1 by unfold worthI;rw [hv]]at hwi;clear hv;go_wp2_with (go_at_call 300;refine hwi.mono ?_;rintro e w' ⟨rfl,rfl⟩)
     go_ret2;rw [←hgoh.o,hdr.o,unsixGo,hvh.o];obtain⟨A,c2,_,_,_,hF⟩:=hBh.o;exact⟨rfl,hF⟩
    |some v=>
     have hvh:=zh hv;have hv64:=worthM_lt hv;rw [show worthI c=(v:Int) by unfold worthI;rw [hv]]at hwi;have hv0:¬(v:Int)<0:=by omega
     clear hv;obtain⟨A2,c2,rfl,O2,R2,F2⟩:=hBh.o;obtain⟨n2,hn2⟩:∃z,Hid (out.length=z):=⟨_,zh rfl⟩
     rw [hn2.o]at O2 R2 hlen⊢;obtain⟨h,hh⟩:∃z,Hid (held*64+v=z):=⟨_,zh rfl⟩
     have hor:bits .or .i64 ((held:Int)*64) (v:Int)=(h:Int):=by
      have hb:held<64:=by rcases hbits with rfl |rfl |rfl |rfl<;>omega
      have:=or_six ⟨held,hb⟩ ⟨v,hv64⟩;simp only at this;rw [this,hh.o]
     have hh4:h<4096:=by have:=hh.o;have hb:held<64:=by{rcases hbits with rfl |rfl |rfl |rfl<;>omega};omega
     rcases hbits with rfl |rfl |rfl |rfl
     ·have hst:=zh (show unsixStep held 0 v=(h,6,[]) by unfold unsixStep;rw [hh.o];rfl);go_wp2_with (go_at_call 300;refine hwi.mono ?_;rintro e w' ⟨rfl,rfl⟩)
      go_roundg (s.size - i)
      case measure=>omega
      case rel=>have hbb:=hBh.o;rw [hn2.o]at hbb;refine⟨i+1,h,6,out,by go_num,rfl,rfl,by have:=hlth.o;omega,by have:=hlth.o;omega,hbb,by omega,by have:=hh.o;omega,by rw [hn2.o];omega,?_⟩;rw [←hgoh.o,hdr.o,unsixGo_step hvh.o,hst.o,List.append_nil]
     ·have hst:=zh (show unsixStep held 2 v=(h%1,0,[UInt8.ofNat (h / 1)]) by unfold unsixStep;rw [hh.o];rfl);have hand:=(and_at hh4).1;have hx:(UInt8.ofNat (h / 1)).toNat=h / 1%256:=by simp
      go_wp2_with (first
       | (go_at_call 300;refine hwi.mono ?_;rintro e w' ⟨rfl,rfl⟩)
       | (refine wpList_own_append tB1 (O2.fr ((Fr.refl [] _).alloc _) (by simp)) (byte_new _ _ (UInt8.ofNat (h / 1)) _ (by rw [hx];omega)) (fun u hu=>by simp at hu;rw [hu];rfl) (by simp) (by unfold maxLen;omega) (by omega) rfl rfl rfl rfl (fun v2 w2 p1 p2 p3=> ?_);obtain⟨A3,c3,rfl,hA3⟩:=p1.form))
      go_roundg (s.size - i)
      case measure=>omega
      case rel=>refine⟨i+1,h%1,0,out++ [UInt8.ofNat (h / 1)],by go_num,by first |rfl | (simp;done) | (congr 1;omega),rfl,by have:=hlth.o;omega,by have:=hlth.o;omega,BIn.push hn2.o R2 F2 p1 p2 p3,by omega,by omega,by rw [List.length_append,hn2.o,List.length_singleton];omega,?_⟩;rw [←hgoh.o,hdr.o,unsixGo_step hvh.o,hst.o]
     ·have hst:=zh (show unsixStep held 4 v=(h%4,2,[UInt8.ofNat (h / 4)]) by unfold unsixStep;rw [hh.o];rfl);have hand:=(and_at hh4).2.1;have hx:(UInt8.ofNat (h / 4)).toNat=h / 4%256:=by simp
      go_wp2_with (first
       | (go_at_call 300;refine hwi.mono ?_;rintro e w' ⟨rfl,rfl⟩)
       | (refine wpList_own_append tB1 (O2.fr ((Fr.refl [] _).alloc _) (by simp)) (byte_new _ _ (UInt8.ofNat (h / 4)) _ (by rw [hx];omega)) (fun u hu=>by simp at hu;rw [hu];rfl) (by simp) (by unfold maxLen;omega) (by omega) rfl rfl rfl rfl (fun v2 w2 p1 p2 p3=> ?_);obtain⟨A3,c3,rfl,hA3⟩:=p1.form))
      go_roundg (s.size - i)
      case measure=>omega
      case rel=>refine⟨i+1,h%4,2,out++ [UInt8.ofNat (h / 4)],by go_num,by first |rfl | (simp;done) | (congr 1;omega),rfl,by have:=hlth.o;omega,by have:=hlth.o;omega,BIn.push hn2.o R2 F2 p1 p2 p3,by omega,by omega,by rw [List.length_append,hn2.o,List.length_singleton];omega,?_⟩;rw [←hgoh.o,hdr.o,unsixGo_step hvh.o,hst.o]
     ·have hst:=zh (show unsixStep held 6 v=(h%16,4,[UInt8.ofNat (h / 16)]) by unfold unsixStep;rw [hh.o];rfl);have hand:=(and_at hh4).2.2;have hx:(UInt8.ofNat (h / 16)).toNat=h / 16%256:=by simp
      go_wp2_with (first
       | (go_at_call 300;refine hwi.mono ?_;rintro e w' ⟨rfl,rfl⟩)
       | (refine wpList_own_append tB1 (O2.fr ((Fr.refl [] _).alloc _) (by simp)) (byte_new _ _ (UInt8.ofNat (h / 16)) _ (by rw [hx];omega)) (fun u hu=>by simp at hu;rw [hu];rfl) (by simp) (by unfold maxLen;omega) (by omega) rfl rfl rfl rfl (fun v2 w2 p1 p2 p3=> ?_);obtain⟨A3,c3,rfl,hA3⟩:=p1.form))
      go_roundg (s.size - i)
      case measure=>omega
      case rel=>refine⟨i+1,h%16,4,out++ [UInt8.ofNat (h / 16)],by go_num,by first |rfl | (simp;done) | (congr 1;omega),rfl,by have:=hlth.o;omega,by have:=hlth.o;omega,BIn.push hn2.o R2 F2 p1 p2 p3,by omega,by omega,by rw [List.length_append,hn2.o,List.length_singleton];omega,?_⟩;rw [←hgoh.o,hdr.o,unsixGo_step hvh.o,hst.o]
   ·have hge:¬(i:Int)<s.size:=by omega
    have hfin:=hgoh.o;rw [List.drop_eq_nil_of_le (by rw [Array.length_toList];show s.size≤i;omega),unsixGo]at hfin;have hfinh:=zh hfin;clear hlt hk hfin;by_cases h0:held=0
    ·have h0':((held:Int) !=0)=false:=by simp;omega
     have h0'':((held:Int)==0)=true:=by rw [beq_iff_eq];omega
     have h0h:=zh h0;clear h0;go_wp2_with fail
     go_ret2;rw [←hfinh.o,if_pos h0h.o];exact⟨_,rfl,hBh.o⟩
    ·have h0':((held:Int) !=0)=true:=by simp;omega
     have h0'':((held:Int)==0)=false:=by rw [beq_eq_false_iff_ne];omega
     have h0h:=zh h0;clear h0;go_wp2_with fail
     go_ret2;rw [←hfinh.o,if_neg h0h.o];obtain⟨A,c2,_,_,_,hF⟩:=hBh.o;exact⟨rfl,hF⟩
theorem unweb_t (w:World) (s:ByteArray) (hs:s.size≤1000000):Calls Tryz.prog 248 #[.string s] w (BytesPost w (unwebM s.data.toList)):=by
 have hu:=unsixes_t w s hs;cases hr:unwebM s.data.toList with
 |none=>
  rw [hr]at hu;go_enter Tryz.func248,Tryz.ntmps248;go_wp2_with (go_at_call 282;refine Calls.mono (show Calls Tryz.prog 282 _ _ _ from hu) ?_;rintro e w' ⟨rfl,F⟩)
  go_ret2;exact⟨rfl,F⟩
 |some bs=>
  rw [hr]at hu;go_enter Tryz.func248,Tryz.ntmps248;go_wp2_with (go_at_call 282;refine Calls.mono (show Calls Tryz.prog 282 _ _ _ from hu) ?_;rintro e w' ⟨v,rfl,F⟩)
  go_ret2;exact⟨_,rfl,F⟩
end Go.Proofs.YtpmgepijkhaonaaGreat
