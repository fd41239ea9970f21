/- Walks: the document's: is it a verifier?, the sign of a number. Conditions: each theorem's own. -/
import Derived.Test.YtpmgepijkhaonaaGreatGm
import Derived.Test.YtpmgepijkhaonaaGreatHq
import Derived.Laws.Concat
namespace Go.Proofs.YtpmgepijkhaonaaGreat
open Go.RowKit Go.Sig
set_option maxHeartbeats 2000000 in
theorem rword_t (w:World) (s:ByteArray) (hs:s.size≤150000000000000):Calls Tryz.prog 153 #[.string s] w fun e w'=>e= .returned (.bool (isWord s))∧w=w':=by
 go_enter Tryz.func153,Tryz.ntmps153;by_cases h1:1≤s.size
 ·have d1:decide ((s.size:Int)<1)=false:=decide_eq_false (by omega);have h1':1≤(s.size:Int):=by omega
  have h1h:=zh h1;by_cases h2:s.size≤64
  ·have d2:decide (64<(s.size:Int))=false:=decide_eq_false (by omega);have h2':(s.size:Int)≤64:=by omega
   have h2h:=zh h2;clear h1 h2;go_wp2_with fail
   go_loopg [3,4] (s.size+1) (fun gk s3 s4 wr=>∃(i:Nat),s3= .int .i64 i∧i≤s.size∧s.size - i<gk∧(s.data.toList.take i).all wordB=true∧w=wr)
   case atStart=>exact⟨0,rfl,by omega,by omega,rfl,rfl⟩
   case round=>
    obtain⟨i,rfl,hi,hk,hall,rfl⟩:=hrel;have hallh:=zh hall;clear hall;by_cases hlt:i<s.size
    ·have hlt':(i:Int)<s.size:=by omega
     have hlth:=zh hlt;have hcases:s[i].toNat<33∨(s[i].toNat:Int)=33∨s[i].toNat=34∨(35≤s[i].toNat∧s[i].toNat≤91)∨s[i].toNat=92∨(93≤s[i].toNat∧s[i].toNat≤126)∨126<s[i].toNat:=by omega
     rcases hcases with hc |hc |hc |hc |hc |hc |hc
     ·have hw:=zh (show wordB s[i]=false by unfold wordB;simp;omega);have hch:=zh hc;clear hc;go_wp2_with fail
      all_goals first
       | (exfalso;have hx:=hch.o;(try simp only [bne_iff_ne,ne_eq,bne_eq_false_iff_eq]at*);omega)
       |skip
      all_goals
       go_ret;exact⟨ret_eq (by unfold isWord;rw [all_no hlth.o hw.o];rfl),rfl⟩
     ·have hw:=zh (show wordB s[i]=true by unfold wordB;simp;omega);have hch:=zh hc;clear hc;go_wp2_with fail
      all_goals first
       | (exfalso;have hx:=hch.o;(try simp only [bne_iff_ne,ne_eq,bne_eq_false_iff_eq]at*);omega)
       |skip
      all_goals
       go_roundg (s.size - i)
       case measure=>omega
       case rel=>exact⟨i+1,by go_num,by have:=hlth.o;omega,by have:=hlth.o;omega,all_next hlth.o hallh.o hw.o,rfl⟩
     ·have hw:=zh (show wordB s[i]=false by unfold wordB;simp;omega);have hch:=zh hc;clear hc;go_wp2_with fail
      all_goals first
       | (exfalso;have hx:=hch.o;(try simp only [bne_iff_ne,ne_eq,bne_eq_false_iff_eq]at*);omega)
       |skip
      all_goals
       go_ret;exact⟨ret_eq (by unfold isWord;rw [all_no hlth.o hw.o];rfl),rfl⟩
     ·have hw:=zh (show wordB s[i]=true by unfold wordB;simp;omega);have hch:=zh hc;clear hc;go_wp2_with fail
      all_goals first
       | (exfalso;have hx:=hch.o;(try simp only [bne_iff_ne,ne_eq,bne_eq_false_iff_eq]at*);omega)
       |skip
      all_goals
       go_roundg (s.size - i)
       case measure=>omega
       case rel=>exact⟨i+1,by go_num,by have:=hlth.o;omega,by have:=hlth.o;omega,all_next hlth.o hallh.o hw.o,rfl⟩
     ·have hw:=zh (show wordB s[i]=false by unfold wordB;simp;omega);have hch:=zh hc;clear hc;go_wp2_with fail
      all_goals first
       | (exfalso;have hx:=hch.o;(try simp only [bne_iff_ne,ne_eq,bne_eq_false_iff_eq]at*);omega)
       |skip
      all_goals
       go_ret;exact⟨ret_eq (by unfold isWord;rw [all_no hlth.o hw.o];rfl),rfl⟩
     ·have hw:=zh (show wordB s[i]=true by unfold wordB;simp;omega);have hch:=zh hc;clear hc;go_wp2_with fail
      all_goals first
       | (exfalso;have hx:=hch.o;(try simp only [bne_iff_ne,ne_eq,bne_eq_false_iff_eq]at*);omega)
       |skip
      all_goals
       go_roundg (s.size - i)
       case measure=>omega
       case rel=>exact⟨i+1,by go_num,by have:=hlth.o;omega,by have:=hlth.o;omega,all_next hlth.o hallh.o hw.o,rfl⟩
     ·have hw:=zh (show wordB s[i]=false by unfold wordB;simp;omega);have hch:=zh hc;clear hc;go_wp2_with fail
      all_goals first
       | (exfalso;have hx:=hch.o;(try simp only [bne_iff_ne,ne_eq,bne_eq_false_iff_eq]at*);omega)
       |skip
      all_goals
       go_ret;exact⟨ret_eq (by unfold isWord;rw [all_no hlth.o hw.o];rfl),rfl⟩
    ·have hge:¬(i:Int)<s.size:=by omega
     have ha:=hallh.o;rw [str_full (by omega)]at ha;have hah:=zh ha;clear hlt ha hk;go_wp2_with fail
     go_ret;exact⟨ret_eq (by unfold isWord;rw [hah.o,decide_eq_true h1h.o,decide_eq_true h2h.o];rfl),rfl⟩
  ·have d2:decide (64<(s.size:Int))=true:=decide_eq_true (by omega);have h2h:=zh h2;clear h1 h2;go_wp2_with fail
   go_ret;exact⟨ret_eq (by unfold isWord;rw [decide_eq_false h2h.o,Bool.and_false]),rfl⟩
 ·have d1:decide ((s.size:Int)<1)=true:=decide_eq_true (by omega);have h1h:=zh h1;clear h1;go_wp2_with fail
  go_ret;exact⟨ret_eq (by unfold isWord;rw [decide_eq_false h1h.o,Bool.and_false,Bool.false_and]),rfl⟩
theorem any_take {p:ByteArray→Bool}{l:List ByteArray}{i:Nat}(hi:i<l.length) (h:(l.take i).any p=false) (hp:p l[i]=false):(l.take (i+1)).any p=false:=by
 rw [List.take_succ_eq_append_getElem hi,List.any_append,h];simpa using hp
set_option maxHeartbeats 2000000 in
theorem rhas_t (w:World) (A:Option Addr) (n c:Nat) (l:List ByteArray) (s:ByteArray) (hA:Rd w 1 A n (strCells l)) (hn:l.length=n) (hmax:n≤150000000000000):
  Calls Tryz.prog 154 #[.slice A n c,.string s] w fun e w'=>e= .returned (.bool (l.any fun x=>decide (x=s)))∧w=w':=by
 have hAh:=zh hA;have hnh:=zh hn;clear hA hn;go_enter Tryz.func154,Tryz.ntmps154;go_wp2_with fail
 go_loopg [5] (n+1) (fun gk s5 wr=>∃(i:Nat),s5= .int .i64 i∧i≤n∧n - i<gk∧((l.take i).any fun x=>decide (x=s))=false∧w=wr)
 case atStart=>exact⟨0,rfl,by omega,by omega,rfl,rfl⟩
 case round=>
  obtain⟨i,rfl,hi,hk,hall,rfl⟩:=hrel;have hallh:=zh hall;clear hall;by_cases hlt:i<n
  ·have hlt':(i:Int)<n:=by omega
   have hlth:=zh hlt;have hil:i<l.length:=by rw [hnh.o];exact hlt
   obtain⟨b0,o0,rfl,hc⟩:=hAh.o.2 (by omega);have hilh:=zh hil;obtain⟨x,hx⟩:∃z,Hid (l[i]'hil=z):=⟨_,zh rfl⟩
   have e0:=hc i (.string x) (by rw [←hx.o];exact strCells_at hil);have htl:=toList_beq x s;clear hc hlt;by_cases he:x=s
   ·rw [decide_eq_true he]at htl;have hv:=zh (show(l.any fun x=>decide (x=s))=true from List.any_eq_true.2 ⟨l[i]'hilh.o,List.getElem_mem _,by rw [hx.o];exact decide_eq_true he⟩);clear he;go_wp2_with fail
    go_ret;exact⟨ret_eq hv.o.symm,rfl⟩
   ·rw [decide_eq_false he]at htl;have hv:=zh (any_take hilh.o hallh.o (by simp only [hx.o];exact decide_eq_false he));clear he;go_wp2_with fail
    go_roundg (n - i)
    case measure=>omega
    case rel=>exact⟨i+1,by go_num,by have:=hlth.o;omega,by have:=hlth.o;omega,hv.o,rfl⟩
  ·have hge:¬(i:Int)<n:=by omega
   have hv:=zh (show(l.any fun x=>decide (x=s))=false by
    have:=hallh.o;rwa [List.take_of_length_le (by rw [hnh.o];omega)]at this)
   clear hlt hk;go_wp2_with fail
   go_ret;exact⟨ret_eq hv.o.symm,rfl⟩
theorem all_take1 {p:ByteArray→Bool}{l:List ByteArray}{i:Nat}(hi:i<l.length) (h:(l.take i).all p=true) (hp:p l[i]=true):(l.take (i+1)).all p=true:=by
 rw [List.take_succ_eq_append_getElem hi,List.all_append,h];simpa using hp
theorem all_not1 {p:ByteArray→Bool}{l:List ByteArray}{i:Nat}(hi:i<l.length) (hp:p l[i]=false):l.all p=false:=by
 rw [←Bool.not_eq_true,List.all_eq_true];intro h;have:=h _ (List.getElem_mem hi);rw [hp]at this;cases this
set_option maxRecDepth 100000 in
set_option maxHeartbeats 2000000 in
theorem rwithin_t (w:World) (A B:Option Addr) (n m c d:Nat) (a b:List ByteArray) (hA:Rd w 1 A n (strCells a)) (hn:a.length=n) (hB:Rd w 1 B m (strCells b)) (hm:b.length=m) (hmax:n≤150000000000000) (hmax2:m≤150000000000000) (hsa:∀s∈a,s.size≤150000000000000):
  Calls Tryz.prog 105 #[.slice A n c,.slice B m d] w fun e w'=>e= .returned (.bool (within a b))∧w=w':=by
 have hAh:=zh hA;have hnh:=zh hn;have hsh:=zh hsa;have hhas:=zh (fun s=>rhas_t w B m d b s hB hm hmax2);clear hA hn hsa hB hm;unfold within;go_enter Tryz.func105,Tryz.ntmps105;go_wp2_with fail
 go_loopg [5] (n+1) (fun gk s5 wr=>∃(i:Nat),s5= .int .i64 i∧i≤n∧n - i<gk∧((a.take i).all fun s=> !isWord s ||b.any fun x=>decide (x=s))=true∧w=wr)
 case atStart=>exact⟨0,rfl,by omega,by omega,rfl,rfl⟩
 case round=>
  obtain⟨i,rfl,hi,hk,hall,rfl⟩:=hrel;have hallh:=zh hall;clear hall;by_cases hlt:i<n
  ·have hlt':(i:Int)<n:=by omega
   have hlth:=zh hlt;have hil:i<a.length:=by rw [hnh.o];exact hlt
   obtain⟨b0,o0,rfl,hc⟩:=hAh.o.2 (by omega);have hilh:=zh hil;obtain⟨x,hx⟩:∃z,Hid (a[i]'hil=z):=⟨_,zh rfl⟩
   have e0:=hc i (.string x) (by rw [←hx.o];exact strCells_at hil);have hw:=rword_t w x (by rw [←hx.o];exact hsh.o _ (List.getElem_mem hil));have hhx:=hhas.o x;clear hc hlt;cases hwx:isWord x with
   |false=>
    have hv:=zh (all_take1 hilh.o hallh.o (by simp only [hx.o,hwx];rfl));rw [hwx]at hw;clear hwx hhx;go_wp2_with (go_at_call 153;refine Calls.mono (show Calls Tryz.prog 153 _ _ _ from hw) ?_;rintro e W1 ⟨rfl,rfl⟩)
    go_roundg (n - i)
    case measure=>omega
    case rel=>exact⟨i+1,by go_num,by have:=hlth.o;omega,by have:=hlth.o;omega,hv.o,rfl⟩
   |true=>
    have hwxh:=zh hwx;rw [hwx]at hw;clear hwx;cases hbx:b.any fun y=>decide (y=x)with
    |false=>
     have hv:=zh (show(a.all fun s=> !isWord s ||b.any fun x=>decide (x=s))=false from all_not1 hilh.o (by simp only [hx.o,hwxh.o,hbx];rfl));rw [hbx]at hhx;clear hbx;go_wp2_with (first
      | (go_at_call 153;refine Calls.mono (show Calls Tryz.prog 153 _ _ _ from hw) ?_;rintro e W1 ⟨rfl,rfl⟩)
      | (go_at_call 154;refine Calls.mono (show Calls Tryz.prog 154 _ _ _ from hhx) ?_;rintro e W2 ⟨rfl,rfl⟩))
     go_ret;exact⟨ret_eq hv.o.symm,rfl⟩
    |true=>
     have hv:=zh (all_take1 hilh.o hallh.o (by simp only [hx.o,hwxh.o,hbx];rfl));rw [hbx]at hhx;clear hbx;go_wp2_with (first
      | (go_at_call 153;refine Calls.mono (show Calls Tryz.prog 153 _ _ _ from hw) ?_;rintro e W1 ⟨rfl,rfl⟩)
      | (go_at_call 154;refine Calls.mono (show Calls Tryz.prog 154 _ _ _ from hhx) ?_;rintro e W2 ⟨rfl,rfl⟩))
     go_roundg (n - i)
     case measure=>omega
     case rel=>exact⟨i+1,by go_num,by have:=hlth.o;omega,by have:=hlth.o;omega,hv.o,rfl⟩
  ·have hge:¬(i:Int)<n:=by omega
   have hv:=zh (show(a.all fun s=> !isWord s ||b.any fun x=>decide (x=s))=true by
    have:=hallh.o;rwa [List.take_of_length_le (by rw [hnh.o];omega)]at this)
   clear hlt hk;go_wp2_with fail
   go_ret;exact⟨ret_eq hv.o.symm,rfl⟩
end Go.Proofs.YtpmgepijkhaonaaGreat
namespace Go.Proofs.YtpmgepijkhaonaaGreat
open Go.RowKit Go.Sig
theorem rsign_t (w:World) (c:UInt8):Calls Tryz.prog 204 #[.int .u8 (c.toNat:Int)] w fun e w'=>e= .returned (.bool (signB c))∧w=w':=by
 go_enter Tryz.func204,Tryz.ntmps204;go_wp2_with fail
 all_goals go_ret
 all_goals refine⟨ret_eq ?_,rfl⟩
 all_goals unfold signB
 all_goals (rw [Bool.eq_iff_iff];simp only [Bool.or_eq_true,decide_eq_true_eq,beq_iff_eq,true_iff];omega)
set_option maxHeartbeats 2000000 in
theorem rright1_t (w:World) (s:ByteArray) (hs:s.size≤150000000000000):Calls Tryz.prog 149 #[.agg #[.int .i64 1,.string s,.int .i64 0]] w fun e w'=>e= .returned (.bool (idM s))∧Fr [] w w':=by
 go_enter Tryz.func149,Tryz.ntmps149;go_upto_region 1 with(fail)
 refine wp_gen (fun W=>Blk W w.heap.size 208 #[.int .i64 1,.string s,.int .i64 0]∧Fr [] w W) ⟨Blk.new _ _ _,(Fr.refl _ _).alloc _⟩ ?_;rintro W ⟨hB,fW⟩;obtain⟨g,HG⟩:∃z,Hid (w.heap.size=z):=⟨_,zh rfl⟩
 rw [HG.o]at hB⊢;obtain⟨e0,e1,e2⟩:=hB.c3;have hgl:=hB.lt;clear hB;by_cases h1:1≤s.size
 ·have d1:((s.size:Int)==0)=false:=by rw [beq_eq_false_iff_ne];omega
  have h1h:=zh h1;by_cases h2:s.size≤32
  ·have d2:decide (32<(s.size:Int))=false:=decide_eq_false (by omega);have h2h:=zh h2;clear h1 h2;go_wp2_with fail
   go_loopg [3] (s.size+1) (fun gk s3 wr=>∃(i:Nat),s3= .int .i64 i∧i≤s.size∧s.size - i<gk∧(s.data.toList.take i).all signB=true∧W=wr)
   case atStart=>exact⟨0,rfl,by omega,by omega,rfl,rfl⟩
   case round=>
    obtain⟨i,rfl,hi,hk,hall,rfl⟩:=hrel;have hallh:=zh hall;clear hall;by_cases hlt:i<s.size
    ·have hlt':(i:Int)<s.size:=by omega
     have hlth:=zh hlt;have hsg:=rsign_t W s[i];obtain⟨r,hr⟩:∃z,Hid (signB s[i]=z):=⟨_,zh rfl⟩
     rw [hr.o]at hsg;cases r with
     |true=>
      go_wp2_with (go_at_call 204;refine hsg.mono ?_;rintro e w' ⟨rfl,rfl⟩)
      go_roundg (s.size - i)
      case measure=>omega
      case rel=>exact⟨i+1,by go_num,by have:=hlth.o;omega,by have:=hlth.o;omega,all_next hlth.o hallh.o hr.o,rfl⟩
     |false=>
      go_wp2_with (go_at_call 204;refine hsg.mono ?_;rintro e w' ⟨rfl,rfl⟩)
      go_ret;exact⟨ret_eq (by unfold idM;rw [all_no hlth.o hr.o];rfl),fW⟩
    ·have hge:¬(i:Int)<s.size:=by omega
     have ha:=hallh.o;rw [str_full (by omega)]at ha;have hah:=zh ha;clear hlt ha hk;go_wp2_with fail
     go_ret;exact⟨ret_eq (by unfold idM;rw [hah.o,decide_eq_true h1h.o,decide_eq_true h2h.o];rfl),fW⟩
  ·have d2:decide (32<(s.size:Int))=true:=decide_eq_true (by omega);have h2h:=zh h2;clear h1 h2;go_wp2_with fail
   go_ret;exact⟨ret_eq (by unfold idM;rw [decide_eq_false h2h.o,Bool.and_false]),fW⟩
 ·have d1:((s.size:Int)==0)=true:=by rw [beq_iff_eq];omega
  have h1h:=zh h1;clear h1;go_wp2_with fail
  go_ret;exact⟨ret_eq (by unfold idM;rw [decide_eq_false h1h.o,Bool.and_false,Bool.false_and]),fW⟩
theorem rid_t (w:World) (s:ByteArray) (hs:s.size≤150000000000000):Calls Tryz.prog 101 #[.string s] w fun e w'=>e= .returned (.bool (idM s))∧Fr [] w w':=by
 have hr:=rright1_t w s hs;go_enter Tryz.func101,Tryz.ntmps101;go_wp2_with (go_at_call 149;refine hr.mono ?_;rintro e w' ⟨rfl,F1⟩)
 go_ret;exact⟨rfl,F1⟩
set_option maxHeartbeats 2000000 in
theorem rtexts_t (w:World) (A:Option Addr) (n c:Nat) (l:List ByteArray) (hA:Rd w 1 A n (strCells l)) (hn:l.length=n) (hmax:n≤150000000000000):
  Calls Tryz.prog 102 #[.slice A n c] w fun e w'=>e= .returned (.bool (textsM l))∧w=w':=by
 have hAh:=zh hA;have hnh:=zh hn;clear hA hn;unfold textsM;go_enter Tryz.func102,Tryz.ntmps102;go_wp2_with fail
 go_loopg [3] (n+1) (fun gk s3 wr=>∃(i:Nat),s3= .int .i64 i∧i≤n∧n - i<gk∧((l.take i).all fun s=>decide (s.size≤128))=true∧w=wr)
 case atStart=>exact⟨0,rfl,by omega,by omega,rfl,rfl⟩
 case round=>
  obtain⟨i,rfl,hi,hk,hall,rfl⟩:=hrel;have hallh:=zh hall;clear hall;by_cases hlt:i<n
  ·have hlt':(i:Int)<n:=by omega
   have hlth:=zh hlt;have hil:i<l.length:=by rw [hnh.o];exact hlt
   obtain⟨b0,o0,rfl,hc⟩:=hAh.o.2 (by omega);have hilh:=zh hil;obtain⟨x,hx⟩:∃z,Hid (l[i]'hil=z):=⟨_,zh rfl⟩
   have e0:=hc i (.string x) (by rw [←hx.o];exact strCells_at hil);clear hc hlt;by_cases h1:x.size≤128
   ·have d1:decide (128<(x.size:Int))=false:=decide_eq_false (by omega);have hv:=zh (all_take1 hilh.o hallh.o (by simp only [hx.o];exact decide_eq_true h1));clear h1;go_wp2_with fail
    go_roundg (n - i)
    case measure=>omega
    case rel=>exact⟨i+1,by go_num,by have:=hlth.o;omega,by have:=hlth.o;omega,hv.o,rfl⟩
   ·have d1:decide (128<(x.size:Int))=true:=decide_eq_true (by omega);have hv:=zh (show(l.all fun s=>decide (s.size≤128))=false from all_not1 hilh.o (by simp only [hx.o];exact decide_eq_false h1));clear h1;go_wp2_with fail
    go_ret;exact⟨ret_eq hv.o.symm,rfl⟩
  ·have hge:¬(i:Int)<n:=by omega
   have hv:=zh (show(l.all fun s=>decide (s.size≤128))=true by
    have:=hallh.o;rwa [List.take_of_length_le (by rw [hnh.o];omega)]at this)
   clear hlt hk;go_wp2_with fail
   go_ret;exact⟨ret_eq hv.o.symm,rfl⟩
theorem take_next {a b:List ByteArray}{i:Nat}(ha:i<a.length) (hb:i<b.length) (h:a.take i=b.take i) (he:a[i]=b[i]):a.take (i+1)=b.take (i+1):=by
 rw [List.take_succ_eq_append_getElem ha,List.take_succ_eq_append_getElem hb,h,he]
set_option maxRecDepth 100000 in
set_option maxHeartbeats 2000000 in
theorem rsameg_t (w:World) (A B:Option Addr) (n m c d:Nat) (a b:List ByteArray) (hA:Rd w 1 A n (strCells a)) (hn:a.length=n) (hB:Rd w 1 B m (strCells b)) (hm:b.length=m) (hmax:n≤1048576) (hmax2:m≤150000000000000):
  Calls Tryz.prog 53 #[.slice A n c,.slice B m d] w fun e w'=>e= .returned (.bool (decide (a=b)))∧Fr [] w w':=by
 have hAh:=zh hA;have hBh:=zh hB;have hnh:=zh hn;have hmh:=zh hm;clear hA hB hn hm;by_cases hnm:n=m
 ·subst hnm;have d0:((n:Int)==n)=true:=beq_self_eq_true _;go_enter Tryz.func53,Tryz.ntmps53;go_wp2_with fail
  go_loopg [5] (n+1) (fun gk s5 wr=>∃(i:Nat),s5= .int .i64 i∧i≤n∧n - i<gk∧a.take i=b.take i∧Fr [] w wr)
  case atStart=>exact⟨0,rfl,by omega,by omega,rfl,Fr.refl _ _⟩
  case round=>
   obtain⟨i,rfl,hi,hk,htk,hF⟩:=hrel;have hFh:=zh hF;have htkh:=zh htk;clear htk;by_cases hlt:i<n
   ·have hlt':(i:Int)<n:=by omega
    have hlth:=zh hlt;have ha':i<a.length:=by rw [hnh.o];exact hlt
    have hb':i<b.length:=by rw [hmh.o];exact hlt
    have hah:=zh ha';have hbh:=zh hb';obtain⟨ba,oa,rfl,hcella⟩:=(Rd.fr hAh.o hF (by simp [Off])).2 (by omega);obtain⟨bb,ob,rfl,hcellb⟩:=(Rd.fr hBh.o hF (by simp [Off])).2 (by omega);obtain⟨y,hy⟩:∃z,Hid (a[i]'ha'=z):=⟨_,zh rfl⟩
    obtain⟨z,hz⟩:∃z,Hid (b[i]'hb'=z):=⟨_,zh rfl⟩
    have cn:=hcella i (.string y) (by rw [←hy.o];exact strCells_at ha');have dn:=hcellb i (.string z) (by rw [←hz.o];exact strCells_at hb');clear hcella hcellb hF;have h1:=toList_beq y z;by_cases he:y=z
    ·rw [decide_eq_true he]at h1;have heh:=zh he;clear he;go_upto_region 6 with(fail)
     go_quiet (fail)
     go_wp2;go_roundg (n - i)
     case measure=>omega
     case rel=>exact⟨i+1,by go_num,by have:=hlth.o;omega,by have:=hlth.o;omega,take_next hah.o hbh.o htkh.o (by rw [hy.o,hz.o];exact heh.o),hFh.o.drewN _⟩
    ·rw [decide_eq_false he]at h1;have hv:=zh (show¬a=b from fun e=>he (by
      have:=hy.o;have h2:=hz.o;subst e;rw [←this,←h2]))
     clear he;go_upto_region 6 with(fail)
     go_quiet (fail)
     go_wp2;go_ret;exact⟨ret_eq (decide_eq_false hv.o).symm,hFh.o.drewN _⟩
   ·have hin:i=n:=by omega
    have hge:¬(i:Int)<n:=by omega
    have hv:=zh (show a=b by
     have:=htkh.o;rwa [List.take_of_length_le (by rw [hnh.o];omega),List.take_of_length_le (by rw [hmh.o];omega)]at this)
    clear hlt hk hF;go_wp2;go_ret;exact⟨ret_eq (decide_eq_true hv.o).symm,hFh.o⟩
 ·have d0:((n:Int) !=m)=true:=by rw [bne_iff_ne];omega
  have hv:=zh (show¬a=b from fun e=>hnm (by rw [←hnh.o,←hmh.o,e]));clear hnm;go_enter Tryz.func53,Tryz.ntmps53;go_wp2_with fail
  go_ret;exact⟨ret_eq (decide_eq_false hv.o).symm,Fr.refl _ _⟩
end Go.Proofs.YtpmgepijkhaonaaGreat
namespace Go.Sig
open Go.RowKit
theorem insN_self {s:ByteArray}:∀{l:List ByteArray},RisN l→s∈l→insN s l=l
 | [],_,h=>by cases h
 |x::l,hr,h=>by
  have h':=List.pairwise_cons.1 hr;unfold insN;rcases List.mem_cons.1 h with rfl |h
  ·rw [if_neg (by rw [bl_irrefl];decide),if_pos rfl]
  ·have hx:=h'.1 s h;rw [if_neg (by rw [bl_asymm hx];decide)];split
   ·rfl
   ·rw [insN_self h'.2 h]
theorem insN_at {s:ByteArray}:∀{l:List ByteArray}{j:Nat},RisN l→s∉l→j≤l.length→(∀i (h:i<l.length),i<j→bl l[i] s=true)→(∀h:j<l.length,bl l[j] s=false)→insN s l=l.take j++s::l.drop j
 | [],j,_,_,hj,_,_=>by
  obtain rfl:j=0:=by simpa using hj
  rfl
 |x::l,0,hr,hn,_,_,h2=>by have hx:=h2 (by simp);simp only [zC]at hx;have hne:s≠x:=fun e=>hn (by simp [e]);unfold insN;rw [if_pos ((bl_total hne).resolve_right (by rw [hx];decide))];rfl
 |x::l,j+1,hr,hn,hj,h1,h2=>by have h':=List.pairwise_cons.1 hr;have hx:=h1 0 (by simp) (by omega);simp only [zC]at hx;have hne:s≠x:=fun e=>hn (by simp [e]);unfold insN;rw [if_neg (by rw [bl_asymm hx];decide),if_neg hne,insN_at h'.2 (fun h=>hn (by simp [h])) (by simpa using hj) (fun i hi hij=>h1 (i+1) (Nat.succ_lt_succ hi) (by omega)) (fun h=>h2 (Nat.succ_lt_succ h))];rfl
theorem setOf_snoc {l:List ByteArray}{i:Nat}(hi:i<l.length):setOf (l.take (i+1))=if isWord l[i]then insN l[i] (setOf (l.take i))else setOf (l.take i):=by
 unfold setOf;rw [List.take_succ_eq_append_getElem hi,List.foldl_append];rfl
theorem insN_length (s:ByteArray):∀l:List ByteArray,(insN s l).length≤l.length+1
 | []=>by simp [insN]
 |x::l=>by
  unfold insN;split
  ·simp
  ·split
   ·simp
   ·have:=insN_length s l;simp only [List.length_cons];omega
theorem setOf_takeLen {l:List ByteArray}:∀{i:Nat},i≤l.length→(setOf (l.take i)).length≤i
 | 0,_=>by simp [setOf]
 |i+1,h=>by
  have h1:=setOf_takeLen (l:=l) (i:=i) (by omega);rw [setOf_snoc (by omega)];split
  ·have:=insN_length l[i] (setOf (l.take i));omega
  ·omega
end Go.Sig
namespace Go.Proofs.YtpmgepijkhaonaaGreat
open Go.RowKit Go.Sig
theorem Rd.upto {w:World}{A:Option Addr}{n j:Nat}{l:List ByteArray}(h:Rd w 1 A n (strCells l)) (hn:l.length=n) (hj:j≤n):Rd w 1 A j (strCells (l.take j)):=by
 refine⟨by rw [strCells_length,List.length_take];omega,fun h0=> ?_⟩;obtain⟨b,o,e,hc⟩:=h.2 (by omega);refine⟨b,o,e,fun i u hu=>hc i u ?_⟩;unfold strCells at hu⊢;rw [List.getElem?_map,List.getElem?_take]at hu;split at hu
 ·rw [List.getElem?_map];exact hu
 ·cases hu
theorem Rd.from' {w:World}{b o n j:Nat}{l:List ByteArray}(h:Rd w 1 (some ⟨b,o,none⟩) n (strCells l)) (hn:l.length=n) (hj:j≤n):Rd w 1 (some ⟨b,o+j,none⟩) (n - j) (strCells (l.drop j)):=by
 refine⟨by rw [strCells_length,List.length_drop];omega,fun h0=> ?_⟩;obtain⟨b',o',e,hc⟩:=h.2 (by omega);injection e with e
 injection e with e1 e2
 subst e1 e2;refine⟨b,o+j,rfl,fun i u hu=> ?_⟩;rw [Nat.add_assoc];refine hc (j+i) u ?_;unfold strCells at hu⊢;rw [List.getElem?_map,List.getElem?_drop]at hu;rw [List.getElem?_map];exact hu
theorem Own.form2 {w:World}{e size n m c:Nat}{A:Option Addr}{xs:List Value}(h:Own w e size (.slice A n c) m xs):(A=none∧n=0∧c=0)∨∃g,A=some ⟨g,0,none⟩∧n≤c∧c≤maxLen:=by
 rcases h.2 with⟨h1,h2⟩ | ⟨g,cap,cur,h1,_,_,h3,h4,_⟩
 ·injection h1 with e1 e2 e3
  exact .inl ⟨e1,e2,e3⟩
 ·injection h1 with e1 e2 e3
  subst e1 e2 e3;exact .inr ⟨g,rfl,h3,h4⟩
theorem made_app {W W2:World}{o:Obj}{A:Option Addr}{c j:Nat}{xs:List Value}(p1:Own W2 9 1 (.slice A (0+j) c) (0+j) (List.take (0*1) (#[]:Array Value).toList++xs)) (p2:Fr (rowOf (.slice (some ⟨W.heap.size,0,none⟩) 0 0)) (W.alloc o) W2)
  (p3:∀g,g∈rowOf (.slice A (0+j) c)→g∈rowOf (.slice (some ⟨W.heap.size,0,none⟩) 0 0)∨g=(W.alloc o).heap.size):Own W2 9 1 (.slice A j c) j xs∧Fr [] W W2∧∀g∈rowOf (.slice A j c),W.heap.size≤g:=by
 rw [Nat.zero_add]at p1 p3;have hr:∀g∈rowOf (.slice (some ⟨W.heap.size,0,none⟩) 0 0),g=W.heap.size:=fun g hg=>by
  obtain⟨ad,e,rfl⟩:=rowOf_mem.1 hg;injection e with e
  rw [←e]
 refine⟨by simpa using p1,((Fr.refl [] W).alloc o).andThen p2 (fun g hg=> .inr (Nat.le_of_eq (hr g hg).symm)),fun g hg=> ?_⟩;rcases p3 g hg with h |h
 ·exact Nat.le_of_eq (hr g h).symm
 ·rw [h];simp
theorem more_app {W V V2 W2:World}{A A2:Option Addr}{c c2 j m:Nat}{xs:List Value}(h3:∀g∈rowOf (.slice A j c),W.heap.size≤g) (hF:Fr [] W V) (hV:Fr [] V V2) (p1:Own W2 9 1 (.slice A2 m c2) m xs) (p2:Fr (rowOf (.slice A j c)) V2 W2)
  (p3:∀g,g∈rowOf (.slice A2 m c2)→g∈rowOf (.slice A j c)∨g=V2.heap.size):Own W2 9 1 (.slice A2 m c2) m xs∧Fr [] W W2∧∀g∈rowOf (.slice A2 m c2),W.heap.size≤g:=by
 have hs:=(hF.trans hV).size;refine⟨p1,(hF.trans hV).andThen p2 (fun g hg=> .inr (h3 g hg)),fun g hg=> ?_⟩;rcases p3 g hg with h |h
 ·exact h3 g h
 ·omega
set_option maxRecDepth 100000 in
set_option maxHeartbeats 4000000 in
theorem rset_t (w:World) (A:Option Addr) (n c:Nat) (l:List ByteArray) (hA:Rd w 1 A n (strCells l)) (hn:l.length=n) (hmax:n≤1000000) (hs:∀s∈l,s.size≤150000000000000):
  Calls Tryz.prog 150 #[.slice A n c] w (SRow w (setOf l)):=by
 have hAh:=zh hA;have hnh:=zh hn;have hsh:=zh hs;clear hA hn hs;go_enter Tryz.func150,Tryz.ntmps150;go_wp2_with fail
 go_loopg [3,4] (n+1) (fun gk s3 s4 wr=>∃(i:Nat) (B:Option Addr) (d:Nat),s4= .int .i64 i∧s3= .slice B (setOf (l.take i)).length d∧i≤n∧n - i<gk∧Own wr 9 1 (.slice B (setOf (l.take i)).length d) (setOf (l.take i)).length (strCells (setOf (l.take i)))∧(∀g∈rowOf (.slice B (setOf (l.take i)).length d),w.heap.size≤g)∧Fr [] w wr)
 case atStart=>exact⟨0,none,0,rfl,rfl,by omega,by omega,Own.nil _ _ _,by simp [rowOf,Value.ownBlock],Fr.refl _ _⟩
 case round=>
  obtain⟨i,B,d,rfl,rfl,hi,hk,hO,hfr,hF⟩:=hrel;have hFh:=zh hF;have hOh:=zh hO;have hfrh:=zh hfr;by_cases hlt:i<n
  ·have hlt':(i:Int)<n:=by omega
   have hlth:=zh hlt;have hil:i<l.length:=by rw [hnh.o];exact hlt
   have hilh:=zh hil;have hsn:=zh (setOf_snoc hil);have hlen:=zh (setOf_takeLen (l:=l) (i:=i) (by omega));obtain⟨b0,o0,rfl,hc⟩:=(Rd.fr hAh.o hF (by simp [Off])).2 (by omega);obtain⟨x,hx⟩:∃z,Hid (l[i]'hil=z):=⟨_,zh rfl⟩
   rw [hx.o]at hsn;have e0:=hc i (.string x) (by rw [←hx.o];exact strCells_at hil);have hw:=rword_t wr x (by rw [←hx.o];exact hsh.o _ (List.getElem_mem hil));obtain⟨outL,hout⟩:∃z,Hid (setOf (l.take i)=z):=⟨_,zh rfl⟩
   rw [hout.o]at hsn hlen hO hfr;have hris:=zh (show RisN outL by rw [←hout.o];exact setOf_rising _);rw [hout.o];obtain⟨k,hkl⟩:∃z,Hid (outL.length=z):=⟨_,zh rfl⟩
   rw [hkl.o]at hlen hO hfr;rw [hkl.o];have hOk:=zh hO;have hfrk:=zh hfr;have hkn:k≤1000000:=by have:=hlen.o;omega
   have hhas:=rhas_t wr B k d outL x hO.rd hkl.o (by omega);clear hc hF hO hfr hlt;have hkeep:∀(hnx:setOf (l.take (i+1))=outL),∃B' d',Value.slice B k d= .slice B' (setOf (l.take (i+1))).length d'∧Own wr 9 1 (.slice B' (setOf (l.take (i+1))).length d') (setOf (l.take (i+1))).length (strCells (setOf (l.take (i+1))))∧(∀g∈rowOf (.slice B' (setOf (l.take (i+1))).length d'),w.heap.size≤g):=fun hnx=>by rw [hnx,hkl.o];exact⟨B,d,rfl,hOk.o,hfrk.o⟩
   have hkeeph:=zh hkeep;clear hkeep;cases hwx:isWord x with
   |false=>
    have hnx:=hkeeph.o (by rw [hsn.o,hwx];rfl);have hnxh:=zh hnx;rw [hwx]at hw;clear hwx hhas hnx;go_wp2_with (go_at_call 153;refine Calls.mono (show Calls Tryz.prog 153 _ _ _ from hw) ?_;rintro e W1 ⟨rfl,rfl⟩)
    go_roundg (n - i)
    case measure=>omega
    case rel=>obtain⟨B',d',e1,e2,e3⟩:=hnxh.o;exact⟨i+1,B',d',by go_num,e1,by have:=hlth.o;omega,by have:=hlth.o;omega,e2,e3,hFh.o⟩
   |true=>
    have hwxh:=zh hwx;rw [hwx]at hw;clear hwx;cases hbx:outL.any fun y=>decide (y=x)with
    |true=>
     have hmem:x∈outL:=by obtain⟨y,hy,e⟩:=List.any_eq_true.1 hbx;rw [←of_decide_eq_true e];exact hy
     have hnx:=hkeeph.o (by rw [hsn.o,hwxh.o,if_pos rfl,insN_self hris.o hmem]);have hnxh:=zh hnx;rw [hbx]at hhas;clear hbx hmem hnx;go_wp2_with (first
      | (go_at_call 153;refine Calls.mono (show Calls Tryz.prog 153 _ _ _ from hw) ?_;rintro e W1 ⟨rfl,rfl⟩)
      | (go_at_call 154;refine Calls.mono (show Calls Tryz.prog 154 _ _ _ from hhas) ?_;rintro e W2 ⟨rfl,rfl⟩))
     go_roundg (n - i)
     case measure=>omega
     case rel=>obtain⟨B',d',e1,e2,e3⟩:=hnxh.o;exact⟨i+1,B',d',by go_num,e1,by have:=hlth.o;omega,by have:=hlth.o;omega,e2,e3,hFh.o⟩
    |false=>
     have hnm:=zh (show x∉outL from fun h=>by
      have:(outL.any fun y=>decide (y=x))=true:=List.any_eq_true.2 ⟨x,h,decide_eq_true rfl⟩;rw [hbx]at this;cases this)
     rw [hbx]at hhas;clear hbx hkeeph;go_upto_block 2 with(first
      | (go_at_call 153;refine Calls.mono (show Calls Tryz.prog 153 _ _ _ from hw) ?_;rintro e W1 ⟨rfl,rfl⟩)
      | (go_at_call 154;refine Calls.mono (show Calls Tryz.prog 154 _ _ _ from hhas) ?_;rintro e W2 ⟨rfl,rfl⟩))
     go_cut [5]from 27 to 43 (fun s5 wx=>∃j:Nat,s5= .int .i64 j∧j≤k∧(∀q (h:q<outL.length),q<j→bl outL[q] x=true)∧(∀h:j<outL.length,bl outL[j] x=false)∧Fr [] wr wx)
     case first=>
      have e0h:=zh e0;clear e0 hw hhas;go_wp2_with fail
      obtain⟨wz,hwz⟩:∃z:World,Hid (wr=z):=⟨_,zh rfl⟩
      go_loopg [5] (k+1) (fun gk s5 wr2=>∃(j:Nat),s5= .int .i64 j∧j≤k∧k - j<gk∧(∀q (h:q<outL.length),q<j→bl outL[q] x=true)∧Fr [] wz wr2)
      case atStart=>exact⟨0,rfl,by omega,by omega,fun q _ hq=>absurd hq (by omega),by rw [hwz.o];exact Fr.refl _ _⟩
      case round=>
       obtain⟨j,rfl,hj,hk2,hp,hF2⟩:=hrel;have hph:=zh hp;have hF2h:=zh hF2;have hOz:=hOk.o;rw [hwz.o]at hOz;have e0z:=e0h.o;rw [hwz.o]at e0z;have ex:=cell_fr hF2 e0z;clear hp e0z;by_cases hjk:j<k
       ·have hjk':(j:Int)<k:=by omega
        have hjkh:=zh hjk;have hjl:j<outL.length:=by rw [hkl.o];exact hjk
        have hjlh:=zh hjl;obtain⟨bb,ob,rfl,hcb⟩:=(Own.rd (hOz.fr hF2 (by simp))).2 (by omega);obtain⟨y,hy⟩:∃z,Hid (outL[j]'hjl=z):=⟨_,zh rfl⟩
        have ey:=hcb j (.string y) (by rw [←hy.o];exact strCells_at hjl);clear hcb hOz hF2 hjk;cases hbl:Op.bytesLess y.toList x.toList with
        |true=>
         have hv:=zh (show∀q (h:q<outL.length),q<j+1→bl outL[q] x=true from fun q h hq=>by
          by_cases e:q=j
          ·subst e;rw [hy.o];exact hbl
          ·exact hph.o q h (by omega))
         go_upto_region 7 with(fail)
         go_quiet (fail)
         go_wp2_with fail
         go_roundg (k - j)
         case measure=>have:=hjkh.o;omega
         case rel=>exact⟨j+1,by go_num,by have:=hjkh.o;omega,by have:=hjkh.o;omega,hv.o,hF2h.o.drewN _⟩
        |false=>
         have hv:=zh (show bl (outL[j]'hjlh.o) x=false by rw [hy.o];exact hbl);go_upto_region 7 with(fail)
         go_quiet (fail)
         go_wp2_with fail
         go_meet;case rel=>exact⟨j,rfl,hj,hph.o,fun _=>hv.o,by rw [hwz.o];exact hF2h.o.drewN _⟩
       ·have hjk':¬(j:Int)<k:=by omega
        clear hF2 hOz;go_upto_region 7 with(fail)
        go_quiet (fail)
        go_wp2_with fail
        go_meet;case rel=>exact⟨j,rfl,hj,hph.o,fun h=>absurd h (by rw [hkl.o];exact hjk),by rw [hwz.o];exact hF2h.o.drewN _⟩
     case rest=>
      obtain⟨j,rfl,hj,hp1,hp2,hFc⟩:=hcut;have hins:=zh (show setOf (l.take (i+1))=outL.take j++x::outL.drop j by rw [hsn.o,hwxh.o,if_pos rfl,insN_at hris.o hnm.o (by rw [hkl.o];exact hj) hp1 hp2]);have hFch:=zh (hFh.o.trans hFc);have hOc:=hOk.o.fr hFc (by simp);have hxc:=cell_fr hFc e0;clear hp1 hp2 hFc e0 hw hhas;rcases Own.form2 hOc with⟨rfl,rfl,rfl⟩ | ⟨g,rfl,hkd,hdm⟩
      ·obtain rfl:j=0:=by omega
       have hx2:=hxc;have hr1:=zh (Rd.nil (wc.alloc (.cells #[] 9)) 1 none);clear hOc;go_upto_region 10 with(refine wpList_own_append tStrs (Own.made wc #[] 9 1 0 0 (by omega) (by decide) rfl) hr1.o (by simp) (by simp) (by unfold maxLen;omega) (by omega) rfl rfl rfl rfl (fun v2 w2 p1 p2 p3=> ?_);obtain⟨A3,c3,rfl,hA3⟩:=p1.form)
       obtain⟨q1,q2,q3⟩:=made_app p1 p2 p3;have q1h:=zh q1;have q2h:=zh q2;have q3h:=zh q3;clear p1 p2 p3 hA3 q1 q2 q3 hx2;have hx2:=cell_fr q2h.o hxc;go_upto_region 11 with(refine wpList_own_append tStrs (q1h.o.fr ((Fr.refl [] _).alloc _) (by simp)) (str_new w2 x _) (strings_one [x]) (by simp) (by unfold maxLen;omega) (by omega) rfl rfl rfl rfl (fun v2 w3 p1 p2 p3=> ?_);obtain⟨A4,c4,rfl,hA4⟩:=p1.form)
       obtain⟨r1,r2,r3⟩:=more_app q3h.o q2h.o ((Fr.refl [] _).alloc _) p1 p2 p3;have r1h:=zh r1;have r2h:=zh r2;have r3h:=zh r3;have hr5:=zh (Rd.nil w3 1 none);clear p1 p2 p3 hA4 r1 r2 r3 hx2;have hol:outL= []:=List.eq_nil_of_length_eq_zero hkl.o;have hins2:=zh (show setOf (l.take (i+1))= [x] by rw [hins.o,hol];rfl);clear hol;go_wp2_with (refine wpList_own_append tStrs r1h.o hr5.o (by simp) (by simp) (by unfold maxLen;omega) (by omega) rfl rfl rfl rfl (fun v2 w4 p1 p2 p3=> ?_);obtain⟨A5,c5,rfl,hA5⟩:=p1.form)
       go_roundg (n - i)
       case measure=>omega
       case rel=>obtain⟨s1,s2,s3⟩:=more_app r3h.o r2h.o (Fr.refl [] w3) p1 p2 p3;refine⟨i+1,A5,c5,by go_num,by rw [hins2.o];rfl,by have:=hlth.o;omega,by have:=hlth.o;omega,by rw [hins2.o];simpa using s1,by rw [hins2.o];exact fun g hg=>Nat.le_trans hFch.o.size (s3 g hg),hFch.o.trans s2⟩
      ·have hkd':(k:Int)≤d:=by omega
       have hjk':(j:Int)≤k:=by omega
       have hOch:=zh hOc;have hr1:=zh (Rd.fr (Rd.upto hOc.rd hkl.o hj) ((Fr.refl [] wc).alloc (.cells #[] 9)) (by simp [Off]));clear hOc;go_upto_region 10 with(refine wpList_own_append tStrs (Own.made wc #[] 9 1 0 0 (by omega) (by decide) rfl) hr1.o (strings_one _) (by simp) (by unfold maxLen;omega) (by omega) rfl rfl rfl rfl (fun v2 w2 p1 p2 p3=> ?_);obtain⟨A3,c3,rfl,hA3⟩:=p1.form)
       obtain⟨q1,q2,q3⟩:=made_app p1 p2 p3;have q1h:=zh q1;have q2h:=zh q2;have q3h:=zh q3;clear p1 p2 p3 hA3 q1 q2 q3;have hx2:=cell_fr q2h.o hxc;go_upto_region 11 with(refine wpList_own_append tStrs (q1h.o.fr ((Fr.refl [] _).alloc _) (by simp)) (str_new w2 x _) (strings_one [x]) (by simp) (by unfold maxLen;omega) (by omega) rfl rfl rfl rfl (fun v2 w3 p1 p2 p3=> ?_);obtain⟨A4,c4,rfl,hA4⟩:=p1.form)
       obtain⟨r1,r2,r3⟩:=more_app q3h.o q2h.o ((Fr.refl [] _).alloc _) p1 p2 p3;have r1h:=zh r1;have r2h:=zh r2;have r3h:=zh r3;have hr5:=zh (show Rd w3 1 (some ⟨g,j,none⟩) (k - j) (strCells (outL.drop j)) by have h:=Rd.from' (Own.rd (hOch.o.fr r2 (by simp))) hkl.o hj;rwa [Nat.zero_add]at h);clear p1 p2 p3 hA4 r1 r2 r3 hx2;have hfin:=zh (show∀(A5:Option Addr) (c5:Nat) (w4:World),Own w4 9 1 (.slice A5 (j+1+(k - j)) c5) (j+1+(k - j)) (strCells (outL.take j)++strCells [x]++strCells (outL.drop j))→Fr (rowOf (.slice A4 (j+1) c4)) w3 w4→(∀g,g∈rowOf (.slice A5 (j+1+(k - j)) c5)→g∈rowOf (.slice A4 (j+1) c4)∨g=w3.heap.size)→
         ∃B' d',Value.slice A5 (j+1+(k - j)) c5= .slice B' (setOf (l.take (i+1))).length d'∧Own w4 9 1 (.slice B' (setOf (l.take (i+1))).length d') (setOf (l.take (i+1))).length (strCells (setOf (l.take (i+1))))∧(∀g∈rowOf (.slice B' (setOf (l.take (i+1))).length d'),w.heap.size≤g)∧Fr [] w w4 from fun A5 c5 w4 p1 p2 p3=>by
        obtain⟨s1,s2,s3⟩:=more_app r3h.o r2h.o (Fr.refl [] w3) p1 p2 p3;have hl2:(setOf (l.take (i+1))).length=j+1+(k - j):=by rw [hins.o,List.length_append,List.length_cons,List.length_take,List.length_drop,hkl.o];omega
        rw [hl2];have hw2:=hFh.o.size;refine⟨A5,c5,rfl,?_,fun g hg=>Nat.le_trans hFch.o.size (s3 g hg),hFch.o.trans s2⟩;rw [hins.o,show outL.take j++x::outL.drop j=outL.take j++ [x]++outL.drop j by simp,strCells_append,strCells_append];exact s1)
       by_cases hjd:j=d
       ·subst hjd;obtain rfl:k=j:=by omega
        have hdr:outL.drop k= []:=List.drop_eq_nil_of_le (by rw [hkl.o];omega);have hfin2:=hfin.o;rw [hdr,Nat.sub_self]at hfin2;have hfin2h:=zh hfin2;have hr6:=zh (show Rd w3 1 (some ⟨g,0,none⟩) 0 (strCells [])from⟨rfl,fun h0=>by omega⟩);clear hfin2 hdr;go_wp2_with (refine wpList_own_append tStrs r1h.o hr6.o (strings_one _) (by simp) (by unfold maxLen;omega) (by omega) rfl rfl rfl rfl (fun v2 w4 p1 p2 p3=> ?_);obtain⟨A5,c5,rfl,hA5⟩:=p1.form)
        go_roundg (n - i)
        case measure=>omega
        case rel=>obtain⟨B',d',e1,e2,e3,e4⟩:=hfin2h.o A5 c5 w4 p1 p2 p3;exact⟨i+1,B',d',by go_num,e1,by have:=hlth.o;omega,by have:=hlth.o;omega,e2,e3,e4⟩
       ·go_wp2_with (refine wpList_own_append tStrs r1h.o hr5.o (strings_one _) (by simp) (by unfold maxLen;omega) (by omega) rfl rfl rfl rfl (fun v2 w4 p1 p2 p3=> ?_);obtain⟨A5,c5,rfl,hA5⟩:=p1.form)
        go_roundg (n - i)
        case measure=>omega
        case rel=>obtain⟨B',d',e1,e2,e3,e4⟩:=hfin.o A5 c5 w4 p1 p2 p3;exact⟨i+1,B',d',by go_num,e1,by have:=hlth.o;omega,by have:=hlth.o;omega,e2,e3,e4⟩
  ·have hge:¬(i:Int)<n:=by omega
   have hin:l.take i=l:=List.take_of_length_le (by rw [hnh.o];omega);rw [hin]at hO hfr⊢;have hOh2:=zh hO;have hfrh2:=zh hfr;clear hO hfr hF hlt hk;go_wp2_with fail
   go_ret;exact⟨_,rfl,hOh2.o,hFh.o,hfrh2.o⟩
end Go.Proofs.YtpmgepijkhaonaaGreat
namespace Go.Proofs.YtpmgepijkhaonaaGreat
open Go.RowKit Go.Sig
def sumN (l:List ByteArray):Nat:=(l.map fun s=>s.size).sum
theorem sumN_snoc {l:List ByteArray}{i:Nat}(hi:i<l.length):sumN (l.take (i+1))=sumN (l.take i)+l[i].size:=by
 unfold sumN;rw [List.take_succ_eq_append_getElem hi,List.map_append,List.sum_append];simp
theorem sumN_le {l:List ByteArray}{b:Nat}(h:∀s∈l,s.size≤b):∀{i:Nat},i≤l.length→sumN (l.take i)≤i*b
 | 0,_=>by simp [sumN]
 |i+1,hi=>by have h1:=sumN_le h (i:=i) (by omega);have h2:=h _ (List.getElem_mem (show i<l.length by omega));rw [sumN_snoc (by omega),Nat.succ_mul];omega
set_option maxRecDepth 100000 in
set_option maxHeartbeats 4000000 in
theorem rprint_t (w:World) (A:Option Addr) (n c:Nat) (l:List ByteArray) (hA:Rd w 1 A n (strCells l)) (hn:l.length=n) (hmax:n≤1000000) (hs:∀s∈l,s.size≤150000000000000):
  Calls Tryz.prog 151 #[.slice A n c] w fun e w'=>∃t:ByteArray,e= .returned (.string t)∧t.size=printLen l∧Fr [] w w':=by
 have hset:=rset_t w A n c l hA hn hmax hs;have hlen:=setOf_takeLen (l:=l) (i:=n) (by omega);rw [List.take_of_length_le (by omega)]at hlen;have hsz:∀s∈setOf l,s.size≤64:=fun s h=>(isWord_size (mem_setOf.1 h).2).2;have hpl:printLen l=sumN (setOf l)+((setOf l).length - 1):=rfl;have hplh:=zh hpl;have hszh:=zh hsz;clear hA hn hs hsz hpl;obtain⟨ls,hls⟩:∃z,Hid (setOf l=z):=⟨_,zh rfl⟩
 rw [hls.o]at hset hlen hplh hszh;go_enter Tryz.func151,Tryz.ntmps151;go_wp2_with fail
 refine hset.mono ?_;rintro e W1 ⟨v,rfl,hO,F1,hrow⟩;obtain⟨B,d,rfl,hB⟩:=hO.form;obtain⟨k,hk⟩:∃z,Hid (ls.length=z):=⟨_,zh rfl⟩
 rw [hk.o]at hO hlen⊢;have hRd:=zh hO.rd;have F1h:=zh F1;clear hset hO F1 hrow hB;go_wp2_with fail
 go_loopg [3,5] (k+1) (fun gk s3 s5 wr=>∃(i:Nat) (t:ByteArray),s5= .int .i64 i∧s3= .string t∧i≤k∧k - i<gk∧t.size=sumN (ls.take i)+(i - 1)∧W1=wr)
 case atStart=>exact⟨0,⟨#[]⟩,rfl,rfl,by omega,by omega,rfl,rfl⟩
 case round=>
  obtain⟨i,t,rfl,rfl,hi,hk2,ht,rfl⟩:=hrel;have hth:=zh ht;clear ht;by_cases hlt:i<k
  ·have hlt':(i:Int)<k:=by omega
   have hlth:=zh hlt;have hil:i<ls.length:=by rw [hk.o];exact hlt
   have hsn:=zh (sumN_snoc hil);have hsl:=sumN_le hszh.o (i:=i) (by omega);obtain⟨b0,o0,rfl,hc⟩:=hRd.o.2 (by omega);obtain⟨x,hx⟩:∃z,Hid (ls[i]'hil=z):=⟨_,zh rfl⟩
   have e0:=hc i (.string x) (by rw [←hx.o];exact strCells_at hil);have hx64:x.size≤64:=by rw [←hx.o];exact hszh.o _ (List.getElem_mem hil)
   rw [hx.o]at hsn;have htl:t.size≤100000000:=by have:=hth.o;omega
   clear hc hsl hlt;by_cases h0:0<i
   ·have h0':0<(i:Int):=by omega
    have h0h:=zh h0;have ha1:=run_string_add_sum (P:=Tryz.prog) W1 t ⟨#[32]⟩ (by have:(ByteArray.mk #[32]).size=1:=rfl;omega);have ha2:=run_string_add_sum (P:=Tryz.prog) W1 (t++⟨#[32]⟩) x (by have:(ByteArray.mk #[32]).size=1:=rfl;rw [ByteArray.size_append];omega);clear h0;go_wp2_with fail
    go_roundg (k - i)
    case measure=>omega
    case rel=>refine⟨i+1,_,by go_num,rfl,by have:=hlth.o;omega,by have:=hlth.o;omega,?_,rfl⟩;have:=hth.o;have:=h0h.o;have h1:(ByteArray.mk #[32]).size=1:=rfl;rw [ByteArray.size_append,ByteArray.size_append,hsn.o];omega
   ·have h0':¬0<(i:Int):=by omega
    have h0h:=zh h0;have ha2:=run_string_add_sum (P:=Tryz.prog) W1 t x (by omega);clear h0;go_wp2_with fail
    go_roundg (k - i)
    case measure=>omega
    case rel=>refine⟨i+1,_,by go_num,rfl,by have:=hlth.o;omega,by have:=hlth.o;omega,?_,rfl⟩;have:=hth.o;have:=h0h.o;rw [ByteArray.size_append,hsn.o];omega
  ·have hge:¬(i:Int)<k:=by omega
   have hin:ls.take i=ls:=List.take_of_length_le (by rw [hk.o];omega);have hv:=zh (show t.size=printLen l by
    have:=hth.o;rw [hin]at this;rw [hplh.o,this,hk.o];omega)
   clear hlt hk2 hin;go_wp2_with fail
   go_ret;exact⟨_,rfl,hv.o,F1h.o⟩
set_option maxRecDepth 100000 in
set_option maxHeartbeats 4000000 in
theorem rset17_t (w:World) (A:Option Addr) (n c:Nat) (l:List ByteArray) (hA:Rd w 1 A n (strCells l)) (hn:l.length=n) (hmax:n≤150000000000000) (hs:∀s∈l,s.size≤150000000000000):
  Calls Tryz.prog 103 #[.slice A n c] w fun e w'=>e= .returned (.bool (setM l))∧Fr [] w w':=by
 have hAh:=zh hA;have hsh:=zh hs;have hnh:=zh hn;by_cases h32:n≤32
 ·have h32':(n:Int)≤32:=by omega
  have h32h:=zh h32;have hset:=rset_t w A n c l hA hn (by omega) hs;clear hA hn hs h32;go_enter Tryz.func103,Tryz.ntmps103;go_wp2_with fail
  refine hset.mono ?_;rintro e W1 ⟨v,rfl,hO,F1,hrow⟩;obtain⟨B,d,rfl,hB⟩:=hO.form;have F1h:=zh F1;have hlen:=setOf_takeLen (l:=l) (i:=n) (by rw [hnh.o];omega);rw [List.take_of_length_le (by rw [hnh.o];omega)]at hlen;have hsame:=rsameg_t W1 B A (setOf l).length n d c (setOf l) l hO.rd rfl (Rd.fr hAh.o F1 (by simp [Off])) hnh.o (by omega) (by omega);clear hset hO F1 hrow hB;obtain⟨k,hk⟩:∃z,Hid ((setOf l).length=z):=⟨_,zh rfl⟩
  rw [hk.o]at hsame hlen⊢;cases he:decide (setOf l=l)with
  |false=>
   have hv:=zh (show setM l=false by unfold setM;rw [he,Bool.and_false,Bool.false_and]);rw [he]at hsame;clear he;go_wp2_with fail
   refine Calls.mono (show Calls Tryz.prog 53 _ _ _ from hsame) ?_;rintro e W2 ⟨rfl,F2⟩;have F2h:=zh (F1h.o.trans F2);clear hsame F2;go_wp2_with fail
   go_ret;exact⟨ret_eq hv.o.symm,F2h.o⟩
  |true=>
   have heh:=zh he;rw [he]at hsame;clear he;go_wp2_with fail
   refine Calls.mono (show Calls Tryz.prog 53 _ _ _ from hsame) ?_;rintro e W2 ⟨rfl,F2⟩;have F2h:=zh (F1h.o.trans F2);have hpr:=rprint_t W2 A n c l (Rd.fr hAh.o F2h.o (by simp [Off])) hnh.o (by have:=h32h.o;omega) hsh.o;clear hsame F2;go_wp2_with fail
   refine hpr.mono ?_;rintro e W3 ⟨t,rfl,ht,F3⟩;have F3h:=zh (F2h.o.trans F3);have hth:=zh ht;clear hpr F3 ht;by_cases h128:t.size≤128
   ·have h128':(t.size:Int)≤128:=by omega
    have hv:=zh (show setM l=true by unfold setM;rw [heh.o,decide_eq_true (show l.length≤32 by rw [hnh.o];exact h32h.o),decide_eq_true (by rw [←hth.o];exact h128)];rfl);clear h128;go_wp2_with fail
    go_ret;exact⟨ret_eq hv.o.symm,F3h.o⟩
   ·have h128':decide ((t.size:Int)≤128)=false:=decide_eq_false (by omega);have hv:=zh (show setM l=false by unfold setM;rw [decide_eq_false (show¬printLen l≤128 by rw [←hth.o];exact h128),Bool.and_false]);clear h128;go_wp2_with fail
    go_ret;exact⟨ret_eq hv.o.symm,F3h.o⟩
 ·have h32':¬(n:Int)≤32:=by omega
  have hv:=zh (show setM l=false by unfold setM;rw [decide_eq_false (show¬l.length≤32 by omega),Bool.false_and,Bool.false_and]);clear hA hn hs h32;go_enter Tryz.func103,Tryz.ntmps103;go_wp2_with fail
  go_ret;exact⟨ret_eq hv.o.symm,Fr.refl _ _⟩
end Go.Proofs.YtpmgepijkhaonaaGreat
namespace Go.Proofs.YtpmgepijkhaonaaGreat
open Go.RowKit Go.Sig
def letB (n:Nat):Bool:=decide (65≤n∧n≤90) ||decide (97≤n∧n≤122)
def digB (n:Nat):Bool:=decide (48≤n∧n≤57)
theorem bool_eq {a b:Bool}(h:a=b):Value.bool a=Value.bool b:=by rw [h]
set_option maxHeartbeats 4000000 in
theorem rver_t (w:World) (s:ByteArray) (hs:s.size≤150000000000000):Calls Tryz.prog 205 #[.string s] w fun e w'=>e= .returned (.bool (verM s))∧w=w':=by
 go_enter Tryz.func205,Tryz.ntmps205;by_cases h1:43≤s.size
 ·have d1:decide ((s.size:Int)<43)=false:=decide_eq_false (by omega);have h1h:=zh h1;by_cases h2:s.size≤128
  ·have d2:decide (128<(s.size:Int))=false:=decide_eq_false (by omega);have h2h:=zh h2;clear h1 h2;go_wp2_with fail
   go_loopg [3] (s.size+1) (fun gk s3 wr=>∃(i:Nat),s3= .int .i64 i∧i≤s.size∧s.size - i<gk∧(s.data.toList.take i).all verB=true∧w=wr)
   case atStart=>exact⟨0,rfl,by omega,by omega,rfl,rfl⟩
   case round=>
    obtain⟨i,rfl,hi,hk,hall,rfl⟩:=hrel;have hallh:=zh hall;clear hall;by_cases hlt:i<s.size
    ·have hlt':(i:Int)<s.size:=by omega
     obtain⟨c,hc⟩:∃z,Hid (s[i]'hlt=z):=⟨_,zh rfl⟩
     have hlth:=zh hlt;go_upto_region 7 with(fail)
     rw [hc.o];go_cut [5]from 24 to 37 (fun s5 wx=>s5= .bool (letB c.toNat)∧w=wx)
     case first=>
      go_wp2_with fail
      all_goals go_meet
      all_goals refine⟨bool_eq ?_,rfl⟩
      all_goals (unfold letB;rw [Bool.eq_iff_iff];simp only [Bool.or_eq_true,decide_eq_true_eq,true_iff,false_iff,Bool.false_eq_true]at*;omega)
     case rest=>
      obtain⟨rfl,rfl⟩:=hcut;go_upto_region 8 with(fail)
      go_cut [6]from 38 to 43 (fun s6 wx=>s6= .bool (digB c.toNat)∧w=wx)
      case first=>
       go_wp2_with fail
       all_goals go_meet
       all_goals refine⟨bool_eq ?_,rfl⟩
       all_goals (unfold digB;rw [Bool.eq_iff_iff];simp only [decide_eq_true_eq,false_iff,Bool.false_eq_true]at*;omega)
      case rest=>
       obtain⟨rfl,rfl⟩:=hcut;have hvb:=zh (show verB c=(letB c.toNat ||digB c.toNat ||decide (c.toNat=45∨c.toNat=46∨c.toNat=95∨c.toNat=126)) by
        unfold verB letB digB;rw [Bool.eq_iff_iff];simp [←UInt8.toNat_inj];omega)
       obtain⟨a,ha⟩:∃z,Hid (letB c.toNat=z):=⟨_,zh rfl⟩
       obtain⟨b,hb⟩:∃z,Hid (digB c.toNat=z):=⟨_,zh rfl⟩
       rw [ha.o,hb.o]at hvb;rw [ha.o,hb.o];go_upto_region 9 with(fail)
       go_cut [65]from 44 to 64 (fun s65 wx=>s65= .bool (!verB c)∧w=wx)
       case first=>
        cases a with
        |true=>
         go_wp2_with fail
         all_goals go_meet
         all_goals refine⟨bool_eq (Eq.trans ?_ (congrArg Bool.not hvb.o.symm)),rfl⟩
         all_goals simp
        |false=>
         cases b with
         |true=>
          go_wp2_with fail
          all_goals go_meet
          all_goals refine⟨bool_eq (Eq.trans ?_ (congrArg Bool.not hvb.o.symm)),rfl⟩
          all_goals simp
         |false=>
          have hcs:c.toNat=45∨c.toNat=46∨c.toNat=95∨c.toNat=126∨¬(c.toNat=45∨c.toNat=46∨c.toNat=95∨c.toNat=126):=by omega
          rcases hcs with h |h |h |h |h
          ·have f45:((c.toNat:Int) !=45)=false:=by rw [bne_eq_false_iff_eq];omega
           have hd:=zh (show decide (c.toNat=45∨c.toNat=46∨c.toNat=95∨c.toNat=126)=true from decide_eq_true (by omega));clear h;go_wp2_with fail
           go_meet;exact⟨bool_eq (Eq.trans (by rw [hd.o];rfl) (congrArg Bool.not hvb.o.symm)),rfl⟩
          ·have f45:((c.toNat:Int) !=45)=true:=by rw [bne_iff_ne];omega
           have f46:((c.toNat:Int) !=46)=false:=by rw [bne_eq_false_iff_eq];omega
           have hd:=zh (show decide (c.toNat=45∨c.toNat=46∨c.toNat=95∨c.toNat=126)=true from decide_eq_true (by omega));clear h;go_wp2_with fail
           go_meet;exact⟨bool_eq (Eq.trans (by rw [hd.o];rfl) (congrArg Bool.not hvb.o.symm)),rfl⟩
          ·have f45:((c.toNat:Int) !=45)=true:=by rw [bne_iff_ne];omega
           have f46:((c.toNat:Int) !=46)=true:=by rw [bne_iff_ne];omega
           have f95:((c.toNat:Int) !=95)=false:=by rw [bne_eq_false_iff_eq];omega
           have hd:=zh (show decide (c.toNat=45∨c.toNat=46∨c.toNat=95∨c.toNat=126)=true from decide_eq_true (by omega));clear h;go_wp2_with fail
           go_meet;exact⟨bool_eq (Eq.trans (by rw [hd.o];rfl) (congrArg Bool.not hvb.o.symm)),rfl⟩
          ·have f45:((c.toNat:Int) !=45)=true:=by rw [bne_iff_ne];omega
           have f46:((c.toNat:Int) !=46)=true:=by rw [bne_iff_ne];omega
           have f95:((c.toNat:Int) !=95)=true:=by rw [bne_iff_ne];omega
           have f126:((c.toNat:Int) !=126)=false:=by rw [bne_eq_false_iff_eq];omega
           have hd:=zh (show decide (c.toNat=45∨c.toNat=46∨c.toNat=95∨c.toNat=126)=true from decide_eq_true (by omega));clear h;go_wp2_with fail
           go_meet;exact⟨bool_eq (Eq.trans (by rw [hd.o];rfl) (congrArg Bool.not hvb.o.symm)),rfl⟩
          ·have f45:((c.toNat:Int) !=45)=true:=by rw [bne_iff_ne];omega
           have f46:((c.toNat:Int) !=46)=true:=by rw [bne_iff_ne];omega
           have f95:((c.toNat:Int) !=95)=true:=by rw [bne_iff_ne];omega
           have f126:((c.toNat:Int) !=126)=true:=by rw [bne_iff_ne];omega
           have hd:=zh (show decide (c.toNat=45∨c.toNat=46∨c.toNat=95∨c.toNat=126)=false from decide_eq_false (by omega));clear h;go_wp2_with fail
           go_meet;exact⟨bool_eq (Eq.trans (by rw [hd.o];rfl) (congrArg Bool.not hvb.o.symm)),rfl⟩
       case rest=>
        obtain⟨rfl,rfl⟩:=hcut;obtain⟨v,hv⟩:∃z,Hid (verB c=z):=⟨_,zh rfl⟩
        rw [hv.o];cases v with
        |true=>
         go_wp2_with fail
         go_roundg (s.size - i)
         case measure=>have:=hlth.o;omega
         case rel=>exact⟨i+1,by go_num,by have:=hlth.o;omega,by have:=hlth.o;omega,all_next hlth.o hallh.o (by rw [hc.o];exact hv.o),rfl⟩
        |false=>
         go_wp2_with fail
         go_ret;exact⟨ret_eq (by unfold verM;rw [all_no hlth.o (show verB (s[i]'hlth.o)=false by rw [hc.o];exact hv.o)];rfl),rfl⟩
    ·have hge:¬(i:Int)<s.size:=by omega
     have ha:=hallh.o;rw [str_full (by omega)]at ha;have hah:=zh ha;clear hlt ha hk;go_wp2_with fail
     go_ret;exact⟨ret_eq (by unfold verM;rw [hah.o,decide_eq_true h1h.o,decide_eq_true h2h.o];rfl),rfl⟩
  ·have d2:decide (128<(s.size:Int))=true:=decide_eq_true (by omega);have h2h:=zh h2;clear h1 h2;go_wp2_with fail
   go_ret;exact⟨ret_eq (by unfold verM;rw [decide_eq_false h2h.o,Bool.and_false]),rfl⟩
 ·have d1:decide ((s.size:Int)<43)=true:=decide_eq_true (by omega);have h1h:=zh h1;clear h1;go_wp2_with fail
  go_ret;exact⟨ret_eq (by unfold verM;rw [decide_eq_false h1h.o,Bool.and_false,Bool.false_and]),rfl⟩
end Go.Proofs.YtpmgepijkhaonaaGreat
