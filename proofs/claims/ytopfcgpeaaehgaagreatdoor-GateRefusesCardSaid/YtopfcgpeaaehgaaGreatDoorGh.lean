/- Walks: what may be a challenge; does a verifier meet it. Conditions: each theorem's own. -/
import Derived.Test.YtopfcgpeaaehgaaGreatDoorSb
import Derived.Test.YtopfcgpeaaehgaaGreatDoorGr
import Derived.Lib.Walk
import Derived.Shelf.Abstract
import Derived.Test.YtopfcgpeaaehgaaGreatDoorGy
import Derived.Test.YtopfcgpeaaehgaaGreatDoorSf
import Derived.WalkMore
import Derived.Laws.IdiomStrings
namespace Go.Proofs.YtopfcgpeaaehgaaGreatDoor
open Go.RowKit Go.Sig
theorem str_take {s:ByteArray}{i:Nat}(h:i<s.size):s.data.toList.take (i+1)=s.data.toList.take i++ [s[i]]:=by
 have h':i<s.data.toList.length:=by rw [Array.length_toList];exact h
 rw [List.take_succ_eq_append_getElem h',Array.getElem_toList];rfl
theorem str_full {s:ByteArray}{i:Nat}(h:s.size≤i):s.data.toList.take i=s.data.toList:=List.take_of_length_le (by rw [Array.length_toList];exact h)
theorem all_no {s:ByteArray}{q:UInt8→Bool}{i:Nat}(h:i<s.size) (hq:q s[i]=false):s.data.toList.all q=false:=by
 rw [List.all_eq_false];refine⟨s[i],?_,by simp [hq]⟩;have h':i<s.data.toList.length:=by rw [Array.length_toList];exact h
 have:=List.getElem_mem h';rw [Array.getElem_toList]at this;exact this
theorem all_next {s:ByteArray}{q:UInt8→Bool}{i:Nat}(h:i<s.size) (ha:(s.data.toList.take i).all q=true) (hq:q s[i]=true):(s.data.toList.take (i+1)).all q=true:=by
 rw [str_take h,List.all_append,ha];simp [hq]
theorem ret_eq {b c:Bool}(h:b=c):Ending.returned (.bool b)=Ending.returned (.bool c):=by rw [h]
set_option maxHeartbeats 1000000 in
theorem isWord_t (w:World) (s:ByteArray) (hs:s.size≤150000000000000):Calls Tryz.prog 150 #[.string s] w fun e w'=>e= .returned (.bool (isWord s))∧w=w':=by
 go_enter Tryz.func150,Tryz.ntmps150;go_wp2_with fail
 go_loopg [3,4] (s.size+1) (fun gk s3 s4 wr=>∃(i:Nat),s3= .int .i64 i∧i≤s.size∧s.size - i<gk∧(s.data.toList.take i).all wordB=true∧w=wr)
 case atStart=>exact⟨0,rfl,by omega,by omega,rfl,rfl⟩
 case round=>
  obtain⟨i,rfl,hi,hk,hall,rfl⟩:=hrel;have hallh:=zh hall;clear hall;by_cases hlt:i<s.size
  ·have hlt':(i:Int)<s.size:=by omega
   have hlth:=zh hlt;by_cases hg:33≤s[i].toNat∧¬s[i].toNat=34∧¬s[i].toNat=92∧s[i].toNat≤126
   ·have hgh:=zh hg;have hw:=zh (show wordB s[i]=true by unfold wordB;simp;omega);clear hg;go_wp2_with fail
    all_goals first
     | (exfalso;have hx:=hgh.o;(try simp only [beq_iff_eq,beq_eq_false_iff_ne,ne_eq]at*);omega)
     |skip
    go_roundg (s.size - i)
    case measure=>omega
    case rel=>exact⟨i+1,by go_num,by have:=hlth.o;omega,by have:=hlth.o;omega,all_next hlth.o hallh.o hw.o,rfl⟩
   ·have hgh:=zh hg;have hw:=zh (show wordB s[i]=false by unfold wordB;simp;omega);clear hg;go_wp2_with fail
    all_goals first
     | (exfalso;have hx:=hgh.o;(try simp only [beq_iff_eq,beq_eq_false_iff_ne,ne_eq]at*);omega)
     | (go_ret;exact⟨ret_eq (by unfold isWord;rw [all_no hlth.o hw.o];rfl),rfl⟩)
  ·have hge:¬(i:Int)<s.size:=by omega
   have ha:=hallh.o;rw [str_full (by omega)]at ha;have hah:=zh ha;clear hlt ha hk;by_cases h1:1≤s.size
   ·have h1':1≤(s.size:Int):=by omega
    have h1h:=zh h1;by_cases h2:s.size≤64
    ·have h2':(s.size:Int)≤64:=by omega
     have h2h:=zh h2;clear h1 h2;go_wp2_with fail
     go_ret;exact⟨ret_eq (by unfold isWord;rw [hah.o,decide_eq_true h1h.o,decide_eq_true h2h.o];rfl),rfl⟩
    ·have h2':¬(s.size:Int)≤64:=by omega
     have h2h:=zh h2;clear h1 h2;go_wp2_with fail
     go_ret;exact⟨ret_eq (by unfold isWord;rw [decide_eq_false h2h.o,Bool.and_false]),rfl⟩
   ·have h1':¬1≤(s.size:Int):=by omega
    have h1h:=zh h1;clear h1;go_wp2_with fail
    go_ret;exact⟨ret_eq (by unfold isWord;rw [decide_eq_false h1h.o,Bool.and_false,Bool.false_and]),rfl⟩
set_option maxHeartbeats 1000000 in
theorem sign_t (w:World) (c:UInt8):Calls Tryz.prog 79 #[.int .u8 (c.toNat:Int)] w fun e w'=>e= .returned (.bool (signB c))∧w=w':=by
 go_enter Tryz.func79,Tryz.ntmps79;go_wp2_with fail
 all_goals go_ret
 all_goals refine⟨ret_eq ?_,rfl⟩
 all_goals unfold signB
 all_goals (rw [Bool.eq_iff_iff];simp only [Bool.or_eq_true,decide_eq_true_eq,beq_iff_eq,true_iff];omega)
end Go.Proofs.YtopfcgpeaaehgaaGreatDoor
namespace Go.Proofs.YtopfcgpeaaehgaaGreatDoor
open Go.RowKit Go.Sig
def strCells (ls:List ByteArray):List Value:=ls.map Value.string
theorem strCells_append (a b:List ByteArray):strCells (a++b)=strCells a++strCells b:=List.map_append
theorem strCells_one (l:List ByteArray):∀u∈strCells l,u.oneCell'=true:=strings_one l
theorem strCells_at {l:List ByteArray}{i:Nat}(h:i<l.length):(strCells l)[i]? =some (.string l[i]):=by
 unfold strCells;rw [List.getElem?_map,List.getElem?_eq_getElem h];rfl
theorem strCells_length (l:List ByteArray):(strCells l).length=l.length:=List.length_map _
def IdxPost (w:World) (b:Bool) (e:Ending) (w':World):Prop:=∃k:Int,e= .returned (.int .i64 k)∧(0≤k↔b=true)∧w=w'
end Go.Proofs.YtopfcgpeaaehgaaGreatDoor
namespace Go.Proofs.YtopfcgpeaaehgaaGreatDoor
open Go.RowKit Go.Sig
end Go.Proofs.YtopfcgpeaaehgaaGreatDoor
namespace Go.Proofs.YtopfcgpeaaehgaaGreatDoor
open Go.RowKit Go.Sig
def WorthIs (l:List UInt8) (c:UInt8) (k:Int):Prop:=(∃v:Nat,l.findIdx? (fun x=>x==c)=some v∧k=v)∨(l.findIdx? (fun x=>x==c)=none∧k= -1)
theorem u8_beq {a b:UInt8}:(((a.toNat:Nat):Int)==((b.toNat:Nat):Int))=(a==b):=by
 rw [Bool.eq_iff_iff,beq_iff_eq,beq_iff_eq,←UInt8.toNat_inj];omega
set_option maxHeartbeats 1000000 in
theorem worth_t (w:World) (s:ByteArray) (hs:s.size≤1000) (c:UInt8):Calls Tryz.prog 159 #[.string s,.int .u8 (c.toNat:Int)] w fun e w'=>∃k:Int,e= .returned (.int .i64 k)∧WorthIs s.data.toList c k∧w=w':=by
 go_enter Tryz.func159,Tryz.ntmps159;go_wp2_with fail
 go_loopg [5] (s.size+1) (fun gk s5 wr=>∃(i:Nat),s5= .int .i64 i∧i≤s.size∧s.size - i<gk∧(∀x∈s.data.toList.take i,(x==c)=false)∧w=wr)
 case atStart=>exact⟨0,rfl,by omega,by omega,by simp,rfl⟩
 case round=>
  obtain⟨i,rfl,hi,hk,hall,rfl⟩:=hrel;have hallh:=zh hall;clear hall;by_cases hlt:i<s.size
  ·have hlt':(i:Int)<s.size:=by omega
   have hlth:=zh hlt;have htk:=zh (str_take hlt);have hu:=u8_beq (a:=s[i]) (b:=c);cases hb:s[i]==c with
   |true=>
    have hbh:=zh hb;rw [hb]at hu;clear hb;go_wp2_with fail
    go_ret;refine⟨i,rfl,.inl ⟨i,?_,rfl⟩,rfl⟩;have h':i<s.data.toList.length:=by rw [Array.length_toList];exact hlth.o
    rw [List.findIdx?_eq_some_iff_getElem];refine⟨h',?_,fun j hj=> ?_⟩
    ·rw [Array.getElem_toList];exact hbh.o
    ·have hm:s.data.toList[j]'(by omega)∈s.data.toList.take i:=by
      rw [List.mem_take_iff_getElem];exact⟨j,by omega,rfl⟩
     rw [hallh.o _ hm];simp
   |false=>
    have hbh:=zh hb;rw [hb]at hu;clear hb;go_wp2_with fail
    go_roundg (s.size - i)
    case measure=>omega
    case rel=>
     refine⟨i+1,by go_num,by have:=hlth.o;omega,by have:=hlth.o;omega,fun x hx=> ?_,rfl⟩;rw [htk.o]at hx;rcases List.mem_append.1 hx with h |h
     ·exact hallh.o x h
     ·rw [List.mem_singleton.1 h];exact hbh.o
  ·have hge:¬(i:Int)<s.size:=by omega
   have ha:=hallh.o;rw [str_full (by omega)]at ha;have hah:=zh ha;clear hlt ha hk;go_wp2_with fail
   go_ret;exact⟨-1,rfl,.inr ⟨List.findIdx?_eq_none_iff.2 hah.o,rfl⟩,rfl⟩
def sWeb:ByteArray:=⟨webS.toArray⟩
def BIn (w wr:World) (s:Value) (bs:List UInt8):Prop:=
 ∃A c,s= .slice A bs.length c∧Own wr 5 1 (.slice A bs.length c) bs.length (bs.map bv)∧(∀g,g∈rowOf (.slice A bs.length c)→w.heap.size≤g)∧Fr [] w wr
theorem BIn.nil (w:World):BIn w w (.slice none 0 0) []:=⟨none,0,rfl,Own.nil _ _ _,by simp [rowOf,Value.ownBlock],Fr.refl _ _⟩
theorem tB1:SliceTy Tryz.prog 23 5 1 1 (.int .u8 0):=⟨by kernel_rfl,by kernel_rfl,rfl,by decide⟩
theorem byte_new (w:World) (x:Int) (b:UInt8) (ty:TypeId) (h:x=(b.toNat:Int)):Rd (w.alloc (.cells #[.int .u8 x] ty)) 1 (some ⟨w.heap.size,0,none⟩) 1 ([b].map bv):=by
 subst h;refine⟨rfl,fun _=>⟨_,0,rfl,fun j u hu=> ?_⟩⟩;rw [(Blk.new w ty #[.int .u8 (b.toNat:Int)]).cell,Nat.zero_add];simpa [bv]using hu
theorem BIn.push {w wr w2:World}{o:Obj}{A A2:Option Addr}{c c2 n:Nat}{bs:List UInt8}{b:UInt8}(hn:bs.length=n) (hR:∀g,g∈rowOf (.slice A n c)→w.heap.size≤g) (hF:Fr [] w wr)
  (p1:Own w2 5 1 (.slice A2 (n+1) c2) (n+1) (bs.map bv++ [b].map bv)) (p2:Fr (rowOf (.slice A n c)) (wr.alloc o) w2)
  (p3:∀g,g∈rowOf (.slice A2 (n+1) c2)→g∈rowOf (.slice A n c)∨g=(wr.alloc o).heap.size):BIn w w2 (.slice A2 (n+1) c2) (bs++ [b]):=by
 have hl:(bs++ [b]).length=n+1:=by simp [hn]
 refine⟨A2,c2,by rw [hl],?_,?_,(hF.alloc _).andThen p2 (fun x hx=> .inr (hR x hx))⟩
 ·rw [hl,List.map_append];exact p1
 ·rw [hl];exact fun g hg=>(p3 g hg).elim (hR g) (fun e=>by rw [e];exact Nat.le_trans hF.size (by simp))
def BytesPost (w:World) (r:Option (List UInt8)) (e:Ending) (w':World):Prop:=match r with
 |some bs=>∃v,e= .returned (.tuple #[v,.int .i64 0])∧BIn w w' v bs
 |none=>e= .returned (.tuple #[.slice none 0 0,.int .i64 3])∧Fr [] w w'
theorem or_six:∀(a b:Fin 64),bits .or .i64 ((a.val:Int)*64) (b.val:Int)=((a.val*64+b.val:Nat):Int):=by decide+kernel
theorem and_all:∀(a b:Fin 64),bits .and .i64 ((a.val*64+b.val:Nat):Int) 0=0∧bits .and .i64 ((a.val*64+b.val:Nat):Int) 3=((b.val%4:Nat):Int)∧bits .and .i64 ((a.val*64+b.val:Nat):Int) 15=((b.val%16:Nat):Int):=by decide+kernel
theorem and_at {h:Nat}(hh:h<4096):bits .and .i64 (h:Int) 0=0∧bits .and .i64 (h:Int) 3=((h%4:Nat):Int)∧bits .and .i64 (h:Int) 15=((h%16:Nat):Int):=by
 have:=and_all ⟨h / 64,by omega⟩ ⟨h%64,by omega⟩;simp only at this;rw [show h / 64*64+h%64=h by omega,show h%64%4=h%4 by omega,show h%64%16=h%16 by omega]at this;exact this
def unsixStep (held bits v:Nat):Nat×Nat×List UInt8:=if 8≤bits+6 then((held*64+v)%2^(bits+6 - 8),bits+6 - 8,[UInt8.ofNat ((held*64+v) / 2^(bits+6 - 8))])else(held*64+v,bits+6,[])
end Go.Proofs.YtopfcgpeaaehgaaGreatDoor
namespace Go.Proofs.YtopfcgpeaaehgaaGreatDoor
open Go.RowKit Go.Sig
theorem or_byte:∀(a:Fin 16) (b:Fin 256),bits .or .i64 ((a.val:Int)*256) (b.val:Int)=((a.val*256+b.val:Nat):Int):=by decide+kernel
theorem and_63a:∀(a b:Fin 64),bits .and .i64 ((a.val*64+b.val:Nat):Int) 63=((b.val:Nat):Int):=by decide+kernel
theorem and_63 {h:Nat}(hh:h<4096):bits .and .i64 (h:Int) 63=((h%64:Nat):Int):=by
 have:=and_63a ⟨h / 64,by omega⟩ ⟨h%64,by omega⟩;simp only at this;rw [show h / 64*64+h%64=h by omega]at this;exact this
theorem sweb_size:sWeb.size=64:=by decide
theorem sweb_at {j:Nat}(h:j<sWeb.size):sWeb[j]=webS.getD j 0:=by
 have h':j<webS.length:=by rw [sweb_size]at h;exact h
 rw [List.getD_eq_getElem?_getD,List.getElem?_eq_getElem h',Option.getD_some];rfl
set_option maxRecDepth 100000 in
set_option maxHeartbeats 4000000 in
theorem sixes_t (w:World) (A:Option Addr) (n c:Nat) (l:List UInt8) (hb:Byts w A n l) (hmax:n≤1000000):Calls Tryz.prog 100 #[.string sWeb,.slice A n c] w fun e w'=>∃v,e= .returned v∧BIn w w' v (webM l):=by
 have hln:l.length=n:=Byts.length hb;have hbh:=zh hb;have hqs:=sweb_size;have hqat:=zh (fun(j:Nat) (h:j<sWeb.size)=>sweb_at h);obtain⟨q,hq⟩:∃z,Hid (sWeb=z):=⟨_,zh rfl⟩
 rw [hq.o]at hqs hqat⊢;clear hb;go_enter Tryz.func100,Tryz.ntmps100;go_wp2_with fail
 go_loopg [5,6,7,9,12] (n+1) (fun gk s5 s6 s7 s9 s12 wr=>∃(i held nb:Nat) (out:List UInt8),s12= .int .i64 i∧s6= .int .i64 held∧s7= .int .i64 nb∧i≤n∧n - i<gk∧BIn w wr s5 out∧(nb=0∨nb=2∨nb=4)∧held<2^nb∧out.length≤2*i∧sixGo (l.drop i) held nb out=webM l)
 case atStart=>exact⟨0,0,0,[],rfl,rfl,rfl,by omega,by omega,BIn.nil w,by omega,by decide,by simp,rfl⟩
 case round=>
  obtain⟨i,held,nb,out,rfl,rfl,rfl,hi,hk,hB,hbits,hheld,hlen,hgo⟩:=hrel;have hgoh:=zh hgo;have hBh:=zh hB;clear hgo;obtain⟨A2,c2,rfl,O2,R2,F2⟩:=hB;obtain⟨n2,hn2⟩:∃z,Hid (out.length=z):=⟨_,zh rfl⟩
  rw [hn2.o]at O2 R2 hlen⊢;by_cases hlt:i<n
  ·have hlt':(i:Int)<n:=by omega
   have hlth:=zh hlt;have hi':i<l.length:=by omega
   have hdr:=zh (List.drop_eq_getElem_cons hi');have hbr:=Rd.fr hbh.o F2 (by simp [Off]);obtain⟨b,o,rfl,hcell⟩:=hbr.2 (by omega);have cx:=hcell i (bv l[i]) (by rw [List.getElem?_map,List.getElem?_eq_getElem hi'];rfl);clear hcell hbr;obtain⟨x,hx⟩:∃z,Hid (l[i]=z):=⟨_,zh rfl⟩
   rw [hx.o]at cx hdr;unfold bv at cx;have hx256:x.toNat<256:=x.toNat_lt;obtain⟨h,hh⟩:∃z,Hid (held*256+x.toNat=z):=⟨_,zh rfl⟩
   have hb16:held<16:=by rcases hbits with rfl |rfl |rfl<;>omega
   have hor:bits .or .i64 ((held:Int)*256) (x.toNat:Int)=(h:Int):=by have:=or_byte ⟨held,hb16⟩ ⟨x.toNat,hx256⟩;simp only at this;rw [this,hh.o]
   have hh4:h<4096:=by have:=hh.o;omega
   rcases hbits with rfl |rfl |rfl
   ·have hj:h / 4<q.size:=by have:=hh.o;rw [hqs];omega
    obtain⟨j,hjj⟩:∃z,Hid (h / 4=z):=⟨_,zh rfl⟩
    rw [hjj.o]at hj;have hsh:(h:Int) / 4=(j:Int):=by have:=hjj.o;omega
    have hqj:=zh (hqat.o _ hj);have hand:=(and_at hh4).2.1;have hst:=zh (show sixByte held 0 x=([webS.getD j 0],h%4,2) by
     unfold sixByte;simp only [hh.o];rw [if_neg (by decide)];show([webS.getD (h / 4) 0],h%4,2)=_;rw [hjj.o])
    go_wp2_with fail
    go_step3
    go_wp2_with fail
    go_step3
    go_wp2_with fail
    refine wp_loop_rounds 2 ?_;rw [rounds_succ];go_wp2_with (refine wpList_own_append tB1 (O2.fr ((Fr.refl [] _).alloc _) (by simp)) (byte_new _ _ (q[j]) _ rfl) (fun u hu=>by simp at hu;rw [hu];rfl) (by simp) (by unfold maxLen;omega) (by omega) rfl rfl rfl rfl (fun v3 w3 p13 p23 p33=> ?_);obtain⟨A3,c3,rfl,hA3⟩:=p13.form)
    rw [rounds_succ];go_wp2_with fail
    rw [Exit.noGoto_normal];go_wp2_with fail
    go_roundg (n - i)
    case measure=>omega
    case rel=>
     refine⟨i+1,h%4,2,out++ [webS.getD j 0],by go_num,by first |rfl | (simp;done) | (congr 1;omega),rfl,by have:=hlth.o;omega,by have:=hlth.o;omega,?_,by omega,by omega,by rw [List.length_append,hn2.o,List.length_singleton];omega,?_⟩
     ·rw [←hqj.o];exact BIn.push hn2.o R2 F2 p13 p23 p33
     ·rw [←hgoh.o,hdr.o,sixGo,hst.o]
   ·have hj:h / 16<q.size:=by have:=hh.o;rw [hqs];omega
    obtain⟨j,hjj⟩:∃z,Hid (h / 16=z):=⟨_,zh rfl⟩
    rw [hjj.o]at hj;have hsh:(h:Int) / 16=(j:Int):=by have:=hjj.o;omega
    have hqj:=zh (hqat.o _ hj);have hand:=(and_at hh4).2.2;have hst:=zh (show sixByte held 2 x=([webS.getD j 0],h%16,4) by
     unfold sixByte;simp only [hh.o];rw [if_neg (by decide)];show([webS.getD (h / 16) 0],h%16,4)=_;rw [hjj.o])
    go_wp2_with fail
    go_step3
    go_wp2_with fail
    go_step3
    go_wp2_with fail
    refine wp_loop_rounds 2 ?_;rw [rounds_succ];go_wp2_with (refine wpList_own_append tB1 (O2.fr ((Fr.refl [] _).alloc _) (by simp)) (byte_new _ _ (q[j]) _ rfl) (fun u hu=>by simp at hu;rw [hu];rfl) (by simp) (by unfold maxLen;omega) (by omega) rfl rfl rfl rfl (fun v3 w3 p13 p23 p33=> ?_);obtain⟨A3,c3,rfl,hA3⟩:=p13.form)
    rw [rounds_succ];go_wp2_with fail
    rw [Exit.noGoto_normal];go_wp2_with fail
    go_roundg (n - i)
    case measure=>omega
    case rel=>
     refine⟨i+1,h%16,4,out++ [webS.getD j 0],by go_num,by first |rfl | (simp;done) | (congr 1;omega),rfl,by have:=hlth.o;omega,by have:=hlth.o;omega,?_,by omega,by omega,by rw [List.length_append,hn2.o,List.length_singleton];omega,?_⟩
     ·rw [←hqj.o];exact BIn.push hn2.o R2 F2 p13 p23 p33
     ·rw [←hgoh.o,hdr.o,sixGo,hst.o]
   ·have hj:h / 64<q.size:=by have:=hh.o;rw [hqs];omega
    obtain⟨j,hjj⟩:∃z,Hid (h / 64=z):=⟨_,zh rfl⟩
    rw [hjj.o]at hj;have hsh:(h:Int) / 64=(j:Int):=by have:=hjj.o;omega
    have hj2:h%64<q.size:=by rw [hqs];omega
    have hand:=and_63 hh4;have hst:=zh (show sixByte held 4 x=([webS.getD j 0,webS.getD (h%64) 0],0,0) by
     unfold sixByte;simp only [hh.o];rw [if_pos (by decide),hjj.o])
    obtain⟨k,hkk⟩:∃z,Hid (h%64=z):=⟨_,zh rfl⟩
    rw [hkk.o]at hj2 hand hst;have hqj:=zh (hqat.o _ hj);have hqk:=zh (hqat.o _ hj2);have hk4:k<4096:=by have:=hkk.o;omega
    have hand2:=(and_at hk4).1;go_wp2_with fail
    go_step3
    go_wp2_with fail
    go_step3
    go_wp2_with fail
    refine wp_loop_rounds 3 ?_;rw [rounds_succ];go_wp2_with (refine wpList_own_append tB1 (O2.fr ((Fr.refl [] _).alloc _) (by simp)) (byte_new _ _ (q[j]) _ rfl) (fun u hu=>by simp at hu;rw [hu];rfl) (by simp) (by unfold maxLen;omega) (by omega) rfl rfl rfl rfl (fun v3 w3 p13 p23 p33=> ?_);obtain⟨A3,c3,rfl,hA3⟩:=p13.form)
    have hB3:=BIn.push hn2.o R2 F2 p13 p23 p33;obtain⟨A5,c5,hs5,O5,R5,F5⟩:=hB3;obtain⟨rfl,rfl⟩:A3=A5∧c3=c5:=by injection hs5 with h1 _ h3;exact⟨h1,h3⟩
    have hl3:(out++ [q[j]]).length=n2+1:=by rw [List.length_append,hn2.o,List.length_singleton]
    rw [hl3]at O5 R5;clear hs5 p13 p23 p33;rw [rounds_succ];go_wp2_with (refine wpList_own_append tB1 (O5.fr ((Fr.refl [] _).alloc _) (by simp)) (byte_new _ _ (q[k]) _ rfl) (fun u hu=>by simp at hu;rw [hu];rfl) (by simp) (by unfold maxLen;omega) (by omega) rfl rfl rfl rfl (fun v4 w4 p14 p24 p34=> ?_);obtain⟨A4,c4,rfl,hA4⟩:=p14.form)
    rw [rounds_succ];go_wp2_with fail
    rw [Exit.noGoto_normal];go_wp2_with fail
    go_roundg (n - i)
    case measure=>omega
    case rel=>
     refine⟨i+1,0,0,out++ [webS.getD j 0,webS.getD k 0],by go_num,rfl,rfl,by have:=hlth.o;omega,by have:=hlth.o;omega,?_,by omega,by decide,by rw [List.length_append,hn2.o];simp;omega,?_⟩
     ·have:=BIn.push hl3 R5 F5 p14 p24 p34;rw [hqj.o,hqk.o,List.append_assoc]at this;exact this
     ·rw [←hgoh.o,hdr.o,sixGo,hst.o]
  ·have hge:¬(i:Int)<n:=by omega
   have hfin:=hgoh.o;rw [List.drop_eq_nil_of_le (by omega),sixGo]at hfin;have hfinh:=zh hfin;clear hlt hk hfin;rcases hbits with rfl |rfl |rfl
   ·go_wp2_with fail
    go_ret;refine⟨_,rfl,?_⟩;have:=hBh.o;rw [hn2.o]at this;rw [←hfinh.o];first
     |rw [if_pos rfl]
     |simp only [if_true]
    exact this
   ·have hj:held*16<q.size:=by rw [hqs];omega
    obtain⟨j,hjj⟩:∃z,Hid (held*16=z):=⟨_,zh rfl⟩
    rw [hjj.o]at hj;have hsh:(held:Int)*16=(j:Int):=by have:=hjj.o;omega
    have hqj:=zh (hqat.o _ hj);go_wp2_with (refine wpList_own_append tB1 (O2.fr ((Fr.refl [] _).alloc _) (by simp)) (byte_new _ _ (q[j]) _ rfl) (fun u hu=>by simp at hu;rw [hu];rfl) (by simp) (by unfold maxLen;omega) (by omega) rfl rfl rfl rfl (fun v3 w3 p13 p23 p33=> ?_);obtain⟨A3,c3,rfl,hA3⟩:=p13.form)
    go_ret;refine⟨_,rfl,?_⟩;rw [←hfinh.o,if_neg (by decide),show held*2^(6 - 2)=j from hjj.o,←hqj.o];exact BIn.push hn2.o R2 F2 p13 p23 p33
   ·have hj:held*4<q.size:=by rw [hqs];omega
    obtain⟨j,hjj⟩:∃z,Hid (held*4=z):=⟨_,zh rfl⟩
    rw [hjj.o]at hj;have hsh:(held:Int)*4=(j:Int):=by have:=hjj.o;omega
    have hqj:=zh (hqat.o _ hj);go_wp2_with (refine wpList_own_append tB1 (O2.fr ((Fr.refl [] _).alloc _) (by simp)) (byte_new _ _ (q[j]) _ rfl) (fun u hu=>by simp at hu;rw [hu];rfl) (by simp) (by unfold maxLen;omega) (by omega) rfl rfl rfl rfl (fun v3 w3 p13 p23 p33=> ?_);obtain⟨A3,c3,rfl,hA3⟩:=p13.form)
    go_ret;refine⟨_,rfl,?_⟩;rw [←hfinh.o,if_neg (by decide),show held*2^(6 - 4)=j from hjj.o,←hqj.o];exact BIn.push hn2.o R2 F2 p13 p23 p33
end Go.Proofs.YtopfcgpeaaehgaaGreatDoor
namespace Go.Proofs.YtopfcgpeaaehgaaGreatDoor
open Go.RowKit Go.Sig
theorem tStr:Tryz.prog.underlying 9=some .string:=by kernel_rfl
theorem web_t (w:World) (A:Option Addr) (n c:Nat) (l:List UInt8) (hb:Byts w A n l) (hmax:n≤1000000) (h0:0<(webM l).length):Calls Tryz.prog 133 #[.slice A n c] w fun e w'=>e= .returned (.string ⟨(webM l).toArray⟩)∧Fr [] w w':=by
 have hs:=sixes_t w A n c l hb hmax;rw [show sWeb=⟨#[65,66,67,68,69,70,71,72,73,74,75,76,77,78,79,80,81,82,83,84,85,86,87,88,89,90,97,98,99,100,101,102,103,104,105,106,107,108,109,110,111,112,113,114,115,116,117,118,119,120,121,122,48,49,50,51,52,53,54,55,56,57,45,95]⟩from rfl]at hs;obtain⟨bs,hbs⟩:∃z,Hid (webM l=z):=⟨_,zh rfl⟩
 rw [hbs.o]at hs h0⊢;go_enter Tryz.func133,Tryz.ntmps133;go_wp2_with fail
 refine hs.mono ?_;rintro e w' ⟨v,rfl,A2,c2,rfl,O2,R2,F2⟩;obtain⟨b,o,rfl,hcell⟩:=O2.rd.2 h0;have hcv:=run_convert_bytes_back (P:=Tryz.prog) w' 23 9 5 ⟨b,o,none⟩ c2 bs tBytes (by kernel_rfl) tStr (fun j hj=>by
  rw [Addr.add_lit];exact hcell j _ (by rw [List.getElem?_map,List.getElem?_eq_getElem hj];rfl))
 have F2h:=zh F2;clear hcell O2 R2 F2 hs;go_wp2_with fail
 go_ret;exact⟨rfl,F2h.o⟩
theorem acc_step {acc x y:Nat}:(acc ||| (x^^^y)=0)↔(acc=0∧x=y):=by
 rw [Nat.or_eq_zero_iff];have:x^^^y=0↔x=y:=by
  constructor
  ·intro h;apply Nat.eq_of_testBit_eq;intro i;have hb:=congrArg (fun n=>Nat.testBit n i) h;simp only [Nat.testBit_xor,Nat.zero_testBit]at hb
   revert hb
   cases x.testBit i<;>cases y.testBit i<;>decide
  ·intro h;rw [h,Nat.xor_self]
 rw [this]
set_option maxHeartbeats 2000000 in
theorem osame_t (w:World) (A B:Option Addr) (n m c d:Nat) (a b:List UInt8) (hA:Byts w A n a) (hB:Byts w B m b) (hmax:n≤140737488351232) (hmax2:m≤140737488351232):
  Calls Tryz.prog 45 #[.slice A n c,.slice B m d] w fun e w'=>e= .returned (.bool (decide (a=b)))∧Fr [] w w':=by
 have hna:a.length=n:=Byts.length hA;have hmb:b.length=m:=Byts.length hB;have hAh:=zh hA;have hBh:=zh hB;clear hA hB;by_cases hnm:n=m
 ·subst hnm;go_enter Tryz.func45,Tryz.ntmps45;go_wp2_with fail
  go_loopg [5,6,14] (n+1) (fun gk s5 s6 s14 wr=>∃(i acc:Nat),s14= .int .i64 i∧s5= .int .u8 acc∧acc<256∧i≤n∧n - i<gk∧(acc=0↔a.take i=b.take i)∧Fr [] w wr)
  case atStart=>exact⟨0,0,rfl,rfl,by omega,by omega,by omega,by simp,Fr.refl _ _⟩
  case round=>
   obtain⟨i,acc,rfl,rfl,hacc,hi,hk,hq,hF⟩:=hrel;have hqh:=zh hq;have hFh:=zh hF;clear hq;by_cases hlt:i<n
   ·have hlt':(i:Int)<n:=by omega
    have hlth:=zh hlt;have ha':i<a.length:=by omega
    have hb':i<b.length:=by omega
    obtain⟨ba,oa,rfl,hca⟩:=(Rd.fr hAh.o hF (by simp [Off])).2 (by omega);obtain⟨bb,ob,rfl,hcb⟩:=(Rd.fr hBh.o hF (by simp [Off])).2 (by omega);have cx:=hca i (bv a[i]) (by rw [List.getElem?_map,List.getElem?_eq_getElem ha'];rfl);have cy:=hcb i (bv b[i]) (by rw [List.getElem?_map,List.getElem?_eq_getElem hb'];rfl);have hta:=zh (List.take_succ_eq_append_getElem ha');have htb:=zh (List.take_succ_eq_append_getElem hb');clear hca hcb hF;obtain⟨x,hx⟩:∃z,Hid (a[i]=z):=⟨_,zh rfl⟩
    obtain⟨y,hy⟩:∃z,Hid (b[i]=z):=⟨_,zh rfl⟩
    rw [hx.o]at cx hta;rw [hy.o]at cy htb;unfold bv at cx cy;have h1:=u8_xor_nat x.toNat y.toNat x.toNat_lt y.toNat_lt;have hxo:x.toNat^^^y.toNat<256:=Nat.xor_lt_two_pow (n:=8) x.toNat_lt y.toNat_lt;have h2:=u8_or_nat acc (x.toNat^^^y.toNat) hacc hxo;have ho:acc ||| (x.toNat^^^y.toNat)<256:=Nat.or_lt_two_pow (n:=8) hacc hxo
    have hst:=zh (acc_step (acc:=acc) (x:=x.toNat) (y:=y.toNat));obtain⟨q,hq⟩:∃z,Hid (x.toNat^^^y.toNat=z):=⟨_,zh rfl⟩
    rw [hq.o]at h1 h2 hxo ho hst;obtain⟨r,hr⟩:∃z,Hid (acc |||q=z):=⟨_,zh rfl⟩
    rw [hr.o]at h2 ho hst;go_upto_region 7 with(fail)
    go_quiet (fail)
    go_wp2;go_roundg (n - i)
    case measure=>omega
    case rel=>
     refine⟨i+1,r,by go_num,rfl,ho,by have:=hlth.o;omega,by have:=hlth.o;omega,?_,hFh.o.drewN _⟩;rw [hst.o,hqh.o,hta.o,htb.o];constructor
     ·rintro⟨e1,e2⟩;rw [e1,UInt8.toNat_inj.1 e2]
     ·intro e;have:=List.append_inj' e rfl;exact⟨this.1,by rw [List.cons.inj this.2 |>.1]⟩
   ·have hin:i=n:=by omega
    have hge:¬(i:Int)<n:=by omega
    have hq:=hqh.o;rw [List.take_of_length_le (by omega),List.take_of_length_le (by omega)]at hq;have hqh2:=zh hq;clear hlt hk hF hq;by_cases h0:acc=0
    ·have h0':((acc:Int)==0)=true:=by rw [beq_iff_eq];omega
     have h0h:=zh h0;clear h0;go_wp2;go_ret;exact⟨ret_eq (decide_eq_true (hqh2.o.1 h0h.o)).symm,hFh.o⟩
    ·have h0':((acc:Int)==0)=false:=by rw [beq_eq_false_iff_ne];omega
     have h0h:=zh h0;clear h0;go_wp2;go_ret;exact⟨ret_eq (decide_eq_false (fun h=>h0h.o (hqh2.o.2 h))).symm,hFh.o⟩
 ·have hne:¬(n:Int)=m:=by omega
  have hne2:((n:Int) !=m)=true:=by simpa using hne
  have hab:=zh (show¬a=b from fun h=>hnm (by rw [←hna,←hmb,h]));clear hnm hne;go_enter Tryz.func45,Tryz.ntmps45;go_wp2;go_ret;exact⟨ret_eq (decide_eq_false hab.o).symm,Fr.refl _ _⟩
end Go.Proofs.YtopfcgpeaaehgaaGreatDoor
namespace Go.Proofs.YtopfcgpeaaehgaaGreatDoor
open Go.RowKit Go.Sig
end Go.Proofs.YtopfcgpeaaehgaaGreatDoor
namespace Go.Proofs.YtopfcgpeaaehgaaGreatDoor
open Go.RowKit Go.Sig
theorem cell_fr {w w':World}{a:Addr}{v:Value}(hf:Fr [] w w') (h:w.cell? a=some v):w'.cell? a=some v:=(hf.cell (block_lt_of_cell h) (by simp)).trans h
def convC (s:ByteArray) (w:World):Nat:=grownCap w s.size 0 5
def convW (s:ByteArray) (w:World):World:=w.drew.alloc (.cells (bytesRow s (convC s w)) 5 ((bytesRow s (convC s w)).size,(bytesRow s (convC s w)).size+1))
theorem conv_run (s:ByteArray) (w:World):(convert 9 23 (.string s)).run Tryz.prog w= .ok (.slice (some ⟨w.heap.size,0,none⟩) s.size (convC s w)) (convW s w):=
 run_bytes_of_string w 9 23 5 s tStr tBytes (by kernel_rfl)
theorem convC_ge (s:ByteArray) (w:World):s.size≤convC s w:=grownCap_ge _ _ _ _
@[simp] theorem convW_size (s:ByteArray) (w:World):(convW s w).heap.size=w.heap.size+1:=by simp [convW]
theorem convW_fr (s:ByteArray) (w:World):Fr [] w (convW s w):=((Fr.refl [] w).drew).alloc _
theorem byts_cvn {s:ByteArray}{w:World}{g:Nat}(hg:g=w.heap.size):Byts (convW s w) (some ⟨g,0,none⟩) s.size s.data.toList:=by
 subst hg;have hds:s.data.toList.length=s.size:=by rw [Array.length_toList];rfl
 refine⟨by rw [List.length_map,hds,Nat.mul_one],fun _=>⟨w.heap.size,0,rfl,fun j v hv=> ?_⟩⟩;have hj:j<s.data.size:=by have:=(List.getElem?_eq_some_iff.1 hv).1;simpa using this
 have e:(convW s w).heap[w.heap.size]? =some (.cells (bytesRow s (convC s w)) 5 ((bytesRow s (convC s w)).size,(bytesRow s (convC s w)).size+1)):=heap_alloc_new w.drew _;rw [Nat.zero_add];have e2:=cell_of_row (convW s w) w.heap.size j _ _ _ e;rw [e2,bytesRow_at s _ j hj,←hv,List.getElem?_map,Array.getElem?_toList,Array.getElem?_eq_getElem hj];rfl
theorem conv_any (s:ByteArray):∃(cW:World→World) (cC:World→Nat),(∀w,(convert 9 23 (.string s)).run Tryz.prog w= .ok (.slice (some ⟨w.heap.size,0,none⟩) s.size (cC w)) (cW w))∧(∀w,Fr [] w (cW w))∧
  (∀w g,g=w.heap.size→Byts (cW w) (some ⟨g,0,none⟩) s.size s.data.toList)∧(∀w,(cW w).heap.size=w.heap.size+1)∧(∀w,s.size≤cC w):=
 ⟨convW s,convC s,conv_run s,convW_fr s,fun _ _ h=>byts_cvn h,convW_size s,convC_ge s⟩
theorem byts_dig {w:World}{g:Nat}{t:TypeId}{l:List UInt8}(h:Blk w g t (digCells l)) (hl:l.length=32):Byts w (some ⟨g,0,none⟩) 32 l:=byts_new h rfl hl
theorem sixGo_pos:∀(l:List UInt8) (h n:Nat) (out:List UInt8),0<out.length→0<(sixGo l h n out).length
 | [],h,n,out,ho=>by
  rw [sixGo];split
  ·exact ho
  ·rw [List.length_append];omega
 |x::l,h,n,out,ho=>by rw [sixGo];exact sixGo_pos l _ _ _ (by rw [List.length_append];omega)
theorem webM_pos {l:List UInt8}(h:0<l.length):0<(webM l).length:=by
 cases l with
 |nil=>simp at h
 |cons x l=>unfold webM;rw [sixGo];refine sixGo_pos l _ _ _ ?_;unfold sixByte;simp
end Go.Proofs.YtopfcgpeaaehgaaGreatDoor
