/- Walks: words between blanks; scopes read. Conditions: each theorem's own. -/
import Derived.Test.YtopfcgpeaaehgaaGreatDoorAr
import Derived.Test.YtopfcgpeaaehgaaGreatDoorGm
namespace Go.Proofs.YtopfcgpeaaehgaaGreatDoor
open Go.RowKit Go.Sig
theorem wordsL_cons (c:UInt8) (r cur:List UInt8):wordsL (c::r) cur=if c=32 then cur::wordsL r []else wordsL r (cur++ [c]):=rfl
theorem words_cut:∀(l cur:List UInt8),wordsL l cur=if(cutL 32 l).2.2=true then(cur++(cutL 32 l).1)::wordsL (cutL 32 l).2.1 []else [cur++l]
 | [],cur=>by simp [wordsL,cutL]
 |x::r,cur=>by
  rw [cutL_cons,wordsL_cons];by_cases hx:x=32
  ·simp [hx]
  ·rw [if_neg hx,if_neg hx,words_cut r (cur++ [x])];simp
theorem split_words:∀(k:Nat) (l:List UInt8),Lib.count l [32]=k→Lib.splitK [32] 0 k l=wordsL l []:=by
 intro k;induction k with
 |zero=>
  intro l h;rw [words_cut];rcases cut_idx (c:=32) (l:=l)with⟨i,h1,h2,h3⟩ | ⟨h1,h2⟩
  ·rw [Lib.count_hit (by simp) (by rw [Lib.index_one];exact h1)]at h;omega
  ·rw [h2];rfl
 |succ k ih=>
  intro l h;rw [words_cut];rcases cut_idx (c:=32) (l:=l)with⟨i,h1,h2,h3⟩ | ⟨h1,h2⟩
  ·have hi:Lib.index l [32]=i:=by rw [Lib.index_one];exact h1
   rw [Lib.count_hit (by simp) hi]at h;rw [h3];unfold Lib.splitK;rw [hi,if_neg (by simp),if_pos rfl,ih _ (by simpa using (by omega:Lib.count (l.drop (i+([32]:List UInt8).length)) [32]=k))];simp
  ·rw [Lib.count_miss (by rw [Lib.index_one];exact h1)]at h;omega
theorem split_bytes (s:ByteArray):Lib.splitB ⟨#[32]⟩ 0 (Lib.countB s ⟨#[32]⟩) s=(wordsL s.data.toList []).map bA:=by
 have h:=Lib.splitB_data ⟨#[32]⟩ 0 (Lib.countB s ⟨#[32]⟩) s;have h2:=split_words _ s.data.toList (rfl:Lib.count s.data.toList [32]=Lib.count s.data.toList [32]);rw [←h2,←show(⟨#[32]⟩:ByteArray).data.toList= [32]from rfl];rw [show Lib.countB s ⟨#[32]⟩=Lib.count s.data.toList (⟨#[32]⟩:ByteArray).data.toList from rfl]at h⊢;rw [←h,List.map_map];exact(List.map_id' _).symm.trans (List.map_congr_left fun x _=>by cases x;rfl)
theorem words_count (l cur:List UInt8):(wordsL l cur).length≤l.length+1:=by
 induction l generalizing cur with
 |nil=>simp [wordsL]
 |cons x r ih=>
  rw [wordsL_cons];split
  ·have:=ih [];simp;omega
  ·have:=ih (cur++ [x]);simp;omega
theorem words_len (l cur:List UInt8) (n:Nat) (h:cur.length+l.length≤n):∀x∈wordsL l cur,x.length≤n:=by
 induction l generalizing cur with
 |nil=>intro x hx;simp [wordsL]at hx;subst hx;simpa using h
 |cons x r ih=>
  simp only [List.length_cons]at h;rw [wordsL_cons];split
  ·intro y hy;rcases List.mem_cons.1 hy with rfl |hy
   ·omega
   ·exact ih [] (by simp;omega) y hy
  ·exact ih _ (by simp;omega)
theorem parseA_t (w:World) (s:ByteArray) (hs:s.size≤150000000000000):Calls Tryz.prog 149 #[.string s] w fun e w'=>e= .returned (.bool (!isWord s))∧w=w':=by
 have hw:=isWord_t w s hs;obtain⟨q,hq⟩:∃z,isWord s=z:=⟨_,rfl⟩
 rw [hq]at hw⊢;clear hq;cases q<;>
 ·go_enter Tryz.func149,Tryz.ntmps149;go_wp2_with (go_at_call 150;refine hw.mono ?_;rintro e w' ⟨rfl,rfl⟩)
  go_ret;exact⟨rfl,rfl⟩
set_option maxHeartbeats 1000000 in
theorem idxP_t (w:World) (A:Option Addr) (n c:Nat) (ls:List ByteArray) (hR:Rd w 1 A n (strCells ls)) (hn:ls.length=n) (hmax:n≤150000000000000) (hsz:∀s∈ls,s.size≤150000000000000):
  Calls Tryz.prog 134 #[.slice A n c,.func (.func 149) #[] #[]] w (IdxPost w (ls.any fun s=> !isWord s)):=by
 have eg:∀args w,(callFunc 149 args).run Tryz.prog w= .ok (.enter 149 args) w:=enters_of Tryz.func149 (by kernel_rfl) rfl;have hszh:=zh hsz;clear hsz;go_enter Tryz.func134,Tryz.ntmps134;go_wp2_with fail
 go_loopg [5,8] (n+1) (fun gk s5 s8 wr=>∃(i:Nat),s8= .int .i64 i∧i≤n∧n - i<gk∧((ls.take i).any fun s=> !isWord s)=false∧w=wr)
 case atStart=>exact⟨0,rfl,by omega,by omega,rfl,rfl⟩
 case round=>
  obtain⟨i,rfl,hi,hk,hno,rfl⟩:=hrel;have hnoh:=zh hno;clear hno;by_cases hlt:i<n
  ·have hlt':(i:Int)<n:=by omega
   have hlth:=zh hlt;have hi':i<ls.length:=by omega
   obtain⟨b,o,rfl,hcell⟩:=hR.2 (by omega);have cs:=hcell _ _ (strCells_at hi');have htk:=zh (List.take_succ_eq_append_getElem hi');have hmem:=zh (List.getElem_mem hi');have hRh:=zh hR;clear hcell hR;obtain⟨s,hs⟩:∃z,Hid (ls[i]=z):=⟨_,zh rfl⟩
   rw [hs.o]at cs htk hmem;have hc:=parseA_t w s (hszh.o s hmem.o);obtain⟨r,hr⟩:∃z,Hid ((!isWord s)=z):=⟨_,zh rfl⟩
   rw [hr.o]at hc;cases r with
   |true=>
    go_wp2_with (go_at_call 149;refine hc.mono ?_;rintro e w' ⟨rfl,rfl⟩)
    go_ret;exact⟨i,rfl,⟨fun _=>List.any_eq_true.2 ⟨s,hmem.o,hr.o⟩,fun _=>by omega⟩,rfl⟩
   |false=>
    go_wp2_with (go_at_call 149;refine hc.mono ?_;rintro e w' ⟨rfl,rfl⟩)
    go_roundg (n - i)
    case measure=>omega
    case rel=>refine⟨i+1,by go_num,by have:=hlth.o;omega,by have:=hlth.o;omega,?_,rfl⟩;rw [htk.o,List.any_append,hnoh.o];simp [hr.o]
  ·have hge:¬(i:Int)<n:=by omega
   have ha:=hnoh.o;rw [List.take_of_length_le (by omega)]at ha;have hah:=zh ha;clear hlt ha hk;go_wp2_with fail
   go_ret;exact⟨-1,rfl,⟨fun h=>by omega,fun h=>by rw [hah.o]at h;cases h⟩,rfl⟩
theorem contP_t (w:World) (A:Option Addr) (n c:Nat) (ls:List ByteArray) (hR:Rd w 1 A n (strCells ls)) (hn:ls.length=n) (hmax:n≤150000000000000) (hsz:∀s∈ls,s.size≤150000000000000):
  Calls Tryz.prog 98 #[.slice A n c,.func (.func 149) #[] #[]] w fun e w'=>e= .returned (.bool (!ls.all isWord))∧w=w':=by
 have hi:=idxP_t w A n c ls hR hn hmax hsz;go_enter Tryz.func98,Tryz.ntmps98;go_wp2_with (go_at_call 134;refine hi.mono ?_;rintro e w' ⟨k,rfl,hk,rfl⟩;have hkh:=zh hk;clear hk)
 go_ret;refine⟨ret_eq ?_,rfl⟩;have hk2:decide (0≤k)= !ls.all isWord:=by rw [Bool.eq_iff_iff,decide_eq_true_eq,hkh.o];simp [List.any_eq_true]
 exact hk2
theorem rd_new {w:World}{g:Nat}{t:TypeId}{xs:List Value}(n:Nat) (h:Blk w g t xs.toArray) (hn:xs.length=n):Rd w 1 (some ⟨g,0,none⟩) n xs:=
 ⟨by omega,fun _=>⟨g,0,rfl,fun j u hu=>by rw [Nat.zero_add,h.cell];simpa using hu⟩⟩
def ScPost (w:World) (r:Option (List ByteArray)) (e:Ending) (w':World):Prop:=
 match r with
 |none=>∃(k:Int),e= .returned (.tuple #[.slice none 0 0,.int .i64 k])∧(k==0)=false∧Fr [] w w'
 |some l=>∃A c,e= .returned (.tuple #[.slice A l.length c,.int .i64 0])∧Rd w' 1 A l.length (strCells l)∧From w.heap.size A∧Fr [] w w'
set_option maxRecDepth 100000 in
set_option maxHeartbeats 2000000 in
theorem sparse_t (w:World) (s:ByteArray) (m:Int) (hm:w.cell? ⟨0,0,none⟩=some (.int .i64 m)):Calls Tryz.prog 113 #[.string s] w (ScPost w (scpM s)):=by
 by_cases h1:16384<s.size
 ·have h1b:decide ((16384:Int)<(s.size:Nat))=true:=by rw [decide_eq_true_iff];omega
  have hr:Hid (scpM s=none):=zh (by unfold scpM;rw [if_pos h1]);clear h1;go_enter Tryz.func113,Tryz.ntmps113;go_wp2_with fail
  go_ret2;rw [hr.o];exact⟨2,rfl,rfl,Fr.refl _ _⟩
 have h1b:decide ((16384:Int)<(s.size:Nat))=false:=by rw [decide_eq_false_iff_not];omega
 by_cases h2:s.size=0
 ·have h2b:s.toList.isEmpty=true:=by rw [str_empty];simp [h2]
  have hr:Hid (scpM s=some []):=zh (by unfold scpM;rw [if_neg h1,if_pos h2]);clear h1 h2;go_enter Tryz.func113,Tryz.ntmps113;go_wp2_with fail
  go_ret2;rw [hr.o];exact⟨none,0,rfl,Rd.nil _ _ _,fun ad e=>(by cases e),Fr.refl _ _⟩
 have h2b:s.toList.isEmpty=false:=by rw [str_empty];simp [h2]
 have hr:Hid (scpM s=if((wordsL s.data.toList []).map bA).all isWord=true then(if(setOf ((wordsL s.data.toList []).map bA)).length≤32 then some (setOf ((wordsL s.data.toList []).map bA))else none)else none):=zh (by unfold scpM;rw [if_neg h1,if_neg h2]);have hsp:=Tryz.strings_Split s ⟨#[32]⟩ m w (by omega) hm (by decide);have hlen:=Lib.splitB_all ⟨#[32]⟩ (by decide) 0 (Lib.countB s ⟨#[32]⟩) s rfl;have hcnt:=words_count s.data.toList [];have hwl:=words_len s.data.toList [] s.size (by simp only [List.length_nil,Array.length_toList,Nat.zero_add];exact Nat.le_refl s.size);rw [split_bytes]at hsp hlen;have hcnt2:(wordsL s.data.toList []).length≤16385:=by
  have h3:s.data.toList.length=s.size:=by simp only [Array.length_toList];rfl
  omega
 have hws:∀x∈(wordsL s.data.toList []).map bA,x.size≤150000000000000:=fun x hx=>by obtain⟨y,hy,rfl⟩:=List.mem_map.1 hx;rw [bA_size];have:=hwl y hy;omega
 obtain⟨ws,hwse⟩:∃z,(wordsL s.data.toList []).map bA=z:=⟨_,rfl⟩
 have hwsl:ws.length≤16385:=by rw [←hwse,List.length_map];exact hcnt2
 rw [hwse]at hsp hlen hws hr;obtain⟨k,hk⟩:∃z,Lib.countB s ⟨#[32]⟩+1=z:=⟨_,rfl⟩
 rw [hk]at hsp hlen;clear h1 h2 hwse hk hcnt hwl hcnt2;have hlenh:=zh hlen;have hwsh:=zh hws;have hwslh:=zh hwsl;clear hlen hws hwsl;go_enter Tryz.func113,Tryz.ntmps113;go_upto_region 6 with(go_at_call 148;refine hsp.mono ?_;clear hsp;rintro e w' ⟨rfl,rfl⟩)
 refine wp_gen (fun W=>Rd W 1 (some ⟨w.heap.size,0,none⟩) k (strCells ws)∧Fr [] w W) ⟨rd_new (t:=9) k (Blk.new _ _ _) (by unfold strCells;rw [List.length_map];exact hlenh.o),(Fr.refl _ _).alloc _⟩ ?_;rintro W1 ⟨hR1,F1⟩;have hcp:=contP_t W1 (some ⟨w.heap.size,0,none⟩) k k ws hR1 hlenh.o (by have:=hwslh.o;have:=hlenh.o;omega) hwsh.o;have hF1:=zh F1;have hR1h:=zh hR1;obtain⟨q,hq⟩:∃z,Hid (ws.all isWord=z):=⟨_,zh rfl⟩
 rw [hq.o]at hcp hr;clear F1 hR1;cases q with
 |false=>
  have hr2:Hid (scpM s=none):=zh (by rw [hr.o];rfl);clear hr;go_wp2_with (go_at_call 98;refine hcp.mono ?_;rintro e W2 ⟨rfl,rfl⟩)
  go_ret2;rw [hr2.o];exact⟨3,rfl,rfl,hF1.o⟩
 |true=>
  have hr2:Hid (scpM s=if(setOf ws).length≤32 then some (setOf ws)else none):=zh (by rw [hr.o];rfl);clear hr;have hbo:∀V g,Fr [] W1 V→V.cell? ⟨g,0,none⟩=some (.slice (some ⟨w.heap.size,0,none⟩) k k)→Calls Tryz.prog 108 #[.slice (some ⟨g,0,none⟩) 1 1] V (SRow V (setOf ws)):=fun V g hF hc=>both_t V g (some ⟨w.heap.size,0,none⟩) k k ws hc (hR1h.o.fr hF (fun _=>off_nil _)) hlenh.o (by have:=hwslh.o;have:=hlenh.o;omega) hwsh.o;have hboh:=zh hbo;clear hbo;go_upto_region 8 with(go_at_call 98;refine hcp.mono ?_;rintro e W2 ⟨rfl,rfl⟩)
  go_upto_region 9 with(go_at_call 108;refine(hboh.o _ _ ((Fr.refl _ _).alloc _) (by rw [(Blk.new _ _ _).cell];rfl)).mono ?_;rintro e W2 ⟨v,rfl,hO,F2,hfr⟩)
  obtain⟨A2,c2,rfl,hA2⟩:=hO.form;have hFr2:From w.heap.size A2:=fun ad e=>by
   rcases hA2 with rfl | ⟨g,rfl,_⟩
   ·cases e
   ·injection e with e
    subst e;have h1:=hfr g (by simp [rowOf,Value.ownBlock]);have h2:=hF1.o.size;simp at h1;show w.heap.size≤g;omega
  have hRd2:=zh hO.rd;have hF2:=zh (hF1.o.trans (((Fr.refl [] W1).alloc _).trans F2));have hFr2h:=zh hFr2;clear hFr2 hA2 hO F2 hfr hcp;by_cases h32:(setOf ws).length≤32
  ·have h32b:decide ((32:Int)<((setOf ws).length:Nat))=false:=by rw [decide_eq_false_iff_not];omega
   have hr3:Hid (scpM s=some (setOf ws)):=zh (by rw [hr2.o,if_pos h32]);clear h32 hr2;go_wp2_with fail
   go_ret2;rw [hr3.o];exact⟨A2,c2,rfl,hRd2.o,hFr2h.o,hF2.o⟩
  ·have h32b:decide ((32:Int)<((setOf ws).length:Nat))=true:=by rw [decide_eq_true_iff];omega
   have hr3:Hid (scpM s=none):=zh (by rw [hr2.o,if_neg h32]);clear h32 hr2;go_wp2_with fail
   go_ret2;rw [hr3.o];exact⟨2,rfl,rfl,hF2.o⟩
end Go.Proofs.YtopfcgpeaaehgaaGreatDoor
