/- Walks: the document's: signs as bytes, which challenges may be, what a verifier's challenge is, does it fit? Conditions: each theorem's own. -/
import Derived.Test.YtpmgepijkhaonaaGreatJl
import Derived.Test.YtpmgepijkhaonaaGreatGi
namespace Go.Proofs.YtpmgepijkhaonaaGreat
open Go.RowKit Go.Sig
theorem mk_eq {l:List UInt8}{s:ByteArray}:(⟨l.toArray⟩:ByteArray)=s↔l=s.data.toList:=by
 obtain⟨⟨a⟩⟩:=s;simp
theorem unsixR_length (s:List UInt8):(unsixR s).length≤s.length:=by
 unfold unsixR;rw [bytL_length,bitsS_length];omega
set_option maxRecDepth 100000 in
theorem runweb_t (w:World) (s:ByteArray) (hs:s.size≤100000):Calls Tryz.prog 206 #[.string s] w (BytesPost w (unwebM s.data.toList)):=by
 have hu:=runsix_t w s hs;have he:=unweb_eq s.data.toList;have hlen:(unsixR s.data.toList).length≤100000:=Nat.le_trans (unsixR_length _) (by rw [Array.length_toList];exact hs);have hweb:=fun(v:World) A n c (hb:Byts v A n (unsixR s.data.toList))=>rweb_t v A n c (unsixR s.data.toList) hb (by have:=hb.length;omega);rw [web_eq]at hweb;obtain⟨b,hb⟩:∃z,Hid (unsixR s.data.toList=z):=⟨_,zh rfl⟩
 rw [hb.o]at hu he hweb hlen;by_cases hq:webM b=s.data.toList
 ·rw [if_pos hq]at he;have heh:=zh he;have htl:=toList_beq ⟨(webM b).toArray⟩ s;rw [decide_eq_true (mk_eq.2 hq)]at htl;clear he hq;go_enter Tryz.func206,Tryz.ntmps206;go_wp2_with fail
  refine hu.mono ?_;rintro e W1 ⟨v,rfl,A,c,rfl,hO,hr,F1⟩;have hw:=hweb W1 A b.length c hO.rd;have F1h:=zh F1;have hOh:=zh hO;have hrh:=zh hr;obtain⟨t,ht⟩:∃z,Hid ((⟨(webM b).toArray⟩:ByteArray)=z):=⟨_,zh rfl⟩
  rw [ht.o]at hw htl;clear hu hweb hO hr F1;go_wp2_with (go_at_call 250;refine hw.mono ?_;rintro e W2 ⟨rfl,F2⟩)
  go_ret2;rw [←heh.o];exact⟨_,rfl,A,c,rfl,hOh.o.fr F2 (by simp),hrh.o,F1h.o.trans F2⟩
 ·rw [if_neg hq]at he;have heh:=zh he;have htl:=toList_beq ⟨(webM b).toArray⟩ s;rw [decide_eq_false (fun h=>hq (mk_eq.1 h))]at htl;clear he hq;go_enter Tryz.func206,Tryz.ntmps206;go_wp2_with fail
  refine hu.mono ?_;rintro e W1 ⟨v,rfl,A,c,rfl,hO,hr,F1⟩;have hw:=hweb W1 A b.length c hO.rd;have F1h:=zh F1;obtain⟨t,ht⟩:∃z,Hid ((⟨(webM b).toArray⟩:ByteArray)=z):=⟨_,zh rfl⟩
  rw [ht.o]at hw htl;clear hu hweb hO hr F1;go_wp2_with (go_at_call 250;refine hw.mono ?_;rintro e W2 ⟨rfl,F2⟩)
  go_ret2;rw [←heh.o];exact⟨rfl,F1h.o.trans F2⟩
set_option maxRecDepth 100000 in
theorem rmay07_t (w:World) (ch me:ByteArray) (hc:ch.size≤100000):Calls Tryz.prog 152 #[.string ch,.string me] w fun e w'=>e= .returned (.bool (pkMay ch me))∧Fr [] w w':=by
 have hver:=rver_t w ch (by omega);have hun:=runweb_t w ch hc;unfold pkMay;by_cases hp:me=sPlain
 ·rw [if_pos hp];subst hp;clear hun;unfold sPlain;go_enter Tryz.func152,Tryz.ntmps152;go_wp2_with (go_at_call 205;refine hver.mono ?_;rintro e W2 ⟨rfl,rfl⟩)
  go_ret;exact⟨rfl,Fr.refl _ _⟩
 ·rw [if_neg hp];have h1:=toList_beq me sPlain;rw [decide_eq_false hp,show sPlain.toList= [112,108,97,105,110] by rw [Lib.toList_data];rfl]at h1;have h2:=toList_beq me sS256;rw [show sS256.toList= [83,50,53,54] by rw [Lib.toList_data];rfl]at h2;obtain⟨r,hr⟩:∃z,Hid (unwebM ch.data.toList=z):=⟨_,zh rfl⟩
  rw [hr.o]at hun⊢;clear hver;by_cases hs:me=sS256
  ·rw [if_pos hs];rw [decide_eq_true hs]at h2;clear hs hp;cases r with
   |none=>
    go_enter Tryz.func152,Tryz.ntmps152;go_wp2_with fail
    refine hun.mono ?_;rintro e W1 ⟨rfl,F1⟩;go_wp2_with fail
    go_ret;exact⟨rfl,F1⟩
   |some b=>
    rw [Option.any_some];obtain⟨n,hn⟩:∃z,Hid (b.length=z):=⟨_,zh rfl⟩
    go_enter Tryz.func152,Tryz.ntmps152;go_wp2_with fail
    refine hun.mono ?_;rintro e W1 ⟨v,rfl,A,c,rfl,hO,hr2,F1⟩;rw [hn.o];have F1h:=zh F1;clear hO hr2 F1 hun;by_cases h32:n=32
    ·subst h32;have hv:=zh (show decide (b.length=32)=true from decide_eq_true hn.o);go_wp2_with fail
     go_ret;exact⟨ret_eq hv.o.symm,F1h.o⟩
    ·have hb:((n:Int)==32)=false:=by rw [beq_eq_false_iff_ne];omega
     have hv:=zh (show decide (b.length=32)=false from decide_eq_false (by rw [hn.o];exact h32));clear h32;go_wp2_with fail
     go_ret;exact⟨ret_eq hv.o.symm,F1h.o⟩
  ·rw [if_neg hs];rw [decide_eq_false hs]at h2;clear hs hp;cases r with
   |none=>
    go_enter Tryz.func152,Tryz.ntmps152;go_wp2_with fail
    refine hun.mono ?_;rintro e W1 ⟨rfl,F1⟩;go_wp2_with fail
    go_ret;exact⟨rfl,F1⟩
   |some b=>
    go_enter Tryz.func152,Tryz.ntmps152;go_wp2_with fail
    refine hun.mono ?_;rintro e W1 ⟨v,rfl,A,c,rfl,hO,hr2,F1⟩;have F1h:=zh F1;clear hO hr2 F1 hun;go_wp2_with fail
    go_ret;exact⟨rfl,F1h.o⟩
theorem rshown_t (w:World) (ch me:ByteArray) (hc:ch.size≤100000):Calls Tryz.prog 104 #[.string ch,.string me] w fun e w'=>e= .returned (.bool (shownM ch me))∧Fr [] w w':=by
 have hp:=rmay07_t w ch me hc;have h1:=str_empty ch;have h2:=str_empty me;unfold shownM;by_cases hch:ch.size=0
 ·rw [if_pos hch];rw [decide_eq_true hch]at h1;obtain⟨r,hr⟩:∃z,Hid (decide (me.size=0)=z):=⟨_,zh rfl⟩
  rw [hr.o]at h2⊢;clear hp hch;cases r with
  |true=>
   go_enter Tryz.func104,Tryz.ntmps104;go_wp2_with fail
   go_ret;exact⟨rfl,Fr.refl _ _⟩
  |false=>
   go_enter Tryz.func104,Tryz.ntmps104;go_wp2_with fail
   go_ret;exact⟨rfl,Fr.refl _ _⟩
 ·rw [if_neg hch];rw [decide_eq_false hch]at h1;clear hch;go_enter Tryz.func104,Tryz.ntmps104;go_wp2_with (go_at_call 152;refine hp.mono ?_;rintro e W1 ⟨rfl,F1⟩)
  go_ret;exact⟨rfl,F1⟩
end Go.Proofs.YtpmgepijkhaonaaGreat
