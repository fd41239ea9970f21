/- Walks: Id and secret of a header. Conditions: each theorem's own. -/
import Derived.Test.YtopfcgpeaaehgaaGreatDoorAi
namespace Go.Proofs.YtopfcgpeaaehgaaGreatDoor
open Go.RowKit Go.Sig
theorem bA_size (l:List UInt8):(bA l).size=l.length:=by show l.toArray.size=_;rw [List.size_toArray]
theorem bA_le {l:List UInt8}{n:Nat}(h:l.length≤n):(bA l).size≤n:=by rw [bA_size];exact h
theorem unqO_t (w:World) (s:ByteArray) (hs:s.size≤140737488351232):Calls Tryz.prog 78 #[.string s] w fun e w'=>∃(v:ByteArray) (er:Int),e= .returned (.tuple #[.string v,.int .i64 er])∧((er=0∧unqL s.data.toList=some v.data.toList)∨(er=3∧unqL s.data.toList=none))∧Fr [] w w':=by
 refine(unq_t w s hs).mono ?_;rintro e w' ⟨h,F⟩;cases hu:unqL s.data.toList with
 |none=>rw [hu]at h;exact⟨_,_,h,.inr ⟨rfl,rfl⟩,F⟩
 |some bs=>rw [hu]at h;exact⟨_,_,h,.inl ⟨rfl,rfl⟩,F⟩
theorem unsixS_len {S:List UInt8}:∀(s:List UInt8) (h b:Nat) (out bs:List UInt8),unsixS S s h b out=some bs→bs.length≤out.length+s.length
 | [],h,b,out,bs,e=>by
  unfold unsixS at e;split at e
  ·cases e;simp
  ·cases e
 |c::s,h,b,out,bs,e=>by
  unfold unsixS at e;split at e
  ·cases e
  ·split at e
   ·have:=unsixS_len s _ _ _ _ e;simp only [List.length_append,List.length_cons,List.length_nil]at this⊢;omega
   ·have:=unsixS_len s _ _ _ _ e;simp only [List.length_cons];omega
theorem unbasM_len {s:ByteArray}{bs:List UInt8}(h:unbasM s.data.toList=some bs):bs.length≤s.size:=by
 unfold unbasM at h;split at h
 ·cases h
 ·unfold unsixM at h;split at h
  ·cases h
  ·have:=unsixS_len _ _ _ _ _ h;rw [List.length_take,Array.length_toList]at this;simp only [List.length_nil,Nat.zero_add]at this;exact Nat.le_trans this (Nat.min_le_right _ _)
theorem unbasO_t (w:World) (s:ByteArray) (hs:s.size≤140737488351232):Calls Tryz.prog 91 #[.string s] w fun e w'=>∃(A:Option Addr) (n c:Nat) (bs:List UInt8) (er:Int),e= .returned (.tuple #[.slice A n c,.int .i64 er])∧Byts w' A n bs∧((er=0∧unbasM s.data.toList=some bs)∨(er=3∧unbasM s.data.toList=none))∧bs.length≤s.size∧Fr [] w w':=by
 refine(unbas_t w s hs).mono ?_;rintro e w' h;cases hu:unbasM s.data.toList with
 |none=>rw [hu]at h;exact⟨none,0,0,[],3,h.1,Rd.nil _ _ _,.inr ⟨rfl,rfl⟩,by simp,h.2⟩
 |some bs=>rw [hu]at h;obtain⟨v,rfl,A,c,rfl,hO,hR,F⟩:=h;exact⟨A,bs.length,c,bs,0,rfl,hO.rd,.inl ⟨rfl,rfl⟩,unbasM_len hu,F⟩
def ShownPost (w:World) (h:ByteArray) (e:Ending) (w':World):Prop:=(match hdrM h with
 |some (x,y)=>e= .returned (.tuple #[.string x,.string y,.bool true])
 |none=>∃x y,e= .returned (.tuple #[.string x,.string y,.bool false]))∧Fr [] w w'
set_option maxHeartbeats 2000000 in
theorem shownH_t (w:World) (h:ByteArray) (hs:h.size≤140737488351232):Calls Tryz.prog 43 #[.string h] w (ShownPost w h):=by
 have hp:=Tryz.strings_CutPrefix h ⟨#[66,97,115,105,99,32]⟩ w;obtain⟨p,hpe⟩:∃z,Hid (Lib.hasPrefix h.data.toList (⟨#[66,97,115,105,99,32]⟩:ByteArray).data.toList=z):=⟨_,zh rfl⟩
 obtain⟨sg,hsg⟩:∃z,Hid (Lib.trimPrefix h.data.toList (⟨#[66,97,115,105,99,32]⟩:ByteArray).data.toList=z):=⟨_,zh rfl⟩
 rw [hpe.o,hsg.o]at hp;have hsgl:sg.length≤h.size:=by
  rw [←hsg.o];unfold Lib.trimPrefix;split
  ·rw [List.length_drop,Array.length_toList];exact Nat.sub_le _ _
  ·rw [Array.length_toList];exact Nat.le_refl _
 have hpre:Hid ((p=true∧h.data.toList.take 6=sBasic∧sg=h.data.toList.drop 6)∨(p=false∧h.data.toList.take 6≠sBasic)):=zh (by
  have e1:(⟨#[66,97,115,105,99,32]⟩:ByteArray).data.toList=sBasic:=rfl;have h1:=hpe.o;have h2:=hsg.o;rw [e1]at h1 h2;unfold Lib.trimPrefix at h2;rw [h1]at h2;unfold Lib.hasPrefix at h1;cases p with
  |true=>rw [if_pos rfl]at h2;rw [List.isPrefixOf_iff_prefix,List.prefix_iff_eq_take]at h1;exact .inl ⟨rfl,h1.symm,h2.symm⟩
  |false=>
   refine .inr ⟨rfl,fun e=> ?_⟩;have:sBasic.isPrefixOf h.data.toList=true:=by rw [List.isPrefixOf_iff_prefix,List.prefix_iff_eq_take];exact e.symm
   rw [h1]at this;cases this)
 go_enter Tryz.func43,Tryz.ntmps43;go_upto_region 6 with(first
  | (go_at_call 90;refine hp.mono ?_;clear hp;rintro e w1 ⟨rfl,rfl⟩;have hu:=unbasO_t w1 (bA sg) (bA_le (by omega)))
  | (go_at_call 91;refine hu.mono ?_;clear hu;rintro e w2 ⟨A,n,c,bs,er,rfl,hby,her,hbl,f2⟩;have hcv:=conv_str (c:=c) hby;have hbl2:bs.length≤140737488351232:=Nat.le_trans hbl (Nat.le_trans (Nat.le_of_eq (bA_size sg)) (Nat.le_trans hsgl hs));have hc:=cut_t w2 (bA bs) 58 (bA_le (by omega));unfold CutPost at hc;rw [lst_bA]at hc;have hcl:=cutL_len (c:=58) bs;obtain⟨⟨a,b,f⟩,hcut⟩:∃z,Hid (cutL 58 bs=z):=⟨_,zh rfl⟩;rw [hcut.o]at hc hcl;simp only at hc hcl;have F2:=zh f2;clear hby f2;have herh:=zh her;clear her)
  | (go_at_call 77;refine hc.mono ?_;clear hc;rintro e w3 ⟨rfl,f3⟩;have F3:=zh (F2.o.trans f3);clear f3;have hu1:=unqO_t w3 (bA a) (bA_le (by omega));rw [lst_bA]at hu1)
  | (go_at_call 78;refine hu1.mono ?_;clear hu1;rintro e w4 ⟨x,ex,rfl,hex,f4⟩;have F4:=zh (F3.o.trans f4);clear f4;have hexh:=zh hex;clear hex;have hu2:=unqO_t w4 (bA b) (bA_le (by omega));rw [lst_bA]at hu2)
  | (go_at_call 78;refine hu2.mono ?_;clear hu2;rintro e w5 ⟨y,ey,rfl,hey,f5⟩;have F5:=zh (F4.o.trans f5);clear f5;have heyh:=zh hey;clear hey))
 clear hcl hcv hsgl hbl hbl2;rcases hpre.o with⟨rfl,ht,hd⟩ | ⟨rfl,ht⟩
 ·have hth:=zh ht;have hdh:=zh hd;clear ht hd;cases f with
  |false=>
   have hno:Hid (hdrM h=none):=zh (by
    unfold hdrM;rw [if_pos hth.o,←hdh.o];rcases herh.o with⟨_,h1⟩ | ⟨_,h1⟩
    ·rw [lst_bA]at h1;rw [h1];simp only;rw [hcut.o]
    ·rw [lst_bA]at h1;rw [h1])
   clear herh hexh heyh;go_wp2_with fail
   go_ret3
   unfold ShownPost;rw [hno.o];exact⟨⟨_,_,rfl⟩,F5.o⟩
  |true=>
   rcases herh.o with⟨rfl,h1⟩ | ⟨rfl,h1⟩
   ·rw [lst_bA]at h1;have h1h:=zh h1;clear h1;have hmid:Hid (hdrM h=match unqL a,unqL b with |some x,some y=>some (bA x,bA y) |_,_=>none):=zh (by
     unfold hdrM;rw [if_pos hth.o,←hdh.o,h1h.o];simp only;rw [hcut.o];cases unqL a<;>cases unqL b<;>rfl)
    rcases hexh.o with⟨rfl,h2⟩ | ⟨rfl,h2⟩
    ·rcases heyh.o with⟨rfl,h3⟩ | ⟨rfl,h3⟩
     ·have hyes:Hid (hdrM h=some (x,y)):=zh (by rw [hmid.o,h2,h3];simp only [bA_lst]);clear h2 h3;go_wp2_with fail
      go_ret3
      unfold ShownPost;rw [hyes.o];exact⟨rfl,F5.o⟩
     ·have hno:Hid (hdrM h=none):=zh (by rw [hmid.o,h2,h3]);clear h2 h3;go_wp2_with fail
      go_ret3
      unfold ShownPost;rw [hno.o];exact⟨⟨_,_,rfl⟩,F5.o⟩
    ·have hno:Hid (hdrM h=none):=zh (by rw [hmid.o,h2]);clear h2;go_wp2_with fail
     go_ret3
     unfold ShownPost;rw [hno.o];exact⟨⟨_,_,rfl⟩,F5.o⟩
   ·rw [lst_bA]at h1;have hno:Hid (hdrM h=none):=zh (by
     unfold hdrM;rw [if_pos hth.o,←hdh.o,h1])
    clear h1;go_wp2_with fail
    go_ret3
    unfold ShownPost;rw [hno.o];exact⟨⟨_,_,rfl⟩,F5.o⟩
 ·have hno:Hid (hdrM h=none):=zh (by unfold hdrM;rw [if_neg ht]);clear ht;go_wp2_with fail
  go_ret3
  unfold ShownPost;rw [hno.o];exact⟨⟨_,_,rfl⟩,F5.o⟩
end Go.Proofs.YtopfcgpeaaehgaaGreatDoor
