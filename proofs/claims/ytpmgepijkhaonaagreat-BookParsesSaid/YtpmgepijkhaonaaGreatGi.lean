/- Walks: what may be a challenge by a method; does a verifier meet it. Conditions: each theorem's own. -/
import Derived.Test.YtpmgepijkhaonaaGreatGh
namespace Go.Proofs.YtpmgepijkhaonaaGreat
open Go.RowKit Go.Sig
theorem plain_ne:sPlain≠sS256:=by decide
set_option maxRecDepth 100000 in
set_option maxHeartbeats 2000000 in
theorem pmay_t (w:World) (ch me:ByteArray) (hc:ch.size≤1000000):Calls Tryz.prog 146 #[.string ch,.string me] w fun e w'=>e= .returned (.bool (pkMay ch me))∧Fr [] w w':=by
 have eA:∀args w,(callFunc 244 args).run Tryz.prog w= .ok (.enter 244 args) w:=enters_of Tryz.func244 (by kernel_rfl) rfl;have eC:∀args w,(callFunc 247 args).run Tryz.prog w= .ok (.enter 247 args) w:=enters_of Tryz.func247 (by kernel_rfl) rfl;have hf:=find_t w me;have hver:=fun(W:World)=>isVer_t W ch (by omega);have hunw:=fun(W:World)=>findC_t W ch hc;obtain⟨pl,hpl⟩:∃z,Hid (sPlain=z):=⟨_,zh rfl⟩
 obtain⟨qs,hqs⟩:∃z,Hid (sS256=z):=⟨_,zh rfl⟩
 go_enter Tryz.func146,Tryz.ntmps146;go_wp2_with fail
 refine Calls.mono (show Calls Tryz.prog 201 _ _ _ from hf) ?_;rintro e W1 ⟨F1,⟨h1,rfl⟩ | ⟨h1,rfl⟩ | ⟨h1,h2,rfl⟩⟩
 ·unfold methA;rw [hpl.o];have h1h:=zh h1;clear h1 hf;go_upto_region 2 with(refine wpList_store_row rfl 270 _ _ rfl W1.heap.size #[.string pl,.func (.func 243) #[] #[],.func (.func 244) #[] #[]] rfl rfl 270 _ (Blk.new _ _ _) infoMeth (by kernel_rfl) (by kernel_rfl) ?_)
  refine wp_gen (fun W3=>Blk W3 W1.heap.size 270 #[.string pl,.func (.func 243) #[] #[],.func (.func 244) #[] #[]]∧Fr [] W1 W3) ⟨Blk.setRow (Blk.new _ _ _) _,((Fr.refl _ _).alloc _).setRow (.inr (Nat.le_refl _)) _⟩ ?_;rintro W3 ⟨hM,f3⟩;obtain⟨gm,HGM⟩:∃z,Hid (W1.heap.size=z):=⟨_,zh rfl⟩
  rw [HGM.o]at hM⊢;obtain⟨e0,e1,e2⟩:=hM.c3;have hgl:=hM.lt;clear hM;go_wp2_with (go_at_call 244;refine(hver _).mono ?_;rintro e w' ⟨rfl,rfl⟩)
  go_ret;exact⟨ret_eq (by unfold pkMay;rw [if_pos h1h.o]),F1.trans f3⟩
 ·unfold methB;rw [hqs.o];have h1h:=zh h1;clear h1 hf;go_upto_region 2 with(refine wpList_store_row rfl 270 _ _ rfl W1.heap.size #[.string qs,.func (.func 245) #[] #[],.func (.func 247) #[] #[]] rfl rfl 270 _ (Blk.new _ _ _) infoMeth (by kernel_rfl) (by kernel_rfl) ?_)
  refine wp_gen (fun W3=>Blk W3 W1.heap.size 270 #[.string qs,.func (.func 245) #[] #[],.func (.func 247) #[] #[]]∧Fr [] W1 W3) ⟨Blk.setRow (Blk.new _ _ _) _,((Fr.refl _ _).alloc _).setRow (.inr (Nat.le_refl _)) _⟩ ?_;rintro W3 ⟨hM,f3⟩;obtain⟨gm,HGM⟩:∃z,Hid (W1.heap.size=z):=⟨_,zh rfl⟩
  rw [HGM.o]at hM⊢;obtain⟨e0,e1,e2⟩:=hM.c3;have hgl:=hM.lt;clear hM;go_wp2_with (go_at_call 247;refine(hunw _).mono ?_;rintro e w' ⟨rfl,F9⟩)
  go_ret;exact⟨ret_eq (by unfold pkMay;rw [if_neg (by rw [h1h.o];exact fun e=>plain_ne e.symm),if_pos h1h.o]),F1.trans (f3.trans F9)⟩
 ·have h1h:=zh h1;have h2h:=zh h2;clear h1 h2 hf;unfold methN;go_upto_region 2 with(refine wpList_store_row rfl 270 _ _ rfl W1.heap.size #[.string ⟨#[]⟩,.nilFunc,.nilFunc] rfl rfl 270 _ (Blk.new _ _ _) infoMeth (by kernel_rfl) (by kernel_rfl) ?_)
  refine wp_gen (fun W3=>Blk W3 W1.heap.size 270 #[.string ⟨#[]⟩,.nilFunc,.nilFunc]∧Fr [] W1 W3) ⟨Blk.setRow (Blk.new _ _ _) _,((Fr.refl _ _).alloc _).setRow (.inr (Nat.le_refl _)) _⟩ ?_;rintro W3 ⟨hM,f3⟩;go_wp2_with fail
  go_ret;exact⟨ret_eq (by unfold pkMay;rw [if_neg h1h.o,if_neg h2h.o]),F1.trans f3⟩
def chalM (ver me:ByteArray):ByteArray×Int:=if me=sPlain then(if verM ver=true then(ver,0)else(⟨#[]⟩,3))else if me=sS256 then(if verM ver=true then(⟨(webM (sha ver.data.toList)).toArray⟩,0)else(⟨#[]⟩,3))else(⟨#[]⟩,1)
def ChalPost (w:World) (r:ByteArray×Int) (e:Ending) (w':World):Prop:=e= .returned (.tuple #[.string r.1,.int .i64 r.2])∧Fr [] w w'
set_option maxRecDepth 100000 in
set_option maxHeartbeats 2000000 in
theorem chal_t (w:World) (ver me:ByteArray) (hv:ver.size≤1000000):Calls Tryz.prog 227 #[.string ver,.string me] w (ChalPost w (chalM ver me)):=by
 have eA:∀args w,(callFunc 243 args).run Tryz.prog w= .ok (.enter 243 args) w:=enters_of Tryz.func243 (by kernel_rfl) rfl;have eB:∀args w,(callFunc 245 args).run Tryz.prog w= .ok (.enter 245 args) w:=enters_of Tryz.func245 (by kernel_rfl) rfl;have hf:=find_t w me;have hver:=fun(W:World)=>isVer_t W ver (by omega);have hfa:=fun(W:World)=>findA_t W ver;have hfb:=fun(W:World)=>findB_t W ver hv;obtain⟨pl,hpl⟩:∃z,Hid (sPlain=z):=⟨_,zh rfl⟩
 obtain⟨qs,hqs⟩:∃z,Hid (sS256=z):=⟨_,zh rfl⟩
 obtain⟨r,hr⟩:∃z,Hid (verM ver=z):=⟨_,zh rfl⟩
 simp only [hr.o]at hver;go_enter Tryz.func227,Tryz.ntmps227;go_wp2_with fail
 refine Calls.mono (show Calls Tryz.prog 201 _ _ _ from hf) ?_;rintro e W1 ⟨F1,⟨h1,rfl⟩ | ⟨h1,rfl⟩ | ⟨h1,h2,rfl⟩⟩
 ·unfold methA;rw [hpl.o];have h1h:=zh h1;clear h1 hf;go_upto_region 2 with(refine wpList_store_row rfl 270 _ _ rfl W1.heap.size #[.string pl,.func (.func 243) #[] #[],.func (.func 244) #[] #[]] rfl rfl 270 _ (Blk.new _ _ _) infoMeth (by kernel_rfl) (by kernel_rfl) ?_)
  refine wp_gen (fun W3=>Blk W3 W1.heap.size 270 #[.string pl,.func (.func 243) #[] #[],.func (.func 244) #[] #[]]∧Fr [] W1 W3) ⟨Blk.setRow (Blk.new _ _ _) _,((Fr.refl _ _).alloc _).setRow (.inr (Nat.le_refl _)) _⟩ ?_;rintro W3 ⟨hM,f3⟩;obtain⟨gm,HGM⟩:∃z,Hid (W1.heap.size=z):=⟨_,zh rfl⟩
  rw [HGM.o]at hM⊢;obtain⟨e0,e1,e2⟩:=hM.c3;have hgl:=hM.lt;clear hM;cases r with
  |true=>
   go_wp2_with (first
    | (go_at_call 244;refine(hver _).mono ?_;rintro e w' ⟨rfl,rfl⟩)
    | (go_at_call 243;refine(hfa _).mono ?_;rintro e w' ⟨rfl,rfl⟩))
   go_ret2;refine⟨?_,F1.trans f3⟩;unfold chalM;rw [if_pos h1h.o,if_pos hr.o];rfl
  |false=>
   go_wp2_with (go_at_call 244;refine(hver _).mono ?_;rintro e w' ⟨rfl,rfl⟩)
   go_ret2;refine⟨?_,F1.trans f3⟩;unfold chalM;rw [if_pos h1h.o,if_neg (by rw [hr.o];decide)];rfl
 ·unfold methB;rw [hqs.o];have h1h:=zh h1;have hne:=zh (show me≠sPlain by rw [h1];exact fun e=>plain_ne e.symm);clear h1 hf;go_upto_region 2 with(refine wpList_store_row rfl 270 _ _ rfl W1.heap.size #[.string qs,.func (.func 245) #[] #[],.func (.func 247) #[] #[]] rfl rfl 270 _ (Blk.new _ _ _) infoMeth (by kernel_rfl) (by kernel_rfl) ?_)
  refine wp_gen (fun W3=>Blk W3 W1.heap.size 270 #[.string qs,.func (.func 245) #[] #[],.func (.func 247) #[] #[]]∧Fr [] W1 W3) ⟨Blk.setRow (Blk.new _ _ _) _,((Fr.refl _ _).alloc _).setRow (.inr (Nat.le_refl _)) _⟩ ?_;rintro W3 ⟨hM,f3⟩;obtain⟨gm,HGM⟩:∃z,Hid (W1.heap.size=z):=⟨_,zh rfl⟩
  rw [HGM.o]at hM⊢;obtain⟨e0,e1,e2⟩:=hM.c3;have hgl:=hM.lt;clear hM;cases r with
  |true=>
   go_wp2_with (first
    | (go_at_call 244;refine(hver _).mono ?_;rintro e w' ⟨rfl,rfl⟩)
    | (go_at_call 245;refine(hfb _).mono ?_;rintro e w' ⟨rfl,F9⟩))
   go_ret2;refine⟨?_,F1.trans (f3.trans F9)⟩;unfold chalM;rw [if_neg hne.o,if_pos h1h.o,if_pos hr.o];rfl
  |false=>
   go_wp2_with (go_at_call 244;refine(hver _).mono ?_;rintro e w' ⟨rfl,rfl⟩)
   go_ret2;refine⟨?_,F1.trans f3⟩;unfold chalM;rw [if_neg hne.o,if_pos h1h.o,if_neg (by rw [hr.o];decide)];rfl
 ·have h1h:=zh h1;have h2h:=zh h2;clear h1 h2 hf;unfold methN;go_upto_region 2 with(refine wpList_store_row rfl 270 _ _ rfl W1.heap.size #[.string ⟨#[]⟩,.nilFunc,.nilFunc] rfl rfl 270 _ (Blk.new _ _ _) infoMeth (by kernel_rfl) (by kernel_rfl) ?_)
  refine wp_gen (fun W3=>Blk W3 W1.heap.size 270 #[.string ⟨#[]⟩,.nilFunc,.nilFunc]∧Fr [] W1 W3) ⟨Blk.setRow (Blk.new _ _ _) _,((Fr.refl _ _).alloc _).setRow (.inr (Nat.le_refl _)) _⟩ ?_;rintro W3 ⟨hM,f3⟩;go_wp2_with fail
  go_ret2;refine⟨?_,F1.trans f3⟩;unfold chalM;rw [if_neg h1h.o,if_neg h2h.o];rfl
theorem pkCheck_chal (ch me ver:ByteArray):pkCheck ch me ver=(decide ((chalM ver me).2=0)&&decide ((chalM ver me).1.data.toList=ch.data.toList)):=by
 have hb:∀a b:ByteArray,(a.data.toList=b.data.toList)↔a=b:=fun a b=>⟨fun h=>by
  obtain⟨⟨a⟩⟩:=a;obtain⟨⟨b⟩⟩:=b;simp at h;rw [h],fun h=>by rw [h]⟩
 unfold pkCheck chalM;by_cases h1:me=sPlain
 ·rw [if_pos h1,if_pos h1];cases hv:verM ver with
  |true=>simp [hb]
  |false=>simp
 ·rw [if_neg h1,if_neg h1];by_cases h2:me=sS256
  ·rw [if_pos h2,if_pos h2];cases hv:verM ver with
   |true=>simp
   |false=>simp
  ·rw [if_neg h2,if_neg h2];simp
theorem sixGo_le:∀(l:List UInt8) (h n:Nat) (out:List UInt8),(sixGo l h n out).length≤out.length+2*l.length+1
 | [],h,n,out=>by
  rw [sixGo];split
  ·omega
  ·rw [List.length_append,List.length_singleton];simp
 |x::l,h,n,out=>by
  rw [sixGo];have h1:=sixGo_le l (sixByte h n x).2.1 (sixByte h n x).2.2 (out++(sixByte h n x).1);have h2:(sixByte h n x).1.length≤2:=by unfold sixByte;simp only;split<;>simp
  rw [List.length_append]at h1;rw [List.length_cons];omega
theorem chalM_size (ver me:ByteArray) (hv:ver.size≤1000000):(chalM ver me).1.size≤1000000:=by
 have h1:(⟨(webM (sha ver.data.toList)).toArray⟩:ByteArray).size≤1000000:=by show(webM (sha ver.data.toList)).toArray.size≤1000000;rw [List.size_toArray];have:=sixGo_le (sha ver.data.toList) 0 0 [];rw [sha_length]at this;unfold webM;simp at this;omega
 unfold chalM;split
 ·split
  ·exact hv
  ·decide
 ·split
  ·split
   ·exact h1
   ·decide
  ·decide
set_option maxRecDepth 100000 in
set_option maxHeartbeats 2000000 in
theorem pcheck_t (w:World) (ch me ver:ByteArray) (hc:ch.size≤1000000) (hv:ver.size≤1000000):Calls Tryz.prog 179 #[.string ch,.string me,.string ver] w fun e w'=>e= .returned (.bool (pkCheck ch me ver))∧Fr [] w w':=by
 have hch:=chal_t w ver me hv;have hsz:=chalM_size ver me hv;rw [pkCheck_chal];obtain⟨⟨c,er⟩,hr⟩:∃z,Hid (chalM ver me=z):=⟨_,zh rfl⟩
 rw [hr.o]at hch hsz⊢;simp only at hsz⊢;unfold ChalPost at hch;simp only at hch;by_cases h0:er=0
 ·subst h0;obtain⟨cW,cC,hcv,hcF,hcB,hcS,hcc⟩:=conv_any c;obtain⟨dW,dC,hdv,hdF,hdB,hdS,hdc⟩:=conv_any ch;go_enter Tryz.func179,Tryz.ntmps179;go_wp2_with fail
  refine hch.mono ?_;rintro e W1 ⟨rfl,F1⟩;have hF2:=zh (hcF W1);have hF3:=zh (hdF (cW W1));have hB2:Byts (dW (cW W1)) (some ⟨W1.heap.size,0,none⟩) c.size c.data.toList:=Rd.fr (hcB W1 W1.heap.size rfl) (hdF (cW W1)) (by simp [Off]);have hB3:=hdB (cW W1) (cW W1).heap.size rfl;have hs:=osame_t (dW (cW W1)) _ _ _ _ (cC W1) (dC (cW W1)) _ _ hB2 hB3 (by omega) (by omega);rw [hcS]at hs;have hsz2:=hcS W1;have f1:=zh F1;clear hB2 hB3 hcF hdF hcB hdB hcS hdS hcc hdc hch F1;go_wp2_with (go_at_call 228;refine hs.mono ?_;rintro e W4 ⟨rfl,F4⟩)
  go_ret;refine⟨ret_eq (by simp),f1.o.trans (hF2.o.trans (hF3.o.trans F4))⟩
 ·have h0':(er==0)=false:=by simpa using h0
  rw [decide_eq_false h0];clear h0;go_enter Tryz.func179,Tryz.ntmps179;go_wp2_with (go_at_call 227;refine hch.mono ?_;rintro e W1 ⟨rfl,F1⟩)
  go_ret;exact⟨rfl,F1⟩
theorem str_empty (s:ByteArray):s.toList.isEmpty=decide (s.size=0):=by
 rw [Lib.toList_data,Bool.eq_iff_iff,List.isEmpty_iff,decide_eq_true_eq];constructor
 ·intro h;have:=congrArg List.length h;rw [Array.length_toList]at this;exact this
 ·intro h;exact List.eq_nil_of_length_eq_zero (by rw [Array.length_toList];exact h)
theorem shown_t (w:World) (ch me:ByteArray) (hc:ch.size≤1000000):Calls Tryz.prog 94 #[.string ch,.string me] w fun e w'=>e= .returned (.bool (shownM ch me))∧Fr [] w w':=by
 have hp:=pmay_t w ch me hc;have h1:=str_empty ch;have h2:=str_empty me;unfold shownM;by_cases hch:ch.size=0
 ·rw [if_pos hch];rw [decide_eq_true hch]at h1;obtain⟨r,hr⟩:∃z,Hid (decide (me.size=0)=z):=⟨_,zh rfl⟩
  rw [hr.o]at h2⊢;clear hp hch;go_enter Tryz.func94,Tryz.ntmps94;go_wp2_with fail
  go_ret;exact⟨rfl,Fr.refl _ _⟩
 ·rw [if_neg hch];rw [decide_eq_false hch]at h1;clear hch;go_enter Tryz.func94,Tryz.ntmps94;go_wp2_with (go_at_call 146;refine hp.mono ?_;rintro e W1 ⟨rfl,F1⟩)
  go_ret;exact⟨rfl,F1⟩
end Go.Proofs.YtpmgepijkhaonaaGreat
