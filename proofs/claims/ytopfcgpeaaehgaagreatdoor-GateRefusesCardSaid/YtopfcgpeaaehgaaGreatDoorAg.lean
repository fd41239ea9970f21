/- Walks of forms: a text as pairs. Conditions: each theorem's own. -/
import Derived.Test.YtopfcgpeaaehgaaGreatDoorAf
import Derived.Test.YtopfcgpeaaehgaaGreatDoorGi
namespace Go.Proofs.YtopfcgpeaaehgaaGreatDoor
open Go.RowKit Go.Sig
attribute [local go_sem] Oper.semAt_some
theorem pieces_t (w:World) (s:ByteArray):Calls Tryz.prog 76 #[.string s] w fun e w'=>e= .returned (.func (.func 114) #[] #[.pointer (some ⟨w.heap.size,0,none⟩)])∧w'=w.alloc (.cells #[.string s] 9):=by
 have hmf:∀(fn:Fn) (first cap:Array Value) (w:World),(Instr.makeFunc fn first cap).run Tryz.prog w= .ok (.func fn first cap) w:=fun _ _ _ _=>rfl;go_enter Tryz.func76,Tryz.ntmps76;go_wp2_with fail
 go_ret;exact⟨rfl,rfl⟩
theorem lst_bA (l:List UInt8):(bA l).data.toList=l:=rfl
set_option maxHeartbeats 2000000 in
theorem piecesA_in (n:Nat) (l gs:Nat) (s:List UInt8) (J Jx:List (List UInt8)→World→Prop) (hJ:∀pre A B,J pre A→Fr [gs] A B→J pre B)
  (hY:∀pre x W1,J pre W1→x.length≤s.length→YieldAt Fence.wide (n - 1) Tryz.prog l #[.string (bA x)] W1 fun e W'=>(e= .returned (.bool true)∧J (pre++ [x]) W'∧∀b∈ [gs],W'.heap[b]? =W1.heap[b]?)∨(e= .returned (.bool false)∧Jx (pre++ [x]) W'))
  (W:World) (hs:s.length≤140737488351232) (hB:Blk W gs 9 #[.string (bA s)]) (h0:J [] W):
  CallsIn Fence.wide n Tryz.prog 114 (#[.func (.yield l) #[] #[]]++#[.pointer (some ⟨gs,0,none⟩)]) W fun e W'=>(∃v,e= .returned v)∧((∃xs,xs=pcs s []∧J xs W')∨(∃pre,(∃rest,pre++rest=pcs s [])∧Jx pre W')):=by
 refine callsIn_of_wp Tryz.func114 rfl trivial ?_ rfl;simp only [Tryz.ntmps114,List.size_toArray,List.length_cons,List.length_nil,Nat.reduceAdd,Nat.reduceSub,Array.replicate_succ,Array.replicate_zero,List.push_toArray,List.append_toArray,List.nil_append,List.cons_append]
 gi_wp2
 gi_loopg [3,4] (s.length+2) (fun gk s3 s4 wr=>∃(pre:List (List UInt8)) (r:List UInt8) (more:Bool),s3= .bool more∧r.length≤s.length∧Blk wr gs 9 #[.string (bA r)]∧J pre wr∧(pre++if more then pcs r []else [])=pcs s []∧(if more then r.length+1 else 0)<gk)
 case atStart=>exact⟨[],s,true,rfl,Nat.le_refl _,hB,h0,by simp,by simp⟩
 case round=>
  obtain⟨pre,r,more,rfl,hr,bS,hj,hp,hk⟩:=hrel;have hpc:=zh hp;have hJh:=zh hJ;have hYh:=zh hY;clear hp hJ hY hB h0;have hempty:∀l:List UInt8,(bA l).toList.isEmpty=decide (l= []):=fun l=>by rw [str_empty];cases l<;>rfl
  have hmore:pcs r []=(if(cutL 38 r).1= []then []else [(cutL 38 r).1])++(if(cutL 38 r).2.2=true then pcs (cutL 38 r).2.1 []else []):=by
   cases hf:(cutL 38 r).2.2 with
   |true=>rw [pcs_more hf];simp
   |false=>
    have:(cutL 38 r).1=r:=by
     by_cases h:38∈r
     ·have:=(cutL_eq.1 h).2.1;rw [hf]at this;cases this
     ·rw [cutL_no h]
    rw [pcs_last hf,this];simp
  have hlen:=cutL_len (c:=38) r;cases more with
  |false=>
   gi_wp2
   go_end0;exact⟨⟨_,rfl⟩,.inl ⟨pre,by simpa using hpc.o,hj⟩⟩
  |true=>
   have hc:=cut_t wr (bA r) 38 (by show r.toArray.size≤_;simp;omega);unfold CutPost at hc;rw [lst_bA]at hc;have eS:=bS.cell 0;have zS:=bS.frozen 0;simp only [zG,zH]at eS;obtain⟨⟨a,b,f⟩,hcut⟩:∃z,Hid (cutL 38 r=z):=⟨_,zh rfl⟩
   rw [hcut.o]at hc hmore hlen;simp only at hc hmore hlen;have hmoreh:=zh hmore;have hlenh:=zh hlen;have bSh:=zh bS;have hjh:=zh hj;have hemp:=hempty a;clear hmore hlen bS hj hempty
   gi_upto_region 4 with((refine wide_call hc ?_;clear hc;rintro e w2 ⟨rfl,F1⟩;have bS1:=zh (bSh.o.fr F1 (by simp));have hj1:=zh (hJh.o _ _ _ hjh.o F1.nil);have eS1:=bS1.o.cell 0;have zS1:=bS1.o.frozen 0;simp only [zG,zH]at eS1;clear eS zS F1))
   refine wpIn_gen (fun W2=>Blk W2 gs 9 #[.string (bA b)]∧J pre W2) ⟨by have:=bS1.o.set 0 (.string (bA b));simpa using this,hJh.o _ _ _ hj1.o ((Fr.refl _ _).setCell (.inl (by simp)) _)⟩ ?_;rintro W2 ⟨bS2,hj2⟩;clear eS1 zS1;have bS2h:=zh bS2;have hj2h:=zh hj2;obtain⟨fn,tmps,assign,body,hy,hR⟩:=hYh.o pre a W2 hj2 (by have:=hlenh.o;omega);clear bS2 hj2;by_cases ha:a= []
   ·rw [decide_eq_true ha]at hemp;have hah:=zh ha;clear ha hy hR
    gi_wp2
    refine⟨fun _ h=>(by cases h),?_⟩
    gi_wp2
    gi_roundg ((if f then b.length+1 else 0)+1)
    case measure=>
     have:=hlenh.o;simp only [if_true]at hk;cases f with
     |true=>have:=this.2.2 rfl;simp;omega
     |false=>simp;omega
    case rel=>refine⟨pre,b,f,rfl,by have:=hlenh.o;omega,bS2h.o,hj2h.o,?_,by omega⟩;rw [←hpc.o,if_pos trivial,hmoreh.o,if_pos hah.o,List.nil_append]
   ·rw [decide_eq_false ha]at hemp;have hah:=zh ha;clear ha
    gi_wp2
    refine⟨fun h=>(by cases h),hR.mono ?_⟩;clear hy hR;rintro e W3 (⟨rfl,hj3,hk3⟩ | ⟨rfl,hx3⟩)
    ·have bS3:=zh (show Blk W3 gs 9 #[.string (bA b)]from(hk3 gs (by simp)).trans bS2h.o);have hj3h:=zh hj3;clear hj3 hk3
     gi_wp2
     gi_roundg ((if f then b.length+1 else 0)+1)
     case measure=>
      have:=hlenh.o;simp only [if_true]at hk;cases f with
      |true=>have:=this.2.2 rfl;simp;omega
      |false=>simp;omega
     case rel=>refine⟨pre++ [a],b,f,rfl,by have:=hlenh.o;omega,bS3.o,hj3h.o,?_,by omega⟩;rw [←hpc.o,if_pos trivial,hmoreh.o,if_neg hah.o,List.append_assoc]
    ·have hx3h:=zh hx3;clear hx3
     gi_wp2
     refine bodyPost_ret (results_none rfl _ _ _) rfl ?_;exact⟨⟨_,rfl⟩,.inr ⟨_,⟨if f then pcs b []else [],by rw [←hpc.o,if_pos trivial,hmoreh.o,if_neg hah.o,List.append_assoc]⟩,hx3h.o⟩⟩
end Go.Proofs.YtopfcgpeaaehgaaGreatDoor
