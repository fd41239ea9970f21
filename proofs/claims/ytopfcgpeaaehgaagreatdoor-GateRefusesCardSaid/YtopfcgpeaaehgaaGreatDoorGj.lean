/- Walks: words of lists, gathered; sets and their texts; texts alike. Conditions: each theorem's own. -/
import Derived.Test.YtopfcgpeaaehgaaGreatDoorGi
import Derived.Shelf.Sort.Plain
import Derived.Sort.OwnSorted
namespace Go.Sig
open Go.RowKit
theorem todo_perm {κ ν:Type}{lb:List (κ×ν×Nat)}{seen:Array Nat}{x:κ×ν×Nat}(hn:(lb.map (·.2.2)).Nodup) (hx:x∈todo lb seen):((todo lb seen).map (·.1)).Perm (x.1::(todo lb (seen.push x.2.2)).map (·.1)):=by
 have hnl:lb.Nodup:=List.Pairwise.of_map _ (fun a b h e=>h (by rw [e])) hn;have hn1:(todo lb seen).Nodup:=hnl.filter _;have hmem:∀y,y∈todo lb (seen.push x.2.2)↔y∈todo lb seen∧y.2.2≠x.2.2:=by
  intro y;unfold todo;simp only [List.mem_filter,Array.contains_push,Bool.not_or,Bool.and_eq_true,beq_eq_false_iff_ne,ne_eq,Bool.not_eq_eq_eq_not,Bool.not_true];constructor
  ·rintro⟨h1,h2,h3⟩;first |exact⟨⟨h1,h2⟩,h3⟩ |exact⟨⟨h1,h3⟩,h2⟩ |exact⟨⟨h1,h2⟩,fun e=>h3 e.symm⟩ |exact⟨⟨h1,h3⟩,fun e=>h2 e.symm⟩
  ·rintro⟨⟨h1,h2⟩,h3⟩;first |exact⟨h1,h2,h3⟩ |exact⟨h1,h3,h2⟩ |exact⟨h1,h2,fun e=>h3 e.symm⟩ |exact⟨h1,fun e=>h3 e.symm,h2⟩
 have hp:(todo lb seen).Perm (x::todo lb (seen.push x.2.2)):=by
  refine(List.perm_ext_iff_of_nodup hn1 (List.nodup_cons.2 ⟨fun h=>((hmem x).1 h).2 rfl,hnl.filter _⟩)).2 fun y=> ?_;rw [List.mem_cons,hmem];constructor
  ·intro hy;by_cases e:y.2.2=x.2.2
   ·exact .inl (inj_of_nodup hn (mem_todo hy) (mem_todo hx) e)
   ·exact .inr ⟨hy,e⟩
  ·rintro(rfl | ⟨h,_⟩)
   ·exact hx
   ·exact h
 exact hp.map _
end Go.Sig
namespace Go.Proofs.YtopfcgpeaaehgaaGreatDoor
open Go.RowKit Go.Sig
set_option maxRecDepth 100000 in
theorem len640_t (w:World):Calls Tryz.prog 202 #[.int .u64 0] w fun e w'=>e= .returned (.int .i64 0)∧w'=w:=by
 go_enter Tryz.func202,Tryz.ntmps202;go_wp2;go_ret;exact⟨by kernel_rfl,rfl⟩
set_option maxRecDepth 100000 in
theorem len0_t (w:World):Calls Tryz.prog 173 #[.int .u64 0] w fun e w'=>e= .returned (.int .i64 0)∧w'=w:=by
 go_enter Tryz.func173,Tryz.ntmps173;go_wp2_with (go_at_call 202;refine(len640_t _).mono ?_;rintro e w' ⟨rfl,rfl⟩)
 go_ret;exact⟨rfl,rfl⟩
set_option maxRecDepth 100000 in
theorem insertS0_t (w:World) (A:Option Addr) (c:Nat):Calls Tryz.prog 192 #[.slice A 0 c,.int .i64 0,.int .i64 0] w fun e w'=>e= .returned (.tuple #[])∧w'=w:=by
 go_enter Tryz.func192,Tryz.ntmps192;go_wp2_with fail
 refine wp_loop_rounds 1 ?_;rw [rounds_succ];go_wp2;go_end0;exact⟨rfl,rfl⟩
set_option maxRecDepth 100000 in
theorem pdqS0_t (w:World) (A:Option Addr) (c:Nat) (b:Int):Calls Tryz.prog 172 #[.slice A 0 c,.int .i64 0,.int .i64 0,.int .i64 b] w fun e w'=>e= .returned (.tuple #[])∧w'=w:=by
 go_enter Tryz.func172,Tryz.ntmps172;go_wp2_with fail
 refine wp_loop_rounds 1 ?_;rw [rounds_succ];go_wp2_with (go_at_call 192;refine(insertS0_t _ _ _).mono ?_;rintro e w' ⟨rfl,rfl⟩)
 (try simp only [Exit.inBlock,Exit.then]);refine bodyPost_ret (results_none rfl _ _ _) rfl ?_
 exact⟨rfl,rfl⟩
set_option maxRecDepth 100000 in
set_option maxHeartbeats 400000 in
theorem sortS0_t (w:World) (A:Option Addr) (c:Nat):Calls Tryz.prog 139 #[.slice A 0 c] w fun e w'=>e= .returned (.tuple #[])∧w'=w:=by
 go_enter Tryz.func139,Tryz.ntmps139;go_wp2_with (first | (go_at_call 173;refine(len0_t _).mono ?_;rintro e w' ⟨rfl,rfl⟩) | (go_at_call 172;refine(pdqS0_t _ _ _ _).mono ?_;rintro e w' ⟨rfl,rfl⟩))
 go_end0;exact⟨rfl,rfl⟩
theorem tStrs:SliceTy Tryz.prog 33 9 1 16 (.string ⟨#[]⟩):=⟨by kernel_rfl,by kernel_rfl,rfl,by decide⟩
theorem kStr:KeyOk Tryz.prog 9 (fun s:ByteArray=>Value.string s):=keyOk_string (by kernel_rfl)
def lst (s:ByteArray):List UInt8:=s.data.toList
theorem encStr_lst (s:ByteArray):encStr (lst s)= .string s:=by
 unfold lst;simp [encStr]
theorem map_lst (l:List ByteArray):(l.map lst).map encStr=strCells l:=by
 rw [List.map_map];unfold strCells;exact List.map_congr_left fun s _=>encStr_lst s
theorem bl_lst (a b:ByteArray):bl a b=decide (lst a<lst b):=by
 unfold bl lst;rw [bytesLess_eq,Lib.toList_data,Lib.toList_data]
theorem sorted_names {ls ms:List ByteArray}(hp:ls.Perm ms) (h:RisN ms):(ls.map lst).mergeSort (fun x y=>decide (x≤y))=ms.map lst:=by
 have tr:∀a b c:List UInt8,decide (a≤b)=true→decide (b≤c)=true→decide (a≤c)=true:=fun a b c h1 h2=>by simp only [decide_eq_true_eq]at*;exact List.le_trans h1 h2
 have tt:∀a b:List UInt8,(decide (a≤b) ||decide (b≤a))=true:=fun a b=>by simp only [Bool.or_eq_true,decide_eq_true_eq];exact List.le_total a b
 refine List.Perm.eq_of_pairwise (le:=fun(a b:List UInt8)=>decide (a≤b)=true) (fun a b _ _ h1 h2=> ?_) (List.pairwise_mergeSort tr tt _) (List.pairwise_map.2 (h.imp ?_)) ((List.mergeSort_perm _ _).trans (hp.map lst))
 ·simp only [decide_eq_true_eq]at h1 h2;exact List.le_antisymm h1 h2
 ·intro a b hab;rw [bl_lst]at hab;simp only [decide_eq_true_eq]at*;exact List.le_of_lt hab
theorem sortS_t (w:World) (v:Value) (n:Nat) (ls ms:List ByteArray) (hO:Own w 9 1 v n (strCells ls)) (hn:ls.length=n) (hp:ls.Perm ms) (hms:RisN ms) (hmax:n≤1048576):
  Calls Tryz.prog 139 #[v] w fun e w'=>e= .returned (.tuple #[])∧Own w' 9 1 v n (strCells ms)∧Fr (rowOf v) w w':=by
 rcases hO.2 with⟨rfl,rfl⟩ | ⟨g,cap,cur,rfl,hbs,hh,hnc,hcm,hcs,htk⟩
 ·have e:ls= []:=List.eq_nil_of_length_eq_zero hn;subst e;have e:ms= []:=List.eq_nil_of_length_eq_zero hp.length_eq.symm;subst e;exact(sortS0_t w none 0).mono fun e w' ⟨he,hw⟩=>⟨he,by rw [hw];exact hO,by rw [hw];exact Fr.refl _ _⟩
 ·have hB:Blk w g 9 cur:=hh;have hcell:∀t,t<n→cur[t]? =(strCells ls)[t]? :=fun t ht=>by
   rw [←htk,List.getElem?_take_of_lt (by omega),Array.getElem?_toList]
  have hH:Go.Sort.Holds encStr w g 0 (ls.map lst).toArray:=by
   intro t ht;have ht':t<ls.length:=by simpa using ht
   refine⟨?_,hB.frozen _⟩;rw [Nat.zero_add,hB.cell,hcell t (by omega)];unfold strCells;rw [List.getElem?_map,List.getElem?_eq_getElem ht',getElem!_pos (ls.map lst).toArray t ht];simp [encStr_lst]
  have hcon:=Any.slices_Sort_string Tryz.lays190 g 0 cap (ls.map lst) w hH hB.lt (by simp;omega);have e:(ls.map lst).length=n:=by simpa using hn
  rw [e,sorted_names hp hms]at hcon;refine Calls.mono (show Calls Tryz.prog 139 _ _ _ from hcon) ?_;rintro e' w' ⟨rfl,q,os,rfl⟩;refine⟨rfl,?_,?_⟩
  ·have:=Go.ownsRow_sorted (w:=w) (base:=0) (g:=g) (cap:=cap) (n:=q) (e:=9) (os:=os) (cur:=cur) (ss:=ls.map lst) (ts:=ms.map lst) (by simp [hp.length_eq]) (Nat.zero_le _) hh (by simp;omega) hcm hcs;rw [e,map_lst]at this;exact this
  ·have hgl:=hB.lt;refine⟨rfl,rfl,rfl,?_,fun i hi hn=> ?_⟩
   ·show w.heap.size≤(w.heap.modify g _++os).size;simp
   ·show(w.heap.modify g _++os)[i]? =_;rw [Array.getElem?_append_left (by simpa using hi),Array.getElem?_modify,if_neg];rintro rfl;exact hn (by simp [rowOf,Value.ownBlock])
def SRow (w:World) (ms:List ByteArray) (e:Ending) (w':World):Prop:=∃v,e= .returned v∧Own w' 9 1 v ms.length (strCells ms)∧Fr [] w w'∧∀g,g∈rowOf v→w.heap.size≤g
def SAcc (w wr:World) (s:Value) (ms:List ByteArray):Prop:=
 ∃A c,s= .slice A ms.length c∧Own wr 9 1 (.slice A ms.length c) ms.length (strCells ms)∧(∀g,g∈rowOf (.slice A ms.length c)→w.heap.size≤g)∧Fr [] w wr
theorem SAcc.nil (w:World):SAcc w w (.slice none 0 0) []:=⟨none,0,rfl,Own.nil _ _ _,by simp [rowOf,Value.ownBlock],Fr.refl _ _⟩
theorem SAcc.base {w wr:World}{s:Value}{ms:List ByteArray}(h:SAcc w wr s ms):Fr [] w wr:=by
 obtain⟨A,c,_,h1,h2,h3⟩:=h;exact h3
theorem SAcc.fr0 {w wr w2:World}{s:Value}{ms:List ByteArray}(h:SAcc w wr s ms) (hF:Fr [] wr w2):SAcc w w2 s ms:=by
 obtain⟨A,c,rfl,h1,h2,h3⟩:=h;exact⟨A,c,rfl,h1.fr hF (by simp),h2,h3.trans hF⟩
theorem SAcc.push {w wr w2:World}{o:Obj}{A A2:Option Addr}{c c2 n:Nat}{ms:List ByteArray}{y:ByteArray}(hn:ms.length=n) (hR:∀g,g∈rowOf (.slice A n c)→w.heap.size≤g) (hF:Fr [] w wr)
  (p1:Own w2 9 1 (.slice A2 (n+1) c2) (n+1) (strCells ms++strCells [y])) (p2:Fr (rowOf (.slice A n c)) (wr.alloc o) w2)
  (p3:∀g,g∈rowOf (.slice A2 (n+1) c2)→g∈rowOf (.slice A n c)∨g=(wr.alloc o).heap.size):SAcc w w2 (.slice A2 (n+1) c2) (ms++ [y]):=by
 have hl:(ms++ [y]).length=n+1:=by simp [hn]
 refine⟨A2,c2,by rw [hl],?_,?_,(hF.alloc _).andThen p2 (fun x hx=> .inr (hR x hx))⟩
 ·rw [hl,strCells_append];exact p1
 ·rw [hl];exact fun g hg=>(p3 g hg).elim (hR g) (fun e=>by rw [e];exact Nat.le_trans hF.size (by simp))
theorem SAcc.row {w wr:World}{s:Value}{ms:List ByteArray}(h:SAcc w wr s ms):SRow w ms (.returned s) wr:=by
 obtain⟨A,c,rfl,h1,h2,h3⟩:=h;exact⟨_,rfl,h1,h3,h2⟩
theorem str_new (w:World) (s:ByteArray) (ty:TypeId):Rd (w.alloc (.cells #[.string s] ty)) 1 (some ⟨w.heap.size,0,none⟩) 1 (strCells [s]):=by
 refine⟨rfl,fun _=>⟨_,0,rfl,fun j u hu=> ?_⟩⟩;rw [(Blk.new w ty #[.string s]).cell,Nat.zero_add];simpa [strCells]using hu
theorem uMsb:Tryz.prog.underlying 53=some (.map 9 4):=by kernel_rfl
def WordsAt (w:World) (g:Nat) (ls:List ByteArray):Prop:=∃M:List (ByteArray×Bool),IsMap w g Value.string Value.bool M∧(∀s,s∈M.map (·.1)↔s∈ls∧isWord s=true)∧∀p∈M,p.2=true
theorem WordsAt.fr {w w':World}{S:List Nat}{g:Nat}{ls:List ByteArray}(h:WordsAt w g ls) (hF:Fr S w w') (hg:g∉S):WordsAt w' g ls:=by
 obtain⟨M,h1,h2,h3⟩:=h;exact⟨M,h1.fr hF hg,h2,h3⟩
theorem mem_keys_aset {k:ByteArray}{v:Bool}{M:List (ByteArray×Bool)}{s:ByteArray}:s∈(aset k v M).map (·.1)↔s=k∨s∈M.map (·.1):=by
 rw [keys_aset];split
 ·rename_i h;constructor
  ·exact .inr
  ·rintro(rfl |h2)
   ·exact h
   ·exact h2
 ·rw [List.mem_append,List.mem_singleton,or_comm]
def GathPost (w:World) (ls:List ByteArray) (e:Ending) (w':World):Prop:=∃g,e= .returned (.map (some g))∧WordsAt w' g ls∧Fr [] w w'∧w.heap.size≤g
set_option maxRecDepth 100000 in
set_option maxHeartbeats 2000000 in
theorem gath_t (w:World) (gl:Nat) (B:Option Addr) (m d:Nat) (ls:List ByteArray) (hL:w.cell? ⟨gl,0,none⟩=some (.slice B m d)) (hB:Rd w 1 B m (strCells ls)) (hm:ls.length=m) (hmax:m≤150000000000000) (hs:∀s∈ls,s.size≤150000000000000):
  Calls Tryz.prog 138 #[.slice (some ⟨gl,0,none⟩) 1 1] w (GathPost w ls):=by
 have hsh:=zh hs;have hBh:=zh hB;have hgl:=block_lt_of_cell hL;have hmm:= @run_makeMap Tryz.prog;clear hB hs;go_enter Tryz.func138,Tryz.ntmps138;go_upto_region 2 with(fail)
 refine wp_gen (fun W=>IsMap W w.heap.size Value.string Value.bool ([]:List (ByteArray×Bool))∧Fr [] w W) ⟨IsMap.new _ _ _,(Fr.refl _ _).alloc _⟩ ?_;rintro W ⟨hM0,fW⟩;obtain⟨gm,HGM⟩:∃z,Hid (w.heap.size=z):=⟨_,zh rfl⟩
 have hcl:=(fW.cell (p:=⟨gl,0,none⟩) hgl (by simp)).trans hL;rw [HGM.o]at hM0⊢;have hM0h:=zh hM0;have fWh:=zh fW;clear hmm hL hM0 fW;go_wp2_with fail
 refine wp_loop_rounds 2 ?_;rw [rounds_succ];go_wp2_with fail
 go_loopg [7,17] (m+1) (fun gk s7 s17 wr=>∃(i:Nat) (M:List (ByteArray×Bool)),s17= .int .i64 i∧i≤m∧m - i<gk∧IsMap wr gm Value.string Value.bool M∧(∀s,s∈M.map (·.1)↔s∈ls.take i∧isWord s=true)∧(∀p∈M,p.2=true)∧Fr [gm] W wr)
 case atStart=>exact⟨0,[],rfl,by omega,by omega,hM0h.o,by simp,by simp,Fr.refl _ _⟩
 case round=>
  obtain⟨i,M,rfl,hi,hk,hM,hq,hv,hF⟩:=hrel;have hqh:=zh hq;have hvh:=zh hv;have hFh:=zh hF;have hMh:=zh hM;have hF0:=zh (fWh.o.andThen hF (fun x hx=> .inr (by simp at hx;have:=HGM.o;omega)));clear hq hv hF hM;by_cases hlt:i<m
  ·have hlt':(i:Int)<m:=by omega
   have hlth:=zh hlt;have hi':i<ls.length:=by omega
   obtain⟨b,o,rfl,hcell⟩:=(Rd.fr hBh.o hF0.o (by simp [Off])).2 (by omega);have cs:=hcell _ _ (strCells_at hi');have htk:=zh (List.take_succ_eq_append_getElem hi');have hsz:=hsh.o ls[i] (List.getElem_mem hi');clear hcell;obtain⟨s,hs⟩:∃z,Hid (ls[i]=z):=⟨_,zh rfl⟩
   rw [hs.o]at cs htk hsz;have hw:=isWord_t wr s hsz;obtain⟨r,hr⟩:∃z,Hid (isWord s=z):=⟨_,zh rfl⟩
   rw [hr.o]at hw;cases r with
   |true=>
    have hM:=hMh.o;go_wp2_with (first
     | (go_at_call 150;refine hw.mono ?_;rintro e w' ⟨rfl,rfl⟩)
     | (refine wpList_map_set hM kStr uMsb s true rfl rfl rfl rfl rfl (fun w6 hM6 ht=> ?_)))
    go_roundg (m - i)
    case measure=>omega
    case rel=>
     refine⟨i+1,aset s true M,by go_num,by have:=hlth.o;omega,by have:=hlth.o;omega,hM6,fun x=> ?_,fun p hp=> ?_,hFh.o.trans ht.fr⟩
     ·rw [mem_keys_aset,hqh.o,htk.o,List.mem_append,List.mem_singleton];constructor
      ·rintro(rfl | ⟨h1,h2⟩)
       ·exact⟨.inr rfl,hr.o⟩
       ·exact⟨.inl h1,h2⟩
      ·rintro⟨h1 |h1,h2⟩
       ·exact .inr ⟨h1,h2⟩
       ·exact .inl h1
     ·rcases mem_aset hp with h |h
      ·rw [h]
      ·exact hvh.o p h
   |false=>
    go_wp2_with (go_at_call 150;refine hw.mono ?_;rintro e w' ⟨rfl,rfl⟩)
    go_roundg (m - i)
    case measure=>omega
    case rel=>
     refine⟨i+1,M,by go_num,by have:=hlth.o;omega,by have:=hlth.o;omega,hMh.o,fun x=> ?_,hvh.o,hFh.o⟩;rw [hqh.o,htk.o,List.mem_append,List.mem_singleton];constructor
     ·rintro⟨h1,h2⟩;exact⟨.inl h1,h2⟩
     ·rintro⟨h1 |h1,h2⟩
      ·exact⟨h1,h2⟩
      ·rw [h1,hr.o]at h2;cases h2
  ·have hge:¬(i:Int)<m:=by omega
   have hq:=hqh.o;rw [List.take_of_length_le (by omega)]at hq;have hqh2:=zh hq;clear hlt hk hq;go_wp2_with fail
   rw [rounds_succ];go_wp2_with fail
   go_ret;exact⟨gm,rfl,⟨M,hMh.o,hqh2.o,hvh.o⟩,hF0.o,Nat.le_of_eq HGM.o⟩
set_option maxRecDepth 100000 in
set_option maxHeartbeats 4000000 in
theorem both_t (w:World) (gl:Nat) (B:Option Addr) (m d:Nat) (ls:List ByteArray) (hL:w.cell? ⟨gl,0,none⟩=some (.slice B m d)) (hB:Rd w 1 B m (strCells ls)) (hm:ls.length=m) (hmax:m≤1000000) (hs:∀s∈ls,s.size≤150000000000000):
  Calls Tryz.prog 108 #[.slice (some ⟨gl,0,none⟩) 1 1] w (SRow w (setOf ls)):=by
 have hg:=gath_t w gl B m d ls hL hB hm (by omega) hs;clear hL hB hs;go_enter Tryz.func108,Tryz.ntmps108;go_wp2_with fail
 refine hg.mono ?_;rintro e W1 ⟨gm,rfl,⟨M,hM,hq,hv⟩,F1,hgm⟩;obtain⟨lbm,clock,hBm,hlbm⟩:=hM.stamps;have hkeys:=zh (setOf_perm hM.nodup hq);have hlbh:=zh hlbm;have hinc:=zh (hBm.inc.imp (fun{a b} (h:a<b) (e:a=b)=>by omega):(lbm.map (·.2.2)).Nodup);have hrun:=hBm.run_range uMsb;have hlen:lbm.length≤m:=by
  have h1:lbm.length=(setOf ls).length:=by rw [←hkeys.o.length_eq,←hlbm];simp
  have h2:(setOf ls).length≤ls.length:=by have hsub:(setOf ls).Nodup:=risN_nodup (setOf_rising ls);exact hsub.length_le_of_subset (fun x hx=>(mem_setOf.1 hx).1)
  omega
 have f1h:=zh F1;have hBmh:=zh hBm;clear hM hq hv hlbm hg F1;go_wp2_with fail
 obtain⟨r,HR⟩:∃z,Hid (W1.heap.size=z):=⟨_,zh rfl⟩
 go_loopg [3,4] (lbm.length+1) (fun gk s3 s4 wr=>∃(seen:Array Nat) (ks:List ByteArray),(todo lbm seen).length<gk∧It wr W1.heap.size gm clock seen∧IsMapB wr gm Value.string Value.bool lbm clock∧(ks++(todo lbm seen).map (·.1)).Perm (lbm.map (·.1))∧SAcc W1 wr s3 ks∧∀g∈rowOf s3,g≠gm∧g≠W1.heap.size)
 case atStart=>refine⟨#[],[],by have:=List.length_filter_le (fun x:ByteArray×Bool×Nat=> !(#[]:Array Nat).contains x.2.2) lbm;unfold todo;omega,It.new W1 gm clock,hBmh.o.fr ((Fr.refl [] W1).alloc _) (by simp),by rw [List.nil_append,show todo lbm #[]=lbm from List.filter_eq_self.2 fun y _=>by simp],(SAcc.nil W1).fr0 ((Fr.refl [] W1).alloc _),by simp [rowOf,Value.ownBlock]⟩
 case round=>
  obtain⟨seen,ks,hk,hI,hMr,hperm,hA,hro⟩:=hrel;have hperm':=zh hperm;have hA':=zh hA;have hro':=zh hro;have hrl:=hI.lt;have hrm:=hI.ne hMr;obtain⟨A7,c7,rfl,hO7,hR7,hF7⟩:=hA;obtain⟨n7,hn7⟩:∃z,Hid (ks.length=z):=⟨_,zh rfl⟩
  have hn7b:n7≤1000000:=by have h1:=hn7.o;have h2:=hperm.length_eq;rw [List.length_append,List.length_map,List.length_map]at h2;omega
  rw [hn7.o]at hO7 hro' hA' hR7⊢;have hR7h:=zh hR7;have hF7h:=zh hF7;have hO7f:=fun(wn:World) (hF:Fr [W1.heap.size] wr wn)=>hO7.fr hF (fun g hg hx=>(hro'.o g hg).2 (by simpa using hx));clear hperm hro hR7 hF7 hrm;go_wp2_with (first
   | (refine wpList_map_next hMr hI rfl rfl rfl (fun h0=> ?_) (fun x wn hx hIn hMn ht=> ?_))
   | (refine wpList_map_entry hMn hIn (mem_todo hx) rfl rfl rfl ?_)
   | (go_at_call 139;refine(sortS_t wr (.slice A7 n7 c7) n7 ks (setOf ls) hO7 hn7.o (by
       have h1:=hperm'.o;rw [h0,List.map_nil,List.append_nil]at h1;have h2:lbm.map (·.1)=M.map (·.1):=by rw [←hlbh.o,List.map_map];rfl
       rw [h2]at h1;exact h1.trans hkeys.o) (setOf_rising ls) (by omega)).mono ?_;rintro e W9 ⟨rfl,O9,F9⟩)
   | (refine wpList_own_append tStrs ((hO7f _ ht.fr).fr ((Fr.refl [] _).alloc _) (by simp)) (str_new _ _ _) (strCells_one _) (by simp) (by unfold maxLen;omega) (by omega) rfl rfl rfl rfl (fun v2 w2 p1 p2 p3=> ?_);obtain⟨A8,c8,rfl,hA8⟩:=p1.form))
  ·go_ret;have hl:(setOf ls).length=n7:=by
    have:=O9.length;rw [strCells_length,Nat.mul_one]at this;exact this
   refine⟨_,rfl,by rw [hl];exact O9,f1h.o.trans (hF7h.o.andThen F9 (fun x hx=> .inr (hR7h.o x hx))),fun g hg=> ?_⟩;have:=hR7h.o g hg;have:=f1h.o.size;omega
  ·go_roundg ((todo lbm (seen.push x.2.2)).length+1)
   case measure=>have:=todo_lt hx;omega
   case rel=>
    have hFn:Fr [] W1 wn:=hF7h.o.andThen ht.fr (fun x hx=> .inr (by simp at hx;omega));have hrw2:W1.heap.size<wn.heap.size:=hIn.lt;have hgn:gm<wn.heap.size:=hMn.lt;refine⟨_,ks++ [x.1],Nat.lt_succ_self _,(hIn.fr ((Fr.refl [] _).alloc _) (by simp)).fr p2 (fun h=>(hro'.o _ h).2 rfl),(hMn.fr ((Fr.refl [] _).alloc _) (by simp)).fr p2 (fun h=>(hro'.o _ h).1 rfl),?_,SAcc.push hn7.o hR7h.o hFn p1 p2 p3,fun g hg=> ?_⟩
    ·rw [List.append_assoc];exact(List.Perm.append_left _ (todo_perm hinc.o hx).symm).trans hperm'.o
    ·rcases p3 g hg with h |h
     ·exact hro'.o g h
     ·simp at h;omega
end Go.Proofs.YtopfcgpeaaehgaaGreatDoor
