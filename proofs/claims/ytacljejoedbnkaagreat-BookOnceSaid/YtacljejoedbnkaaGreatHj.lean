/- Walks: texts struck from a slice that the call has made; which families are revoked. Conditions: each theorem's own. -/
import Derived.Test.YtacljejoedbnkaaGreatHg
import Derived.Test.YtacljejoedbnkaaGreatRow
namespace Go.Proofs.YtacljejoedbnkaaGreat
open Go.RowKit Go.Sig
structure BookAt (w:World) (p mb:Nat) (room:Int) (X:List Nat) (b:GBk):Prop where
 hp:Blk w p 200 #[.map (some mb),.int .i64 room]
 hb:BkIn w mb X b
 ok:BkOk b
 hX:∀g∈X,g<w.heap.size
 hmb:mb∈X
 hne:p≠mb
theorem BookAt.fr {w w':World}{p mb:Nat}{room:Int}{X S:List Nat}{b:GBk}(h:BookAt w p mb room X b) (hF:Fr S w w') (hS:∀g∈S,g∈X∨w.heap.size≤g) (hm:mb∉S) (hp:p∉S):BookAt w' p mb room X b:=
 ⟨h.hp.fr hF hp,h.hb.fr hF hS hm,h.ok,fun g hg=>Nat.lt_of_lt_of_le (h.hX g hg) hF.size,h.hmb,h.hne⟩
theorem BookAt.fr0 {w w':World}{p mb:Nat}{room:Int}{X:List Nat}{b:GBk}(h:BookAt w p mb room X b) (hF:Fr [] w w'):BookAt w' p mb room X b:=h.fr hF (by simp) (by simp) (by simp)
theorem BookAt.mono {w:World}{p mb:Nat}{room:Int}{X Y:List Nat}{b:GBk}(h:BookAt w p mb room X b) (hS:∀g∈Y,g∈X) (hm:mb∈Y):BookAt w p mb room Y b:=
 ⟨h.hp,h.hb.mono hS,h.ok,fun g hg=>h.hX g (hS g hg),hm,h.hne⟩
theorem BookAt.more {w w':World}{p mb:Nat}{room:Int}{X Y:List Nat}{b:GBk}(h:BookAt w p mb room X b) (hF:Fr [] w w') (hY:∀g∈Y,w.heap.size≤g∧g<w'.heap.size):BookAt w' p mb room (X++Y) b:=
 ⟨h.hp.fr hF (by simp),bk_same h.hb hF (fun g hg=>(hY g hg).1),h.ok,fun g hg=>(List.mem_append.1 hg).elim (fun hg=>Nat.lt_of_lt_of_le (h.hX g hg) hF.size) (fun hg=>(hY g hg).2),List.mem_append.2 (.inl h.hmb),h.hne⟩
def roomM (n:Int):Int:=1+n%256
theorem roomM_in (n:Int):1≤roomM n∧roomM n≤256:=by unfold roomM;omega
theorem room_rem (n:Int):(IntKind.u64.wrap n).tmod 256=n%256:=by
 have h:IntKind.u64.wrap n=n%18446744073709551616:=by simp [IntKind.wrap,IntKind.bits,IntKind.signed]
 rw [h,Int.tmod_eq_emod_of_nonneg (by omega)];omega
theorem gcount_t (w:World) (p mb:Nat) (room:Int) (X:List Nat) (b:GBk) (h:BookAt w p mb room X b):Calls Tryz.prog 121 #[.pointer (some ⟨p,0,none⟩)] w fun e w'=>e= .returned (.int .i64 (b.length:Nat))∧w=w':=by
 obtain⟨l,hl1,hl2,hl3⟩:=h.hb;have e0:=h.hp.cell 0;simp only [zG,zH]at e0;have hpl:=h.hp.lt;have hln:=fun ty=>hl1.run_len (ty:=ty) uMsf;have hll:l.length=b.length:=by rw [←hl2,List.length_map]
 rw [hll]at hln;clear hl1 hl2 hl3 h hll;go_enter Tryz.func121,Tryz.ntmps121;go_wp2;go_ret;exact⟨rfl,rfl⟩
theorem groom_t (w:World) (p mb:Nat) (room:Int) (X:List Nat) (b:GBk) (h:BookAt w p mb room X b):Calls Tryz.prog 122 #[.pointer (some ⟨p,0,none⟩)] w fun e w'=>e= .returned (.int .i64 room)∧w=w':=by
 have e1:=h.hp.cell 1;simp only [zG,zH,zI]at e1;have hpl:=h.hp.lt;clear h;go_enter Tryz.func122,Tryz.ntmps122;go_wp2;go_ret;exact⟨rfl,rfl⟩
def NewPost (w:World) (room:Int) (e:Ending) (w':World):Prop:=∃p mb,e= .returned (.tuple #[.pointer (some ⟨p,0,none⟩),.int .i64 0])∧BookAt w' p mb room [mb] []∧w.heap.size≤p∧w.heap.size≤mb∧Fr [] w w'
theorem bkOk_nil:BkOk []:=⟨List.nodup_nil,fun k f h=>by cases h⟩
theorem gnew_t (w:World) (room:Int) (h1:1≤room) (h2:room≤256):Calls Tryz.prog 57 #[.int .i64 room] w (NewPost w room):=by
 have hmm:= @run_makeMap Tryz.prog;have d1:decide (room<1)=false:=decide_eq_false (by omega);have d2:decide (256<room)=false:=decide_eq_false (by omega);have h1':¬room<1:=by omega
 have h2':¬256<room:=by omega
 go_enter Tryz.func57,Tryz.ntmps57;go_wp2;go_ret2;refine⟨w.heap.size+1,w.heap.size,?_,⟨Blk.new' _ _ (by simp),⟨[],(IsMap.new w Value.string FA.val).alloc _,rfl,fun p hp=>by cases hp⟩,bkOk_nil,fun g hg=>by simp at hg;simp;omega,by simp,by omega⟩,by omega,Nat.le_refl _,((Fr.refl [] w).alloc _).alloc _⟩;simp
theorem gnew_bad (w:World) (room:Int) (h:room<1∨256<room):Calls Tryz.prog 57 #[.int .i64 room] w fun e w'=>e= .returned (.tuple #[.pointer none,.int .i64 1])∧w=w':=by
 rcases h with h |h
 ·have d1:decide (room<1)=true:=decide_eq_true h;go_enter Tryz.func57,Tryz.ntmps57;go_wp2;go_ret2;exact⟨rfl,rfl⟩
 ·have d1:decide (room<1)=false:=decide_eq_false (by omega);have d2:decide (256<room)=true:=decide_eq_true h;have h1':¬room<1:=by omega
  go_enter Tryz.func57,Tryz.ntmps57;go_wp2;go_ret2;exact⟨rfl,rfl⟩
def FamPost (w:World) (b:GBk) (id:ByteArray) (e:Ending) (w':World):Prop:=
 ∃y:FA,e= .returned (.tuple #[y.val,.bool (aget id b).isSome])∧y.f=(aget id b).getD zeroF∧FamW w' w.heap.size y∧Fr [] w w'
end Go.Proofs.YtacljejoedbnkaaGreat
namespace Go.Proofs.YtacljejoedbnkaaGreat
open Go.RowKit Go.Sig
theorem book_get {w:World}{X:List Nat}{b:GBk}{id:ByteArray}{l:List (ByteArray×FA)}(hl2:l.map (fun p=>(p.1,p.2.f))=b) (hl3:∀p∈l,FamIn w X p.2) (ok:BkOk b):
  FamIn w X ((aget id l).getD zeroFA)∧((aget id l).getD zeroFA).f=(aget id b).getD zeroF∧(aget id b).isSome=(aget id l).isSome∧(FamOk ((aget id l).getD zeroFA).f∨((aget id l).getD zeroFA).f=zeroF):=by
 have hg:aget id b=(aget id l).map (·.f):=by rw [←hl2,aget_fa]
 rw [hg];cases hag:aget id l with
 |none=>exact⟨zero_in _ _,rfl,rfl,.inr rfl⟩
 |some z=>rw [hag]at hg;exact⟨hl3 _ (mem_of_aget hag),rfl,rfl,.inl (ok.2 _ _ hg).2⟩
theorem infoFamA (x:FA):(Tryz.prog.info? 77).map (·.size)=some x.cells.size:=by unfold FA.cells;exact infoFam
theorem FA.all1 (x:FA):x.cells.all (·.oneCell')=true:=by unfold FA.cells;kernel_rfl
theorem FA.size11 (x:FA):x.cells.size=11:=rfl
set_option maxRecDepth 100000 in
set_option maxHeartbeats 2000000 in
theorem family_t (w:World) (p mb:Nat) (room:Int) (X:List Nat) (b:GBk) (id:ByteArray) (h:BookAt w p mb room X b):Calls Tryz.prog 80 #[.pointer (some ⟨p,0,none⟩),.string id] w (FamPost w b id):=by
 obtain⟨l,hl1,hl2,hl3⟩:=h.hb;obtain⟨hx1,hx2,hx3,hx4⟩:=book_get (id:=id) hl2 hl3 h.ok;have hlk:=hl1.run_lookup_ok kStr (z:=zeroFA.val) uMsf (fun w=>by kernel_rfl) id;have hlk2:(Instr.lookup 198 (.map (some mb)) (.string id) true).run Tryz.prog=fun W=>(Instr.lookup 198 (.map (some mb)) (.string id) true).run Tryz.prog W:=rfl;clear hlk2;have hv:((aget id l).map FA.val).getD zeroFA.val=((aget id l).getD zeroFA).val:=by cases aget id l<;>rfl
 rw [hv,←hx3]at hlk;obtain⟨x,hxe⟩:∃z,Hid ((aget id l).getD zeroFA=z):=⟨_,zh rfl⟩
 rw [hxe.o]at hlk hx1 hx2 hx4;obtain⟨is,hise⟩:∃z,Hid ((aget id b).isSome=z):=⟨_,zh rfl⟩
 rw [hise.o]at hlk;have hisl:=zh (hx3.symm.trans hise.o);have hl1h:=zh hl1;have hx1h:=zh hx1;have hx2h:=zh hx2;have hx4h:=zh hx4;have hph:=zh h.hp;have hzs:∃zs:Array Value,zs.size=11∧Hid (zs=zeroFA.cells):=⟨_,rfl,zh rfl⟩
 obtain⟨zs,hz,hzh⟩:=hzs;clear hl1 hl2 hl3 hx1 hx2 hx3 hx4 hv h hlk;go_enter Tryz.func80,Tryz.ntmps80;go_upto_region 1 with(fail)
 refine wp_gen (fun W=>Blk W w.heap.size 77 zs∧Fr [] w W) ⟨by rw [hzh.o];exact Blk.new _ _ _,(Fr.refl _ _).alloc _⟩ ?_;rintro W ⟨hR,fW⟩;obtain⟨gr,HGR⟩:∃z,Hid (w.heap.size=z):=⟨_,zh rfl⟩
 rw [HGR.o]at hR⊢;have hP:=hph.o.fr fW (by simp);have hM:=hl1h.o.fr fW (by simp);have e0:=hP.cell 0;simp only [zG,zH]at e0;have hpl:=hP.lt;have hlk:=hM.run_lookup_ok kStr (z:=zeroFA.val) uMsf (fun w=>by kernel_rfl) id;have hv:((aget id l).map FA.val).getD zeroFA.val=((aget id l).getD zeroFA).val:=by cases aget id l<;>rfl
 have hx3:(aget id l).isSome=is:=hisl.o;rw [hv,hxe.o,hx3]at hlk;clear hv hx3 hP hM;have hrl:=hR.lt;have hRh:=zh hR;have fWh:=zh fW;have hgr:w.heap.size≤gr:=by have:=HGR.o;omega
 clear hR fW;go_upto_region 4 with(refine wpList_store_row rfl 77 _ _ rfl W.heap.size x.cells rfl rfl 77 _ (Blk.new _ _ _) (infoFamA x) (by rw [FA.size11];rfl) (FA.all1 x) ?_)
 refine wp_gen (fun W2=>Blk W2 W.heap.size 77 x.cells∧Fr [] W W2) ⟨Blk.setRow (Blk.new _ _ _) _,((Fr.refl [] W).alloc _).setRow (.inr (Nat.le_refl _)) _⟩ ?_;rintro W2 ⟨hB2,F2⟩;obtain⟨g6,HG6⟩:∃z,Hid (W.heap.size=z):=⟨_,zh rfl⟩
 rw [HG6.o]at hB2⊢;have f2:=fWh.o.trans F2;have hxW:=(hx1h.o.mono (Y:= []) (by simp)).fr f2;have hown:=own_t W2 x hxW (fam_short hxW hx4h.o);have hR2:=hRh.o.fr F2 (by simp);have f2h:=zh f2;have hR2h:=zh hR2;clear hlk e0 hpl hxW f2 F2 hR2 hrl;go_wp2_with (refine wpList_load_at rfl 77 _ rfl rfl hB2 (sub_self _) uFam rfl (infoFamL _) ?_;rw [Array.toArray_toList])
 refine Calls.mono (show Calls Tryz.prog 147 _ _ _ from hown) ?_;rintro e W3 ⟨y,rfl,hy,hw,F3⟩;have hR3:=hR2h.o.fr F3 (by simp);have hrl3:=hR3.lt;have f3:=zh (f2h.o.trans F3);have hwh:=zh hw;have hyh:=zh hy;clear hown F3 hw hy hB2;unfold FA.val;go_wp2_with (refine wpList_store_row rfl 77 _ _ rfl gr y.cells rfl rfl 77 zs hR3 (infoFamA y) (hz.trans (FA.size11 y).symm) (FA.all1 y) ?_)
 refine bodyPost_ret (v:= .tuple #[.agg y.cells,.bool is]) (results_ct (p:=4) (q:=5) rfl _ _ gr 77 y.cells (0,0) _ rfl (Blk.setRow hR3 _) uFam rfl (infoFamA y) rfl) rfl ?_;refine⟨y,by rw [hise.o];rfl,hyh.o.trans hx2h.o,?_,f3.o.setRow (.inr hgr) _⟩;have hw2:w.heap.size≤W2.heap.size:=f2h.o.size;exact(hwh.o.fr ((Fr.refl [gr] W3).setRow (.inl (by simp)) _) (fun g hg=>by
  have:=hR2h.o.lt;simp at hg;omega)).below hw2
def sortN (ks:List ByteArray):List ByteArray:=ks.foldl (fun acc s=>insN s acc) []
theorem sortN_go_mem {x:ByteArray}:∀(ks acc:List ByteArray),x∈ks.foldl (fun acc s=>insN s acc) acc↔x∈acc∨x∈ks
 | [],acc=>by simp
 |s::ks,acc=>by
  rw [List.foldl_cons,sortN_go_mem ks,mem_insN,List.mem_cons];constructor
  ·rintro((h |h) |h)
   ·exact .inr (.inl h)
   ·exact .inl h
   ·exact .inr (.inr h)
  ·rintro(h |h |h)
   ·exact .inl (.inr h)
   ·exact .inl (.inl h)
   ·exact .inr h
theorem mem_sortN {x:ByteArray}{ks:List ByteArray}:x∈sortN ks↔x∈ks:=by unfold sortN;rw [sortN_go_mem];simp
theorem sortN_go_rising:∀(ks acc:List ByteArray),RisN acc→RisN (ks.foldl (fun acc s=>insN s acc) acc)
 | [],_,h=>h
 |s::ks,acc,h=>by rw [List.foldl_cons];exact sortN_go_rising ks _ (insN_rising h)
theorem sortN_rising (ks:List ByteArray):RisN (sortN ks):=sortN_go_rising ks [] List.Pairwise.nil
theorem sortN_perm {ks:List ByteArray}(hn:ks.Nodup):ks.Perm (sortN ks):=(List.perm_ext_iff_of_nodup hn (risN_nodup (sortN_rising ks))).2 fun _s=>mem_sortN.symm
def idsM (b:GBk):List ByteArray:=sortN (b.map (·.1))
set_option maxRecDepth 100000 in
set_option maxHeartbeats 4000000 in
theorem ids_t (w:World) (p mb:Nat) (room:Int) (X:List Nat) (b:GBk) (h:BookAt w p mb room X b) (hmax:b.length≤1000000):Calls Tryz.prog 153 #[.pointer (some ⟨p,0,none⟩)] w (SRow w (idsM b)):=by
 obtain⟨l,hl1,hl2,hl3⟩:=h.hb;have e0:=h.hp.cell 0;simp only [zG,zH]at e0;have hpl:=h.hp.lt;obtain⟨lbm,clock,hBm,hlbm⟩:=hl1.stamps;have hkl:lbm.map (·.1)=b.map (·.1):=by rw [←hl2,←hlbm,List.map_map,List.map_map];rfl
 have hkeys:=zh (sortN_perm h.ok.1);have hklh:=zh hkl;have hinc:=zh (hBm.inc.imp (fun{a b} (h:a<b) (e:a=b)=>by omega):(lbm.map (·.2.2)).Nodup);have hrun:=hBm.run_range uMsf;have hlen:lbm.length≤1000000:=by
  have h1:lbm.length=b.length:=by have:=congrArg List.length hkl;simpa using this
  omega
 have hBmh:=zh hBm;clear hl1 hl2 hl3 hlbm hkl h hBm;go_enter Tryz.func153,Tryz.ntmps153;go_wp2_with fail
 obtain⟨r,HR⟩:∃z,Hid (w.heap.size=z):=⟨_,zh rfl⟩
 go_loopg [3,4] (lbm.length+1) (fun gk s3 s4 wr=>∃(seen:Array Nat) (ks:List ByteArray),(todo lbm seen).length<gk∧It wr w.heap.size mb clock seen∧IsMapB wr mb Value.string FA.val lbm clock∧(ks++(todo lbm seen).map (·.1)).Perm (lbm.map (·.1))∧SAcc w wr s3 ks∧∀g∈rowOf s3,g≠mb∧g≠w.heap.size)
 case atStart=>refine⟨#[],[],by have:=List.length_filter_le (fun x:ByteArray×FA×Nat=> !(#[]:Array Nat).contains x.2.2) lbm;unfold todo;omega,It.new w mb clock,hBmh.o.fr ((Fr.refl [] w).alloc _) (by simp),by rw [List.nil_append,show todo lbm #[]=lbm from List.filter_eq_self.2 fun y _=>by simp],(SAcc.nil w).fr0 ((Fr.refl [] w).alloc _),by simp [rowOf,Value.ownBlock]⟩
 case round=>
  obtain⟨seen,ks,hk,hI,hMr,hperm,hA,hro⟩:=hrel;have hperm':=zh hperm;have hA':=zh hA;have hro':=zh hro;have hrl:=hI.lt;have hrm:=hI.ne hMr;obtain⟨A7,c7,rfl,hO7,hR7,hF7⟩:=hA;obtain⟨n7,hn7⟩:∃z,Hid (ks.length=z):=⟨_,zh rfl⟩
  have hn7b:n7≤1000000:=by have h1:=hn7.o;have h2:=hperm.length_eq;rw [List.length_append,List.length_map,List.length_map]at h2;omega
  rw [hn7.o]at hO7 hro' hA' hR7⊢;have hR7h:=zh hR7;have hF7h:=zh hF7;have hO7f:=fun(wn:World) (hF:Fr [w.heap.size] wr wn)=>hO7.fr hF (fun g hg hx=>(hro'.o g hg).2 (by simpa using hx));clear hperm hro hR7 hF7 hrm;go_wp2_with (first
   | (refine wpList_map_next hMr hI rfl rfl rfl (fun h0=> ?_) (fun x wn hx hIn hMn ht=> ?_))
   | (refine wpList_map_entry hMn hIn (mem_todo hx) rfl rfl rfl ?_)
   | (go_at_call 223;refine(sortS_t wr (.slice A7 n7 c7) n7 ks (idsM b) hO7 hn7.o (by
       have h1:=hperm'.o;rw [h0,List.map_nil,List.append_nil,hklh.o]at h1;exact h1.trans hkeys.o) (sortN_rising _) (by omega)).mono ?_;rintro e W9 ⟨rfl,O9,F9⟩)
   | (refine wpList_own_append tStrs ((hO7f _ ht.fr).fr ((Fr.refl [] _).alloc _) (by simp)) (str_new _ _ _) (strCells_one _) (by simp) (by unfold maxLen;omega) (by omega) rfl rfl rfl rfl (fun v2 w2 p1 p2 p3=> ?_);obtain⟨A8,c8,rfl,hA8⟩:=p1.form))
  ·go_ret;have hl:(idsM b).length=n7:=by
    have:=O9.length;rw [strCells_length,Nat.mul_one]at this;exact this
   refine⟨_,rfl,by rw [hl];exact O9,hF7h.o.andThen F9 (fun x hx=> .inr (hR7h.o x hx)),fun g hg=>hR7h.o g hg⟩
  ·go_roundg ((todo lbm (seen.push x.2.2)).length+1)
   case measure=>have:=todo_lt hx;omega
   case rel=>
    have hFn:Fr [] w wn:=hF7h.o.andThen ht.fr (fun x hx=> .inr (by simp at hx;omega));have hrw2:w.heap.size<wn.heap.size:=hIn.lt;have hgn:mb<wn.heap.size:=hMn.lt;refine⟨_,ks++ [x.1],Nat.lt_succ_self _,(hIn.fr ((Fr.refl [] _).alloc _) (by simp)).fr p2 (fun h=>(hro'.o _ h).2 rfl),(hMn.fr ((Fr.refl [] _).alloc _) (by simp)).fr p2 (fun h=>(hro'.o _ h).1 rfl),?_,SAcc.push hn7.o hR7h.o hFn p1 p2 p3,fun g hg=> ?_⟩
    ·rw [List.append_assoc];exact(List.Perm.append_left _ (todo_perm hinc.o hx).symm).trans hperm'.o
    ·rcases p3 g hg with h |h
     ·exact hro'.o g h
     ·simp at h;omega
end Go.Proofs.YtacljejoedbnkaaGreat
namespace Go.Proofs.YtacljejoedbnkaaGreat
open Go.RowKit Go.Sig
def PredS (w:World) (S:List Nat) (f gx:Nat) (q:ByteArray→Bool):Prop:=∀(W:World) (s:ByteArray),Fr S w W→Calls Tryz.prog f #[.string s,.pointer (some ⟨gx,0,none⟩)] W fun e w'=>e= .returned (.bool (q s))∧Fr [] W w'
theorem PredS.fr {w w':World}{S:List Nat}{f gx:Nat}{q:ByteArray→Bool}(h:PredS w S f gx q) (hF:Fr S w w'):PredS w' S f gx q:=fun W s hW=>h W s (hF.trans hW)
def dropS (q:ByteArray→Bool) (l:List ByteArray):List ByteArray:=l.filter fun s=> !q s
theorem dropS_all {q:ByteArray→Bool}{l:List ByteArray}(h:∀y∈l,q y=false):dropS q l=l:=by
 unfold dropS;rw [List.filter_eq_self];intro y hy;simp [h y hy]
theorem dropS_take {q:ByteArray→Bool}{l:List ByteArray}{j:Nat}(h:j<l.length):dropS q (l.take (j+1))=dropS q (l.take j)++(if q l[j]=true then []else [l[j]]):=by
 unfold dropS;rw [List.take_succ_eq_append_getElem h,List.filter_append];by_cases e:q l[j]=true<;>simp [e]
theorem dropS_take_le {q:ByteArray→Bool}{l:List ByteArray}{j:Nat}:(dropS q (l.take j)).length≤j:=by
 unfold dropS;exact Nat.le_trans (List.length_filter_le _ _) (by rw [List.length_take];omega)
def IdxSPost (w:World) (q:ByteArray→Bool) (l:List ByteArray) (e:Ending) (w':World):Prop:=Fr [] w w'∧((e= .returned (.int .i64 (-1))∧∀y∈l,q y=false)∨∃i,∃h:i<l.length,e= .returned (.int .i64 i)∧q l[i]=true∧∀y∈l.take i,q y=false)
set_option maxRecDepth 100000 in
set_option maxHeartbeats 1000000 in
theorem idxS_t (w:World) (S:List Nat) (f gx:Nat) (q:ByteArray→Bool) (hf:PredS w S f gx q) (eg:∀args w,(callFunc f args).run Tryz.prog w= .ok (.enter f args) w) (A:Option Addr) (n c:Nat) (l:List ByteArray) (hR:Rd w 1 A n (strCells l)) (hn:l.length=n) (hmax:n≤1000000):
  Calls Tryz.prog 245 #[.slice A n c,.func (.func f) #[] #[.pointer (some ⟨gx,0,none⟩)]] w (IdxSPost w q l):=by
 have hfh:=zh hf;clear hf;go_enter Tryz.func245,Tryz.ntmps245;go_wp2_with fail
 go_loopg [5,8] (n+1) (fun gk s5 s8 wr=>∃(i:Nat),s8= .int .i64 i∧i≤n∧n - i<gk∧(∀y∈l.take i,q y=false)∧Fr [] w wr)
 case atStart=>exact⟨0,rfl,by omega,by omega,fun y hy=>by simp at hy,Fr.refl _ _⟩
 case round=>
  obtain⟨i,rfl,hi,hk,hpre,hF⟩:=hrel;have hFh:=zh hF;have hpreh:=zh hpre;clear hpre;by_cases hlt:i<n
  ·have hlt':(i:Int)<n:=by omega
   have hlth:=zh hlt;have hi':i<l.length:=by omega
   obtain⟨b,o,rfl,hcell⟩:=(Rd.fr hR hF (by simp [Off])).2 (by omega);have cn:=hcell _ _ (strCells_at hi');have hcall:=hfh.o wr l[i] hF.nil;have htk:=zh (List.take_succ_eq_append_getElem hi');clear hcell;obtain⟨y,hy⟩:∃x,Hid (l[i]=x):=⟨_,zh rfl⟩
   rw [hy.o]at cn hcall htk;obtain⟨r,hr⟩:∃z,Hid (q y=z):=⟨_,zh rfl⟩
   rw [hr.o]at hcall;clear hF;cases r with
   |true=>
    go_wp2_with (go_at_fn f;refine hcall.mono ?_;rintro e w' ⟨rfl,F2⟩)
    go_ret;refine⟨hFh.o.trans F2,.inr ⟨i,hi',rfl,?_,hpreh.o⟩⟩;rw [hy.o];exact hr.o
   |false=>
    go_wp2_with (go_at_fn f;refine hcall.mono ?_;rintro e w' ⟨rfl,F2⟩)
    go_roundg (n - i)
    case measure=>omega
    case rel=>
     refine⟨i+1,by go_num,by have:=hlth.o;omega,by have:=hlth.o;omega,?_,hFh.o.trans F2⟩;rw [htk.o];intro z hz;rcases List.mem_append.1 hz with h |h
     ·exact hpreh.o z h
     ·simp at h;rw [h];exact hr.o
  ·have hge:¬(i:Int)<n:=by omega
   have hall:∀y∈l,q y=false:=fun y hy=>hpreh.o y (by rw [List.take_of_length_le (by omega)];exact hy);have hallh:=zh hall;clear hall hF hk;go_wp2_with fail
   go_ret;exact⟨hFh.o,.inl ⟨rfl,hallh.o⟩⟩
theorem run_clear_strs {P:Program}{t e ty:TypeId}{i:TypeInfo}{z:Value}(w:World) (ht:P.underlying t=some (.slice e)) (hi:P.info? e=some i) (hz:i.zero=some z) (h1:∀v∈z.cells.toList,v.oneCell'=true)
  {g o n c:Nat}{t':TypeId}{cur:Array Value}(hB:Blk w g t' cur) (hn:0<n) (hfit:o+n*z.cells.size≤cur.size):
  (Builtin.clear_ #[t] ty #[.slice (some ⟨g,o,none⟩) n c]).run P w= .ok (.tuple #[]) (w.setRow g (laid cur o (Builtin.zeroCells z.cells n).toList)):=by
 obtain⟨m,rfl⟩:∃m,n=m+1:=⟨n - 1,by omega⟩
 have hsz:=size_zeroCells z.cells (m+1);have hst:=run_storeCells_at (P:=P) g o t' (Builtin.zeroCells z.cells (m+1)).toList 0 cur w hB (by rw [Array.length_toList,hsz];omega) (fun v hv=>by
  simp only [Builtin.zeroCells,Array.toList_map,List.mem_map]at hv;obtain⟨q,hq,rfl⟩:=hv;simp at hq;have hp:0<z.cells.size:=by
   rcases Nat.eq_zero_or_pos z.cells.size with h0 |h0
   ·rw [h0]at hq;omega
   ·exact h0
  have hlt:q%z.cells.size<z.cells.size:=Nat.mod_lt _ hp;rw [getElem!_pos z.cells _ hlt];exact h1 _ (by simp))
 simp [Builtin.clear_,run_underlying ht,zeroValue,typeInfo,hi,hz,hst,Result.andThen];unfold laid;rw [Array.length_toList]
def DelSPost (w:World) (v:Value) (ms:List ByteArray) (e:Ending) (w':World):Prop:=∃v',e= .returned v'∧Own w' 9 1 v' ms.length (strCells ms)∧rowOf v'=rowOf v∧Fr (rowOf v) w w'
set_option maxRecDepth 100000 in
set_option maxHeartbeats 2000000 in
theorem delS_t (w:World) (f gx:Nat) (q:ByteArray→Bool) (v:Value) (hf:PredS w (rowOf v) f gx q) (eg:∀args w,(callFunc f args).run Tryz.prog w= .ok (.enter f args) w) (n:Nat) (l:List ByteArray) (hO:Own w 9 1 v n (strCells l)) (hn:l.length=n) (hmax:n≤1000000):
  Calls Tryz.prog 181 #[v,.func (.func f) #[] #[.pointer (some ⟨gx,0,none⟩)]] w (DelSPost w v (dropS q l)):=by
 obtain⟨A,c,rfl,hA⟩:=hO.form;have hR:=hO.rd;have hidx:=idxS_t w _ f gx q hf eg A n c l hR hn hmax;have hfh:=zh hf;have hOh:=zh hO;clear hf hR;go_enter Tryz.func181,Tryz.ntmps181;go_wp2_with fail
 refine hidx.mono ?_;rintro e W ⟨fW,hcase⟩;rcases hcase with⟨rfl,hall⟩ | ⟨i0,hi0,rfl,hk0,hbef⟩
 ·have hallh:=zh hall;clear hall hidx hO;go_wp2;go_ret;rw [dropS_all hallh.o];exact⟨_,rfl,by rw [hn];exact hOh.o.fr fW (by simp),rfl,fW.nil⟩
 ·have hlt0:i0<n:=by omega
  rcases hO.2 with⟨hv,h0⟩ | ⟨g,cap,cur,hv,hbs,hh,hnc,hcm,hcs,htk⟩
  ·omega
  injection hv with hv1 _ hv3
  subst hv1 hv3;have hB:Blk W g 9 cur:=Blk.fr (show Blk w g 9 cur from hh) fW (by simp);have hcl:∀m,m<n→cur[m]? =(strCells l)[m]? :=fun m hm=>by rw [←htk,List.getElem?_take_of_lt (by omega),Array.getElem?_toList]
  have hclh:=zh hcl;have hd0:dropS q (l.take (i0+1))=l.take i0:=by rw [dropS_take hi0,if_pos hk0,List.append_nil];exact dropS_all hbef
  have hd0h:=zh hd0;have hl0:(l.take i0).length=i0:=by rw [List.length_take];omega
  have hfW:=zh (hfh.o.fr fW.nil);have fWh:=zh fW;clear hidx hcl hd0 hbef hk0 htk hO hA hh fW;have hne1:((i0:Int)== -1)=false:=beq_eq_false_iff_ne.2 (by omega);go_wp2_with fail
  go_loopg [5,6,7] (n+1) (fun gk s5 s6 s7 wr=>∃(i j:Nat) (cu:Array Value),s5= .int .i64 i∧s6= .int .i64 j∧j≤n∧n - j<gk∧i<j∧i=(dropS q (l.take j)).length∧Blk wr g 9 cu∧cu.size=c*1∧Sub cu 0 (strCells (dropS q (l.take j)))∧(∀m,j≤m→m<n→cu[m]? =(strCells l)[m]?)∧Fr [g] W wr)
  case atStart=>
   refine⟨i0,i0+1,cur,rfl,by go_num,by omega,by omega,by omega,by rw [hd0h.o,hl0],hB,hcs,?_,fun m _ hm=>hclh.o m hm,Fr.refl _ _⟩;rw [hd0h.o];intro m u hu;have hm:=(List.getElem?_eq_some_iff.1 hu).1;rw [strCells_length,hl0]at hm;rw [Nat.zero_add,hclh.o m (by omega),←hu];have e:strCells l=strCells (l.take i0)++strCells (l.drop i0):=by rw [←strCells_append,List.take_append_drop]
   rw [e,List.getElem?_append_left (by rw [strCells_length,hl0];omega)]
  case round=>
   clear hB;obtain⟨i,j,cu,rfl,rfl,hj,hk,hij,hil,hB,hsz,hsub,hhi,hF⟩:=hrel;have hilh:=zh hil;have hsubh:=zh hsub;have hhih:=zh hhi;have hFh:=zh hF;have hBh:=zh hB;have hgl:=hB.lt;have hfz:=fun m=>hB.frozen m;clear hil hsub hhi hF;by_cases hlt:j<n
   ·have hlt':(j:Int)<n:=by omega
    have hlth:=zh hlt;have hj':j<l.length:=by omega
    have hp:=strCells_at hj';have cn:=((hB.cell j).trans (hhih.o _ (by omega) (by omega))).trans hp;have hdt:=zh (dropS_take (q:=q) hj');have hpl:=zh hp;clear hp;obtain⟨y,hy⟩:∃x,Hid (l[j]=x):=⟨_,zh rfl⟩
    rw [hy.o]at cn hdt hpl;have ci:wr.cell? ⟨g,i,none⟩=some cu[i]:=by rw [hB.cell];exact Array.getElem?_eq_getElem (by omega)
    have hcall:=hfW.o wr y (by rw [rowOf_some];exact hFh.o);obtain⟨r,hr⟩:∃z,Hid (q y=z):=⟨_,zh rfl⟩
    rw [hr.o]at hcall hdt;clear hB;cases r with
    |true=>
     go_wp2_with (go_at_fn f;refine hcall.mono ?_;rintro e w' ⟨rfl,F4⟩)
     go_roundg (n - j)
     case measure=>omega
     case rel=>
      refine⟨i,j+1,cu,rfl,by go_num,by have:=hlth.o;omega,by have:=hlth.o;omega,by omega,?_,hBh.o.fr F4 (by simp),hsz,?_,fun m h1 h2=>hhih.o m (by omega) h2,hFh.o.trans F4.nil⟩
      ·rw [hdt.o,if_pos trivial,List.append_nil];exact hilh.o
      ·rw [hdt.o,if_pos trivial,List.append_nil];exact hsubh.o
    |false=>
     go_upto_region 9 with(go_at_fn f;refine hcall.mono ?_;rintro e w' ⟨rfl,F4⟩)
     refine wp_gen (fun W4=>Blk W4 g 9 cu∧Fr [] wr W4) ⟨hBh.o.fr F4 (by simp),F4⟩ ?_;rintro W4 ⟨hB4,F34⟩;have ci4:W4.cell? ⟨g,i,none⟩=some cu[i]:=by rw [hB4.cell];exact Array.getElem?_eq_getElem (by omega)
     have hfz4:=fun m=>hB4.frozen m;have hg4:=hB4.lt;have hB4h:=zh hB4;have F34h:=zh F34;have hiln:(i:Int)<n:=by have:=hlth.o;omega
     clear hcall F4 ci cn hfz hB4 F34;go_wp2_with fail
     go_roundg (n - j)
     case measure=>omega
     case rel=>
      refine⟨i+1,j+1,_,by go_num,by go_num,by have:=hlth.o;omega,by have:=hlth.o;omega,by omega,?_,hB4h.o.set i (.string y),by simpa using hsz,?_,fun m h1 h2=> ?_,hFh.o.trans (F34h.o.nil.trans ((Fr.refl [g] W4).setCell (p:=⟨g,i,none⟩) (.inl (by simp)) _))⟩
      ·rw [hdt.o,if_neg (by simp),List.length_append,←hilh.o];rfl
      ·rw [hdt.o,if_neg (by simp),strCells_append];intro m u hu;have hpl2:(strCells (dropS q (l.take j))).length=i:=by rw [strCells_length,←hilh.o]
       rw [Nat.zero_add,Array.getElem?_setIfInBounds];by_cases h1:m<i
       ·rw [if_neg (by omega)];rw [List.getElem?_append_left (by omega)]at hu;have:=hsubh.o m u hu;rwa [Nat.zero_add]at this
       ·rw [List.getElem?_append_right (by omega),hpl2]at hu;have hm:m - i=0:=by
         have:=(List.getElem?_eq_some_iff.1 hu).1;simp [strCells]at this;omega
        rw [hm]at hu;rw [if_pos (by omega),if_pos (by have:=hlth.o;omega),←hu];rfl
      ·rw [Array.getElem?_setIfInBounds,if_neg (by omega)];exact hhih.o m (by omega) h2
   ·have hjn:j=n:=by omega
    subst hjn;obtain⟨fi,hfi,hfz2,hfs,hfb⟩:=info_parts tStrs.info;have hci:¬c=i:=by omega
    have hclr:∀ty,(Builtin.clear_ #[22] ty #[.slice (some ⟨g,i,none⟩) (j - i) (c - i)]).run Tryz.prog wr= .ok (.tuple #[]) (wr.setRow g (laid cu i (Builtin.zeroCells (Value.string ⟨#[]⟩).cells (j - i)).toList)):=
     fun ty=>run_clear_strs (ty:=ty) wr tStrs.ty hfi hfz2 (by intro v hv;simp [Value.cells]at hv;subst hv;rfl) hBh.o (by omega) (by show i+(j - i)*1≤cu.size;omega)
    have hge:¬(j:Int)<j:=by omega
    have hij':(i:Int)≤j:=by omega
    have hic':(i:Int)≤c:=by omega
    have hzl:(Builtin.zeroCells (Value.string ⟨#[]⟩).cells (j - i)).toList.length=j - i:=by rw [Array.length_toList,size_zeroCells];show(j - i)*1=_;omega
    obtain⟨zs,hzs⟩:∃x,Hid ((Builtin.zeroCells (Value.string ⟨#[]⟩).cells (j - i)).toList=x):=⟨_,zh rfl⟩
    rw [hzs.o]at hclr hzl;clear hlt hk hB;go_wp2;go_ret;have hsb:=hsubh.o;have hil:=hilh.o;rw [List.take_of_length_le (by omega)]at hsb hil;have hfit:i+zs.length≤cu.size:=by omega
    refine⟨_,rfl,?_,by simp [rowOf,Value.ownBlock],?_⟩
    ·rw [←hil];refine⟨by rw [strCells_length,←hil,Nat.mul_one],.inr ⟨g,c,_,rfl,Nat.zero_le _,Blk.setRow hBh.o _,by omega,hcm,by rw [laid_size hfit];exact hsz,?_⟩⟩;apply List.ext_getElem?;intro m;by_cases hm:m<i
     ·rw [List.getElem?_take_of_lt (by omega),Array.getElem?_toList,laid_far hfit (.inl hm)];have hlt2:m<(strCells (dropS q l)).length:=by rw [strCells_length,←hil];exact hm
      have:=hsb m _ (List.getElem?_eq_getElem hlt2);rw [Nat.zero_add]at this;rw [this,List.getElem?_eq_getElem hlt2]
     ·rw [List.getElem?_eq_none (by rw [List.length_take];omega),List.getElem?_eq_none (by rw [strCells_length,←hil];omega)]
    ·rw [rowOf_some];exact(fWh.o.nil.trans hFh.o).setRow (.inl (by simp)) _
def revM (b:GBk) (s:ByteArray):Bool:=((aget s b).getD zeroF).revoked
def pendM (b:GBk):List ByteArray:=(idsM b).filter fun s=>revM b s
theorem dropS_rev (b:GBk):dropS (fun s=> !revM b s) (idsM b)=pendM b:=by
 unfold dropS pendM;congr 1;funext s;rw [Bool.not_not]
set_option maxRecDepth 100000 in
set_option maxHeartbeats 2000000 in
theorem pend1_t (w:World) (p mb gx:Nat) (room:Int) (X S:List Nat) (b:GBk) (h:BookAt w p mb room X b) (hx:w.cell? ⟨gx,0,none⟩=some (.pointer (some ⟨p,0,none⟩))) (hS:p∉S∧mb∉S∧gx∉S):PredS w S 182 gx (fun s=> !revM b s):=by
 intro W s hF;obtain⟨l,hl1,hl2,hl3⟩:=h.hb;have hM:=hl1.fr hF hS.2.1;have hP:=h.hp.fr hF hS.1;have hxW:=(hF.cell (p:=⟨gx,0,none⟩) (block_lt_of_cell hx) hS.2.2).trans hx;have hlk:=hM.run_lookup kStr (z:=zeroFA.val) uMsf (fun w=>by kernel_rfl) s;have hv:((aget s l).map FA.val).getD zeroFA.val=((aget s l).getD zeroFA).val:=by cases aget s l<;>rfl
 rw [hv]at hlk;have hrv:((aget s l).getD zeroFA).f.revoked=revM b s:=by unfold revM;rw [←hl2,aget_fa];cases aget s l<;>rfl
 obtain⟨x,hxe⟩:∃z,Hid ((aget s l).getD zeroFA=z):=⟨_,zh rfl⟩
 rw [hxe.o]at hlk hrv;obtain⟨rv,hrve⟩:∃z,Hid (revM b s=z):=⟨_,zh rfl⟩
 rw [hrve.o]at hrv;have hres:∀z:Bool,rv=z→Ending.returned (.bool (!z))= .returned (.bool (!revM b s)):=fun z h=>by rw [hrve.o,h]
 have hresh:=zh hres;have e0:=hP.cell 0;simp only [zG,zH]at e0;have hpl:=hP.lt;have hgl:=block_lt_of_cell hxW;unfold FA.val FA.cells at hlk;rw [hrv]at hlk;clear hl1 hl2 hl3 hM hP hv hrv hres h hx;have hfd:(Instr.field 77 (.agg #[.string x.f.id,.string x.f.client,.string x.f.user,.slice x.sA x.f.scope.length x.sc,.string x.f.redirect,.string x.f.challenge,.string x.f.method,.int .i64 x.f.code,.slice x.tA x.ts.length x.tc,.bool rv,.slice x.lA x.f.leases.length x.lc]) 9).run Tryz.prog W= .ok (.bool rv) W:=by kernel_rfl
 go_enter Tryz.func182,Tryz.ntmps182;go_wp2;go_ret;exact⟨hresh.o rv rfl,Fr.refl _ _⟩
set_option maxRecDepth 100000 in
set_option maxHeartbeats 2000000 in
theorem pend_t (w:World) (p mb:Nat) (room:Int) (X:List Nat) (b:GBk) (h:BookAt w p mb room X b) (hmax:b.length≤1000000):Calls Tryz.prog 123 #[.pointer (some ⟨p,0,none⟩)] w (SRow w (pendM b)):=by
 have eg:∀args w,(callFunc 182 args).run Tryz.prog w= .ok (.enter 182 args) w:=enters_of Tryz.func182 (by kernel_rfl) rfl;have hh:=zh h;clear h;go_enter Tryz.func123,Tryz.ntmps123;go_upto_region 1 with(fail)
 refine wp_gen (fun W=>Blk W w.heap.size 121 #[.pointer (some ⟨p,0,none⟩)]∧Fr [] w W) ⟨Blk.new _ _ _,(Fr.refl _ _).alloc _⟩ ?_;rintro W ⟨hB,fW⟩;obtain⟨gx,HGX⟩:∃z,Hid (w.heap.size=z):=⟨_,zh rfl⟩
 rw [HGX.o]at hB⊢;have e0:=hB.cell 0;simp only [zG,zH]at e0;have hgl:=hB.lt;have hids:=ids_t W p mb room X b (hh.o.fr0 fW) hmax;have fWh:=zh fW;have e0h:=zh e0;clear hB fW;go_wp2_with fail
 refine hids.mono ?_;rintro e W2 ⟨v,rfl,hO,F2,hrow⟩;have hlen:(idsM b).length≤1000000:=by have:=(sortN_perm hh.o.ok.1).length_eq;rw [List.length_map]at this;unfold idsM;omega
 have hp:=hh.o.hp.lt;have hm:=hh.o.hb.lt;have hw:=fWh.o.size;have hpre:=pend1_t W2 p mb gx room X (rowOf v) b ((hh.o.fr0 fWh.o).fr0 F2) (cell_fr F2 e0h.o) ⟨fun h=>by have:=hrow p h;omega,fun h=>by have:=hrow mb h;omega,fun h=>by have:=hrow gx h;omega⟩;have hdel:=delS_t W2 182 gx _ v hpre eg _ (idsM b) hO rfl hlen;rw [dropS_rev]at hdel;have F2h:=zh F2;have hrowh:=zh hrow;clear hids hO F2 hrow e0 hpre hgl eg;go_wp2_with fail
 refine hdel.mono ?_;rintro e W3 ⟨v',rfl,hO3,hr3,F3⟩;go_wp2_with fail
 go_ret;refine⟨v',rfl,hO3,(fWh.o.trans F2h.o).andThen F3 (fun g hg=> .inr (by have:=hrowh.o g hg;omega)),fun g hg=> ?_⟩;rw [hr3]at hg;have:=hrowh.o g hg;omega
end Go.Proofs.YtacljejoedbnkaaGreat
