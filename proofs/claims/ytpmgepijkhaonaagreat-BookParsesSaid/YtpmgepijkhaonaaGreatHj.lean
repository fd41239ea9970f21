/- Walks: texts struck from a slice that the call has made; which families are revoked. Conditions: each theorem's own. -/
import Derived.Test.YtpmgepijkhaonaaGreatHg
import Derived.Test.YtpmgepijkhaonaaGreatRow
namespace Go.Proofs.YtpmgepijkhaonaaGreat
open Go.RowKit Go.Sig
structure BookAt (w:World) (p mb:Nat) (room:Int) (X:List Nat) (b:GBk):Prop where
 hp:Blk w p 183 #[.map (some mb),.int .i64 room]
 hb:BkIn w mb X b
 ok:BkOk b
 hX:∀g∈X,g<w.heap.size
 hmb:mb∈X
 hne:p≠mb
theorem BookAt.fr {w w':World}{p mb:Nat}{room:Int}{X S:List Nat}{b:GBk}(h:BookAt w p mb room X b) (hF:Fr S w w') (hS:∀g∈S,g∈X∨w.heap.size≤g) (hm:mb∉S) (hp:p∉S):BookAt w' p mb room X b:=
 ⟨h.hp.fr hF hp,h.hb.fr hF hS hm,h.ok,fun g hg=>Nat.lt_of_lt_of_le (h.hX g hg) hF.size,h.hmb,h.hne⟩
theorem BookAt.fr0 {w w':World}{p mb:Nat}{room:Int}{X:List Nat}{b:GBk}(h:BookAt w p mb room X b) (hF:Fr [] w w'):BookAt w' p mb room X b:=h.fr hF (by simp) (by simp) (by simp)
theorem BookAt.mono {w:World}{p mb:Nat}{room:Int}{X Y:List Nat}{b:GBk}(h:BookAt w p mb room X b) (hS:∀g∈Y,g∈X) (hm:mb∈Y):BookAt w p mb room Y b:=
 ⟨h.hp,h.hb.mono hS,h.ok,fun g hg=>h.hX g (hS g hg),hm,h.hne⟩
theorem BookAt.more {w w':World}{p mb:Nat}{room:Int}{X Y:List Nat}{b:GBk}(h:BookAt w p mb room X b) (hF:Fr [] w w') (hY:∀g∈Y,w.heap.size≤g∧g<w'.heap.size):BookAt w' p mb room (X++Y) b:=
 ⟨h.hp.fr hF (by simp),bk_same h.hb hF (fun g hg=>(hY g hg).1),h.ok,fun g hg=>(List.mem_append.1 hg).elim (fun hg=>Nat.lt_of_lt_of_le (h.hX g hg) hF.size) (fun hg=>(hY g hg).2),List.mem_append.2 (.inl h.hmb),h.hne⟩
theorem gcount_t (w:World) (p mb:Nat) (room:Int) (X:List Nat) (b:GBk) (h:BookAt w p mb room X b):Calls Tryz.prog 90 #[.pointer (some ⟨p,0,none⟩)] w fun e w'=>e= .returned (.int .i64 (b.length:Nat))∧w=w':=by
 obtain⟨l,hl1,hl2,hl3⟩:=h.hb;have e0:=h.hp.cell 0;simp only [zG,zH]at e0;have hpl:=h.hp.lt;have hln:=fun ty=>hl1.run_len (ty:=ty) uMsf;have hll:l.length=b.length:=by rw [←hl2,List.length_map]
 rw [hll]at hln;clear hl1 hl2 hl3 h hll;go_enter Tryz.func90,Tryz.ntmps90;go_wp2;go_ret;exact⟨rfl,rfl⟩
def NewPost (w:World) (room:Int) (e:Ending) (w':World):Prop:=∃p mb,e= .returned (.tuple #[.pointer (some ⟨p,0,none⟩),.int .i64 0])∧BookAt w' p mb room [mb] []∧w.heap.size≤p∧w.heap.size≤mb∧Fr [] w w'
theorem bkOk_nil:BkOk []:=⟨List.nodup_nil,fun k f h=>by cases h⟩
theorem gnew_t (w:World) (room:Int) (h1:1≤room) (h2:room≤256):Calls Tryz.prog 73 #[.int .i64 room] w (NewPost w room):=by
 have hmm:= @run_makeMap Tryz.prog;have d1:decide (room<1)=false:=decide_eq_false (by omega);have d2:decide (256<room)=false:=decide_eq_false (by omega);have h1':¬room<1:=by omega
 have h2':¬256<room:=by omega
 go_enter Tryz.func73,Tryz.ntmps73;go_wp2;go_ret2;refine⟨w.heap.size+1,w.heap.size,?_,⟨Blk.new' _ _ (by simp),⟨[],(IsMap.new w Value.string FA.val).alloc _,rfl,fun p hp=>by cases hp⟩,bkOk_nil,fun g hg=>by simp at hg;simp;omega,by simp,by omega⟩,by omega,Nat.le_refl _,((Fr.refl [] w).alloc _).alloc _⟩;simp
def FamPost (w:World) (b:GBk) (id:ByteArray) (e:Ending) (w':World):Prop:=
 ∃y:FA,e= .returned (.tuple #[y.val,.bool (aget id b).isSome])∧y.f=(aget id b).getD zeroF∧FamW w' w.heap.size y∧Fr [] w w'
end Go.Proofs.YtpmgepijkhaonaaGreat
namespace Go.Proofs.YtpmgepijkhaonaaGreat
open Go.RowKit Go.Sig
theorem book_get {w:World}{X:List Nat}{b:GBk}{id:ByteArray}{l:List (ByteArray×FA)}(hl2:l.map (fun p=>(p.1,p.2.f))=b) (hl3:∀p∈l,FamIn w X p.2) (ok:BkOk b):
  FamIn w X ((aget id l).getD zeroFA)∧((aget id l).getD zeroFA).f=(aget id b).getD zeroF∧(aget id b).isSome=(aget id l).isSome∧(FamOk ((aget id l).getD zeroFA).f∨((aget id l).getD zeroFA).f=zeroF):=by
 have hg:aget id b=(aget id l).map (·.f):=by rw [←hl2,aget_fa]
 rw [hg];cases hag:aget id l with
 |none=>exact⟨zero_in _ _,rfl,rfl,.inr rfl⟩
 |some z=>rw [hag]at hg;exact⟨hl3 _ (mem_of_aget hag),rfl,rfl,.inl (ok.2 _ _ hg).2⟩
theorem infoFamA (x:FA):(Tryz.prog.info? 26).map (·.size)=some x.cells.size:=by unfold FA.cells;exact infoFam
theorem FA.all1 (x:FA):x.cells.all (·.oneCell')=true:=by unfold FA.cells;kernel_rfl
theorem FA.size11 (x:FA):x.cells.size=11:=rfl
set_option maxRecDepth 100000 in
set_option maxHeartbeats 2000000 in
theorem family_t (w:World) (p mb:Nat) (room:Int) (X:List Nat) (b:GBk) (id:ByteArray) (h:BookAt w p mb room X b):Calls Tryz.prog 89 #[.pointer (some ⟨p,0,none⟩),.string id] w (FamPost w b id):=by
 obtain⟨l,hl1,hl2,hl3⟩:=h.hb;obtain⟨hx1,hx2,hx3,hx4⟩:=book_get (id:=id) hl2 hl3 h.ok;have hlk:=hl1.run_lookup_ok kStr (z:=zeroFA.val) uMsf (fun w=>by kernel_rfl) id;have hlk2:(Instr.lookup 181 (.map (some mb)) (.string id) true).run Tryz.prog=fun W=>(Instr.lookup 181 (.map (some mb)) (.string id) true).run Tryz.prog W:=rfl;clear hlk2;have hv:((aget id l).map FA.val).getD zeroFA.val=((aget id l).getD zeroFA).val:=by cases aget id l<;>rfl
 rw [hv,←hx3]at hlk;obtain⟨x,hxe⟩:∃z,Hid ((aget id l).getD zeroFA=z):=⟨_,zh rfl⟩
 rw [hxe.o]at hlk hx1 hx2 hx4;obtain⟨is,hise⟩:∃z,Hid ((aget id b).isSome=z):=⟨_,zh rfl⟩
 rw [hise.o]at hlk;have hisl:=zh (hx3.symm.trans hise.o);have hl1h:=zh hl1;have hx1h:=zh hx1;have hx2h:=zh hx2;have hx4h:=zh hx4;have hph:=zh h.hp;have hzs:∃zs:Array Value,zs.size=11∧Hid (zs=zeroFA.cells):=⟨_,rfl,zh rfl⟩
 obtain⟨zs,hz,hzh⟩:=hzs;clear hl1 hl2 hl3 hx1 hx2 hx3 hx4 hv h hlk;go_enter Tryz.func89,Tryz.ntmps89;go_upto_region 1 with(fail)
 refine wp_gen (fun W=>Blk W w.heap.size 26 zs∧Fr [] w W) ⟨by rw [hzh.o];exact Blk.new _ _ _,(Fr.refl _ _).alloc _⟩ ?_;rintro W ⟨hR,fW⟩;obtain⟨gr,HGR⟩:∃z,Hid (w.heap.size=z):=⟨_,zh rfl⟩
 rw [HGR.o]at hR⊢;have hP:=hph.o.fr fW (by simp);have hM:=hl1h.o.fr fW (by simp);have e0:=hP.cell 0;simp only [zG,zH]at e0;have hpl:=hP.lt;have hlk:=hM.run_lookup_ok kStr (z:=zeroFA.val) uMsf (fun w=>by kernel_rfl) id;have hv:((aget id l).map FA.val).getD zeroFA.val=((aget id l).getD zeroFA).val:=by cases aget id l<;>rfl
 have hx3:(aget id l).isSome=is:=hisl.o;rw [hv,hxe.o,hx3]at hlk;clear hv hx3 hP hM;have hrl:=hR.lt;have hRh:=zh hR;have fWh:=zh fW;have hgr:w.heap.size≤gr:=by have:=HGR.o;omega
 clear hR fW;go_upto_region 4 with(refine wpList_store_row rfl 26 _ _ rfl W.heap.size x.cells rfl rfl 26 _ (Blk.new _ _ _) (infoFamA x) (by rw [FA.size11];rfl) (FA.all1 x) ?_)
 refine wp_gen (fun W2=>Blk W2 W.heap.size 26 x.cells∧Fr [] W W2) ⟨Blk.setRow (Blk.new _ _ _) _,((Fr.refl [] W).alloc _).setRow (.inr (Nat.le_refl _)) _⟩ ?_;rintro W2 ⟨hB2,F2⟩;obtain⟨g6,HG6⟩:∃z,Hid (W.heap.size=z):=⟨_,zh rfl⟩
 rw [HG6.o]at hB2⊢;have f2:=fWh.o.trans F2;have hxW:=(hx1h.o.mono (Y:= []) (by simp)).fr f2;have hown:=own_t W2 x hxW (fam_short hxW hx4h.o);have hR2:=hRh.o.fr F2 (by simp);have f2h:=zh f2;have hR2h:=zh hR2;clear hlk e0 hpl hxW f2 F2 hR2 hrl;go_wp2_with (refine wpList_load_at rfl 26 _ rfl rfl hB2 (sub_self _) uFam rfl (infoFamL _) ?_;rw [Array.toArray_toList])
 refine Calls.mono (show Calls Tryz.prog 113 _ _ _ from hown) ?_;rintro e W3 ⟨y,rfl,hy,hw,F3⟩;have hR3:=hR2h.o.fr F3 (by simp);have hrl3:=hR3.lt;have f3:=zh (f2h.o.trans F3);have hwh:=zh hw;have hyh:=zh hy;clear hown F3 hw hy hB2;unfold FA.val;go_wp2_with (refine wpList_store_row rfl 26 _ _ rfl gr y.cells rfl rfl 26 zs hR3 (infoFamA y) (hz.trans (FA.size11 y).symm) (FA.all1 y) ?_)
 refine bodyPost_ret (v:= .tuple #[.agg y.cells,.bool is]) (results_ct (p:=4) (q:=5) rfl _ _ gr 26 y.cells (0,0) _ rfl (Blk.setRow hR3 _) uFam rfl (infoFamA y) rfl) rfl ?_;refine⟨y,by rw [hise.o];rfl,hyh.o.trans hx2h.o,?_,f3.o.setRow (.inr hgr) _⟩;have hw2:w.heap.size≤W2.heap.size:=f2h.o.size;exact(hwh.o.fr ((Fr.refl [gr] W3).setRow (.inl (by simp)) _) (fun g hg=>by
  have:=hR2h.o.lt;simp at hg;omega)).below hw2
def sortN (ks:List ByteArray):List ByteArray:=ks.foldl (fun acc s=>insN s acc) []
theorem sortN_go_mem {x:ByteArray}:∀(ks acc:List ByteArray),x∈ks.foldl (fun acc s=>insN s acc) acc↔x∈acc∨x∈ks
 | [],acc=>by simp
 |s::ks,acc=>by
  rw [List.foldl_cons,sortN_go_mem ks,mem_insN,List.mem_cons];constructor
  ·rintro((h |h) |h)
   ·exact .inr (.inl h)
   ·exact .inl h
   ·exact .inr (.inr h)
  ·rintro(h |h |h)
   ·exact .inl (.inr h)
   ·exact .inl (.inl h)
   ·exact .inr h
theorem mem_sortN {x:ByteArray}{ks:List ByteArray}:x∈sortN ks↔x∈ks:=by unfold sortN;rw [sortN_go_mem];simp
theorem sortN_go_rising:∀(ks acc:List ByteArray),RisN acc→RisN (ks.foldl (fun acc s=>insN s acc) acc)
 | [],_,h=>h
 |s::ks,acc,h=>by rw [List.foldl_cons];exact sortN_go_rising ks _ (insN_rising h)
theorem sortN_rising (ks:List ByteArray):RisN (sortN ks):=sortN_go_rising ks [] List.Pairwise.nil
theorem sortN_perm {ks:List ByteArray}(hn:ks.Nodup):ks.Perm (sortN ks):=(List.perm_ext_iff_of_nodup hn (risN_nodup (sortN_rising ks))).2 fun _s=>mem_sortN.symm
def idsM (b:GBk):List ByteArray:=sortN (b.map (·.1))
end Go.Proofs.YtpmgepijkhaonaaGreat
namespace Go.Proofs.YtpmgepijkhaonaaGreat
open Go.RowKit Go.Sig
def PredS (w:World) (S:List Nat) (f gx:Nat) (q:ByteArray→Bool):Prop:=∀(W:World) (s:ByteArray),Fr S w W→Calls Tryz.prog f #[.string s,.pointer (some ⟨gx,0,none⟩)] W fun e w'=>e= .returned (.bool (q s))∧Fr [] W w'
theorem PredS.fr {w w':World}{S:List Nat}{f gx:Nat}{q:ByteArray→Bool}(h:PredS w S f gx q) (hF:Fr S w w'):PredS w' S f gx q:=fun W s hW=>h W s (hF.trans hW)
end Go.Proofs.YtpmgepijkhaonaaGreat
