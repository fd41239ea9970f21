/- Walks: a nil book's command. Conditions: each theorem's own. -/
import Derived.Test.YtdeoinjjphdbmaaGreatHy
namespace Go.Proofs.YtdeoinjjphdbmaaGreat
open Go.RowKit Go.Sig
def OwnE (w:World) (e:TypeId) (s:Nat) (A:Option Addr) (n c:Nat):Prop:=∃zs,Own w e s (.slice A n c) n zs
def Keep (w w':World):Prop:=∀e s A n c,OwnE w e s A n c→OwnE w' e s A n c
theorem Keep.refl (w:World):Keep w w:=fun _ _ _ _ _ h=>h
theorem Keep.trans {a b c:World}(h:Keep a b) (k:Keep b c):Keep a c:=fun e s A n d hh=>k e s A n d (h e s A n d hh)
theorem Keep.fr {w w':World}(h:Fr [] w w'):Keep w w':=fun _ _ _ _ _ ⟨zs,hz⟩=>⟨zs,hz.fr h (by simp)⟩
theorem Keep.set (w:World) (g j:Nat) (v:Value):Keep w (w.setCell ⟨g,j,none⟩ v):=fun e s A n c ⟨zs,hz⟩=>by
 obtain⟨h1,h2⟩:=id hz
 rcases h2 with⟨hv,h0⟩ | ⟨g',cap,cur,hv,_,hh,hnc,hcm,hcs,htk⟩
 ·injection hv with a1 a2 a3
  subst a1 a2 a3
  exact⟨zs,⟨h1,.inl ⟨rfl,h0⟩⟩⟩
 ·injection hv with hv1 _ hv3
  subst hv1 hv3
  by_cases hg:g'=g
  ·subst hg
   have hB:Blk w g' e cur:=hh
   exact⟨(cur.setIfInBounds j v).toList.take (n*s),⟨by rw [List.length_take,Array.length_toList,Array.size_setIfInBounds,hcs];exact Nat.min_eq_left (Nat.mul_le_mul_right _ hnc),.inr ⟨g',c,_,rfl,Nat.zero_le _,hB.set j v,hnc,hcm,by rw [Array.size_setIfInBounds];exact hcs,rfl⟩⟩⟩
  ·exact⟨zs,hz.fr ((Fr.refl [g] w).setCell (p:=⟨g,j,none⟩) (.inl (by simp)) v) (fun i hi=>by
    obtain⟨ad,e1,rfl⟩:=rowOf_mem.1 hi
    obtain rfl:=Option.some.inj e1
    simpa using hg)⟩
theorem own_cell {w:World}{e:TypeId}{s n c j:Nat}{A:Option Addr}(h:OwnE w e s A n c) (hj:j<n*s):∃g v,A=some ⟨g,0,none⟩∧w.cell? ⟨g,j,none⟩=some v∧w.frozen? ⟨g,j,none⟩=false∧g<w.heap.size:=by
 obtain⟨zs,h1,h2⟩:=h
 rcases h2 with⟨_,h0⟩ | ⟨g',cap,cur,hv,_,hh,hnc,hcm,hcs,htk⟩
 ·subst h0
  omega
 ·injection hv with hv1 _ hv3
  subst hv1 hv3
  have hB:Blk w g' e cur:=hh
  have hjc:j<cur.size:=by have:=Nat.mul_le_mul_right s hnc;omega
  exact⟨g',cur[j],rfl,by rw [hB.cell];exact Array.getElem?_eq_getElem hjc,hB.frozen j,hB.lt⟩
theorem own_ne {w:World}{e1 e2:TypeId}{s1 s2 n1 n2 c1 c2:Nat}{A1 A2:Option Addr}(h1:OwnE w e1 s1 A1 n1 c1) (h2:OwnE w e2 s2 A2 n2 c2) (he:e1≠e2):∀g∈rowOf (.slice A1 n1 c1),g∉rowOf (.slice A2 n2 c2):=fun g hg hg2=>by
 obtain⟨ad,ea,rfl⟩:=rowOf_mem.1 hg
 obtain⟨ad2,eb,e3⟩:=rowOf_mem.1 hg2
 obtain⟨zs,_,k1⟩:=h1
 obtain⟨ys,_,k2⟩:=h2
 rcases k1 with⟨hv,_⟩ | ⟨g1,cap1,cur1,hv1,_,hh1,_⟩
 ·injection hv with hv _ _
  rw [ea]at hv
  cases hv
 rcases k2 with⟨hv,_⟩ | ⟨g2,cap2,cur2,hv2,_,hh2,_⟩
 ·injection hv with hv _ _
  rw [eb]at hv
  cases hv
 injection hv1 with hv1 _ _
 injection hv2 with hv2 _ _
 rw [ea]at hv1
 rw [eb]at hv2
 obtain rfl:=Option.some.inj hv1
 obtain rfl:=Option.some.inj hv2
 simp only at e3
 subst e3
 rw [hh1]at hh2
 injection hh2 with hh2
 injection hh2 with _ h5 _
 exact he h5
theorem own_fr_ty {w w':World}{e1 e2:TypeId}{s1 s2 n1 n2 c1 c2:Nat}{A1 A2:Option Addr}{zs:List Value}(h1:Own w e1 s1 (.slice A1 n1 c1) n1 zs) (h2:OwnE w e2 s2 A2 n2 c2) (he:e1≠e2) (hF:Fr (rowOf (.slice A2 n2 c2)) w w'):Own w' e1 s1 (.slice A1 n1 c1) n1 zs:=
 h1.fr hF (own_ne ⟨zs,h1⟩ h2 he)
theorem famw_fr_ty {w w':World}{B n c:Nat}{A:Option Addr}{x:FA}(h:FamW w B x) (h2:OwnE w 39 11 A n c) (hF:Fr (rowOf (.slice A n c)) w w'):FamW w' B x:=
 ⟨h.ts,own_fr_ty h.scope h2 (by decide) hF,own_fr_ty h.toks h2 (by decide) hF,own_fr_ty h.leases h2 (by decide) hF,fun t ht=>own_fr_ty (h.each t ht) h2 (by decide) hF,h.fs,h.ft,h.fl,h.fe,h.ts_,h.tl,h.te,h.ls,h.le⟩
def Fams2Post (w:World) (fs:List GFam) (e:Ending) (w':World):Prop:=∃(l:List FA) (A:Option Addr) (c:Nat),e= .returned (.slice A l.length c)∧l.map (·.f)=fs∧FamsAt w w' A c l∧(∀x∈l,FamW w' w.heap.size x)∧Fr [] w w'
set_option maxRecDepth 100000 in
set_option maxHeartbeats 4000000 in
theorem fams2_t (w:World) (p mb:Nat) (room:Int) (X:List Nat) (b:GBk) (h:BookAt w p mb room X b) (hmax:b.length≤1000000):Calls Tryz.prog 19 #[.pointer (some ⟨p,0,none⟩)] w (Fams2Post w (famsM b)):=by
 have hids:=ids_t w p mb room X b h hmax
 have hil:=idsM_len b
 have hh:=zh h
 have hpl:=h.hp.lt
 clear h
 go_enter Tryz.func19,Tryz.ntmps19
 go_wp2_with fail
 refine hids.mono ?_
 rintro e W1 ⟨v,rfl,hO,F1,hrow⟩
 obtain⟨A,c,rfl,hA⟩:=hO.form
 obtain⟨n,hn⟩:∃z,Hid ((idsM b).length=z):=⟨_,zh rfl⟩
 rw [hn.o]at hO hil⊢
 have hRd:=zh hO.rd
 have F1h:=zh F1
 have hnm:=Nat.le_trans hil hmax
 clear hids hO F1 hrow hA hil
 go_wp2_with fail
 go_loopg [3,9] (n+1) (fun gk s3 s9 wr=>∃(i:Nat) (l:List FA) (B:Option Addr) (d:Nat),s9= .int .i64 i∧s3= .slice B l.length d∧i≤n∧l.length=i∧n - i<gk∧l.map (·.f)=((idsM b).take i).map (fun k=>(aget k b).getD zeroF)∧FamsAt W1 wr B d l∧(∀x∈l,FamW wr w.heap.size x)∧Fr [] W1 wr)
 case atStart=>exact⟨0,[],none,0,rfl,rfl,by omega,rfl,by omega,rfl,FamsAt.nil _ _,fun x hx=>(by cases hx),Fr.refl _ _⟩
 case round=>
  obtain⟨i,l,B,d,rfl,rfl,hi,hli,hk,hmap,hFA,hFW,hF⟩:=hrel
  have hFWh:=zh hFW
  clear hFW
  have hFh:=zh hF
  have hFAh:=zh hFA
  have hmaph:=zh hmap
  have hlih:=zh hli
  rw [hli]
  clear hF hFA hmap hli
  by_cases hlt:i<n
  ·have hlt':(i:Int)<n:=by omega
   have hlth:=zh hlt
   have hiid:i<(idsM b).length:=by rw [hn.o];exact hlt
   obtain⟨b0,o0,rfl,hc⟩:=(Rd.fr hRd.o hFh.o (by simp [Off])).2 (by omega)
   have ck:=hc i _ (strCells_at hiid)
   have hB:=hh.o.fr0 (F1h.o.trans hFh.o)
   have htk:=zh (show((idsM b).take (i+1)).map (fun k=>(aget k b).getD zeroF)=((idsM b).take i).map (fun k=>(aget k b).getD zeroF)++ [(aget (idsM b)[i] b).getD zeroF] by rw [List.take_succ_eq_append_getElem hiid,List.map_append];rfl)
   obtain⟨id,hid⟩:∃z,Hid ((idsM b)[i]=z):=⟨_,zh rfl⟩
   rw [hid.o]at ck htk
   obtain⟨l0,hl1,hl2,hl3⟩:=hB.hb
   obtain⟨hx1,hx2,hx3,hx4⟩:=book_get (id:=id) hl2 hl3 hB.ok
   have hlk:=hl1.run_lookup kStr (z:=zeroFA.val) uMsf (fun w=>by kernel_rfl) id
   have hv:((aget id l0).map FA.val).getD zeroFA.val=((aget id l0).getD zeroFA).val:=by cases aget id l0<;>rfl
   rw [hv]at hlk
   obtain⟨x,hxe⟩:∃z,Hid ((aget id l0).getD zeroFA=z):=⟨_,zh rfl⟩
   rw [hxe.o]at hlk hx1 hx2 hx4
   have e0:=hB.hp.cell 0
   simp only [zG,zH]at e0
   have hpw:=hB.hp.lt
   have hxW:=hx1.mono (Y:= []) (by simp)
   have hown:=own_t wr x hxW (fam_short hxW hx4)
   have hx2h:=zh hx2
   have hrow:=hFAh.o.row
   rw [hlih.o]at hrow
   have hrowh:=zh hrow
   clear hc hB hl1 hl2 hl3 hx1 hx2 hx3 hx4 hv hxW hrow
   go_wp2_with fail
   refine Calls.mono (show Calls Tryz.prog 46 _ _ _ from hown) ?_
   rintro e W2 ⟨y,rfl,hy,hw,F2⟩
   have hyh:=zh hy
   have hwh:=zh hw
   have F2h:=zh F2
   clear hown hlk hy hw F2 e0
   unfold FA.val FA.cells
   go_wp2_with (refine wpList_own_append tFams ((hrowh.o.fr F2h.o (by simp)).fr ((Fr.refl [] _).alloc _) (by simp)) (fam_new W2 y _) (famCells_one _) (by simp) (by unfold maxLen;omega) (by omega) rfl rfl rfl rfl (fun v2 w2 p1 p2 p3=> ?_);obtain⟨A3,c3,rfl,hA3⟩:=p1.form)
   go_roundg (n - i)
   case measure=>have:=hlth.o;omega
   case rel=>
    refine⟨i+1,l++ [y],A3,c3,by go_num,by rw [List.length_append,hlih.o];rfl,by have:=hlth.o;omega,by rw [List.length_append,hlih.o];rfl,by have:=hlth.o;omega,?_,hFAh.o.push hlih.o hwh.o F2h.o ((Fr.refl [] _).alloc _) p1 p2 p3 hFh.o.size,fun x hx=> ?_,?_⟩
    ·rw [List.map_append,hmaph.o,htk.o,←hx2h.o,←hyh.o]
     rfl
    ·refine famw_fr_ty ?_ ⟨_,(hrowh.o.fr F2h.o (by simp)).fr (((Fr.refl [] W2).alloc _)) (by simp)⟩ p2
     rcases List.mem_append.1 hx with hx |hx
     ·exact((hFWh.o x hx).fr0 F2h.o).fr0 ((Fr.refl [] W2).alloc _)
     ·rw [List.mem_singleton.1 hx]
      exact(hwh.o.below (by have:=F1h.o.size;have:=hFh.o.size;omega)).fr0 ((Fr.refl [] W2).alloc _)
    ·refine(hFh.o.trans (F2h.o.alloc _)).andThen p2 (fun g hg=> .inr ?_)
     have:=hFAh.o.fresh
     rw [hlih.o]at this
     exact this g hg
  ·have hin:i=n:=by omega
   have hge:¬(i:Int)<n:=by omega
   have hmap2:=zh (show l.map (·.f)=famsM b by rw [hmaph.o,hin,←hn.o,List.take_length];rfl)
   clear hlt hk
   go_wp2
   go_ret
   exact⟨l,B,d,by rw [hlih.o,hin];rfl,hmap2.o,hFAh.o.base F1h.o.size,hFWh.o,F1h.o.trans hFh.o⟩
def WipePost (w:World) (S:List Nat) (e:Ending) (w':World):Prop:=e= .returned (.tuple #[])∧Keep w w'∧Fr S w w'
set_option maxRecDepth 100000 in
theorem wipe_t (w:World) (A:Option Addr) (n c:Nat) (h:OwnE w 9 1 A n c) (hmax:n≤8796093022208):Calls Tryz.prog 38 #[.slice A n c] w (WipePost w (rowOf (.slice A n c))):=by
 have hh:=zh h
 clear h
 go_enter Tryz.func38,Tryz.ntmps38
 go_wp2_with fail
 go_loopg [2] (n+1) (fun gk s2 wr=>∃i:Nat,s2= .int .i64 i∧i≤n∧n - i<gk∧Keep w wr∧Fr (rowOf (.slice A n c)) w wr)
 case atStart=>exact⟨0,rfl,by omega,by omega,Keep.refl _,Fr.refl _ _⟩
 case round=>
  obtain⟨i,rfl,hi,hk,hK,hF⟩:=hrel
  have hKh:=zh hK
  have hFh:=zh hF
  clear hK hF
  by_cases hlt:i<n
  ·have hlt':(i:Int)<n:=by omega
   have hlth:=zh hlt
   obtain⟨g,v,rfl,hc,hz,hg⟩:=own_cell (hKh.o _ _ _ _ _ hh.o) (j:=i) (by omega)
   go_wp2_with fail
   go_roundg (n - i)
   case measure=>have:=hlth.o;omega
   case rel=>exact⟨i+1,by go_num,by have:=hlth.o;omega,by have:=hlth.o;omega,hKh.o.trans (Keep.set _ _ _ _),hFh.o.setCell (p:=⟨g,i,none⟩) (.inl (by simp [rowOf,Value.ownBlock])) _⟩
  ·have hge:¬(i:Int)<n:=by omega
   go_wp2_with fail
   (try simp only [Exit.inBlock,Exit.then]);refine bodyPost_ret (results_none rfl _ _ _) rfl ?_
   exact⟨rfl,hKh.o,hFh.o⟩
def CopyPost (w:World) (room:Int) (e:Ending) (w':World):Prop:=∃p mb b,e= .returned (.pointer (some ⟨p,0,none⟩))∧BookAt w' p mb room [mb] b∧w.heap.size≤p∧w.heap.size≤mb∧Fr [] w w'
set_option maxRecDepth 100000 in
set_option maxHeartbeats 4000000 in
theorem copy_t (w:World) (p mb:Nat) (room:Int) (X:List Nat) (b:GBk) (h:BookAt w p mb room X b):Calls Tryz.prog 37 #[.pointer (some ⟨p,0,none⟩)] w (CopyPost w room):=by
 have hmm:= @run_makeMap Tryz.prog
 obtain⟨l,hl1,hl2,hl3⟩:=h.hb
 obtain⟨lbm,clock,hBm,hlbm⟩:=hl1.stamps
 have hinc:=zh (hBm.inc.imp (fun{a b} (h:a<b) (e:a=b)=>by omega):(lbm.map (·.2.2)).Nodup)
 have hone:∀y∈lbm,y.2.1.f.id=y.1∧FamOk y.2.1.f∧FamIn w [] y.2.1:=fun y hy=>by
  have hm:(y.1,y.2.1)∈l:=by rw [←hlbm];exact List.mem_map_of_mem (f:=fun x:ByteArray×FA×Nat=>(x.1,x.2.1)) hy
  have hb:(y.1,y.2.1.f)∈b:=by rw [←hl2];exact List.mem_map_of_mem (f:=fun p:ByteArray×FA=>(p.1,p.2.f)) hm
  obtain⟨h1,h2⟩:=h.ok.2 _ _ (aget_of_mem h.ok.1 hb)
  exact⟨h1,h2,(hl3 _ hm).mono (by simp)⟩
 have honeh:=zh hone
 have hph:=zh h.hp
 have hBmh:=zh hBm
 have e1:=h.hp.cell 1
 simp only [zG,zH,zI]at e1
 have hpl:=h.hp.lt
 clear hl1 hl2 hl3 hlbm hBm hone h
 go_enter Tryz.func37,Tryz.ntmps37
 go_upto_region 4 with(fail)
 refine wp_gen (fun W=>BookAt W (w.heap.size+1) w.heap.size room [w.heap.size] []∧Fr [] w W) ⟨⟨Blk.new' _ _ (by simp),⟨[],(IsMap.new w Value.string FA.val).alloc _,rfl,fun p hp=>by cases hp⟩,bkOk_nil,fun g hg=>by simp at hg;simp;omega,by simp,by omega⟩,((Fr.refl [] w).alloc _).alloc _⟩ ?_
 rintro W ⟨hBk,F0⟩
 obtain⟨m2,HM2⟩:∃z,Hid (w.heap.size=z):=⟨_,zh rfl⟩
 rw [HM2.o]at hBk⊢
 obtain⟨p2,HP2⟩:∃z,Hid (m2+1=z):=⟨_,zh rfl⟩
 rw [HP2.o]at hBk⊢
 have hm2l:m2<W.heap.size:=hBk.hX m2 hBk.hmb
 have hp2l:p2<W.heap.size:=hBk.hp.lt
 have hBkh:=zh hBk
 have F0h:=zh F0
 clear e1 hpl hmm hBk F0
 have hP:=hph.o.fr F0h.o (by simp)
 have e0:=hP.cell 0
 simp only [zG,zH]at e0
 have hpl:=hP.lt
 have hrun:=(hBmh.o.fr F0h.o (by simp)).run_range uMsf
 have hlts:=zh (show m2<W.heap.size∧p2<W.heap.size from⟨hm2l,hp2l⟩)
 clear hP hm2l hp2l
 go_wp2_with fail
 go_loopg [4,5] (lbm.length+1) (fun gk s4 s5 wr=>∃(seen:Array Nat) (b2:GBk),(todo lbm seen).length<gk∧It wr W.heap.size mb clock seen∧IsMapB wr mb Value.string FA.val lbm clock∧BookAt wr p2 m2 room ([m2]++ [W.heap.size]) b2∧Fr [] w wr∧W.heap.size<wr.heap.size)
 case atStart=>exact⟨#[],[],by have:=List.length_filter_le (fun x:ByteArray×FA×Nat=> !(#[]:Array Nat).contains x.2.2) lbm;unfold todo;omega,It.new W mb clock,(hBmh.o.fr F0h.o (by simp)).fr ((Fr.refl [] W).alloc _) (by simp),hBkh.o.more ((Fr.refl [] W).alloc _) (fun g hg=>by simp at hg;simp;omega),F0h.o.alloc _,by simp⟩
 case round=>
  obtain⟨seen,b2,hk,hI,hMr,hBr,hFr,hsz⟩:=hrel
  have hIh:=zh hI
  have hMrh:=zh hMr
  have hBrh:=zh hBr
  have hFrh:=zh hFr
  have hrm:=hI.ne hMr
  have hrl:=hI.lt
  have hmbw:mb<w.heap.size:=hBmh.o.lt
  clear hBr hFr hpl e0 hrun
  go_upto_region 6 with(first
   | (refine wpList_map_next hMr hI rfl rfl rfl (fun h0=> ?_) (fun x wn hx hIn hMn ht=> ?_)))
  ·go_wp2_with fail
   go_ret
   exact⟨p2,m2,b2,rfl,hBrh.o.mono (by simp) (by simp),by have:=HM2.o;have:=HP2.o;omega,by have:=HM2.o;omega,hFrh.o⟩
  ·obtain⟨o1,o2,o3⟩:=honeh.o x (mem_todo hx)
   have o1h:=zh o1
   have o2h:=zh o2
   have o3h:=zh o3
   have hxh:=zh hx
   have hxm:=zh (mem_todo hx)
   have hth:=zh ht.fr
   clear o1 o2 o3 ht
   go_upto_region 7 with(first
    | (refine wpList_map_entry hMn hIn hxm.o rfl rfl rfl ?_)
    | (refine wpList_store_row rfl 39 _ _ rfl wn.heap.size x.2.1.cells rfl rfl 39 _ (Blk.new _ _ _) (infoFamA x.2.1) (by rw [FA.size11];rfl) (FA.all1 x.2.1) ?_))
   refine wp_gen (fun V=>Blk V wn.heap.size 39 x.2.1.cells∧Fr [] wn V) ⟨Blk.setRow (Blk.new _ _ _) _,((Fr.refl [] wn).alloc _).setRow (.inr (Nat.le_refl _)) _⟩ ?_
   rintro V ⟨hB5,F5⟩
   obtain⟨g5,HG5⟩:∃z,Hid (wn.heap.size=z):=⟨_,zh rfl⟩
   rw [HG5.o]at hB5⊢
   have hltn:=hlts.o
   have hBn:BookAt wn p2 m2 room ([m2]++ [W.heap.size]) b2:=hBrh.o.fr hth.o (fun g hg=>by simp at hg;simp [hg]) (by simp;omega) (by simp;omega)
   have F5h:=zh F5
   have hFn:Fr [] w wn:=hFrh.o.andThen hth.o (fun g hg=> .inr (by simp at hg;have:=F0h.o.size;omega))
   have hFV:=zh (hFn.trans F5)
   have hB4h:=zh (hBn.fr0 F5)
   obtain⟨l2,q1,q2,q3⟩:=hB4h.o.hb
   have hP4:=hB4h.o.hp
   have e0:=hP4.cell 0
   simp only [zG,zH]at e0
   have rB:=range_cells hB5
   have rB':V.rangeAt g5 0 [.string x.2.1.f.id,.string x.2.1.f.client,.string x.2.1.f.user,.slice x.2.1.sA x.2.1.f.scope.length x.2.1.sc,.string x.2.1.f.redirect,.string x.2.1.f.challenge,.string x.2.1.f.method,.int .i64 x.2.1.f.code,.slice x.2.1.tA x.2.1.ts.length x.2.1.tc,.bool x.2.1.f.revoked,.slice x.2.1.lA x.2.1.f.leases.length x.2.1.lc]:=rB
   have hpl:=hP4.lt
   have hxV:=o3h.o.fr hFV.o
   have hown:=own_t V.drew x.2.1 (hxV.fr ((Fr.refl [] V).drew)) (fam_short hxV (.inl o2h.o))
   have hM4h:=zh q1
   have hq2:=zh q2
   have hq3:=zh q3
   have hIV:=zh (hIn.fr F5 (by simp))
   have hMV:=zh (hMn.fr F5 (by simp))
   have hszV:W.heap.size<V.heap.size:=by have:=F5.size;have:=hth.o.size;omega
   clear hBn F5 hFn q1 q2 q3 hP4 rB hxV hIn hMn hx hMr hI hltn
   refine wp_region_z (fun w'=>w'.cell? ⟨p2,0,none⟩=some (.map (some m2))∧w'.rangeAt g5 0 [.string x.2.1.f.id,.string x.2.1.f.client,.string x.2.1.f.user,.slice x.2.1.sA x.2.1.f.scope.length x.2.1.sc,.string x.2.1.f.redirect,.string x.2.1.f.challenge,.string x.2.1.f.method,.int .i64 x.2.1.f.code,.slice x.2.1.tA x.2.1.ts.length x.2.1.tc,.bool x.2.1.f.revoked,.slice x.2.1.lA x.2.1.f.leases.length x.2.1.lc]) [7] (by kernel_rfl) ⟨cell_fr ((Fr.refl [] V).drew) e0,range_fr1 ((Fr.refl [] V).drew) rB'⟩ ?_
   intro hHeld
   refine wpZ_tk (i:=0) (v:= ?_) hHeld ?_ ?_
   rotate_left
   ·(intro w hSw;go_simp<;>with_reducible rfl)
   try simp only [zA,zC,Act.put,zD,zE,zF]
   refine wpZ_tk (i:=1) (v:= ?_) hHeld ?_ ?_
   rotate_left
   ·(intro w hSw;go_simp<;>with_reducible rfl)
   try simp only [zA,zB,zC,Act.put,zD,zE,zF]
   refine wpZ_tk (i:=2) (v:= ?_) hHeld ?_ ?_
   rotate_left
   ·(intro w hSw;go_simp<;>with_reducible rfl)
   try simp only [zA,zB,zC,Act.put,zD,zE,zF]
   refine wpZ_tk (i:=3) (v:= ?_) hHeld ?_ ?_
   rotate_left
   ·(intro w hSw;go_simp<;>with_reducible rfl)
   try simp only [zA,zB,zC,Act.put,zD,zE,zF]
   refine wpZ_tk (i:=4) (v:= ?_) hHeld ?_ ?_
   rotate_left
   ·(intro w hSw;go_simp<;>with_reducible rfl)
   try simp only [zA,zB,zC,Act.put,zD,zE,zF]
   refine wpZ_take (i:=5) rfl (by kernel_rfl) (by kernel_rfl) (by kernel_rfl) (by kernel_rfl) (fun _ _ _ h=>h) (yieldsIf_load_mid (by kernel_rfl) 39 _ rfl g5 0 rfl ([.string x.2.1.f.id,.string x.2.1.f.client,.string x.2.1.f.user,.slice x.2.1.sA x.2.1.f.scope.length x.2.1.sc,.string x.2.1.f.redirect,.string x.2.1.f.challenge,.string x.2.1.f.method,.int .i64 x.2.1.f.code,.slice x.2.1.tA x.2.1.ts.length x.2.1.tc,.bool x.2.1.f.revoked,.slice x.2.1.lA x.2.1.f.leases.length x.2.1.lc]) _ (fun w h=>h.2) uFam rfl (by kernel_rfl)) hHeld ?_
   try simp only [zA,zB,zC,Act.put,zD,zE,zF]
   refine wpZ_one (i:=6) (by kernel_rfl) rfl (fun K hK=> ?_)
   go_simp
   refine Calls.mono (show Calls Tryz.prog _ _ _ _ from hown) ?_
   rintro e W5 ⟨y,rfl,hy,hw5,F5'⟩
   have F5':Fr [] V W5:=F5'.of_drew
   have hw5:FamW W5 V.heap.size y:=hw5
   obtain⟨W6,hrun,hM6,hT6⟩:=(hM4h.o.fr F5' (by simp)).run_update kStr uMsf x.1 y
   have FS6:Fr [m2] W5 W6:=hT6.fr
   try dsimp only
   refine hK.out _ _ ⟨cell_fr F5' e0,range_fr1 F5' rB'⟩ (fun hHeld=> ?_)
   clear hK K
   try simp only [zA,zB,zC,Act.put,zD,zE,zF]
   refine wpZ_end (i:=7) (by kernel_rfl) rfl rfl (fun K hK=> ?_)
   go_simp
   refine hK.out _ _ ?_
   clear hK K
   try simp only [zA,zB,zC,Act.put,zD,zE,zF]
   refine wpZ_done (by kernel_rfl) ?_ _
   go_wp2_with fail
   go_roundg ((todo lbm (seen.push x.2.2)).length+1)
   case measure=>have:=todo_lt hxh.o;omega
   case rel=>
    have hm2W:m2<W.heap.size:=hlts.o.1
    have hFT:Fr [m2] V W6:=F5'.nil.trans FS6
    have hX2:∀g∈ [m2]++ [W.heap.size],g<V.heap.size:=hB4h.o.hX
    have hy5:=hw5.fr FS6 (fun g hg=>by simp at hg;rw [hg];omega)
    have hbk:=bk_aset (w0:=V) l2 hq2.o hM6 hq3.o F5' FS6 (by simp) (Y:= []) (by simp) (by rw [List.append_nil];exact hy5.fam hX2)
    rw [List.append_nil,hy]at hbk
    exact⟨_,_,Nat.lt_succ_self _,hIV.o.fr hFT (by simp;omega),hMV.o.fr hFT (by simp;have:=F0h.o.size;have:=HM2.o;omega),⟨hB4h.o.hp.fr hFT (by simp;exact hB4h.o.hne),hbk,aset_ok hB4h.o.ok o1h.o o2h.o,fun g hg=>Nat.lt_of_lt_of_le (hX2 g hg) hFT.size,by simp,hB4h.o.hne⟩,hFV.o.andThen hFT (fun g hg=> .inr (by simp at hg;have:=HM2.o;omega)),by have:=hFT.size;omega⟩
end Go.Proofs.YtdeoinjjphdbmaaGreat
namespace Go.Proofs.YtdeoinjjphdbmaaGreat
open Go.RowKit Go.Sig
theorem room_nil (w:World):Calls Tryz.prog 28 #[.pointer none] w fun e w'=>e= .returned (.int .i64 0)∧w=w':=by
 go_enter Tryz.func28,Tryz.ntmps28
 go_wp2
 go_ret
 exact⟨rfl,rfl⟩
theorem count_nil (w:World):Calls Tryz.prog 26 #[.pointer none] w fun e w'=>e= .returned (.int .i64 0)∧w=w':=by
 go_enter Tryz.func26,Tryz.ntmps26
 go_wp2
 go_ret
 exact⟨rfl,rfl⟩
theorem copy_nil (w:World):Calls Tryz.prog 37 #[.pointer none] w fun e w'=>e= .returned (.pointer none)∧w=w':=by
 go_enter Tryz.func37,Tryz.ntmps37
 go_wp2
 go_ret
 exact⟨rfl,rfl⟩
theorem drop_nil (w:World) (s:ByteArray):Calls Tryz.prog 36 #[.pointer none,.string s] w fun e w'=>e= .returned (.int .i64 12)∧w=w':=by
 go_enter Tryz.func36,Tryz.ntmps36
 go_wp2
 go_ret
 exact⟨rfl,rfl⟩
theorem put_nil (w:World) (x:FA):Calls Tryz.prog 34 #[.pointer none,x.val] w fun e w'=>e= .returned (.int .i64 12)∧Fr [] w w':=by
 unfold FA.val
 go_enter Tryz.func34,Tryz.ntmps34
 go_wp2
 go_ret
 exact⟨rfl,(Fr.refl _ _).alloc _⟩
theorem ids_nil (w:World):Calls Tryz.prog 53 #[.pointer none] w fun e w'=>e= .returned (.slice none 0 0)∧w=w':=by
 have hs:=sortS0_t w none 0
 go_enter Tryz.func53,Tryz.ntmps53
 go_wp2_with (go_at_call 80;refine hs.mono ?_;rintro e w' ⟨rfl,rfl⟩)
 go_ret
 exact⟨rfl,rfl⟩
theorem families_nil (w:World):Calls Tryz.prog 19 #[.pointer none] w fun e w'=>e= .returned (.slice none 0 0)∧w=w':=by
 have hs:=ids_nil w
 go_enter Tryz.func19,Tryz.ntmps19
 go_wp2_with fail
 refine hs.mono ?_
 rintro e w' ⟨rfl,rfl⟩
 go_wp2_with fail
 go_loopg [3,9] 1 (fun gk s3 s9 wr=>s9= .int .i64 0∧s3= .slice none 0 0∧0<gk∧w=wr)
 case atStart=>exact⟨rfl,rfl,by omega,rfl⟩
 case round=>
  obtain⟨rfl,rfl,hk,rfl⟩:=hrel
  go_wp2
  go_ret
  exact⟨rfl,rfl⟩
theorem idxS_nil (w:World) (f gx:Nat):Calls Tryz.prog 91 #[.slice none 0 0,.func (.func f) #[] #[.pointer (some ⟨gx,0,none⟩)]] w fun e w'=>e= .returned (.int .i64 (-1))∧w=w':=by
 go_enter Tryz.func91,Tryz.ntmps91
 go_wp2_with fail
 go_loopg [5,8] 1 (fun gk s5 s8 wr=>s8= .int .i64 0∧0<gk∧w=wr)
 case atStart=>exact⟨rfl,by omega,rfl⟩
 case round=>
  obtain⟨rfl,hk,rfl⟩:=hrel
  go_wp2
  go_ret
  exact⟨rfl,rfl⟩
theorem delS_nil (w:World) (f gx:Nat):Calls Tryz.prog 61 #[.slice none 0 0,.func (.func f) #[] #[.pointer (some ⟨gx,0,none⟩)]] w fun e w'=>e= .returned (.slice none 0 0)∧Fr [] w w':=by
 have hs:=fun W=>idxS_nil W f gx
 go_enter Tryz.func61,Tryz.ntmps61
 go_wp2_with (go_at_call 91;refine(hs _).mono ?_;rintro e w' ⟨rfl,rfl⟩)
 go_ret
 exact⟨rfl,by first |exact Fr.refl _ _ |exact(Fr.refl _ _).alloc _⟩
theorem pending_nil (w:World):Calls Tryz.prog 30 #[.pointer none] w fun e w'=>e= .returned (.slice none 0 0)∧Fr [] w w':=by
 have hi:=fun W=>ids_nil W
 have hd:=fun W f g=>delS_nil W f g
 go_enter Tryz.func30,Tryz.ntmps30
 go_wp2_with (first
  | (go_at_call 53;refine(hi _).mono ?_;rintro e w' ⟨rfl,rfl⟩)
  | (go_at_call 61;refine(hd _ _ _).mono ?_;rintro e w' ⟨rfl,F⟩))
 go_ret
 exact⟨rfl,((Fr.refl [] w).alloc _).trans F⟩
set_option maxRecDepth 100000 in
theorem family_nil (w:World) (s:ByteArray):Calls Tryz.prog 16 #[.pointer none,.string s] w fun e w'=>e= .returned (.tuple #[zeroFA.val,.bool false])∧Fr [] w w':=by
 have hzs:∃zs:Array Value,zs.size=11∧Hid (zs=zeroFA.cells):=⟨_,rfl,zh rfl⟩
 obtain⟨zs,hz,hzh⟩:=hzs
 go_enter Tryz.func16,Tryz.ntmps16
 go_upto_region 1 with(fail)
 refine wp_gen (fun W=>Blk W w.heap.size 39 zs∧Fr [] w W) ⟨by rw [hzh.o];exact Blk.new _ _ _,(Fr.refl _ _).alloc _⟩ ?_
 rintro W ⟨hR,fW⟩
 obtain⟨gr,HGR⟩:∃z,Hid (w.heap.size=z):=⟨_,zh rfl⟩
 rw [HGR.o]at hR⊢
 go_wp2_with (refine wpList_store_row rfl 39 _ _ rfl gr zeroFA.cells rfl rfl 39 zs hR (infoFamA zeroFA) (hz.trans (FA.size11 zeroFA).symm) (FA.all1 zeroFA) ?_)
 refine bodyPost_ret (v:= .tuple #[.agg zeroFA.cells,.bool false]) (results_ct (p:=4) (q:=5) rfl _ _ gr 39 zeroFA.cells (0,0) _ rfl (Blk.setRow hR _) uFam rfl (infoFamA zeroFA) rfl) rfl ?_
 exact⟨rfl,fW.setRow (.inr (Nat.le_of_eq HGR.o)) _⟩
end Go.Proofs.YtdeoinjjphdbmaaGreat
namespace Go.Proofs.YtdeoinjjphdbmaaGreat
open Go.RowKit Go.Sig
theorem lookup_nil (s:ByteArray) (W:World):(Instr.lookup 75 (.map none) (.string s) true).run Tryz.prog W= .ok (.tuple #[zeroFA.val,.bool false]) W:=by
 first
  |kernel_rfl
  |simp [Instr.lookup]
set_option maxRecDepth 100000 in
set_option maxHeartbeats 4000000 in
theorem begin_nil (w:World) (gb:Nat) (c:GCmd) (A:Option Addr) (n d:Nat) (x:FA) (hb:Blk w gb 77 #[.map none,.int .i64 0]):
  Calls Tryz.prog 40 #[.pointer (some ⟨gb,0,none⟩),.agg (cmdV c A n d),x.val,.bool false] w fun e w'=>e= .returned (AA.mk (noA 7) none 0).val∧Fr [] w w':=by
 have hbh:=zh hb
 clear hb
 unfold cmdV FA.val FA.cells
 have hzs:∃zs:Array Value,zs.size=8∧Hid (zs=(AA.mk (noA 0) none 0).cells):=⟨_,rfl,zh rfl⟩
 obtain⟨zs,hz,hzh⟩:=hzs
 go_enter Tryz.func40,Tryz.ntmps40
 go_upto_region 1 with(fail)
 refine wp_gen (fun W=>Blk W (w.heap.size+1+1) 33 zs∧Fr [] w W) ⟨by rw [hzh.o];exact Blk.new' _ _ (by simp),(((Fr.refl _ _).alloc _).alloc _).alloc _⟩ ?_
 rintro W ⟨hR,fW⟩
 obtain⟨gr,HGR⟩:∃z,Hid (w.heap.size+1+1=z):=⟨_,zh rfl⟩
 have hgr:w.heap.size≤gr:=by have:=HGR.o;omega
 rw [HGR.o]at hR⊢
 have hRh:=zh hR
 have fWh:=zh fW
 clear hR fW
 go_upto_region 3 with(fail)
 refine wp_still_gen (fun w1=>Blk w1 gb 77 #[.map none,.int .i64 0]∧Fr [] W w1) ⟨(hbh.o.fr fWh.o (by simp)).drew,(Fr.refl [] W).drew⟩ (by kernel_rfl) (by kernel_rfl) ?_
 rintro w1 ⟨h2,f1⟩
 have e0:=h2.cell 0
 have e1:=h2.cell 1
 simp only [zG,zH,zI]at e0 e1
 have hp1:=h2.lt
 repeat still_step
 refine wpStill_nil ?_
 have f1h:=zh f1
 have hno:=no_t w1 7
 clear e0 e1 hp1 h2 f1
 go_wp2_with fail
 refine hno.mono ?_
 rintro e W2 ⟨rfl,F2⟩
 have F2h:=zh ((fWh.o.trans f1h.o).trans F2)
 have hR2:=(hRh.o.fr f1h.o (by simp)).fr F2 (by simp)
 have hrl2:=hR2.lt
 clear hno F2
 unfold AA.val AA.cells noA
 go_wp2_with (refine wpList_store_row rfl 33 _ _ rfl gr _ rfl rfl 33 zs hR2 infoAns (by rw [hz];rfl) (by kernel_rfl) ?_)
 refine bodyPost_ret (results_cell_row rfl _ _ gr 33 _ (0,0) _ rfl (Blk.setRow hR2 _) uAns rfl infoAns) rfl ?_
 exact⟨rfl,F2h.o.setRow (.inr hgr) _⟩
def sF_:ByteArray:=⟨#[102]⟩
def knil:GCmd:=⟨4,sF_,0,0,sA_,nilB,[],nilB,nilB,nilB,nilB,false,0⟩
theorem knil_may:mayM knil=true:=by decide+kernel
set_option maxRecDepth 100000 in
set_option maxHeartbeats 4000000 in
theorem do_nil (w:World):Calls Tryz.prog 14 #[.pointer none,.agg (cmdV knil none 0 0)] w fun e w'=>e= .returned (AA.mk (noA 7) none 0).val∧Fr [] w w':=by
 obtain⟨c,hc⟩:∃z,Hid (knil=z):=⟨_,zh rfl⟩
 have hk4h:Hid (c.kind=4):=by rw [←hc.o];exact zh rfl
 have hcin:CmdIn w c none 0:=nil_cmd w c (by rw [←hc.o];rfl) (by rw [←hc.o];decide)
 have hmay0:=fun W (hW:Fr [] w W)=>may_t W c none 0 0 (hcin.hS.fr hW (by simp [Off])) hcin.hn hcin.hl hcin.hs hcin.hf
 rw [show mayM c=true by rw [←hc.o];exact knil_may]at hmay0
 rw [hc.o]
 have hmh:=zh hmay0
 clear hmay0 hcin
 unfold cmdV
 have hzs:∃zs:Array Value,zs.size=8∧Hid (zs=(AA.mk (noA 0) none 0).cells):=⟨_,rfl,zh rfl⟩
 obtain⟨zs,hz,hzh⟩:=hzs
 go_enter Tryz.func14,Tryz.ntmps14
 go_upto_region 1 with(fail)
 refine wp_gen (fun W=>Blk W w.heap.size 30 (cmdV c none 0 0)∧Blk W (w.heap.size+1) 33 zs∧Fr [] w W) ⟨(Blk.new _ _ _).alloc _,by rw [hzh.o];exact Blk.new' _ _ (by simp),((Fr.refl _ _).alloc _).alloc _⟩ ?_
 rintro W ⟨hC,hR,fW⟩
 obtain⟨gc,HGC⟩:∃z,Hid (w.heap.size=z):=⟨_,zh rfl⟩
 rw [HGC.o]at hC hR⊢
 obtain⟨gr,HGR⟩:∃z,Hid (gc+1=z):=⟨_,zh rfl⟩
 rw [HGR.o]at hR⊢
 have hgr:w.heap.size≤gr:=by have:=HGC.o;have:=HGR.o;omega
 have hCh:=zh hC
 have hRh:=zh hR
 have fWh:=zh fW
 have hmay:=hmh.o W fW
 clear fW hR
 go_wp2_with (refine wpList_load_at rfl 30 _ rfl rfl hC (sub_self _) uCmd rfl (by unfold cmdV;exact infoCmd) ?_;rw [Array.toArray_toList])
 refine hmay.mono ?_
 rintro e W1 ⟨rfl,F1⟩
 have F1h:=zh (fWh.o.trans F1)
 have hR1h:=zh (hRh.o.fr F1 (by simp))
 have hC1h:=zh (hCh.o.fr F1 (by simp))
 clear hmay F1 hC
 go_upto_region 5 with(fail)
 refine wp_gen (fun V=>Blk V W1.heap.size 77 #[.map none,.int .i64 0]∧Fr [] W1 V) ⟨Blk.new _ _ _,(Fr.refl _ _).alloc _⟩ ?_
 rintro W2 ⟨hP2,F2⟩
 obtain⟨gb,HGB⟩:∃z,Hid (W1.heap.size=z):=⟨_,zh rfl⟩
 rw [HGB.o]at hP2⊢
 have F2h:=zh (F1h.o.trans F2)
 have hR2h:=zh (hR1h.o.fr F2 (by simp))
 have hC2h:=zh (hC1h.o.fr F2 (by simp))
 obtain⟨d0,d1,d2,d3,d4,d5,d6,d7,d8,d9,d10,d11,d12,hcl⟩:=cmdV_cells hC2h.o
 rw [hk4h.o]at d0
 have e0:=hP2.cell 0
 simp only [zG,zH]at e0
 have hpl:=hP2.lt
 have hP2h:=zh hP2
 have hlook:=lookup_nil c.family
 have hlookh:=zh hlook
 clear F2 d2 d3 d4 d5 d6 d7 d8 d9 d10 d11 d12 hP2 hlook
 go_upto_region 19 with(fail)
 refine wp_region_z (fun w'=>w'.cell? ⟨gb,0,none⟩=some (.map none)∧w'.cell? ⟨gc,1,none⟩=some (.string c.family)) [] (by kernel_rfl) ⟨e0,d1⟩ ?_
 intro hHeld
 refine wpZ_tk (i:=0) (v:= ?_) hHeld ?_ ?_
 rotate_left
 ·(intro w hSw;go_simp<;>with_reducible rfl)
 try simp only [zA,zC,Act.put,zD,zE,zF]
 refine wpZ_tk (i:=1) (v:= ?_) hHeld ?_ ?_
 rotate_left
 ·(intro w hSw;go_simp<;>with_reducible rfl)
 try simp only [zA,zB,zC,Act.put,zD,zE,zF]
 refine wpZ_tk (i:=2) (v:= ?_) hHeld ?_ ?_
 rotate_left
 ·(intro w hSw;go_simp<;>with_reducible rfl)
 try simp only [zA,zB,zC,Act.put,zD,zE,zF]
 refine wpZ_tk (i:=3) (v:= ?_) hHeld ?_ ?_
 rotate_left
 ·(intro w hSw;go_simp<;>with_reducible rfl)
 try simp only [zA,zB,zC,Act.put,zD,zE,zF]
 refine wpZ_tk (i:=4) (v:= ?_) hHeld ?_ ?_
 rotate_left
 ·(intro w hSw;go_simp<;>with_reducible rfl)
 try simp only [zA,zB,zC,Act.put,zD,zE,zF]
 refine wpZ_tk (i:=5) (v:= ?_) hHeld ?_ ?_
 rotate_left
 ·(intro w hSw;go_simp<;>with_reducible rfl)
 try simp only [zA,zB,zC,Act.put,zD,zE,zF]
 refine wpZ_take (i:=6) (v:= .tuple #[zeroFA.val,.bool false]) rfl (by kernel_rfl) (by kernel_rfl) (by kernel_rfl) (by kernel_rfl) (fun _ _ _ h=>h) (Or.inl ⟨by rfl,fun w hSw=> ?_⟩) hHeld ?_
 ·have hlk:=hlookh.o w
  clear hSw
  go_simp
 try simp only [zA,zB,zC,Act.put,zD,zE,zF]
 refine wpZ_tk (i:=7) (v:= ?_) hHeld ?_ ?_
 rotate_left
 ·(intro w hSw;go_simp<;>with_reducible rfl)
 try simp only [zA,zB,zC,Act.put,zD,zE,zF]
 refine wpZ_tk (i:=8) (v:= ?_) hHeld ?_ ?_
 rotate_left
 ·(intro w hSw;go_simp<;>with_reducible rfl)
 try simp only [zA,zB,zC,Act.put,zD,zE,zF]
 refine wpZ_tk (i:=9) (v:= ?_) hHeld ?_ ?_
 rotate_left
 ·(intro w hSw;go_simp<;>with_reducible rfl)
 try simp only [zA,zB,zC,Act.put,zD,zE,zF]
 refine wpZ_one (i:=10) (by kernel_rfl) rfl (fun K hK=> ?_)
 go_simp
 refine hK.out _ _ ⟨cell_fr ((Fr.refl [] W2).drew.alloc _) e0,cell_fr ((Fr.refl [] W2).drew.alloc _) d1⟩ (fun hHeld=> ?_)
 clear hK K
 try simp only [zA,zB,zC,Act.put,zD,zE,zF]
 refine wpZ_one (i:=11) (by kernel_rfl) rfl (fun K hK=> ?_)
 rw [if_pos (wanted_none rfl)]
 refine wp_store_row 39 _ _ rfl W2.heap.size zeroFA.cells rfl rfl 39 _ (Blk.new _ _ _) (by unfold FA.cells;exact infoFam) (by unfold FA.cells;kernel_rfl) (by unfold FA.cells;kernel_rfl) ?_
 show K (Act.put _ none undef) _
 refine hK.out _ _ ⟨cell_fr (((Fr.refl [] W2).drew.alloc _).setRow (.inr (Nat.le_refl _)) _) e0,cell_fr (((Fr.refl [] W2).drew.alloc _).setRow (.inr (Nat.le_refl _)) _) d1⟩ (fun hHeld=> ?_)
 clear hK K
 try simp only [Act.put]
 refine wpZ_tk (i:=12) (v:= ?_) hHeld ?_ ?_
 rotate_left
 ·(intro w hSw;go_simp<;>with_reducible rfl)
 try simp only [zA,zB,zC,Act.put,zD,zE,zF]
 refine wpZ_done (by kernel_rfl) ?_ _
 go_upto_region 20 with(fail)
 refine wp_gen (fun W3=>Blk W3 W2.heap.size 39 zeroFA.cells∧Fr [] W2 W3) ⟨Blk.setRow (Blk.new _ _ _) _,(((Fr.refl [] W2).drew.alloc _).setRow (.inr (Nat.le_refl _)) _)⟩ ?_
 clear hHeld e0 d0 d1 hcl hpl
 rintro W3 ⟨hB3,F3⟩
 obtain⟨x,hx⟩:∃z,Hid (zeroFA=z):=⟨_,zh rfl⟩
 have hx0:FamIn W3 [] x:=by rw [←hx.o];exact zero_in _ _
 have hxs:Short x:=fam_short hx0 (.inr (by rw [←hx.o];rfl))
 rw [hx.o]at hB3
 obtain⟨g6,HG6⟩:∃z,Hid (W2.heap.size=z):=⟨_,zh rfl⟩
 rw [HG6.o]at hB3⊢
 have hC3:=hC2h.o.fr F3 (by simp)
 have rC:=range_cells hC3
 have rB:=range_cells hB3
 have rC':W3.rangeAt gc 0 [.int .i64 c.kind,.string c.family,.int .i64 c.serial,.int .i64 c.token,.string c.client,.string c.user,.slice none 0 0,.string c.redirect,.string c.challenge,.string c.method,.string c.verifier,.bool c.refresh,.int .i64 c.edge]:=rC
 have F3h:=zh F3
 have hP3h:=zh (hP2h.o.fr F3 (by simp))
 have hown:=own_t W3.drew x (hx0.fr ((Fr.refl [] W3).drew)) hxs
 clear rC hB3 hC3 F3 hx0 hxs
 refine wp_region_z (fun w'=>w'.rangeAt gc 0 [.int .i64 c.kind,.string c.family,.int .i64 c.serial,.int .i64 c.token,.string c.client,.string c.user,.slice none 0 0,.string c.redirect,.string c.challenge,.string c.method,.string c.verifier,.bool c.refresh,.int .i64 c.edge]∧w'.rangeAt g6 0 x.cells.toList) [6] (by kernel_rfl) ⟨rC',rB⟩ ?_
 intro hHeld
 refine wpZ_tk (i:=0) (v:= ?_) hHeld ?_ ?_
 rotate_left
 ·(intro w hSw;go_simp<;>with_reducible rfl)
 try simp only [zA,zC,Act.put,zD,zE,zF]
 refine wpZ_take (i:=1) rfl (by kernel_rfl) (by kernel_rfl) (by kernel_rfl) (by kernel_rfl) (fun _ _ _ h=>h) (yieldsIf_load_mid (by kernel_rfl) 30 _ rfl gc 0 rfl ([.int .i64 c.kind,.string c.family,.int .i64 c.serial,.int .i64 c.token,.string c.client,.string c.user,.slice none 0 0,.string c.redirect,.string c.challenge,.string c.method,.string c.verifier,.bool c.refresh,.int .i64 c.edge]) _ (fun w h=>h.1) uCmd rfl (by kernel_rfl)) hHeld ?_
 try simp only [zA,zB,zC,Act.put,zD,zE,zF]
 refine wpZ_take (i:=2) rfl (by kernel_rfl) (by kernel_rfl) (by kernel_rfl) (by kernel_rfl) (fun _ _ _ h=>h) (yieldsIf_load_mid (by kernel_rfl) 39 _ rfl g6 0 rfl (x.cells.toList) _ (fun w h=>h.2) uFam rfl (infoFamL _)) hHeld ?_
 try simp only [zA,zB,zC,Act.put,zD,zE,zF]
 refine wpZ_tk (i:=4) (v:= ?_) hHeld ?_ ?_
 rotate_left
 ·(intro w hSw;go_simp<;>with_reducible rfl)
 try simp only [zA,zB,zC,Act.put,zD,zE,zF]
 refine wpZ_one (i:=3) (by kernel_rfl) rfl (fun K hK=> ?_)
 go_simp
 refine Calls.mono (show Calls Tryz.prog _ _ _ _ from hown) ?_
 rintro e W4 ⟨y0,rfl,hy0,hw4,F4⟩
 have F4:Fr [] W3 W4:=F4.of_drew
 have hbeg:=zh (begin_nil W4 gb c none 0 0 y0 (hP3h.o.fr F4 (by simp)))
 try dsimp only
 refine hK.out _ _ ⟨range_fr1 F4 rC',range_fr1 F4 rB⟩ (fun hHeld=> ?_)
 clear hK K
 try simp only [zA,zB,zC,Act.put,zD,zE,zF]
 refine wpZ_one (i:=5) (by kernel_rfl) rfl (fun K hK=> ?_)
 go_simp
 refine Calls.mono (show Calls Tryz.prog _ _ _ _ from hbeg.o) ?_
 rintro e W5 ⟨rfl,F5⟩
 have F35:=F4.trans F5
 have hR5:=(hR2h.o.fr F3h.o (by simp)).fr F35 (by simp)
 try dsimp only
 refine hK.out _ _ ⟨range_fr1 F35 rC',range_fr1 F35 rB⟩ (fun hHeld=> ?_)
 clear hK K
 try simp only [zA,zB,zC,Act.put,zD,zE,zF]
 refine wpZ_end (i:=6) (by kernel_rfl) rfl rfl (fun K hK=> ?_)
 unfold AA.val
 rw [if_pos (wanted_none rfl)]
 refine wp_store_row 33 _ _ rfl gr (AA.mk (noA 7) none 0).cells rfl rfl 33 zs hR5 (infoAnsY _) (hz.trans (AA.size8 _).symm) (AA.one _) ?_
 show K (Act.put _ none undef) _
 refine hK.out _ _ ?_
 clear hK K
 try simp only [Act.put]
 refine wpZ_done (by kernel_rfl) ?_ _
 go_wp2_with fail
 refine bodyPost_ret (results_cell_row rfl _ _ gr 33 (AA.mk (noA 7) none 0).cells (0,0) _ rfl (Blk.setRow hR5 _) uAns rfl (infoAnsY _)) rfl ?_
 exact⟨rfl,((F2h.o.trans F3h.o).trans F35).setRow (.inr hgr) _⟩
end Go.Proofs.YtdeoinjjphdbmaaGreat
