/- Walks: all calls of a book; its families; two lists of calls that are the same. Conditions: each theorem's own. -/
import Derived.Test.YtacljejoedbnkaaGreatMd
import Derived.Test.YtacljejoedbnkaaGreatMa
import Derived.Test.YtacljejoedbnkaaGreatLx
namespace Go.Proofs.YtacljejoedbnkaaGreat
open Go.RowKit Go.Sig
structure CallsAt (w0 w:World) (A:Option Addr) (c:Nat) (l:List KA):Prop where
 row:Own w 71 10 (.slice A l.length c) l.length (callCells l)
 each:∀y∈l,RdX w (rowOf (.slice A l.length c)++List.range w0.heap.size) 1 y.A y.k.ans.scope.length (strCells y.k.ans.scope)
 fresh:∀g∈rowOf (.slice A l.length c),w0.heap.size≤g
theorem CallsAt.nil (w0 w:World):CallsAt w0 w none 0 []:=⟨Own.nil _ _ _,fun x hx=>(by cases hx),by simp [rowOf,Value.ownBlock]⟩
theorem CallsAt.base {w0 w1 w:World}{A:Option Addr}{c:Nat}{l:List KA}(h:CallsAt w1 w A c l) (hs:w0.heap.size≤w1.heap.size):CallsAt w0 w A c l:=⟨h.row,fun x hx=>(h.each x hx).mono (fun g hg=>by
  rcases List.mem_append.1 hg with hg |hg
  ·exact List.mem_append.2 (.inl hg)
  ·exact List.mem_append.2 (.inr (List.mem_range.2 (Nat.lt_of_lt_of_le (List.mem_range.1 hg) hs)))),fun g hg=>Nat.le_trans hs (h.fresh g hg)⟩
theorem CallsAt.fr0 {w0 w w':World}{A:Option Addr}{c:Nat}{l:List KA}(h:CallsAt w0 w A c l) (hF:Fr [] w w'):CallsAt w0 w' A c l:=
 ⟨h.row.fr hF (by simp),fun x hx=>(h.each x hx).fr hF.nil,h.fresh⟩
theorem CallsAt.o {w0 w:World}{A:Option Addr}{c:Nat}{l:List KA}{X:List Nat}(h:CallsAt w0 w A c l) (hX:∀g∈X,g<w0.heap.size):CallsIn w X A l:=by
 refine⟨⟨h.row.rd,fun _ ad e hg=> ?_⟩,fun y hy=>(h.each y hy).mono fun g hg=>List.mem_append.2 (.inr (List.mem_range.2 (hX g hg)))⟩;rcases h.row.form with⟨A',c',e1,e2⟩
 injection e1 with e1 _ _
 subst e1;rcases e2 with e2 | ⟨g',e2,_⟩
 ·rw [e2]at e;cases e
 ·rw [e2]at e;cases e
  have h1:g'<w0.heap.size:=hX _ hg;have:=h.fresh g' (by rw [e2];simp [rowOf,Value.ownBlock]);omega
theorem CallsAt.push {w0 w w1 w2 w3:World}{A A3:Option Addr}{c c3 i:Nat}{l:List KA}{y:KA}(h:CallsAt w0 w A c l) (hi:l.length=i) (hw:Own w1 9 1 (.slice y.A y.k.ans.scope.length y.c) y.k.ans.scope.length (strCells y.k.ans.scope)) (hy:From w.heap.size y.A) (F1:Fr [] w w1) (F2:Fr [] w1 w2)
  (p1:Own w3 71 10 (.slice A3 (i+1) c3) (i+1) (callCells l++callCells [y])) (p2:Fr (rowOf (.slice A i c)) w2 w3) (p3:∀g∈rowOf (.slice A3 (i+1) c3),g∈rowOf (.slice A i c)∨g=w2.heap.size) (h0:w0.heap.size≤w.heap.size):CallsAt w0 w3 A3 c3 (l++ [y]):=by
 have hl:(l++ [y]).length=i+1:=by rw [List.length_append,hi];rfl
 have hlt:=h.row.lt;obtain⟨hr,he,hf⟩:=h;rw [hi]at hr he hf hlt;have F12:=F1.trans F2;have hsz:=F12.size;have hsub:∀z,z∈rowOf (.slice A i c)→z∈rowOf (.slice A i c)++List.range w0.heap.size:=fun z hz=>List.mem_append.2 (.inl hz);have hX:∀z,z∈rowOf (.slice A i c)++List.range w0.heap.size→z<w.heap.size:=fun z hz=>by
  rcases List.mem_append.1 hz with hz |hz
  ·exact hlt z hz
  ·exact Nat.lt_of_lt_of_le (List.mem_range.1 hz) h0
 have hY:∀(v:World),v.heap.size≤w2.heap.size→∀g∈rowOf (.slice A3 (i+1) c3)++List.range w0.heap.size,g∈rowOf (.slice A i c)++List.range w0.heap.size∨v.heap.size≤g:=fun v hv g hg=>by
  rcases List.mem_append.1 hg with hg |hg
  ·rcases p3 g hg with e |e
   ·exact .inl (hsub _ e)
   ·exact .inr (by omega)
  ·exact .inl (List.mem_append.2 (.inr hg))
 refine⟨by rw [hl,callCells_append];exact p1,?_,?_⟩
 ·rw [hl];intro x hx;rcases List.mem_append.1 hx with hx |hx
  ·exact(he x hx).to (by decide) (F12.nil.trans (p2.mono hsub)) (hY w hsz)
  ·obtain rfl:x=y:=by simpa using hx
   have h1:RdX w1 (rowOf (.slice A i c)++List.range w0.heap.size) 1 x.A x.k.ans.scope.length (strCells x.k.ans.scope):=⟨hw.rd,fun _ ad e hg=>by
    have h2:=hX _ hg;have h3:=hy ad e;omega⟩
   exact h1.to (by decide) (F2.nil.trans (p2.mono hsub)) (hY w1 F2.size)
 ·rw [hl];intro g hg;rcases p3 g hg with e |e
  ·exact hf g e
  ·have:=F12.size;omega
def BCallsPost (w:World) (cs:List GCall) (e:Ending) (w':World):Prop:=∃(l:List KA) (A:Option Addr) (c:Nat),e= .returned (.slice A l.length c)∧l.map (·.k)=cs∧CallsAt w w' A c l∧Fr [] w w'
theorem keysM_len {s:BkS}:(keysM s).length=s.edges.length:=by
 unfold keysM;rw [(List.mergeSort_perm _ _).length_eq,List.length_map]
theorem edges_few {room:Int}{s:BkS}(h:BsOk room s):s.edges.length≤32:=by
 have h1:(s.edges.map (fun p=>p.1.toNat))⊆List.range 32:=fun k hk=>by obtain⟨p,hp,rfl⟩:=List.mem_map.1 hk;have:=(h.each p.1 p.2 (aget_of_mem h.nodup hp)).key;exact List.mem_range.2 (by omega)
 have h2:(s.edges.map (fun p=>p.1.toNat)).Nodup:=by have:=h.nodup;rw [List.Nodup,List.pairwise_map]at this⊢;refine this.imp_of_mem fun{a b} ha hb hne e=>hne ?_;have k1:=(h.each a.1 a.2 (aget_of_mem h.nodup ha)).key;have k2:=(h.each b.1 b.2 (aget_of_mem h.nodup hb)).key;omega
 have:=List.Nodup.length_le_of_subset h2 h1;simpa using this
theorem edge_calls_few {room:Int}{s:BkS}(h:BsOk room s) {k:Int}(hk:k∈keysM s):(edgeOf k s).calls.length≤8:=by
 have hk:=mem_keysM.1 hk;obtain⟨p,hp,rfl⟩:=List.mem_map.1 hk;have ha:=aget_of_mem h.nodup hp;unfold edgeOf;rw [ha];exact(h.each _ _ ha).few
theorem flatMap_few {α β:Type}{f:α→List β}{n:Nat}:∀{l:List α},(∀x∈l,(f x).length≤n)→(l.flatMap f).length≤l.length*n
 | [],_=>by simp
 |x::l,h=>by have h1:=h x (List.mem_cons_self ..);have h2:=flatMap_few (l:=l) fun y hy=>h y (List.mem_cons_of_mem _ hy);rw [List.flatMap_cons,List.length_append,List.length_cons,Nat.succ_mul];omega
theorem call_row {w:World}{X:List Nat}{A:Option Addr}{l:List KA}{j:Nat}(h:CallsIn w X A l) (hj:j<l.length):∃b o,A=some ⟨b,o,none⟩∧∀i v,(l[j]'hj).arr[i]? =some v→w.cell? ⟨b,o+j*10+i,none⟩=some v:=by
 obtain⟨b,o,e,hc⟩:=h.row.1.2 (by omega);refine⟨b,o,e,fun i v hv=> ?_⟩;rw [Nat.add_assoc];exact hc _ _ (callCells_at hj (by rw [←Array.getElem?_toList]at hv;exact hv))
theorem AA.ones (y:AA):∀v∈y.cells.toList,v.oneCell'=true:=fun v hv=>List.all_eq_true.1 (show y.cells.toList.all (·.oneCell')=true from by rw [Array.all_toList];exact AA.all1 y) v hv
def KA.own (y:KA) (A:Option Addr) (c:Nat):KA:=⟨y.k,A,c⟩
set_option maxRecDepth 100000 in
set_option maxHeartbeats 8000000 in
theorem bcalls_t (w:World) (pb p mb t me:Nat) (room:Int) (X:List Nat) (s:BkS) (h:BkAt w pb p mb t me room X s):Calls Tryz.prog 28 #[.pointer (some ⟨pb,0,none⟩)] w (BCallsPost w (callsM s)):=by
 have hh:=zh h;have c2:=h.hp.cell 2;have hl:=h.hp.lt;simp only [zG,zH,zI]at c2;obtain⟨ls,hl1,hl2,hl3⟩:=h.he;have hfew:ls.length≤32:=by have:=edges_few h.ok;rw [←hl2,List.length_map]at this;exact this
 have hwf:∀q∈ls,(Lit.int .i64 q.1).wf=true:=fun q hq=>by
  have hm:(q.1,q.2.e)∈s.edges:=by rw [←hl2];exact List.mem_map.2 ⟨q,hq,rfl⟩
  have hk:=(h.ok.each _ _ (aget_of_mem h.ok.nodup hm)).key;have h1:q.1=(q.1.toNat:Int):=by omega
  have h2:q.1.toNat<32:=by omega
  rw [h1];exact(by decide+kernel:∀n:Nat,n<32→(Lit.int .i64 (n:Int)).wf=true) _ h2
 have hkeys:(ls.map (·.1)).mergeSort (fun a b=>decide (a≤b))=keysM s:=by unfold keysM;rw [←hl2,List.map_map];rfl
 have hS:=sortedE_t w me ls hl1 hwf (by omega);rw [hkeys]at hS;have hK:=keysE_t (some me) w;obtain⟨n,hn⟩:∃z,Hid (ls.length=z):=⟨_,zh rfl⟩
 have hkl:Hid ((keysM s).length=n):=by rw [keysM_len,←hl2,List.length_map,hn.o];exact zh rfl
 rw [hn.o]at hS hfew;clear h hl1 hl2 hl3 hwf hkeys;go_enter Tryz.func28,Tryz.ntmps28;go_wp2_with (first | (go_at_call 77;refine hK.mono ?_;rintro e _ ⟨rfl,rfl⟩) | (go_at_call 76;refine hS.mono ?_;rintro e W1 ⟨A,c,rfl,hO,hA,F1⟩))
 have F1h:=zh F1;have hRd:=zh hO.rd;have c2h:=zh c2;clear hK hS F1 hO hA c2;go_loopg [3,17] (n+1) (fun gk s3 s17 wr=>∃(i:Nat) (l:List KA) (B:Option Addr) (d:Nat),s17= .int .i64 i∧s3= .slice B l.length d∧i≤n∧n - i<gk∧l.map (·.k)=((keysM s).take i).flatMap (fun k=>(edgeOf k s).calls)∧CallsAt W1 wr B d l∧Fr [] W1 wr)
 case atStart=>exact⟨0,[],none,0,rfl,rfl,by omega,by omega,rfl,CallsAt.nil _ _,Fr.refl _ _⟩
 case round=>
  obtain⟨i,l,B,d,rfl,rfl,hi,hk,hmap,hCA,hF⟩:=hrel;have hFh:=zh hF;have hCAh:=zh hCA;have hmaph:=zh hmap;clear hCA hmap;by_cases hlt:i<n
  ·have hlt':(i:Int)<n:=by omega
   have hlth:=zh hlt;have hik:i<(keysM s).length:=by rw [hkl.o];exact hlt
   obtain⟨b0,o0,rfl,hc⟩:=(Rd.fr hRd.o hF (by simp [Off])).2 (by omega);have ck:=hc i (.int .i64 (keysM s)[i]) (by unfold intCells;rw [List.getElem?_map,List.getElem?_eq_getElem hik];rfl);have hmem:=zh (List.getElem_mem hik);have htk:=zh (show((keysM s).take (i+1)).flatMap (fun k=>(edgeOf k s).calls)=((keysM s).take i).flatMap (fun k=>(edgeOf k s).calls)++(edgeOf ((keysM s)[i]'hik) s).calls by rw [List.take_succ_eq_append_getElem hik,List.flatMap_append];simp);obtain⟨k,hkk⟩:∃z,Hid ((keysM s)[i]'hik=z):=⟨_,zh rfl⟩
   rw [hkk.o]at ck htk hmem;have hB:=hh.o.fr0 F1h.o;obtain⟨ls,hl1,hl2,hl3⟩:=hB.he;have hea:=edge_at (ed:=k) hl2 hl3;have hlk:=(hl1.fr hF (by simp)).run_lookup kInt (z:=zeroEA.val) uMie (fun w=>by kernel_rfl) k;have hv:((aget k ls).map EA.val).getD zeroEA.val=((aget k ls).getD zeroEA).val:=by cases aget k ls<;>rfl
   rw [hv]at hlk;obtain⟨⟨x0,xA,xc,xs⟩,hx⟩:∃z,Hid ((aget k ls).getD zeroEA=z):=⟨_,zh rfl⟩
   rw [hx.o]at hea hlk;have hxc:=zh hea.2;have hxe:=zh (show xs.map (·.k)=(edgeOf k s).calls by rw [←hea.1];rfl);have hx8:=zh (edge_calls_few hh.o.ok hmem.o);have c2:=(hh.o.hp.fr (F1h.o.trans hF) (by simp)).cell 2;have hpl:=(hh.o.hp.fr (F1h.o.trans hF) (by simp)).lt;simp only [zG,zH,zI]at c2;have hfd:(Instr.field 144 (.agg #[.int .i64 x0,.slice xA xs.length xc]) 1).run Tryz.prog wr= .ok (.slice xA xs.length xc) wr:=by kernel_rfl
   have hlk2:(Instr.lookup 124 (.map (some me)) (.int .i64 k) false).run Tryz.prog wr= .ok (.agg #[.int .i64 x0,.slice xA xs.length xc]) wr:=hlk;obtain⟨m,hm⟩:∃z,Hid (xs.length=z):=⟨_,zh rfl⟩
   rw [hm.o]at hfd hlk2;have hm8:=zh (show m≤8 by have h1:=hx8.o;rw [←hxe.o,List.length_map,hm.o]at h1;exact h1);have hln:=zh (show l.length≤256 by
    have h1:=congrArg List.length hmaph.o;rw [List.length_map]at h1;rw [h1];have h2:=flatMap_few (f:=fun k=>(edgeOf k s).calls) (n:=8) (l:=(keysM s).take i) fun k hk=>edge_calls_few hh.o.ok (List.mem_of_mem_take hk);have h3:((keysM s).take i).length≤32:=by rw [List.length_take];omega
    omega)
   clear hc hB hl1 hl2 hl3 hea hlk hv hF;go_wp2_with fail
   clear hlk2 hfd c2 hpl ck;generalize wr=WO at*
   go_loopg [3,29] (m+1) (fun gk s3 s29 wr=>∃(j:Nat) (l2:List KA) (B:Option Addr) (d:Nat),s29= .int .i64 j∧s3= .slice B l2.length d∧j≤m∧m - j<gk∧l2.map (·.k)=l.map (·.k)++(xs.take j).map (·.k)∧CallsAt W1 wr B d l2∧Fr [] W1 wr)
   case atStart=>exact⟨0,l,_,_,rfl,rfl,by omega,by omega,by simp,hCAh.o,hFh.o⟩
   case round=>
    obtain⟨j,l2,B2,d2,rfl,rfl,hj,hk2,hmap2,hCA2,hF2⟩:=hrel;have hF2h:=zh hF2;have hmap2h:=zh hmap2;by_cases hlt2:j<m
    ·have hlt2':(j:Int)<m:=by omega
     have hlt2h:=zh hlt2;have hjx:j<xs.length:=by rw [hm.o];exact hlt2
     have hci:=hxc.o.fr hF2.nil;obtain⟨b2,o2,eA,hcc⟩:=call_row hci hjx;have eA:xA=some ⟨b2,o2,none⟩:=eA;subst eA;have hsc:=hci.each _ (List.getElem_mem hjx);have htk2:=zh (show(xs.take (j+1)).map (·.k)=(xs.take j).map (·.k)++ [(xs[j]'hjx).k] by rw [List.take_succ_eq_append_getElem hjx,List.map_append];rfl);obtain⟨y,hy⟩:∃z,Hid (xs[j]'hjx=z):=⟨_,zh rfl⟩
     rw [hy.o]at hcc hsc htk2;have hset:Hid (y.k.ans.scope.length≤1000):=by
      have hmm:y.k∈(edgeOf k s).calls:=by rw [←hxe.o];exact List.mem_map.2 ⟨y,by rw [←hy.o];exact List.getElem_mem hjx,rfl⟩
      have hm2:=mem_keysM.1 hmem.o;obtain⟨q,hq,hqe⟩:=List.mem_map.1 hm2;have ha:=aget_of_mem (k:=k) (v:=q.2) hh.o.ok.nodup (by rw [←hqe];exact hq);have hee:=hh.o.ok.each _ _ ha;have e:edgeOf k s=q.2:=by unfold edgeOf;rw [ha];rfl
      rw [e]at hmm;have:=(setM_sizes (hee.each _ hmm).2.2.2.2).1;exact zh (by omega)
     have hl2n:=zh (show l2.length≤264 by
      have h1:=congrArg List.length hmap2;rw [List.length_map,List.length_append,List.length_map,List.length_map,List.length_take]at h1;have h2:=hln.o;have h3:=hm8.o;omega)
     have hCA2h:=zh hCA2;clear hci hmap2 hF2 hlt2 hCA2;have hscr:=zh hsc.1;clear hsc;go_upto_region 10 with(first | (refine wpList_load_cells rfl 71 _ rfl rfl hcc uCall rfl (infoCall _) ?_) | (refine wpList_store_row rfl 71 _ _ rfl wr.heap.size _ rfl rfl 71 _ (Blk.new _ _ _) (infoCall _) (by kernel_rfl) y.one ?_))
     refine wp_gen (fun W=>Blk W wr.heap.size 71 y.arr∧Fr [] wr W) ⟨Blk.setRow (Blk.new _ _ _) _,((Fr.refl [] wr).alloc _).setRow (.inr (Nat.le_refl _)) _⟩ ?_;rintro V ⟨hB,FV⟩;obtain⟨g,HG⟩:∃z,Hid (wr.heap.size=z):=⟨_,zh rfl⟩
     rw [HG.o]at hB⊢;have hgl:=hB.lt;have how:Calls Tryz.prog 69 #[y.aa.val] V fun e w'=>∃A' c',e= .returned (.agg (AA.cells ⟨y.k.ans,A',c'⟩))∧AnsIn w' V.heap.size ⟨y.k.ans,A',c'⟩∧Fr [] V w':=(bown_t V y.aa (hscr.o.fr FV (by simp [Off])) (Nat.le_trans hset.o (by decide))).mono fun e w' ⟨⟨za,zA,zc⟩,h1,h2,h3,h4⟩=>by have h2':za=y.k.ans:=h2;subst h2';exact⟨zA,zc,h1,h3,h4⟩
     have FVh:=zh FV;clear hcc FV;go_upto_region 11 with(first | (refine wpList_load_at rfl 63 _ rfl rfl hB (fun i v h=>KA.aa_at y i v (by rw [←Array.getElem?_toList];exact h)) uAns rfl (infoAAL _) ?_;rw [Array.toArray_toList]) | (go_at_call 69;refine how.mono ?_;rintro e V2 ⟨zA,zc,rfl,hzi,F2⟩;have hB2:=hB.fr F2 (by simp)) | (refine wpList_store_at (ys:=AA.cells ⟨y.k.ans,zA,zc⟩) rfl 63 _ _ rfl (off:=2) rfl rfl hB2 (infoAA ⟨y.k.ans,zA,zc⟩) (by have h1:(AA.cells ⟨y.k.ans,zA,zc⟩).size=8:=rfl;have h2:=KA.size10 y;omega) (AA.ones ⟨y.k.ans,zA,zc⟩) ?_))
     have hlaid:laid y.arr 2 (AA.cells ⟨y.k.ans,zA,zc⟩).toList=(y.own zA zc).arr:=rfl;rw [hlaid];refine wp_gen (fun W=>Blk W g 71 (y.own zA zc).arr∧Fr [g] V2 W) ⟨Blk.setRow hB2 _,(Fr.refl [g] V2).setRow (.inl (by simp)) _⟩ ?_;rintro V3 ⟨hB3,F3⟩;have hgV:g<V.heap.size:=hB.lt;have hrw:∀q∈rowOf (.slice zA y.k.ans.scope.length zc),q∉ [g]:=fun q hq hm=>by obtain⟨ad,e,rfl⟩:=rowOf_mem.1 hq;have h1:=hzi.2 ad e;have:=List.mem_singleton.1 hm;omega
     have FF:=zh (show Fr [] wr V3 from(FVh.o.trans F2).andThen F3 fun q hq=> .inr (by rw [List.mem_singleton.1 hq];exact Nat.le_of_eq HG.o));have hzo:=zh (show Own V3 9 1 (.slice zA y.k.ans.scope.length zc) y.k.ans.scope.length (strCells y.k.ans.scope)from hzi.1.fr F3 hrw);have hzf:=zh (show From wr.heap.size zA from fun ad e=>Nat.le_trans FVh.o.size (hzi.2 ad e));have hrow:=hCA2h.o.row.fr FF.o (by simp);have hl2m:=hl2n.o;have hgl3:=hB3.lt;obtain⟨q2,hq2⟩:∃z,Hid (l2.length=z):=⟨_,zh rfl⟩
     rw [hq2.o]at hrow hl2m⊢;clear how hB hB2 hzi F2 F3 hrw hlaid hgV;unfold KA.own KA.arr at hB3;have hm8':=hm8.o;go_wp2_with (first | (refine wpList_load_at rfl 71 _ rfl rfl hB3 (sub_self _) uCall rfl (by rw [Array.length_toList];exact infoCall (y.own zA zc)) ?_;rw [Array.toArray_toList]) | (refine wpList_own_append tCalls (hrow.fr ((Fr.refl [] _).alloc _) (by simp)) (call_new V3 (y.own zA zc) _) (callCells_one _) (by simp) (by unfold maxLen;omega) (by omega) rfl rfl rfl rfl (fun v2 w2 p1 p2 p3=> ?_);obtain⟨A3,c3,rfl,hA3⟩:=p1.form))
     go_roundg (m - j)
     case measure=>have:=hlt2h.o;omega
     case rel=>
      refine⟨j+1,l2++ [y.own zA zc],A3,c3,by go_num,by rw [List.length_append,hq2.o];rfl,by have:=hlt2h.o;omega,by have:=hlt2h.o;omega,?_,hCA2h.o.push hq2.o hzo.o hzf.o FF.o ((Fr.refl [] _).alloc _) p1 p2 p3 ?_,?_⟩
      ·rw [List.map_append,hmap2h.o,htk2.o,List.append_assoc];rfl
      ·exact hF2h.o.size
      ·refine(hF2h.o.trans (FF.o.alloc _)).andThen p2 (fun g hg=> .inr ?_);have:=hCA2h.o.fresh;rw [hq2.o]at this;exact this g hg
    ·have hge2:¬(j:Int)<m:=by omega
     have hjm:j=m:=by omega
     have hfin:=zh (show l2.map (·.k)=((keysM s).take (i+1)).flatMap (fun k=>(edgeOf k s).calls) by rw [hmap2,hjm,←hm.o,List.take_length,hmaph.o,htk.o,hxe.o]);have hCA2h:=zh hCA2;have hFF:=zh hF2;clear hlt2 hk2 hmap2 hF2 hCA2;go_wp2_with fail
     go_roundg (n - i)
     case measure=>have:=hlth.o;omega
     case rel=>exact⟨i+1,l2,_,_,by go_num,rfl,by have:=hlth.o;omega,by have:=hlth.o;omega,hfin.o,hCA2h.o,hFF.o⟩
  ·have hge:¬(i:Int)<n:=by omega
   have hin:i=n:=by omega
   have hmap2:=zh (show l.map (·.k)=callsM s by rw [hmaph.o,hin,←hkl.o,List.take_length];rfl);clear hlt hk hF;go_wp2;go_ret;exact⟨l,B,d,rfl,hmap2.o,hCAh.o.base F1h.o.size,F1h.o.trans hFh.o⟩
end Go.Proofs.YtacljejoedbnkaaGreat
