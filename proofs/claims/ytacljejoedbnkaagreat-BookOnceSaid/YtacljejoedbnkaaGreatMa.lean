/- An op is done once: plain laws. Conditions: each theorem's own. -/
import Derived.Test.YtacljejoedbnkaaGreatLn
namespace Go.Proofs.YtacljejoedbnkaaGreat
open Go.RowKit Go.Sig
def callAt (o:GOp) (s:BkS):Option GCall:=(edgeOf o.edge s).calls.find? fun c=>decide (c.seq=o.seq)
theorem seq_inj {l:List GCall}(h:l.Pairwise fun a b=>a.seq<b.seq) {x y:GCall}(hx:x∈l) (hy:y∈l) (e:x.seq=y.seq):x=y:=
 inj_of_nodup (f:=fun c:GCall=>c.seq) (List.pairwise_map.2 (h.imp fun h=>by omega)) hx hy e
theorem find_at {q:Int}{x:GCall}{l:List GCall}(h:l.Pairwise fun a b=>a.seq<b.seq) (hx:x∈l) (hq:x.seq=q):l.find? (fun c=>decide (c.seq=q))=some x:=by
 cases hf:l.find? (fun c=>decide (c.seq=q))with
 |none=>exact absurd hq (by simpa using List.find?_eq_none.1 hf x hx)
 |some y=>
  have h1:=List.mem_of_find?_eq_some hf;have h2:y.seq=q:=by simpa using List.find?_some hf
  rw [seq_inj h h1 hx (h2.trans hq.symm)]
theorem done_again {room:Int}{c:GCmd}{g:GBk}(hb:BkOk g) (h7:c.kind=7):doM room c (doM room c g).1=doM room c g:=by
 have e:∀b,doM room c b=if mayM c=false then(b,noA 1)else doneM c b:=fun b=>by unfold doM;rw [h7];simp
 by_cases hm:mayM c=false
 ·rw [e g,if_pos hm,e g,if_pos hm]
 ·rw [e g,if_neg hm];cases ha:aget c.family g with
  |none=>
   have hd:doneM c g=(g,noA 0):=by unfold doneM;rw [ha]
   rw [hd,e,if_neg hm,hd]
  |some f=>
   by_cases hr:f.revoked=true
   ·have hd:doneM c g=(adel f.id g,noA 0):=by unfold doneM;rw [ha];simp only;rw [if_pos hr]
    have hid:=(hb.2 _ _ ha).1;rw [hd,e,if_neg hm];unfold doneM;rw [hid,aget_adel_same hb.1]
   ·have hd:doneM c g=(g,noA 0):=by unfold doneM;rw [ha];simp only;rw [if_neg hr]
    rw [hd,e,if_neg hm,hd]
theorem opMay_done {o:GOp}(h:opMay o=true) (h0:o.seq=0):o.c.kind=7:=by
 unfold opMay at h;rw [if_pos h0]at h;simp only [Bool.and_eq_true,decide_eq_true_eq]at h;exact h.2.1
theorem book_no {room:Int}{o:GOp}{s:BkS}(h:opMay o=false):bookDo room o s=(s,noA 1):=by unfold bookDo;rw [if_pos h]
theorem book_done {room:Int}{o:GOp}{s:BkS}(h:opMay o=true) (h0:o.seq=0):bookDo room o s=(⟨(doM room o.c s.g).1,s.edges⟩,(doM room o.c s.g).2):=by
 unfold bookDo;rw [if_neg (by rw [h];decide),if_pos h0]
theorem book_kept {room:Int}{o:GOp}{s:BkS}{c:GCall}(h:opMay o=true) (h0:o.seq≠0) (hc:callAt o s=some c):bookDo room o s=(s,c.ans):=by
 unfold callAt at hc;unfold bookDo;rw [if_neg (by rw [h];decide),if_neg h0,hc]
theorem book_new {room:Int}{o:GOp}{s:BkS}(h:opMay o=true) (h0:o.seq≠0) (hc:callAt o s=none):
  (∃w,bookDo room o s=(s,noA w)∧∀g,bookDo room o ⟨g,s.edges⟩=(⟨g,s.edges⟩,noA w))∨
  ((keepC (max (edgeOf o.edge s).low o.low) (edgeOf o.edge s).calls).length<8∧bookDo room o s=(⟨(doM room o.c s.g).1,aset o.edge ⟨max (edgeOf o.edge s).low o.low,insC ⟨o.edge,o.seq,(doM room o.c s.g).2⟩ (keepC (max (edgeOf o.edge s).low o.low) (edgeOf o.edge s).calls)⟩ s.edges⟩,(doM room o.c s.g).2)):=by
 unfold callAt at hc;have e:∀g,bookDo room o ⟨g,s.edges⟩=if o.seq<(edgeOf o.edge s).low then(⟨g,s.edges⟩,noA 1)
   else if 8≤(keepC (max (edgeOf o.edge s).low o.low) (edgeOf o.edge s).calls).length then(⟨g,s.edges⟩,noA 7)
   else(⟨(doM room o.c g).1,aset o.edge ⟨max (edgeOf o.edge s).low o.low,insC ⟨o.edge,o.seq,(doM room o.c g).2⟩ (keepC (max (edgeOf o.edge s).low o.low) (edgeOf o.edge s).calls)⟩ s.edges⟩,(doM room o.c g).2):=fun g=>by
  have hE:edgeOf o.edge ⟨g,s.edges⟩=edgeOf o.edge s:=rfl;unfold bookDo;rw [if_neg (by rw [h];decide),if_neg h0,hE,hc]
 by_cases hl:o.seq<(edgeOf o.edge s).low
 ·exact .inl ⟨1,by rw [show s=⟨s.g,s.edges⟩from rfl,e s.g,if_pos hl],fun g=>by rw [e g,if_pos hl]⟩
 ·by_cases hf:8≤(keepC (max (edgeOf o.edge s).low o.low) (edgeOf o.edge s).calls).length
  ·exact .inl ⟨7,by rw [show s=⟨s.g,s.edges⟩from rfl,e s.g,if_neg hl,if_pos hf],fun g=>by rw [e g,if_neg hl,if_pos hf]⟩
  ·exact .inr ⟨by omega,by have:=e s.g;rw [if_neg hl,if_neg hf]at this;exact this⟩
theorem edgeOf_set (k:Int) (x:GEdge) (s:BkS) (g:GBk):edgeOf k ⟨g,aset k x s.edges⟩=x:=by
 unfold edgeOf;rw [aget_aset_same];rfl
theorem edgeOf_other {k j:Int}(h:j≠k) (x:GEdge) (s:BkS) (g:GBk):edgeOf j ⟨g,aset k x s.edges⟩=edgeOf j s:=by
 unfold edgeOf;rw [aget_aset_other h]
theorem seq_ne {o:GOp}{s:BkS}(h:callAt o s=none) {c:GCall}(hc:c∈(edgeOf o.edge s).calls):c.seq≠o.seq:=fun e=>by
 have:=List.find?_eq_none.1 h c hc;simp [e]at this
theorem new_rise {room:Int}{o:GOp}{s:BkS}(h:BsOk room s) (hm:opMay o=true) (hc:callAt o s=none) (a:GAns) (low:Int):
  (insC ⟨o.edge,o.seq,a⟩ (keepC low (edgeOf o.edge s).calls)).Pairwise fun a b=>a.seq<b.seq:=by
 obtain⟨m1,m2,_⟩:=opMay_ok hm;exact insC_rise ((edge_ok h ⟨m1,m2⟩).rise.filter _) fun z hz=>seq_ne hc (keepC_mem.1 hz).1
theorem book_again {room:Int}{o:GOp}{s:BkS}(h:BsOk room s):bookDo room o (bookDo room o s).1=bookDo room o s:=by
 by_cases hm:opMay o=false
 ·rw [book_no hm,book_no hm]
 have hm:opMay o=true:=by simpa using hm
 by_cases h0:o.seq=0
 ·rw [book_done hm h0,book_done hm h0,done_again h.g (opMay_done hm h0)]
 cases hc:callAt o s with
 |some c=>rw [book_kept hm h0 hc,book_kept hm h0 hc]
 |none=>
  rcases book_new (room:=room) hm h0 hc with⟨w,e,_⟩ | ⟨_,e⟩
  ·rw [e,e]
  ·have hk:callAt o (bookDo room o s).1=some ⟨o.edge,o.seq,(doM room o.c s.g).2⟩:=by
    rw [e];unfold callAt;rw [edgeOf_set];exact find_at (new_rise h hm hc _ _) (mem_insC.2 (.inl rfl)) rfl
   rw [book_kept hm h0 hk,e]
theorem call_stays {room:Int}{o p:GOp}{s:BkS}{c:GCall}(h:BsOk room s) (hp:¬(p.edge=o.edge∧o.seq<p.low)) (hc:callAt o s=some c):callAt o (bookDo room p s).1=some c:=by
 by_cases hm:opMay p=false
 ·rw [book_no hm];exact hc
 have hm:opMay p=true:=by simpa using hm
 by_cases h0:p.seq=0
 ·rw [book_done hm h0];exact hc
 cases hd:callAt p s with
 |some d=>rw [book_kept hm h0 hd];exact hc
 |none=>
  rcases book_new (room:=room) hm h0 hd with⟨w,e,_⟩ | ⟨_,e⟩
  ·rw [e];exact hc
  ·rw [e];by_cases he:o.edge=p.edge
   ·have h1:=List.mem_of_find?_eq_some hc;have h2:c.seq=o.seq:=by simpa using List.find?_some hc
    obtain⟨m1,m2,_⟩:=opMay_ok hm;unfold callAt;rw [he,edgeOf_set];rw [he]at h1;have h3:=((edge_ok h ⟨m1,m2⟩).each c h1).2.2.2.1;refine find_at (new_rise h hm hd _ _) (mem_insC.2 (.inr (keepC_mem.2 ⟨h1,?_⟩))) h2;have:¬o.seq<p.low:=fun hh=>hp ⟨he.symm,hh⟩;omega
   ·unfold callAt;rw [edgeOf_other he];exact hc
def keysM (s:BkS):List Int:=(s.edges.map (·.1)).mergeSort fun a b=>decide (a≤b)
def callsM (s:BkS):List GCall:=(keysM s).flatMap fun k=>(edgeOf k s).calls
theorem mem_keysM {s:BkS}{k:Int}:k∈keysM s↔k∈s.edges.map (·.1):=(List.mergeSort_perm _ _).mem_iff
theorem callsM_at {room:Int}{o:GOp}{s:BkS}(h:BsOk room s) {c:GCall}(hc:c∈callsM s) (he:c.edge=o.edge) (hq:c.seq=o.seq):callAt o s=some c:=by
 obtain⟨k,hk,hc⟩:=List.mem_flatMap.1 hc;have hk:=mem_keysM.1 hk;cases ha:aget k s.edges with
 |none=>exact absurd hk (aget_none_iff.1 ha)
 |some x=>
  have hx:=h.each k x ha;have e:edgeOf k s=x:=by unfold edgeOf;rw [ha];rfl
  rw [e]at hc;have:k=o.edge:=by rw [←he];exact(hx.each c hc).1.symm
  unfold callAt;rw [←this,e];exact find_at hx.rise hc hq
theorem once_last {room:Int}{o:GOp}{s t:BkS}{c:GCall}(h:BsOk room s) (hm:opMay o=true) (h0:o.seq≠0) (hc:callAt o (bookDo room o s).1=some c) (ht:callAt o t=some c):(bookDo room o t).2=(bookDo room o s).2:=by
 have e:=book_again (o:=o) h;rw [book_kept hm h0 hc]at e;rw [book_kept hm h0 ht,←e]
end Go.Proofs.YtacljejoedbnkaaGreat
