/- Walks of a roll: who shows himself. Conditions: each theorem's own. -/
import Derived.Test.YtopfcgpeaaehgaaGreatDoorAn
namespace Go.Proofs.YtopfcgpeaaehgaaGreatDoor
open Go.RowKit Go.Sig
def AuthPost (w:World) (r:ByteArray×Int) (e:Ending) (w':World):Prop:=e= .returned (.tuple #[.string r.1,.int .i64 r.2])∧Fr [] w w'
theorem secret_eq (a b:ByteArray):decide (a.data.toList=b.data.toList)=decide (a=b):=by
 have:a.data.toList=b.data.toList↔a=b:=⟨fun h=>by
  obtain⟨a⟩:=a;obtain⟨b⟩:=b;simp only at h;rw [Array.toList_inj.1 h],fun h=>by rw [h]⟩
 exact decide_eq_decide.2 this
def authB (l:List GCli) (p s:ByteArray×Nat):ByteArray×Int:=match cfind l p.1 with
 |none=>(nilB,2)
 |some c=>if p.2=0∨c.pub≠decide (s.2=0)∨c.secret≠s.1 then(nilB,2)else(p.1,0)
def authH (l:List GCli) (hdr:ByteArray) (p:ByteArray×Nat):ByteArray×Int:=match hdrM hdr with
 |none=>(nilB,2)
 |some (x,y)=>match cfind l x with
  |none=>(nilB,2)
  |some c=>if c.pub=true∨c.secret≠y then(nilB,2)else if 0<p.2∧p.1≠x then(nilB,1)else(x,0)
theorem authM_eq (l:List GCli) (hdr:ByteArray) (form:Prs):authM l hdr form=
  if 1<(fget form nCid).2∨1<(fget form nCsec).2∨(hdr.size≠0∧0<(fget form nCsec).2)then(nilB,1)
  else if hdr.size≠0 then authH l hdr (fget form nCid)else authB l (fget form nCid) (fget form nCsec):=rfl
structure GotIn (w:World) (g:Nat) (x:CV):Prop where
 lt:g<w.heap.size
 c1:w.cell? ⟨g,1,none⟩=some (.string x.c.secret)
 c2:w.cell? ⟨g,2,none⟩=some (.bool x.c.pub)
theorem GotIn.of {w:World}{g:Nat}{x:CV}{t:TypeId}(h:Blk w g t x.cells):GotIn w g x:=⟨h.lt,by rw [h.cell];rfl,by rw [h.cell];rfl⟩
set_option maxRecDepth 100000 in
set_option maxHeartbeats 4000000 in
theorem auth_t (w:World) (r:Nat) (l:List GCli) (hdr:ByteArray) (A:Option Addr) (n c:Nat) (form:Prs) (h:RollAt w r l) (hz:∀c∈l,CliSz c) (hs:hdr.size≤140737488351232)
  (hR:Rd w 2 A n (prCells form)) (hn:form.length=n) (hmax:n≤1048576) (hv:(fget form nCsec).1.size≤140737488351232) (hy:∀x y,hdrM hdr=some (x,y)→y.size≤140737488351232):
  Calls Tryz.prog 16 #[.pointer (some ⟨r,0,none⟩),.string hdr,.slice A n c] w (AuthPost w (authM l hdr form)):=by
 have hg1:=fget_t w A n c form hR hn hmax nCid;have hg2:=fget_t w A n c form hR hn hmax nCsec;rw [authM_eq];obtain⟨⟨i1,k1⟩,hp1⟩:∃z,Hid (fget form nCid=z):=⟨_,zh rfl⟩
 obtain⟨⟨i2,k2⟩,hp2⟩:∃z,Hid (fget form nCsec=z):=⟨_,zh rfl⟩
 have hk1:Hid (k1≤1048576):=zh (by have:=fget_le form nCid;rw [hp1.o]at this;dsimp only at this;omega);have hk2:Hid (k2≤1048576):=zh (by have:=fget_le form nCsec;rw [hp2.o]at this;dsimp only at this;omega);rw [hp1.o]at hg1⊢;rw [hp2.o]at hg2 hv⊢;dsimp only at hg1 hg2 hv⊢;unfold GetPost at hg1 hg2;unfold nCid at hg1;unfold nCsec at hg2;dsimp only at hg1 hg2;have hvh:=zh hv;have hsh:=zh hs;have hyh:=zh hy;have hh:=zh h;clear hR hn hmax hv hs hy h;by_cases h1:1<k1
 ·rw [if_pos (.inl h1)];go_enter Tryz.func16,Tryz.ntmps16;go_wp2_with (first
   | (go_at_call 32;refine hg1.mono ?_;clear hg1;rintro e w1 ⟨rfl,rfl⟩)
   | (go_at_call 32;refine hg2.mono ?_;clear hg2;rintro e w1 ⟨rfl,rfl⟩))
  go_ret2;exact⟨rfl,Fr.refl _ _⟩
 by_cases h2:1<k2
 ·rw [if_pos (.inr (.inl h2))];go_enter Tryz.func16,Tryz.ntmps16;go_wp2_with (first
   | (go_at_call 32;refine hg1.mono ?_;clear hg1;rintro e w1 ⟨rfl,rfl⟩)
   | (go_at_call 32;refine hg2.mono ?_;clear hg2;rintro e w1 ⟨rfl,rfl⟩))
  go_ret2;exact⟨rfl,Fr.refl _ _⟩
 have h1b:decide ((1:Int)<(k1:Nat))=false:=by rw [decide_eq_false_iff_not];omega
 have h2b:decide ((1:Int)<(k2:Nat))=false:=by rw [decide_eq_false_iff_not];omega
 have hn1:=zh h1;have hn2:=zh h2;clear h1 h2;by_cases h3:hdr.size=0
 ·have hb3:hdr.toList.isEmpty=true:=by rw [str_empty];simp [h3]
  rw [if_neg (fun hq=>hq.elim hn1.o (fun hq=>hq.elim hn2.o (fun h=>h.1 h3))),if_neg (by simp [h3])];clear h3;obtain⟨res,hres⟩:∃z,Hid (authB l (i1,k1) (i2,k2)=z):=⟨_,zh rfl⟩
  rw [hres.o];have hget:=rget_t w r l i1 hh.o;go_enter Tryz.func16,Tryz.ntmps16;go_upto_region 14 with(first
   | (go_at_call 32;refine hg1.mono ?_;clear hg1;rintro e w1 ⟨rfl,rfl⟩)
   | (go_at_call 32;refine hg2.mono ?_;clear hg2;rintro e w1 ⟨rfl,rfl⟩)
   | (go_at_call 44;refine hget.mono ?_;clear hget;rintro e w1 ⟨x,b,rfl,hx,hf,F1⟩)
   | (refine wpList_store_row rfl 72 _ _ rfl w1.heap.size x.cells rfl rfl 72 _ (Blk.new _ _ _) (infoRcli x) (by rfl) (CV.all1 x) ?_))
  refine wp_gen (fun W2=>Blk W2 w1.heap.size 72 x.cells∧Fr [] w1 W2) ⟨Blk.setRow (Blk.new _ _ _) _,((Fr.refl [] w1).alloc _).setRow (.inr (Nat.le_refl _)) _⟩ ?_;rintro W2 ⟨hB2,F2⟩;obtain⟨gx,HG⟩:∃z,Hid (w1.heap.size=z):=⟨_,zh rfl⟩
  rw [HG.o]at hB2⊢;have F12:=zh (F1.trans F2);obtain⟨hgl,e1,e2⟩:=GotIn.of hB2;have hsz:CliSz x.c:=by
   rcases hf with⟨_,h1⟩ | ⟨_,h1,h2⟩
   ·exact hz _ (cfind_mem h1)
   ·rw [h2];exact CliSz.zero
  have hszs:=zh hsz.secret;clear hsz hB2 F2 F1 hx hh;by_cases h5:k1=0
  ·have hr2:Hid (res=(nilB,2)):=zh (by
    rw [←hres.o,authB];dsimp only;split
    ·rfl
    ·rw [if_pos (.inl h5)])
   subst h5;clear hres hf;go_wp2_with fail
   go_ret2;exact⟨by rw [hr2.o];rfl,F12.o⟩
  have h5b:(((k1:Nat):Int)==0)=false:=by rw [beq_eq_false_iff_ne];omega
  rcases hf with⟨rfl,hfind⟩ | ⟨rfl,hfind,hxz⟩
  ·obtain⟨p,hp⟩:∃z,Hid (x.c.pub=z):=⟨_,zh rfl⟩
   obtain⟨z2,hz2⟩:∃z,Hid (decide (k2=0)=z):=⟨_,zh rfl⟩
   have hr2:Hid (res=if p=z2∧x.c.secret=i2 then(i1,0)else(nilB,2)):=zh (by
    rw [←hres.o,authB];dsimp only;rw [hfind];dsimp only;rw [hp.o,hz2.o];by_cases q1:p=z2<;>by_cases q2:x.c.secret=i2<;>simp [q1,q2,h5])
   have hz2b:(((k2:Nat):Int)==0)=z2:=by rw [←hz2.o,Bool.eq_iff_iff,beq_iff_eq,decide_eq_true_eq];omega
   rw [hp.o]at e2;clear hres h5 hfind;by_cases hpz:p=z2
   ·subst hpz;obtain⟨cW,cC,hcc,hcF,hcB,hcS,hcG⟩:=conv_any x.c.secret;obtain⟨dW,dC,hdc,hdF,hdB,hdS,hdG⟩:=conv_any i2;have F23:=zh (F12.o.trans ((hcF W2).trans (hdF (cW W2))));have hB2:Byts (dW (cW W2)) (some ⟨W2.heap.size,0,none⟩) x.c.secret.size x.c.secret.data.toList:=Rd.fr (hcB W2 W2.heap.size rfl) (hdF (cW W2)) (by simp [Off]);have hB3:=hdB (cW W2) (cW W2).heap.size rfl;have hs:=osame_t (dW (cW W2)) _ _ _ _ (cC W2) (dC (cW W2)) _ _ hB2 hB3 (by have:=hszs.o;omega) hvh.o;rw [secret_eq]at hs;obtain⟨q,hq⟩:∃z,Hid (decide (x.c.secret=i2)=z):=⟨_,zh rfl⟩
    have hr3:Hid (res=if q=true then(i1,0)else(nilB,2)):=zh (by rw [hr2.o,←hq.o];simp);rw [hq.o]at hs;rw [hcS]at hs;have hsz2:=hcS W2;clear hB2 hB3 hcF hdF hcB hdB hcS hdS hr2;cases q<;>cases p<;>
    ·go_wp2_with (go_at_call 45;refine hs.mono ?_;rintro e W4 ⟨rfl,F4⟩)
     go_ret2;exact⟨by rw [hr3.o];rfl,F23.o.trans F4⟩
   ·have hr3:Hid (res=(nilB,2)):=zh (by rw [hr2.o,if_neg (fun h=>hpz h.1)]);clear hr2;cases p<;>cases z2<;>first
     |exact absurd rfl hpz
     | (clear hpz
        go_wp2_with fail
        go_ret2;exact⟨by rw [hr3.o];rfl,F12.o⟩)
  ·have hr2:Hid (res=(nilB,2)):=zh (by rw [←hres.o,authB];dsimp only;rw [hfind]);clear hres hfind hxz h5;go_wp2_with fail
   go_ret2;exact⟨by rw [hr2.o];rfl,F12.o⟩
 ·have hb3:hdr.toList.isEmpty=false:=by rw [str_empty];simp [h3]
  by_cases h4:0<k2
  ·rw [if_pos (.inr (.inr ⟨h3,h4⟩))];clear h3;have h4b:decide (0<k2)=true:=by rw [decide_eq_true_iff];omega
   go_enter Tryz.func16,Tryz.ntmps16;go_wp2_with (first
    | (go_at_call 32;refine hg1.mono ?_;clear hg1;rintro e w1 ⟨rfl,rfl⟩)
    | (go_at_call 32;refine hg2.mono ?_;clear hg2;rintro e w1 ⟨rfl,rfl⟩))
   go_ret2;exact⟨rfl,Fr.refl _ _⟩
  ·have h4b:decide (0<k2)=false:=by rw [decide_eq_false_iff_not];omega
   rw [if_neg (fun hq=>hq.elim hn1.o (fun hq=>hq.elim hn2.o (fun h=>h4 h.2))),if_pos h3];clear h3 h4;obtain⟨res,hres⟩:∃z,Hid (authH l hdr (i1,k1)=z):=⟨_,zh rfl⟩
   rw [hres.o];have hsw:=shownH_t w hdr hsh.o;unfold ShownPost at hsw;rcases hm:hdrM hdr with _ | ⟨x,y⟩
   ·rw [hm]at hsw;dsimp only at hsw;have hr2:Hid (res=(nilB,2)):=zh (by rw [←hres.o,authH,hm]);clear hres hm;go_enter Tryz.func16,Tryz.ntmps16;go_upto_region 8 with(first
     | (go_at_call 32;refine hg1.mono ?_;clear hg1;rintro e w1 ⟨rfl,rfl⟩)
     | (go_at_call 32;refine hg2.mono ?_;clear hg2;rintro e w1 ⟨rfl,rfl⟩)
     | (go_at_call 43;refine hsw.mono ?_;clear hsw;rintro e w0 ⟨⟨x,y,rfl⟩,F0⟩;have f0h:=zh F0;have hget:=rget_t w0 r l x (hh.o.fr0 F0);clear F0)
     | (go_at_call 44;refine hget.mono ?_;clear hget;rintro e w1 ⟨z,b,rfl,hx,hf,F1⟩;have f1h:=zh F1)
     | (refine wpList_store_row rfl 72 _ _ rfl w1.heap.size z.cells rfl rfl 72 _ (Blk.new _ _ _) (infoRcli z) (by rfl) (CV.all1 z) ?_))
    refine wp_gen (fun W2=>Blk W2 w1.heap.size 72 z.cells∧Fr [] w1 W2) ⟨Blk.setRow (Blk.new _ _ _) _,((Fr.refl [] w1).alloc _).setRow (.inr (Nat.le_refl _)) _⟩ ?_;rintro W2 ⟨hB2,F2⟩;obtain⟨gx,HG⟩:∃z,Hid (w1.heap.size=z):=⟨_,zh rfl⟩
    rw [HG.o]at hB2⊢;have F12:=zh (f0h.o.trans (f1h.o.trans F2));obtain⟨hgl,e1,e2⟩:=GotIn.of hB2;have hsz:CliSz z.c:=by
     rcases hf with⟨_,h1⟩ | ⟨_,h1,h2⟩
     ·exact hz _ (cfind_mem h1)
     ·rw [h2];exact CliSz.zero
    have hszs:=zh hsz.secret;clear hsz hB2 F2 F1 hx hh f1h f0h;clear hf;go_wp2_with fail
    go_ret2;exact⟨by rw [hr2.o];rfl,F12.o⟩
   ·rw [hm]at hsw;dsimp only at hsw;have hysz:Hid (y.size≤140737488351232):=zh (hyh.o x y hm);go_enter Tryz.func16,Tryz.ntmps16;go_upto_region 8 with(first
     | (go_at_call 32;refine hg1.mono ?_;clear hg1;rintro e w1 ⟨rfl,rfl⟩)
     | (go_at_call 32;refine hg2.mono ?_;clear hg2;rintro e w1 ⟨rfl,rfl⟩)
     | (go_at_call 43;refine hsw.mono ?_;clear hsw;rintro e w0 ⟨rfl,F0⟩;have f0h:=zh F0;have hget:=rget_t w0 r l x (hh.o.fr0 F0);clear F0)
     | (go_at_call 44;refine hget.mono ?_;clear hget;rintro e w1 ⟨z,b,rfl,hx,hf,F1⟩;have f1h:=zh F1)
     | (refine wpList_store_row rfl 72 _ _ rfl w1.heap.size z.cells rfl rfl 72 _ (Blk.new _ _ _) (infoRcli z) (by rfl) (CV.all1 z) ?_))
    refine wp_gen (fun W2=>Blk W2 w1.heap.size 72 z.cells∧Fr [] w1 W2) ⟨Blk.setRow (Blk.new _ _ _) _,((Fr.refl [] w1).alloc _).setRow (.inr (Nat.le_refl _)) _⟩ ?_;rintro W2 ⟨hB2,F2⟩;obtain⟨gx,HG⟩:∃z,Hid (w1.heap.size=z):=⟨_,zh rfl⟩
    rw [HG.o]at hB2⊢;have F12:=zh (f0h.o.trans (f1h.o.trans F2));obtain⟨hgl,e1,e2⟩:=GotIn.of hB2;have hsz:CliSz z.c:=by
     rcases hf with⟨_,h1⟩ | ⟨_,h1,h2⟩
     ·exact hz _ (cfind_mem h1)
     ·rw [h2];exact CliSz.zero
    have hszs:=zh hsz.secret;clear hsz hB2 F2 F1 hx hh f1h f0h;rcases hf with⟨rfl,hfind⟩ | ⟨rfl,hfind,hxz⟩
    ·obtain⟨p,hp⟩:∃q,Hid (z.c.pub=q):=⟨_,zh rfl⟩
     have hr2:Hid (res=if p=true∨z.c.secret≠y then(nilB,2)else if 0<k1∧i1≠x then(nilB,1)else(x,0)):=zh (by
      rw [←hres.o,authH,hm];dsimp only;rw [hfind];dsimp only;rw [hp.o])
     rw [hp.o]at e2;clear hres hfind hm;cases p with
     |true=>
      have hr3:Hid (res=(nilB,2)):=zh (by rw [hr2.o];simp);clear hr2;go_wp2_with fail
      go_ret2;exact⟨by rw [hr3.o];rfl,F12.o⟩
     |false=>
      obtain⟨cW,cC,hcc,hcF,hcB,hcS,hcG⟩:=conv_any z.c.secret;obtain⟨dW,dC,hdc,hdF,hdB,hdS,hdG⟩:=conv_any y;have F23:=zh (F12.o.trans ((hcF W2).trans (hdF (cW W2))));have hB2:Byts (dW (cW W2)) (some ⟨W2.heap.size,0,none⟩) z.c.secret.size z.c.secret.data.toList:=Rd.fr (hcB W2 W2.heap.size rfl) (hdF (cW W2)) (by simp [Off]);have hB3:=hdB (cW W2) (cW W2).heap.size rfl;have hs:=osame_t (dW (cW W2)) _ _ _ _ (cC W2) (dC (cW W2)) _ _ hB2 hB3 (by have:=hszs.o;omega) hysz.o;rw [secret_eq]at hs;obtain⟨q,hq⟩:∃t,Hid (decide (z.c.secret=y)=t):=⟨_,zh rfl⟩
      have hr3:Hid (res=if q=false then(nilB,2)else if 0<k1∧i1≠x then(nilB,1)else(x,0)):=zh (by rw [hr2.o,←hq.o];simp);rw [hq.o]at hs;rw [hcS]at hs;have hsz2:=hcS W2;clear hB2 hB3 hcF hdF hcB hdB hcS hdS hr2;cases q with
      |false=>
       go_wp2_with (go_at_call 45;refine hs.mono ?_;rintro e W4 ⟨rfl,F4⟩)
       go_ret2;exact⟨by rw [hr3.o];rfl,F23.o.trans F4⟩
      |true=>
       have hr4:Hid (res=if 0<k1∧i1≠x then(nilB,1)else(x,0)):=zh (by rw [hr3.o];simp);clear hr3;by_cases h5:0<k1
       ·have h5b:decide (0<k1)=true:=by rw [decide_eq_true_iff];omega
        obtain⟨q2,hq2⟩:∃t,Hid ((i1.toList==x.toList)=t):=⟨_,zh rfl⟩
        have hq2b:=hq2.o;have hr5:Hid (res=if q2=false then(nilB,1)else(x,0)):=zh (by rw [hr4.o,←hq2.o,toList_beq];simp [h5]);clear hr4 h5;cases q2<;>
        ·go_wp2_with (go_at_call 45;refine hs.mono ?_;rintro e W4 ⟨rfl,F4⟩)
         go_ret2;exact⟨by rw [hr5.o];rfl,F23.o.trans F4⟩
       ·have h5b:decide (0<k1)=false:=by rw [decide_eq_false_iff_not];omega
        have hr5:Hid (res=(x,0)):=zh (by rw [hr4.o,if_neg (fun h=>h5 h.1)]);clear hr4 h5;go_wp2_with (go_at_call 45;refine hs.mono ?_;rintro e W4 ⟨rfl,F4⟩)
        go_ret2;exact⟨by rw [hr5.o];rfl,F23.o.trans F4⟩
    ·have hr2:Hid (res=(nilB,2)):=zh (by rw [←hres.o,authH,hm];dsimp only;rw [hfind]);clear hres hfind hxz hm;go_wp2_with fail
     go_ret2;exact⟨by rw [hr2.o];rfl,F12.o⟩
end Go.Proofs.YtopfcgpeaaehgaaGreatDoor
