/- Walks of a roll: where answers go, which scope, who shows himself. Conditions: each theorem's own. -/
import Derived.Test.YtopfcgpeaaehgaaGreatDoorAm
import Derived.Test.YtopfcgpeaaehgaaGreatDoorGm
namespace Go.Proofs.YtopfcgpeaaehgaaGreatDoor
open Go.RowKit Go.Sig
def RScopePost (w:World) (r:Option (List ByteArray)) (e:Ending) (w':World):Prop:=
 match r with
 |none=>e= .returned (.tuple #[.slice none 0 0,.bool false])∧Fr [] w w'
 |some l=>∃A c,e= .returned (.tuple #[.slice A l.length c,.bool true])∧Rd w' 1 A l.length (strCells l)∧From w.heap.size A∧Fr [] w w'
set_option maxRecDepth 100000 in
set_option maxHeartbeats 2000000 in
theorem rscope_t (w:World) (r:Nat) (l:List GCli) (id:ByteArray) (A:Option Addr) (n c:Nat) (ls:List ByteArray) (h:RollAt w r l) (hz:∀c∈l,CliSz c)
  (hA:Rd w 1 A n (strCells ls)) (hn:ls.length=n) (hmax:n≤1000000) (hs:∀s∈ls,s.size≤150000000000000):
  Calls Tryz.prog 111 #[.pointer (some ⟨r,0,none⟩),.string id,.slice A n c] w (RScopePost w (scopeR l id ls)):=by
 have hget:=rget_t w r l id h;have hAh:=zh hA;clear h hA;go_enter Tryz.func111,Tryz.ntmps111;go_upto_region 2 with(first
  | (go_at_call 44;refine hget.mono ?_;clear hget;rintro e w1 ⟨x,b,rfl,hx,hf,F1⟩)
  | (refine wpList_store_row rfl 72 _ _ rfl w1.heap.size x.cells rfl rfl 72 _ (Blk.new _ _ _) (infoRcli x) (by rfl) (CV.all1 x) ?_))
 refine wp_gen (fun W2=>Blk W2 w1.heap.size 72 x.cells∧Fr [] w1 W2) ⟨Blk.setRow (Blk.new _ _ _) _,((Fr.refl [] w1).alloc _).setRow (.inr (Nat.le_refl _)) _⟩ ?_;rintro W2 ⟨hB2,F2⟩;obtain⟨gx,HG⟩:∃z,Hid (w1.heap.size=z):=⟨_,zh rfl⟩
 rw [HG.o]at hB2⊢;have F12:=zh (F1.trans F2);have hset:=sset_t W2 A n c ls (Rd.fr hAh.o F12.o (by simp [Off])) hn hmax hs;have hxh:=zh (hx.fr0 F2);have hB2h:=zh hB2;clear hB2 F2 F1 hx;have hsw:Hid (∀s∈setOf ls,s.size≤150000000000000):=zh fun s hm=>hs s (mem_setOf.1 hm).1;have hsl:Hid ((setOf ls).length≤1000000):=zh (by have:=setOf_length ls;omega);have hsz:CliSz x.c:=by
  rcases hf with⟨_,h1⟩ | ⟨_,h1,h2⟩
  ·exact hz _ (cfind_mem h1)
  ·rw [h2];exact CliSz.zero
 have hszh:=zh hsz;clear hsz;go_upto_region 3 with(go_at_call 63;refine hset.mono ?_;clear hset;rintro e w3 ⟨v,rfl,hO,F3,hfr⟩)
 obtain⟨A3,c3,rfl,hA3⟩:=hO.form;have hFr3:From w.heap.size A3:=fun ad e=>Nat.le_trans F12.o.size (by
  rcases hA3 with rfl | ⟨g,rfl,_⟩
  ·cases e
  ·injection e with e
   subst e;exact hfr g (by simp [rowOf,Value.ownBlock]))
 have hRd3:=hO.rd;clear hA3 hfr hO;have F13:=zh (F12.o.trans F3);have hx3:=(hxh.o.fr0 F3)
 have hB3:=hB2h.o.fr F3 (by simp);have e4:=hB3.cell 4;unfold CV.cells at e4;simp only [zG,zI,zH]at e4;have hgl:=hB3.lt;have hwi:=swithin_t w3 A3 x.sA (setOf ls).length x.c.scopes.length c3 x.sc (setOf ls) x.c.scopes hRd3 rfl hx3.s rfl (by have:=hsl.o;omega) (by have:=hszh.o.scopes;omega) hsw.o (fun s hm=>by have:=hszh.o.each s hm;omega);have hcl:=fun w' (F:Fr [] w3 w')=>cloneS_t w' x.sA x.c.scopes.length x.sc x.c.scopes (hx3.fr0 F).s rfl (by have:=hszh.o.scopes;omega);have hRd3h:=zh hRd3;have hFr3h:=zh hFr3;have hB3h:=zh hB3;clear hB3 F3 hRd3 hFr3 hx3 hxh hB2h hszh;rcases hf with⟨rfl,hfind⟩ | ⟨rfl,hfind,hxz⟩
 ·obtain⟨q,hq⟩:∃z,Hid (within (setOf ls) x.c.scopes=z):=⟨_,zh rfl⟩
  have hres:Hid (scopeR l id ls=if q=false then none else if(setOf ls).length=0 then some x.c.scopes else some (setOf ls)):=zh (by unfold scopeR;rw [hfind];dsimp only;rw [hq.o]);rw [hq.o]at hwi;clear hfind;cases q with
  |false=>
   go_wp2_with (go_at_call 141;refine hwi.mono ?_;rintro e w4 ⟨rfl,F4⟩)
   go_ret2;rw [show scopeR l id ls=none by rw [hres.o];simp];exact⟨rfl,F13.o.trans F4⟩
  |true=>
   by_cases h0:(setOf ls).length=0
   ·have h0b:((((setOf ls).length:Nat):Int)==0)=true:=by rw [h0];rfl
    have h0h:=zh h0;clear h0;go_wp2_with (first
     | (go_at_call 141;refine hwi.mono ?_;clear hwi;rintro e w4 ⟨rfl,F4⟩;have hcl:=hcl w4 F4;have F14:=zh (F13.o.trans F4);have e4':=cell_fr F4 e4;have hgl4:=(hB3h.o.fr F4 (by simp)).lt;clear F4 e4 hgl)
     | (go_at_call 65;refine hcl.mono ?_;clear hcl;rintro e w5 ⟨A5,c5,rfl,hO5,hA5,F5⟩))
    go_ret2;rw [show scopeR l id ls=some x.c.scopes by rw [hres.o];simp [h0h.o]];exact⟨A5,c5,rfl,hO5.rd,hA5.mono F14.o.size,F14.o.trans F5⟩
   ·have h0b:((((setOf ls).length:Nat):Int)==0)=false:=by rw [beq_eq_false_iff_ne];omega
    have h0h:=zh h0;clear h0;go_wp2_with (go_at_call 141;refine hwi.mono ?_;clear hwi;rintro e w4 ⟨rfl,F4⟩)
    go_ret2;rw [show scopeR l id ls=some (setOf ls) by rw [hres.o];simp only [h0h.o];simp];exact⟨A3,c3,rfl,hRd3h.o.fr F4 (fun _=>off_nil _),hFr3h.o,F13.o.trans F4⟩
 ·have hres:Hid (scopeR l id ls=none):=zh (by unfold scopeR;rw [hfind]);clear hfind hxz;go_wp2_with fail
  go_ret2;rw [hres.o];exact⟨rfl,F13.o⟩
end Go.Proofs.YtopfcgpeaaehgaaGreatDoor
