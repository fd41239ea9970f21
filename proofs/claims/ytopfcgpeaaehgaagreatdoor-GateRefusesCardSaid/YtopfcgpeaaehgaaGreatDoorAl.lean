/- Walks of a roll: which grants, where answers go. Conditions: each theorem's own. -/
import Derived.Test.YtopfcgpeaaehgaaGreatDoorAk
import Derived.Test.YtopfcgpeaaehgaaGreatDoorGt
namespace Go.Proofs.YtopfcgpeaaehgaaGreatDoor
open Go.RowKit Go.Sig
theorem containsS_eq (l:List ByteArray) (s:ByteArray):Lib.containsS l s=l.any fun x=>decide (x=s):=by
 rw [Bool.eq_iff_iff];unfold Lib.containsS;rw [decide_eq_true_eq,Lib.idxOfS_nonneg_iff,List.any_eq_true];exact⟨fun h=>⟨s,h,by simp⟩,fun⟨x,hx,e⟩=>by simp at e;exact e▸hx⟩
theorem contS_t (w:World) (A:Option Addr) (n c:Nat) (ls:List ByteArray) (s:ByteArray) (h:Rd w 1 A n (strCells ls)) (hn:ls.length=n) (hmax:n≤1000000):
  Calls Tryz.prog 110 #[.slice A n c,.string s] w fun e w'=>e= .returned (.bool (ls.any fun x=>decide (x=s)))∧w=w':=by
 rcases Nat.eq_zero_or_pos n with h0 |h0
 ·subst h0;obtain rfl:=List.eq_nil_of_length_eq_zero hn;refine(Tryz.slices_Contains_string_empty A c s w).mono ?_;rintro e w' ⟨rfl,rfl⟩;exact⟨rfl,rfl⟩
 ·obtain⟨b,o,rfl,hc⟩:=h.at h0;refine(Tryz.slices_Contains_string b o n c ls s w (by omega) (by omega) (fun j hj=> ?_)).mono ?_
  ·rw [hc j _ (strCells_at hj),List.getD,List.getElem?_eq_getElem hj];rfl
  ·rintro e w' ⟨rfl,rfl⟩;rw [List.take_of_length_le (by omega),containsS_eq];exact⟨rfl,rfl⟩
structure CliSz (c:GCli):Prop where
 reds:c.reds.length≤100
 scopes:c.scopes.length≤100
 grants:c.grants.length≤100
 each:∀s∈c.scopes,s.size≤1000
 secret:c.secret.size≤1000
 uri:∀s∈c.reds,s.size≤1000
theorem CliSz.zero:CliSz zeroC:=⟨by decide,by decide,by decide,by simp [zeroC],by decide,by simp [zeroC]⟩
theorem cfind_mem {l:List GCli}{id:ByteArray}{c:GCli}(h:cfind l id=some c):c∈l:=List.mem_of_find?_eq_some h
set_option maxRecDepth 100000 in
set_option maxHeartbeats 2000000 in
theorem rmay_t (w:World) (r:Nat) (l:List GCli) (id g:ByteArray) (h:RollAt w r l) (hz:∀c∈l,CliSz c):Calls Tryz.prog 73 #[.pointer (some ⟨r,0,none⟩),.string id,.string g] w fun e w'=>e= .returned (.bool (mayG l id g))∧Fr [] w w':=by
 have hget:=rget_t w r l id h;go_enter Tryz.func73,Tryz.ntmps73;go_upto_region 2 with(first
  | (go_at_call 44;refine hget.mono ?_;clear hget;rintro e w1 ⟨x,b,rfl,hx,hf,F1⟩)
  | (refine wpList_store_row rfl 72 _ _ rfl w1.heap.size x.cells rfl rfl 72 _ (Blk.new _ _ _) (infoRcli x) (by rfl) (CV.all1 x) ?_))
 refine wp_gen (fun W2=>Blk W2 w1.heap.size 72 x.cells∧Fr [] w1 W2) ⟨Blk.setRow (Blk.new _ _ _) _,((Fr.refl [] w1).alloc _).setRow (.inr (Nat.le_refl _)) _⟩ ?_;rintro W2 ⟨hB2,F2⟩;obtain⟨gx,HG⟩:∃z,Hid (w1.heap.size=z):=⟨_,zh rfl⟩
 rw [HG.o]at hB2⊢;have hres:Hid (mayG l id g=x.c.grants.any fun y=>decide (y=g)):=zh (by
  unfold mayG;rcases hf with⟨_,h1⟩ | ⟨_,h1,h2⟩
  ·rw [h1]
  ·rw [h1,h2];rfl)
 have hsz:CliSz x.c:=by
  rcases hf with⟨_,h1⟩ | ⟨_,h1,h2⟩
  ·exact hz _ (cfind_mem h1)
  ·rw [h2];exact CliSz.zero
 have e5:=hB2.cell 5;unfold CV.cells at e5;simp only [zG,zI,zH]at e5;have hc:=contS_t W2 x.gA x.c.grants.length x.gc x.c.grants g ((hx.fr0 F2).g) rfl (by have:=hsz.grants;omega);have F12:=zh (F1.trans F2);have hgl:=hB2.lt;clear hB2 F2 hf hsz hx F1;go_wp2_with (go_at_call 110;refine hc.mono ?_;rintro e w3 ⟨rfl,rfl⟩)
 go_ret;rw [hres.o];exact⟨rfl,F12.o⟩
end Go.Proofs.YtopfcgpeaaehgaaGreatDoor
