/- Walk: texts as families. Conditions: each theorem's own. -/
import Derived.Test.YtpmgepijkhaonaaGreatOl
import Derived.Test.YtpmgepijkhaonaaGreatHq
import Derived.Test.YtpmgepijkhaonaaGreatLx
namespace Go.Proofs.YtpmgepijkhaonaaGreat
open Go.RowKit Go.Sig
theorem parseM_right (s:ByteArray):FamOk (parseM s).1∨(parseM s).1=zeroF:=by
 unfold parseM;split
 ·exact .inr rfl
 ·split
  ·exact .inr rfl
  ·split
   ·rename_i h;refine .inl (rightM_ok.1 ?_);have h1:=h.1;unfold textM at h1;split at h1
    ·assumption
    ·cases h1
   ·exact .inr rfl
theorem read_short {x:FA}{w:World}{B:Nat}(hx:FamW w B x) (h:FamOk x.f∨x.f=zeroF):Short x:=by
 have hts:=hx.ts;have hl:x.ts.length=x.f.tokens.length:=by rw [←hts,List.length_map]
 rcases h with h |h
 ·refine⟨?_,?_,?_,fun t ht=> ?_⟩
  ·have:=(setM_sizes h.set).1;omega
  ·have:=h.tokens;omega
  ·have:=leases_len h.leases h.edges;omega
  ·have hm:t.tok∈x.f.tokens:=by
    rw [←hts];exact List.mem_map_of_mem ht
   have:=(setM_sizes (h.each _ hm).set).1;omega
 ·rw [h]at hl;have h0:x.ts= []:=List.eq_nil_of_length_eq_zero hl;refine⟨?_,?_,?_,fun t ht=> ?_⟩
  ·rw [h];exact Nat.zero_le _
  ·rw [h0];exact Nat.zero_le _
  ·rw [h];exact Nat.zero_le _
  ·rw [h0]at ht;cases ht
set_option maxRecDepth 100000 in
set_option maxHeartbeats 8000000 in
theorem bparsesL_t (w:World) (s:ByteArray):Calls Tryz.prog 4 #[.string s] w fun e w'=>e= .returned (.bool true)∧Fr [] w w':=by
 obtain⟨n,hn⟩:∃z,Hid (s.size=z):=⟨_,zh rfl⟩
 have hkn:=bknown_t w;go_enter Tryz.func4,Tryz.ntmps4;go_upto_region 1 with(fail)
 by_cases hbig:60000<n
 ·have d1:decide ((60000:Int)<(s.size:Int))=true:=decide_eq_true (by have:=hn.o;omega);clear hbig;go_wp2_with (go_at_call 7;refine hkn.mono ?_;rintro e V9 ⟨rfl,G9⟩)
  go_ret;exact⟨rfl,G9⟩
 ·have d1:decide ((60000:Int)<(s.size:Int))=false:=decide_eq_false (by have:=hn.o;omega);have hs:s.size≤1000000:=by
   have:=hn.o;omega
  have hp1:=bparse_t w s hs;have hp2:=zh (fun V:World=>rparse_t V s hs);have hrg:=zh (parseM_right s);clear hkn hs hbig;obtain⟨⟨pf,pk⟩,hpm⟩:∃z,Hid (parseM s=z):=⟨_,zh rfl⟩
  rw [hpm.o]at hp1 hp2 hrg;dsimp only at hp1 hp2 hrg;go_upto_region 4 with(first | (go_at_call 10;refine hp1.mono ?_;rintro e V1 ⟨x,rfl,hxf,hxW,F1⟩;have hxfh:=zh hxf;have hxWh:=zh hxW;have F1h:=zh F1;clear hxf hxW F1) | (refine wpList_store_row rfl 26 _ _ rfl V1.heap.size x.cells rfl rfl 26 _ (Blk.new _ _ _) (infoFamA x) (by unfold FA.cells;rfl) (by unfold FA.cells;kernel_rfl) ?_))
  refine wp_gen (fun U=>Blk U V1.heap.size 26 x.cells∧Fr [] V1 U) ⟨Blk.setRow (Blk.new _ _ _) _,((Fr.refl [] V1).alloc _).setRow (.inr (Nat.le_refl _)) _⟩ ?_;rintro U1 ⟨hX,fU⟩;obtain⟨g3,HG3⟩:∃z,Hid (V1.heap.size=z):=⟨_,zh rfl⟩
  rw [HG3.o]at hX⊢;have hXh:=zh hX;have U1h:=zh (F1h.o.trans fU);have hxW1:=zh (hxWh.o.fr0 fU);have hpw:=hp2.o U1;clear fU hX hp1;go_upto_region 5 with(first | (go_at_call 12;refine hpw.mono ?_;rintro e V2 ⟨y,rfl,hyf,hyW,F2⟩;have hyfh:=zh hyf;have hyWh:=zh hyW;have F2h:=zh F2;clear hyf hyW F2) | (refine wpList_store_row rfl 26 _ _ rfl V2.heap.size y.cells rfl rfl 26 _ (Blk.new _ _ _) (infoFamA y) (by unfold FA.cells;rfl) (by unfold FA.cells;kernel_rfl) ?_))
  refine wp_gen (fun U=>Blk U V2.heap.size 26 y.cells∧Fr [] V2 U) ⟨Blk.setRow (Blk.new _ _ _) _,((Fr.refl [] V2).alloc _).setRow (.inr (Nat.le_refl _)) _⟩ ?_;rintro U2 ⟨hY,fU⟩;obtain⟨g5,HG5⟩:∃z,Hid (V2.heap.size=z):=⟨_,zh rfl⟩
  rw [HG5.o]at hY⊢;have hYh:=zh hY;have f12:=F2h.o.trans fU;have hX2:=zh (hXh.o.fr f12 (by simp));have hxW2:=zh (hxW1.o.fr0 f12);have hyW2:=zh (hyWh.o.fr0 fU);have U2h:=zh (U1h.o.trans f12);have hkn:=bknown_t U2;have heq:(pk==pk)=true:=by simp
  have hsx:=zh (read_short hxWh.o (by rw [hxfh.o];exact hrg.o));clear fU hY hpw f12;go_wp2_with (first | (go_at_call 7;refine hkn.mono ?_;rintro e V9 ⟨rfl,G9⟩;have hX9:=hX2.o.fr G9 (by simp);have hY9:=hYh.o.fr G9 (by simp);obtain⟨a0,a1,a2,a3,a4,a5,a6,a7,a8,a9,a10,al⟩:=fam_cells hX9;obtain⟨b0,b1,b2,b3,b4,b5,b6,b7,b8,b9,b10,bl⟩:=fam_cells hY9;have hsame:=rsame_t V9 x y ((hxW2.o.fr0 G9).fam (by simp)) ((hyW2.o.fr0 G9).fam (by simp)) (by rw [hxfh.o,hyfh.o]) hsx.o;unfold FA.val FA.cells at hsame;have G9h:=zh G9;clear hX9 hY9 G9) | (go_at_call 11;refine hsame.mono ?_;rintro e V10 ⟨rfl,G10⟩))
  go_ret;exact⟨rfl,U2h.o.trans (G9h.o.trans G10)⟩
end Go.Proofs.YtpmgepijkhaonaaGreat
