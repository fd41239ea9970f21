/- Walk: a text as a family, by the document. Conditions: each theorem's own. -/
import Derived.Test.YtpmgepijkhaonaaGreatOf
import Derived.Test.YtpmgepijkhaonaaGreatOj
namespace Go.Proofs.YtpmgepijkhaonaaGreat
open Go.RowKit Go.Sig
theorem put_f1 (k n:Int) (s:ByteArray) (A:Option Addr) (m c:Nat) (W:World):(Instr.field 95 (.agg #[.int .i64 k,.int .i64 n,.string s,.slice A m c]) 1).run Tryz.prog W= .ok (.int .i64 n) W:=by kernel_rfl
theorem put_f2 (k n:Int) (s:ByteArray) (A:Option Addr) (m c:Nat) (W:World):(Instr.field 95 (.agg #[.int .i64 k,.int .i64 n,.string s,.slice A m c]) 2).run Tryz.prog W= .ok (.string s) W:=by kernel_rfl
theorem put_f3 (k n:Int) (s:ByteArray) (A:Option Addr) (m c:Nat) (W:World):(Instr.field 95 (.agg #[.int .i64 k,.int .i64 n,.string s,.slice A m c]) 3).run Tryz.prog W= .ok (.slice A m c) W:=by kernel_rfl
structure PrsT (w:World) (zs cs:Array Value) (gr gf gd B:Nat) (r:RdS) (sc:List ByteArray) (scA:Option Addr) (scc:Nat) (U:World):Prop where
 blk:Blk U gf 26 cs
 rd:TkAt U gd B r
 row:Own U 9 1 (.slice scA sc.length scc) sc.length (strCells sc)
 far:From (gf+1) scA
 fr:Fr [] w U
 res:Blk U gr 26 zs
 high:B≤gf
 low:gr<gd
 hw:w.heap.size≤gr
section
variable {w U V:World}{zs cs:Array Value}{gr gf gd B scc:Nat}{r r':RdS}{sc:List ByteArray}{scA:Option Addr}
theorem PrsT.gfd (h:PrsT w zs cs gr gf gd B r sc scA scc U):gf∉ [gd]:=by
 have:=h.rd.low;have:=h.high;simp;omega
theorem PrsT.at (h:PrsT w zs cs gr gf gd B r sc scA scc U) (F:Fr [gd] U V) (i:Nat) (v:Value) (hv:cs[i]? =some v):V.cell? ⟨gf,i,none⟩=some v∧V.frozen? ⟨gf,i,none⟩=false∧gf<V.heap.size:=
 ⟨((h.blk.fr F h.gfd).cell i).trans hv,(h.blk.fr F h.gfd).frozen i,(h.blk.fr F h.gfd).lt⟩
theorem PrsT.take (h:PrsT w zs cs gr gf gd B r sc scA scc U) (F:Fr [gd] U V) (hA:TkAt V gd B r'):PrsT w zs cs gr gf gd B r' sc scA scc V:=by
 have h1:=h.rd.low;have h2:=h.high;have h3:=h.low;have h4:=h.hw;exact⟨h.blk.fr F h.gfd,hA,h.row.fr F (rowOf_off (fun ad e hm=>by have:=h.far ad e;simp at hm;omega)),h.far,h.fr.andThen F (fun g hg=> .inr (by simp at hg;omega)),h.res.fr F (by simp;omega),h2,h3,h4⟩
theorem PrsT.texts {l:List ByteArray}{L:Option Addr}{d:Nat}(h:PrsT w zs cs gr gf gd B r sc scA scc U) (F:Fr [gd] U V) (hA:TkAt V gd B r') (hO:Own V 9 1 (.slice L l.length d) l.length (strCells l)) (hL:From U.heap.size L):PrsT w zs cs gr gf gd B r' l L d V:=by
 have k:=h.take F hA;exact⟨k.blk,k.rd,hO,fun ad e=>by have:=hL ad e;have:=h.blk.lt;omega,k.fr,k.res,k.high,k.low,k.hw⟩
theorem PrsT.put (h:PrsT w zs cs gr gf gd B r sc scA scc U) (i:Nat) (v:Value):PrsT w zs (cs.setIfInBounds i v) gr gf gd B r sc scA scc (U.setCell ⟨gf,i,none⟩ v):=by
 have h1:=h.rd.low;have h2:=h.high;have h3:=h.low;have h4:=h.hw;have F:Fr [gf] U (U.setCell ⟨gf,i,none⟩ v):=(Fr.refl [gf] U).setCell (p:=⟨gf,i,none⟩) (.inl (by simp)) _;exact⟨h.blk.set i v,h.rd.keep F (fun x hx=>by simp at hx;omega),h.row.fr F (rowOf_off (fun ad e hm=>by have:=h.far ad e;simp at hm;omega)),h.far,h.fr.andThen F (fun g hg=> .inr (by simp at hg;omega)),h.res.fr F (by simp;omega),h2,h3,h4⟩
end
structure ParsT (w:World) (zs:Array Value) (gr gf gd B:Nat) (r:RdS) (x:FA) (U:World):Prop where
 blk:Blk U gf 26 x.cells
 fam:FamW U B x
 off:FOff x [gf]
 rd:TkAt U gd B r
 fr:Fr [] w U
 res:Blk U gr 26 zs
 size:B≤U.heap.size
 high:B≤gf
theorem ParsT.step {w U V:World}{zs:Array Value}{gr gf gd B:Nat}{r r':RdS}{x x':FA}{S:List Nat}(h:ParsT w zs gr gf gd B r x U) (hw:w.heap.size≤gr) (hg:gr<gd) (F:Fr [gd] U V) (V':World) (hR:TkAt V gd B r') (k1:Blk V' gf 26 x'.cells) (k2:FamW V' B x') (k3:FOff x' [gf]) (k4:Fr S V V') (hS:∀g∈S,B≤g):ParsT w zs gr gf gd B r' x' V':=by
 have hgd:=hR.low;have h1:=F.size;have h2:=k4.size;refine⟨k1,k2,k3,hR.keep k4 hS,(h.fr.andThen F fun g hg=> .inr ?_).andThen k4 fun g hg=> .inr ?_,(h.res.fr F ?_).fr k4 ?_,?_,h.high⟩
 ·simp at hg;omega
 ·have:=hS g hg;omega
 ·simp;omega
 ·intro hm;have:=hS _ hm;omega
 ·have:=h.size;omega
theorem fam_sz2 {w:World}{B:Nat}{x:FA}{r:RdS}(h:FamW w B x) (hf:(famR r).1=x.f):x.f.scope.length≤1000000∧∀t∈x.ts,t.tok.scope.length≤1000000:=by
 have ht:=h.ts;rw [←hf]at ht;have k1:=fun r=>toksF_sz (numR 4096 r).1 [] (numR 4096 r).2 (by simp);refine⟨?_,fun t htm=> ?_⟩
 ·rw [←hf];exact Nat.le_trans (textsR_sz _).1 (by decide)
 ·have hm:t.tok∈(famR r).1.tokens:=by
   rw [←ht];exact List.mem_map_of_mem htm
  have:=(k1 _).2 t.tok hm;omega
structure IssT (wr:World) (gd gi B:Nat) (r:RdS) (cs:Array Value) (tl:List ByteArray) (A2:Option Addr) (c2:Nat) (U:World):Prop where
 blk:Blk U gi 29 cs
 rd:TkAt U gd B r
 row:Own U 9 1 (.slice A2 tl.length c2) tl.length (strCells tl)
 far:From (gi+1) A2
 fr:Fr [gd] wr U
 hi:wr.heap.size≤gi
 hB:B≤gi
section
variable {wr U V:World}{cs:Array Value}{gi gd B c2:Nat}{r r':RdS}{tl:List ByteArray}{A2:Option Addr}
theorem IssT.gid (h:IssT wr gd gi B r cs tl A2 c2 U):gi∉ [gd]:=by
 have:=h.rd.low;have:=h.hB;simp;omega
theorem IssT.take (h:IssT wr gd gi B r cs tl A2 c2 U) (F:Fr [gd] U V) (hA:TkAt V gd B r'):IssT wr gd gi B r' cs tl A2 c2 V:=by
 have h1:=h.rd.low;have h2:=h.hB;exact⟨h.blk.fr F h.gid,hA,h.row.fr F (rowOf_off (fun ad e hm=>by have:=h.far ad e;simp at hm;omega)),h.far,h.fr.trans F,h.hi,h.hB⟩
theorem IssT.texts {l:List ByteArray}{L:Option Addr}{d:Nat}(h:IssT wr gd gi B r cs tl A2 c2 U) (F:Fr [gd] U V) (hA:TkAt V gd B r') (hO:Own V 9 1 (.slice L l.length d) l.length (strCells l)) (hL:From U.heap.size L):IssT wr gd gi B r' cs l L d V:=by
 have k:=h.take F hA;exact⟨k.blk,k.rd,hO,fun ad e=>by have:=hL ad e;have:=h.blk.lt;omega,k.fr,k.hi,k.hB⟩
theorem IssT.put (h:IssT wr gd gi B r cs tl A2 c2 U) (i:Nat) (v:Value):IssT wr gd gi B r (cs.setIfInBounds i v) tl A2 c2 (U.setCell ⟨gi,i,none⟩ v):=by
 have h1:=h.rd.low;have h2:=h.hB;have F:Fr [gi] U (U.setCell ⟨gi,i,none⟩ v):=(Fr.refl [gi] U).setCell (p:=⟨gi,i,none⟩) (.inl (by simp)) _;exact⟨h.blk.set i v,h.rd.keep F (fun x hx=>by simp at hx;omega),h.row.fr F (rowOf_off (fun ad e hm=>by have:=h.far ad e;simp at hm;omega)),h.far,h.fr.andThen F (fun g hg=> .inr (by simp at hg;have:=h.hi;omega)),h.hi,h.hB⟩
end
set_option maxRecDepth 100000 in
set_option maxHeartbeats 8000000 in
theorem rparse_good (w:World) (s:ByteArray) (hs:s.size≤1000000) (hok:(openR s.data.toList).2=0):Calls Tryz.prog 12 #[.string s] w (ParsePost w (parseM s).1 (parseM s).2):=by
 obtain⟨cW,cC,hcv,hcF,hcB,hcS,hcc⟩:=conv_any s;obtain⟨P,hP⟩:∃z,Hid (parseM s=z):=⟨_,zh rfl⟩
 rw [hP.o];obtain⟨r0,hr0⟩:∃z,Hid (((openR s.data.toList).1,(0:Int))=z):=⟨_,zh rfl⟩
 obtain⟨⟨v1,r1⟩,hq1⟩:∃z,Hid (textR r0=z):=⟨_,zh rfl⟩
 obtain⟨⟨v2,r2⟩,hq2⟩:∃z,Hid (textR r1=z):=⟨_,zh rfl⟩
 obtain⟨⟨v3,r3⟩,hq3⟩:∃z,Hid (textR r2=z):=⟨_,zh rfl⟩
 obtain⟨⟨v4,r4⟩,hq4⟩:∃z,Hid (textsR r3=z):=⟨_,zh rfl⟩
 obtain⟨⟨v5,r5⟩,hq5⟩:∃z,Hid (textR r4=z):=⟨_,zh rfl⟩
 obtain⟨⟨v6,r6⟩,hq6⟩:∃z,Hid (textR r5=z):=⟨_,zh rfl⟩
 obtain⟨⟨v7,r7⟩,hq7⟩:∃z,Hid (textR r6=z):=⟨_,zh rfl⟩
 obtain⟨⟨v8,r8⟩,hq8⟩:∃z,Hid (numR 4096 r7=z):=⟨_,zh rfl⟩
 have hn:=fun V:World=>ropen08_t (cW V) (some ⟨V.heap.size,0,none⟩) s.size (cC V) s.data.toList (hcB V V.heap.size rfl) (hcc V) hs;have hnh:=zh hn;have hcFh:=zh hcF;have hokh:=zh hok;clear hcB hcS hcc hn hs hcF hok;obtain⟨zs,hz,hzh⟩:∃zs:Array Value,zs.size=11∧Hid (zs=zFA.cells):=⟨_,rfl,zh rfl⟩
 have hf1:=put_f1;have hf2:=put_f2;have hf3:=put_f3;go_enter Tryz.func12,Tryz.ntmps12;go_upto_region 1 with(fail)
 refine wp_gen (fun W=>Blk W w.heap.size 26 zs∧Fr [] w W) ⟨by rw [hzh.o];exact Blk.new _ _ _,(Fr.refl _ _).alloc _⟩ ?_;rintro W ⟨hR,fW⟩;obtain⟨gr,HGR⟩:∃z,Hid (w.heap.size=z):=⟨_,zh rfl⟩
 rw [HGR.o]at hR⊢;have hRh:=zh hR;have fWh:=zh fW;clear fW hR;go_upto_region 2 with(go_at_call 56;refine(hnh.o _).mono ?_;rintro e V ⟨fV,⟨_,A,N,c,rfl,hBy,hNc,hNm⟩ | ⟨h0,_⟩⟩;rotate_left;(exact absurd hokh.o h0);unfold rdV rdC)
 have hcW:=(hcFh.o W).size;obtain⟨g4,HG4⟩:∃z,Hid (V.heap.size=z):=⟨_,zh rfl⟩
 have hFV:=zh ((fWh.o.trans (hcFh.o W)).trans fV);have hRV:=zh (hRh.o.fr ((hcFh.o W).trans fV) (by simp));have hgr4:gr<g4:=by have h1:=hRV.o.lt;have h2:=HG4.o;omega
 have hByh:=zh hBy;have hNch:=zh (And.intro hNc hNm);have hVl:=hBy.lt (by decide);have hVlh:=zh hVl;clear fV hBy hNc hNm hVl hcW;go_upto_region 6 with(fail)
 rw [HG4.o];refine wp_gen (fun U=>PrsT w zs #[.string ⟨#[]⟩,.string ⟨#[]⟩,.string ⟨#[]⟩,.slice none 0 0,.string ⟨#[]⟩,.string ⟨#[]⟩,.string ⟨#[]⟩,.int .i64 0,.slice none 0 0,.bool false,.slice none 0 0] gr (g4+1+1) (g4+1) (g4+1+1) r0 [] none 0 U) ?_ ?_
 ·have h4:=HG4.o;have hlen:=hByh.o.length;have F3:Fr [] V (((V.alloc (.cells #[.slice A N c,.int .i64 0,.int .i64 0] 113)).alloc (.cells #[.slice A N c,.int .i64 0,.int .i64 0] 118)).alloc (.cells #[.string ⟨#[]⟩,.string ⟨#[]⟩,.string ⟨#[]⟩,.slice none 0 0,.string ⟨#[]⟩,.string ⟨#[]⟩,.string ⟨#[]⟩,.int .i64 0,.slice none 0 0,.bool false,.slice none 0 0] 26)):=(((Fr.refl [] V).alloc _).alloc _).alloc _;exact⟨Blk.new' _ _ (by simp;omega),⟨A,N,c,0,(openR s.data.toList).1,0,(Blk.new' _ _ (by simp;omega)).alloc _,⟨hlen,Nat.zero_le _,by rw [←hr0.o];rfl⟩,⟨⟨hByh.o.fr F3 (by simp [Off]),fun hN ad e hm=>by have:=hVlh.o hN ad e;simp at hm;omega⟩,by omega,fun hN ad e=>by have:=hVlh.o hN ad e;omega⟩,hNch.o.1,hNch.o.2⟩,Own.nil _ _ _,(fun _ e=>by cases e),hFV.o.trans F3,hRV.o.fr F3 (by simp),Nat.le_refl _,by omega,Nat.le_of_eq HGR.o⟩
 rintro U0 hS;obtain⟨gd,HGD⟩:∃z,Hid (g4+1=z):=⟨_,zh rfl⟩
 rw [HGD.o]at hS⊢;obtain⟨gf,HGF⟩:∃z,Hid (gd+1=z):=⟨_,zh rfl⟩
 rw [HGF.o]at hS⊢;have hS0:=zh hS;clear hS hgr4;go_upto_region 7 with(go_at_call 57;go_loud (refine(take_text _ gd gf r0 hS0.o.rd).mono ?_;rintro e V ⟨rfl,hA,F⟩;rw [hq1.o]at hA⊢;obtain⟨cI,zI,hl⟩:=hS0.o.at F 0 (.string ⟨#[]⟩) rfl;have Fh:=zh F;have hAh:=zh hA;clear F hA))
 refine wp_gen (fun U=>PrsT w zs _ gr gf gd gf r1 [] none 0 U) ((hS0.o.take Fh.o hAh.o).put 0 (.string v1)) ?_;rintro U1 hS;have hS1:=zh hS;clear hS cI zI hl;go_upto_region 8 with(go_at_call 57;go_loud (refine(take_text _ gd gf r1 hS1.o.rd).mono ?_;rintro e V ⟨rfl,hA,F⟩;rw [hq2.o]at hA⊢;obtain⟨cI,zI,hl⟩:=hS1.o.at F 1 (.string ⟨#[]⟩) rfl;have Fh:=zh F;have hAh:=zh hA;clear F hA))
 refine wp_gen (fun U=>PrsT w zs _ gr gf gd gf r2 [] none 0 U) ((hS1.o.take Fh.o hAh.o).put 1 (.string v2)) ?_;rintro U2 hS;have hS2:=zh hS;clear hS cI zI hl;go_upto_region 9 with(go_at_call 57;go_loud (refine(take_text _ gd gf r2 hS2.o.rd).mono ?_;rintro e V ⟨rfl,hA,F⟩;rw [hq3.o]at hA⊢;obtain⟨cI,zI,hl⟩:=hS2.o.at F 2 (.string ⟨#[]⟩) rfl;have Fh:=zh F;have hAh:=zh hA;clear F hA))
 refine wp_gen (fun U=>PrsT w zs _ gr gf gd gf r3 [] none 0 U) ((hS2.o.take Fh.o hAh.o).put 2 (.string v3)) ?_;rintro U3 hS;have hS3:=zh hS;clear hS cI zI hl;go_upto_region 10 with(go_at_call 57;go_loud (refine(take_texts _ gd gf r3 hS3.o.rd).mono ?_;rintro e V ⟨scA,scc,rfl,hO,hFA,hA,F⟩;rw [hq4.o]at hA hO⊢;have hOh:=zh hO;have hFAh:=zh hFA;clear hO hFA;obtain⟨cI,zI,hl⟩:=hS3.o.at F 3 (.slice none 0 0) rfl;have Fh:=zh F;have hAh:=zh hA;clear F hA))
 refine wp_gen (fun U=>PrsT w zs _ gr gf gd gf r4 v4 scA scc U) ((hS3.o.texts Fh.o hAh.o hOh.o hFAh.o).put 3 (.slice scA v4.length scc)) ?_;rintro U4 hS;have hS4:=zh hS;clear hS cI zI hl;go_upto_region 11 with(go_at_call 57;go_loud (refine(take_text _ gd gf r4 hS4.o.rd).mono ?_;rintro e V ⟨rfl,hA,F⟩;rw [hq5.o]at hA⊢;obtain⟨cI,zI,hl⟩:=hS4.o.at F 4 (.string ⟨#[]⟩) rfl;have Fh:=zh F;have hAh:=zh hA;clear F hA))
 refine wp_gen (fun U=>PrsT w zs _ gr gf gd gf r5 v4 scA scc U) ((hS4.o.take Fh.o hAh.o).put 4 (.string v5)) ?_;rintro U5 hS;have hS5:=zh hS;clear hS cI zI hl;go_upto_region 12 with(go_at_call 57;go_loud (refine(take_text _ gd gf r5 hS5.o.rd).mono ?_;rintro e V ⟨rfl,hA,F⟩;rw [hq6.o]at hA⊢;obtain⟨cI,zI,hl⟩:=hS5.o.at F 5 (.string ⟨#[]⟩) rfl;have Fh:=zh F;have hAh:=zh hA;clear F hA))
 refine wp_gen (fun U=>PrsT w zs _ gr gf gd gf r6 v4 scA scc U) ((hS5.o.take Fh.o hAh.o).put 5 (.string v6)) ?_;rintro U6 hS;have hS6:=zh hS;clear hS cI zI hl;go_upto_region 13 with(go_at_call 57;go_loud (refine(take_text _ gd gf r6 hS6.o.rd).mono ?_;rintro e V ⟨rfl,hA,F⟩;rw [hq7.o]at hA⊢;obtain⟨cI,zI,hl⟩:=hS6.o.at F 6 (.string ⟨#[]⟩) rfl;have Fh:=zh F;have hAh:=zh hA;clear F hA))
 refine wp_gen (fun U=>PrsT w zs _ gr gf gd gf r7 v4 scA scc U) ((hS6.o.take Fh.o hAh.o).put 6 (.string v7)) ?_;rintro U7 hS;have hS7:=zh hS;clear hS cI zI hl;go_upto_region 14 with(go_at_call 57;go_loud (refine(take_count _ gd gf r7 hS7.o.rd).mono ?_;rintro e V ⟨rfl,hA,F⟩;rw [hq8.o]at hA⊢;obtain⟨cI,zI,hl⟩:=hS7.o.at F 7 (.int .i64 0) rfl;have Fh:=zh F;have hAh:=zh hA;clear F hA))
 refine wp_gen (fun U=>PrsT w zs #[.string v1,.string v2,.string v3,.slice scA v4.length scc,.string v5,.string v6,.string v7,.int .i64 (v8:Nat),.slice none 0 0,.bool false,.slice none 0 0] gr gf gd gf r8 v4 scA scc U) (by have k:=(hS7.o.take Fh.o hAh.o).put 7 (.int .i64 (v8:Nat));simpa using k) ?_;rintro U8 hS;have hS8:=zh hS;clear hS cI zI hl;obtain⟨f0,hf0⟩:∃f0,f0=(⟨v1,v2,v3,v4,v5,v6,v7,(v8:Nat),[],false,[]⟩:GFam):=⟨_,rfl⟩
 have hx0:ParsT w zs gr gf gd gf r8 ⟨f0,scA,scc,none,0,[],none,0⟩ U8:=by have k:=hS8.o;rw [hf0];exact⟨k.blk,⟨rfl,k.row,Own.nil _ _ _,Own.nil _ _ _,(fun _ h=>by cases h),fun ad e=>by have:=k.far ad e;omega,(fun _ e=>by cases e),(fun _ e=>by cases e),(fun _ h=>by cases h),(fun _ _ e=>by cases e),(fun _ _ e=>by cases e),(fun _ h=>by cases h),(fun _ _ e=>by cases e),(fun _ h=>by cases h)⟩,⟨fun ad e hm=>by have:=k.far ad e;simp at hm;omega,(fun _ e=>by cases e),(fun _ e=>by cases e),(fun _ h=>by cases h)⟩,k.rd,k.fr,k.res,Nat.le_of_lt k.blk.lt,Nat.le_refl _⟩
 have hgw:gr<gd:=hS8.o.low;have hgwh:=zh hgw;have hUh:=zh hx0;have hf0h:=zh hf0;have hgx:gd≠gf:=by have:=hS8.o.rd.low;omega
 clear hx0 hf0 hgw;obtain⟨⟨v9,r9⟩,hq9⟩:∃z,Hid (numR 4096 r8=z):=⟨_,zh rfl⟩
 have hrc:=take_count U8 gd gf r8 hUh.o.rd;have hle:=numR_le (most:=4096) r8;rw [hq9.o]at hrc hle;simp only at hrc hle;go_wp2_with (go_at_call 57;refine hrc.mono ?_;rintro e U9 ⟨rfl,hA9,F9⟩)
 obtain⟨T,hT⟩:∃z,Hid (toksF v9 [] r9=z):=⟨_,zh rfl⟩
 have hP0h:=zh (hUh.o.step (x':=⟨f0,scA,scc,none,0,[],none,0⟩) (S:= []) (Nat.le_of_eq HGR.o) hgwh.o F9 U9 hA9 (hUh.o.blk.fr F9 (by simp;omega)) (hUh.o.fam.fr F9 (fun g hg=>by have:=hUh.o.rd.low;simp at hg;omega)) hUh.o.off (Fr.refl _ _) (by simp));clear hrc hA9 F9;go_loopg [8] (v9+1) (fun gk s8 wr=>∃(j:Nat) (x:FA) (rs:RdS),s8= .int .i64 j∧j<gk∧x.f={f0 with tokens:=x.f.tokens}∧x.f.tokens.length+j≤4096∧toksF j x.f.tokens rs=T∧ParsT w zs gr gf gd gf rs x wr)
 case atStart=>exact⟨v9,⟨f0,scA,scc,none,0,[],none,0⟩,r9,rfl,by omega,by rw [hf0h.o],by rw [hf0h.o];simpa using hle,by rw [hf0h.o];exact hT.o,hP0h.o⟩
 case round=>
  obtain⟨j,x,rs,rfl,hj,hxf,hlen,hX,hU⟩:=hrel;have hXh:=zh hX;have hUh:=zh hU;have hxfh:=zh hxf;have hlenh:=zh hlen;have hgxh:=zh hgx;clear hX hU hxf hlen hgx;by_cases h0:j=0
  ·have hd0:decide (0<j)=false:=decide_eq_false (by omega);have hTT:=zh (show(x.f.tokens,rs)=T by
    have e:=hXh.o;rwa [h0,toksF]at e)
   clear h0 hj;obtain⟨⟨vm,q1⟩,hk1⟩:∃z,Hid (numR 1 rs=z):=⟨_,zh rfl⟩
   obtain⟨vb,hvb⟩:∃z,Hid (decide (vm=1)=z):=⟨_,zh rfl⟩
   have hvbe:((vm:Int)==1)=vb:=by rw [←hvb.o,Bool.eq_iff_iff];simp;omega
   have hk1b:=zh (show boolR rs=(vb,q1) by unfold boolR;rw [hk1.o,hvb.o]);obtain⟨⟨vn,q2⟩,hk2⟩:∃z,Hid (numR 4096 q1=z):=⟨_,zh rfl⟩
   go_upto_region 23 with(go_at_call 57;refine(take_bool wr gd gf rs hUh.o.rd).mono ?_;rintro e Z1 ⟨rfl,hA1,F1⟩;rw [hk1.o]at hA1⊢;have hA1h:=zh hA1;have F1h:=zh F1;have hB1:=hUh.o.blk.fr F1 (by simp;exact fun h=>hgxh.o h.symm);have hB1h:=zh hB1;obtain⟨q0,q1',q2',q3',q4,q5,q6,q7,c8,q9,q10,hpl⟩:=fam_cells hB1;have hz9:Z1.frozen? ⟨gf,9,none⟩=false:=hB1.frozen 9;clear q0 q1' q2' q3' q4 q5 q6 q7 c8 q10 hB1 hA1 F1)
   obtain⟨x2,hx2⟩:∃x2:FA,x2={x with f:={x.f with revoked:=vb}}:=⟨_,rfl⟩
   refine wp_gen (fun V=>ParsT w zs gr gf gd gf q1 x2 V) ?_ ?_
   ·have FS:Fr [gf] Z1 (Z1.setCell ⟨gf,9,none⟩ (.bool vb)):=(Fr.refl [gf] Z1).setCell (p:=⟨gf,9,none⟩) (.inl (by simp)) _;have hW:=(hUh.o.fam.fr F1h.o (fun g hg=>by have:=hUh.o.rd.low;simp at hg;omega)).frO FS hUh.o.off;have hB2:=hB1h.o.set 9 (.bool vb);subst hx2;exact hUh.o.step (Nat.le_of_eq HGR.o) hgwh.o F1h.o _ hA1h.o (by unfold FA.cells at hB2⊢;simpa using hB2) ⟨hW.ts,hW.scope,hW.toks,hW.leases,hW.each,hW.fs,hW.ft,hW.fl,hW.fe,hW.ts_,hW.tl,hW.te,hW.ls,hW.le⟩ ⟨hUh.o.off.s,hUh.o.off.t,hUh.o.off.l,hUh.o.off.e⟩ FS (fun g hg=>by simp at hg;omega)
   rintro V hV;have hVh:=zh hV;clear hV;have hrc:=take_count V gd gf q1 hVh.o.rd;have hle:=numR_le (most:=4096) q1;rw [hk2.o]at hrc hle;simp only at hrc hle;clear q9 hpl hz9;go_wp2_with (go_at_call 57;refine hrc.mono ?_;rintro e V2 ⟨rfl,hA2,F2⟩)
   have hP2h:=zh (hVh.o.step (x':=x2) (S:= []) (Nat.le_of_eq HGR.o) hgwh.o F2 V2 hA2 (hVh.o.blk.fr F2 (by simp;exact fun h=>hgxh.o h.symm)) (hVh.o.fam.fr F2 (fun g hg=>by have:=hVh.o.rd.low;simp at hg;omega)) hVh.o.off (Fr.refl _ _) (by simp));have hx2h:=zh hx2;obtain⟨L,hL⟩:∃z,Hid (intsF vn [] q2=z):=⟨_,zh rfl⟩
   have hx0h:=zh (show x2.f.leases= [] by rw [hx2,hxfh.o,hf0h.o]);obtain⟨f2,hf2⟩:∃z,Hid (x2.f=z):=⟨_,zh rfl⟩
   clear hrc hA2 F2 hx2;go_loopg [10] (vn+1) (fun gk s10 wr=>∃(j:Nat) (x:FA) (rs:RdS),s10= .int .i64 j∧j<gk∧x.f={f2 with leases:=x.f.leases}∧x.f.leases.length+j≤4096∧intsF j x.f.leases rs=L∧ParsT w zs gr gf gd gf rs x wr)
   case atStart=>exact⟨vn,x2,q2,rfl,by omega,by rw [hf2.o],by rw [hx0h.o];simpa using hle,by rw [hx0h.o];exact hL.o,hP2h.o⟩
   case round=>
    obtain⟨j,y,rs2,rfl,hj,hyf,hlen2,hL2,hY⟩:=hrel;have hLLh:=zh hL2;have hYh:=zh hY;have hyfh:=zh hyf;have hlen2h:=zh hlen2;clear hL2 hY hyf hlen2;by_cases h0:j=0
    ·have hd0:decide (0<j)=false:=decide_eq_false (by omega);have hLe:=zh (show(y.f.leases,rs2)=L by
      have e:=hLLh.o;rwa [h0,intsF]at e)
     clear h0 hj;have hfam:famR r0=(y.f,rs2):=by
      have e1:=hyfh.o;have e2:f2={x.f with revoked:=vb}:=by rw [←hf2.o,hx2h.o]
      have e3:=hxfh.o;rw [e2,e3,hf0h.o]at e1;unfold famR;simp only [hq1.o,hq2.o,hq3.o,hq4.o,hq5.o,hq6.o,hq7.o,hq8.o,hq9.o,hT.o,←hTT.o,hk1b.o,hk2.o,hL.o,←hLe.o];exact Prod.ext e1.symm rfl
     have hPM:P=if endR rs2≠0 then(zeroF,endR rs2)else if(textM y.f).2=0∧(textM y.f).1=s then(y.f,0)else(zeroF,3):=by rw [←hP.o];unfold parseM;rw [if_neg (by simp [hokh.o]),hr0.o,hfam]
     have hPMh:=zh hPM;obtain⟨A',N',c',p',bs',bad',hTB,hTI,_,_,_⟩:=hYh.o.rd;have hre:=rend08_t wr A' N' c' p' bs' bad' rs2 hTI;obtain⟨t0,t1,t2,htl,_⟩:=rd_cells hTB;unfold rdV rdC at hre;obtain⟨k,hk⟩:∃z,Hid (endR rs2=z):=⟨_,zh rfl⟩
     rw [hk.o]at hre;clear hPM hTB hTI;by_cases hk0:k=0
     ·have hkb:(k !=0)=false:=by simpa using hk0
      subst hk0;have hsz:FamSz y:=fam_sz hYh.o.fam (congrArg Prod.fst hfam);have hsz2:=fam_sz2 hYh.o.fam (congrArg Prod.fst hfam);go_upto_region 30 with(go_at_call 58;refine hre.mono ?_;rintro e V3 ⟨rfl,F3⟩;have F3h:=zh F3;clear F3)
      have hY3h:=zh (hYh.o.step (x':=y) (S:= []) (Nat.le_of_eq HGR.o) hgwh.o F3h.o.nil V3 (hYh.o.rd.fr0 F3h.o) (hYh.o.blk.fr F3h.o (by simp)) (hYh.o.fam.fr0 F3h.o) hYh.o.off (Fr.refl _ _) (by simp));have hbt:=rtext18_t V3 y (hY3h.o.fam.fam (X:= []) (by simp)) hsz hsz2;obtain⟨⟨ts,te⟩,ht⟩:∃z,Hid (textM y.f=z):=⟨_,zh rfl⟩
      rw [ht.o]at hbt;dsimp only at hbt;have hB:=hY3h.o.blk;clear t0 t1 t2 htl hre;go_upto_region 31 with(first | (refine wpList_load_at rfl 26 _ rfl rfl hB (sub_self _) uFam rfl (infoFamL _) ?_;rw [Array.toArray_toList]) | (go_at_call 9;refine hbt.mono ?_;rintro e V4 ⟨rfl,F4⟩))
      have hY4h:=zh (hY3h.o.step (x':=y) (S:= []) (Nat.le_of_eq HGR.o) hgwh.o F4.nil V4 (hY3h.o.rd.fr0 F4) (hY3h.o.blk.fr F4 (by simp)) (hY3h.o.fam.fr0 F4) hY3h.o.off (Fr.refl _ _) (by simp));clear hbt hB F4;have hRr:=hY4h.o.res;have hrl:=hRr.lt;have hB:=hY4h.o.blk;by_cases hgood:te=0∧ts=s
      ·obtain⟨rfl,rfl⟩:=hgood;have hPz:P=(y.f,0):=by
        rw [hPMh.o,hk.o,if_neg (by simp),ht.o,if_pos ⟨rfl,rfl⟩]
       have heq:(ts.toList==ts.toList)=true:=by simp
       go_wp2_with (first | (refine wpList_load_at rfl 26 _ rfl rfl hB (sub_self _) uFam rfl (infoFamL _) ?_;rw [Array.toArray_toList]) | (refine wpList_store_row rfl 26 _ _ rfl gr y.cells rfl rfl 26 zs hRr (infoFamA y) (by rw [hz];rfl) (by kernel_rfl) ?_))
       refine bodyPost_ret (v:= .tuple #[y.val,.int .i64 0]) (results_ct (p:=2) (q:=3) rfl _ _ gr 26 y.cells (0,0) _ rfl (Blk.setRow hRr _) uFam rfl (infoFamA y) rfl) rfl ?_;have FR:Fr [gr] V4 (V4.setRow gr y.cells):=(Fr.refl [gr] V4).setRow (.inl (by simp)) _;have hlow:∀g∈ [gr],g<gf:=fun g hg=>by have h1:=hY4h.o.rd.low;have h2:=hgwh.o;simp at hg;omega
       have hBw:w.heap.size≤gf:=by have h1:=hY4h.o.rd.low;have h2:=hgwh.o;have h3:=HGR.o;omega
       exact⟨y,by first |rfl |rw [hPz],by first |rfl |rw [hPz],(hY4h.o.fam.fr FR hlow).below hBw,hY4h.o.fr.andThen FR (fun g hg=> .inr (by have:=HGR.o;simp at hg;omega))⟩
      ·have hPz:P=(zeroF,3):=by
        rw [hPMh.o,hk.o,if_neg (by simp),ht.o,if_neg hgood]
       by_cases hte:te=0
       ·have hne:(ts.toList==s.toList)=false:=by
         have h:ts≠s:=fun h=>hgood ⟨hte,h⟩;rw [toList_beq];simp [h]
        subst hte;go_wp2_with (refine wpList_store_row rfl 26 _ _ rfl gr zFA.cells rfl rfl 26 zs hRr (infoFamA zFA) (by rw [hz];rfl) (by kernel_rfl) ?_)
        refine bodyPost_ret (v:= .tuple #[zFA.val,.int .i64 3]) (results_ct (p:=2) (q:=3) rfl _ _ gr 26 zFA.cells (0,0) _ rfl (Blk.setRow hRr _) uFam rfl (infoFamA zFA) rfl) rfl ?_;exact zero_post (P:=(zeroF,3)) rfl hY4h.o.fr (Nat.le_of_eq HGR.o)
       ·have hteb:(te !=0)=true:=by simpa using hte
        clear hte;go_wp2_with (refine wpList_store_row rfl 26 _ _ rfl gr zFA.cells rfl rfl 26 zs hRr (infoFamA zFA) (by rw [hz];rfl) (by kernel_rfl) ?_)
        refine bodyPost_ret (v:= .tuple #[zFA.val,.int .i64 3]) (results_ct (p:=2) (q:=3) rfl _ _ gr 26 zFA.cells (0,0) _ rfl (Blk.setRow hRr _) uFam rfl (infoFamA zFA) rfl) rfl ?_;exact zero_post hPz hY4h.o.fr (Nat.le_of_eq HGR.o)
     ·have hkb:(k !=0)=true:=by simpa using hk0
      have hPz:P=(zeroF,k):=by rw [hPMh.o,hk.o,if_pos hk0]
      clear hk0;go_upto_region 29 with(go_at_call 58;refine hre.mono ?_;rintro e V3 ⟨rfl,F3⟩;have F3h:=zh F3;clear F3)
      have hRr:=hYh.o.res.fr F3h.o (by simp);have hrl:=hRr.lt;have hY3h:=zh (hYh.o.step (x':=y) (S:= []) (Nat.le_of_eq HGR.o) hgwh.o F3h.o.nil V3 (hYh.o.rd.fr0 F3h.o) (hYh.o.blk.fr F3h.o (by simp)) (hYh.o.fam.fr0 F3h.o) hYh.o.off (Fr.refl _ _) (by simp));go_wp2_with (refine wpList_store_row rfl 26 _ _ rfl gr zFA.cells rfl rfl 26 zs hRr (infoFamA zFA) (by rw [hz];rfl) (by kernel_rfl) ?_)
      refine bodyPost_ret (v:= .tuple #[zFA.val,.int .i64 k]) (results_ct (p:=2) (q:=3) rfl _ _ gr 26 zFA.cells (0,0) _ rfl (Blk.setRow hRr _) uFam rfl (infoFamA zFA) rfl) rfl ?_;exact zero_post hPz hY3h.o.fr (Nat.le_of_eq HGR.o)
    ·have hd0:decide (0<j)=true:=decide_eq_true (by omega);obtain⟨⟨ie,q3⟩,hk3⟩:∃z,Hid (intR rs2=z):=⟨_,zh rfl⟩
     obtain⟨n,hn⟩:∃z,Hid (y.f.leases.length=z):=⟨_,zh rfl⟩
     have hn4:n≤4096:=by have h2:=hlen2h.o;have:=hn.o;omega
     obtain⟨p0,p1,p2,p3,p4,p5,p6,p7,p8,p9,c10,hpl⟩:=fam_cells hYh.o.blk;clear p0 p1 p2 p3 p4 p5 p6 p7 p8 p9;rw [hn.o]at c10;have hz10:wr.frozen? ⟨gf,10,none⟩=false:=hYh.o.blk.frozen 10;have hOT:=hYh.o.fam.leases;rw [hn.o]at hOT;have hOTh:=zh hOT;have honeh:=zh intCells_one;have hj4:j≤4096:=by have:=hlen2h.o;omega
     have hjh:=zh h0;have hjk:=zh hj;clear hOT h0 hj;go_upto_region 26 with(fail)
     refine wp_region_z (fun w'=>w'.cell? ⟨gf,10,none⟩=some (.slice y.lA n y.lc)) [8] (by kernel_rfl) c10 ?_;intro hHeld;refine wpZ_tk (i:=0) (v:= ?_) hHeld ?_ ?_;rotate_left
     ·(intro w hSw;go_simp<;>with_reducible rfl)
     try simp only [zA,zC,Act.put,zD,zE,zF]
     refine wpZ_tk (i:=1) (v:= ?_) hHeld ?_ ?_;rotate_left
     ·(intro w hSw;go_simp<;>with_reducible rfl)
     try simp only [zA,zB,zC,Act.put,zD,zE,zF]
     refine wpZ_tk (i:=2) (v:= ?_) hHeld ?_ ?_;rotate_left
     ·(intro w hSw;go_simp<;>with_reducible rfl)
     try simp only [zA,zB,zC,Act.put,zD,zE,zF]
     refine wpZ_one (i:=3) (by kernel_rfl) rfl (fun K hK=> ?_);go_simp;refine(take_int wr.drew gd gf rs2 hYh.o.rd).mono ?_;rintro e Z1 ⟨rfl,hA1,F1⟩;rw [hk3.o]at hA1⊢;have F1:Fr [gd] wr Z1:=F1.of_drew;have hl1:gf<Z1.heap.size:=Nat.lt_of_lt_of_le hpl F1.size;have c11:=(F1.cell (p:=⟨gf,10,none⟩) hpl (by simp;exact fun h=>hgxh.o h.symm)).trans c10;have hz11:=(frozen_fr F1 (j:=10) hpl (by simp;exact fun h=>hgxh.o h.symm)).trans hz10;dsimp only;clear hHeld;refine hK.out _ _ c11 (fun hHeld=> ?_);clear hK K;try simp only [zA,zB,zC,Act.put,zD,zE,zF]
     refine wpZ_tk (i:=4) (v:= ?_) hHeld ?_ ?_;rotate_left
     ·(intro w hSw;go_simp<;>with_reducible rfl)
     try simp only [zA,zB,zC,Act.put,zD,zE,zF]
     refine wpZ_one (i:=5) (by kernel_rfl) rfl (fun K hK=> ?_);go_simp;clear hHeld;refine hK.out _ _ (cell_fr ((Fr.refl [] Z1).alloc _) c11) (fun hHeld=> ?_);clear hK K;try simp only [zA,zB,zC,Act.put,zD,zE,zF]
     refine wpZ_one (i:=6) (by kernel_rfl) rfl (fun K hK=> ?_);refine own_append_op (P:=Tryz.prog) (xs:=intCells y.f.leases) (news:=intCells [ie]) tIntsR (((hOTh.o.fr F1 (rowOf_off fun ad e hm=>by
      have h1:=hYh.o.fam.fl ad e;have h2:=hYh.o.rd.low;simp at hm;omega)).fr ((Fr.refl [] Z1).alloc _) (by simp))) (m:=1) (c:=1) (A:=some ⟨Z1.heap.size,0,none⟩) (int_newR Z1 ie 3) (honeh.o _) (by simp) (by unfold maxLen;omega) (by omega) rfl rfl rfl rfl (fun v' w3 g1 g2 g3=> ?_)
     have g1:=g1;obtain⟨A3,c3,rfl,_⟩:=g1.form;have hoff:∀z,z∈rowOf (.slice y.lA n y.lc)→gf≠z:=fun z hz e=>by obtain⟨ad,e2,rfl⟩:=rowOf_mem.1 hz;exact hYh.o.off.l ad e2 (by simp [e])
     have hl4:gf<(Z1.alloc (.cells #[.int .i64 ie] 3)).heap.size:=by simp;omega
     have c12:w3.cell? ⟨gf,10,none⟩=some (.slice y.lA n y.lc):=(g2.cell (p:=⟨gf,10,none⟩) hl4 (fun hz=>hoff _ hz rfl)).trans (cell_fr ((Fr.refl [] Z1).alloc _) c11);have hz12:w3.frozen? ⟨gf,10,none⟩=false:=(frozen_fr g2 hl4 (fun hz=>hoff _ hz rfl)).trans ((frozen_fr ((Fr.refl [] Z1).alloc (.cells #[.int .i64 ie] 3)) hl1 (by simp)).trans hz11);have hl5:gf<w3.heap.size:=Nat.lt_of_lt_of_le hl4 g2.size;try dsimp only
     clear hHeld;refine hK.out _ _ c12 (fun hHeld=> ?_);clear hK K;try simp only [zA,zB,zC,Act.put,zD,zE,zF]
     refine wpZ_tk (i:=7) (v:= ?_) hHeld ?_ ?_;rotate_left
     ·(intro w hSw;go_simp<;>with_reducible rfl)
     try simp only [zA,zB,zC,Act.put,zD,zE,zF]
     refine wpZ_end (i:=8) (by kernel_rfl) rfl rfl (fun K hK=> ?_);go_simp;refine hK.out _ _ ?_;clear hK K;try simp only [zA,zB,zC,Act.put,zD,zE,zF]
     refine wpZ_done (by kernel_rfl) ?_ _;obtain⟨y1,hy1,hB1,hW1,hO1,hF1⟩:=parse_lease (e:=ie) hYh.o.fam hYh.o.blk hYh.o.off hYh.o.size hYh.o.high hn.o F1 (fun g hg=>by have:=hYh.o.rd.low;simp at hg;omega) g1 g2 g3;have hN:=hYh.o.step (x':=y1) (Nat.le_of_eq HGR.o) hgwh.o F1 _ hA1 hB1 hW1 hO1 hF1 (fun g hg=>by
      rcases List.mem_cons.1 hg with rfl |hg
      ·exact hYh.o.high
      ·obtain⟨ad,e,rfl⟩:=rowOf_mem.1 hg;exact hYh.o.fam.fl ad e)
     have hNh:=zh hN;clear hN hB1 hW1 hO1 hF1 g1 g2 g3;go_wp2_with fail
     go_roundg j
     case measure=>exact hjk.o
     case rel=>
      refine⟨j - 1,y1,q3,by have:=hjh.o;go_num,by have:=hjh.o;have:=hjk.o;omega,?_,?_,?_,hNh.o⟩
      ·have e:=hyfh.o;rw [hy1];generalize y.f=z at e⊢;rw [e]
      ·have:=hlen2h.o;have:=hjh.o;rw [hy1];simp;omega
      ·rw [←hLLh.o,show j=(j - 1)+1 by have:=hjh.o;omega,intsF,hk3.o,hy1];rfl
  ·have hd0:decide (0<j)=true:=decide_eq_true (by omega);obtain⟨⟨tk,q1⟩,hk1⟩:∃z,Hid (numR 4096 rs=z):=⟨_,zh rfl⟩
   obtain⟨⟨tl,q2⟩,hk2⟩:∃z,Hid (textsR q1=z):=⟨_,zh rfl⟩
   obtain⟨⟨tm,q3⟩,hk3⟩:∃z,Hid (numR 1 q2=z):=⟨_,zh rfl⟩
   obtain⟨tb,htb⟩:∃z,Hid (decide (tm=1)=z):=⟨_,zh rfl⟩
   have htbe:((tm:Int)==1)=tb:=by rw [←htb.o,Bool.eq_iff_iff];simp;omega
   obtain⟨tn,htn⟩:∃z,Hid (x.ts.length=z):=⟨_,zh rfl⟩
   have htn4:tn≤4096:=by have h1:=hUh.o.fam.len;have h2:=hlenh.o;rw [htn.o]at h1;omega
   have hjh:=zh h0;have hjk:=zh hj;have hj4:j≤4096:=by have:=hlenh.o;omega
   have hBw:=hUh.o.size;clear h0 hj;go_upto_region 18 with(fail)
   refine wp_gen (fun U=>IssT wr gd wr.heap.size gf rs #[.int .i64 0,.slice none 0 0,.bool false] [] none 0 U) ⟨Blk.new _ _ _,hUh.o.rd.keep ((Fr.refl [] wr).alloc _) (by simp),Own.nil _ _ _,(fun _ e=>by cases e),((Fr.refl [] wr).alloc _).nil,Nat.le_refl _,hBw⟩ ?_;rintro Y0 hI;obtain⟨gi,HGI⟩:∃z,Hid (wr.heap.size=z):=⟨_,zh rfl⟩
   rw [HGI.o]at hI⊢;have hI0:=zh hI;clear hI hBw;go_upto_region 19 with(go_at_call 57;go_loud (refine(take_count _ gd gf rs hI0.o.rd).mono ?_;rintro e V ⟨rfl,hA,F⟩;rw [hk1.o]at hA⊢;have hb:=hI0.o.blk.fr F hI0.o.gid;have cI:=hb.cell 0;have zI:=hb.frozen 0;have hl:=hb.lt;simp only [zG,zH]at cI;have Fh:=zh F;have hAh:=zh hA;clear F hA hb))
   refine wp_gen (fun U=>IssT wr gd gi gf q1 #[.int .i64 (tk:Nat),.slice none 0 0,.bool false] [] none 0 U) (by have k:=(hI0.o.take Fh.o hAh.o).put 0 (.int .i64 (tk:Nat));simpa using k) ?_;rintro Y1 hI;have hI1:=zh hI;clear hI cI zI hl;go_upto_region 20 with(go_at_call 57;go_loud (refine(take_texts _ gd gf q1 hI1.o.rd).mono ?_;rintro e V ⟨A2,c2,rfl,hO,hFA,hA,F⟩;rw [hk2.o]at hA hO⊢;have hOh:=zh hO;have hFAh:=zh hFA;clear hO hFA;have hb:=hI1.o.blk.fr F hI1.o.gid;have cI:=hb.cell 1;have zI:=hb.frozen 1;have hl:=hb.lt;simp only [zG]at cI;have Fh:=zh F;have hAh:=zh hA;clear F hA hb))
   refine wp_gen (fun U=>IssT wr gd gi gf q2 #[.int .i64 (tk:Nat),.slice A2 tl.length c2,.bool false] tl A2 c2 U) (by have k:=(hI1.o.texts Fh.o hAh.o hOh.o hFAh.o).put 1 (.slice A2 tl.length c2);simpa using k) ?_;rintro Y2 hI;have hI2:=zh hI;clear hI cI zI hl;go_upto_region 21 with(go_at_call 57;go_loud (refine(take_bool _ gd gf q2 hI2.o.rd).mono ?_;rintro e V ⟨rfl,hA,F⟩;rw [hk3.o]at hA⊢;have hb:=hI2.o.blk.fr F hI2.o.gid;have cI:=hb.cell 2;have zI:=hb.frozen 2;have hl:=hb.lt;simp only [zG]at cI;have Fh:=zh F;have hAh:=zh hA;clear F hA hb))
   refine wp_gen (fun U=>IssT wr gd gi gf q3 #[.int .i64 (tk:Nat),.slice A2 tl.length c2,.bool tb] tl A2 c2 U) (by have k:=(hI2.o.take Fh.o hAh.o).put 2 (.bool tb);simpa using k) ?_;rintro Y3 hI;have hI3:=zh hI;clear hI cI zI hl;have hi3:=hI3.o.blk;have z0:=hi3.cell 0;have z1:=hi3.cell 1;have z2:=hi3.cell 2;simp only [zG,zH,zI]at z0 z1 z2;have hil:=hi3.lt;have hgf:gf∉ [gd]:=by have:=hgxh.o;simp;omega
   have hBf:=hUh.o.blk.fr hI3.o.fr hgf;obtain⟨k0,k1,k2,k3,k4,k5,k6,k7,c8,k9,k10,hpl⟩:=fam_cells hBf;clear k0 k1 k2 k3 k4 k5 k6 k7 k9 k10;rw [htn.o]at c8;have hz8:=hBf.frozen 8;have hOT:=(hUh.o.fam.toks.fr hI3.o.fr (rowOf_off (fun ad e hm=>by have h1:=hUh.o.fam.ft ad e;have h2:=hUh.o.rd.low;simp at hm;omega)))
   rw [htn.o]at hOT;have hOTh:=zh hOT;have hoff:gf∉rowOf (.slice x.tA tn x.tc):=fun hm=>by obtain⟨ad,e2,h⟩:=rowOf_mem.1 hm;exact hUh.o.off.t ad e2 (by simp [h])
   have hoffh:=zh hoff;have hBfh:=zh hBf;have honeh:=zh tokCells_one;clear hi3 hOT hBf hoff;go_wp2_with (refine wpList_own_append tIss (hOTh.o.fr ((Fr.refl [] _).alloc _) (by simp)) (m:=1) (c:=1) (A:=some ⟨Y3.heap.size,0,none⟩) (tok_new Y3 ⟨⟨tk,tl,tb⟩,A2,c2⟩ 29) (honeh.o _) (by simp) (by unfold maxLen;omega) (by omega) rfl rfl rfl rfl (fun v' w3 g1 g2 g3=> ?_);obtain⟨A3,c3,rfl,_⟩:=g1.form;have hB3:=(hBfh.o.alloc _).fr g2 hoffh.o;have w8:=hB3.cell 8;have zw8:=hB3.frozen 8;have wl8:=hB3.lt;unfold FA.cells at w8;simp only [zG,zH,zI]at w8;clear hB3)
   have hlowd:∀g∈ [gd],g<gf:=fun g hg=>by have:=hUh.o.rd.low;simp at hg;omega
   obtain⟨x1,hx1,hl1',hB1,hW1,hO1,hF1⟩:=parse_push (t:=⟨⟨tk,tl,tb⟩,A2,c2⟩) hUh.o.fam hUh.o.blk hUh.o.off hUh.o.size hUh.o.high htn.o hI3.o.fr hlowd hI3.o.row (fun ad e=>by have:=hI3.o.far ad e;have:=HGI.o;omega) g1 g2 g3;have hN:=hUh.o.step (x':=x1) (Nat.le_of_eq HGR.o) hgwh.o hI3.o.fr _ hI3.o.rd hB1 hW1 hO1 hF1 (fun g hg=>by
    rcases List.mem_cons.1 hg with rfl |hg
    ·exact hUh.o.high
    ·obtain⟨ad,e,rfl⟩:=rowOf_mem.1 hg;exact hUh.o.fam.ft ad e)
   have hNh:=zh hN;clear hN hB1 hW1 hO1 hF1 g1 g2 g3;go_roundg j
   case measure=>exact hjk.o
   case rel=>
    have ht:tokRd rs=(⟨tk,tl,tb⟩,q3):=by unfold tokRd boolR;rw [hk1.o];dsimp only;rw [hk2.o];dsimp only;rw [hk3.o,htb.o]
    refine⟨j - 1,x1,q3,by have:=hjh.o;go_num,by have:=hjh.o;have:=hjk.o;omega,?_,?_,?_,hNh.o⟩
    ·have e:=hxfh.o;rw [hx1];generalize x.f=z at e⊢;rw [e]
    ·have:=hlenh.o;have:=hjh.o;rw [hx1];simp;omega
    ·rw [←hXh.o,show j=(j - 1)+1 by have:=hjh.o;omega,toksF,ht,hx1];rfl
set_option maxRecDepth 100000 in
set_option maxHeartbeats 4000000 in
theorem rparse_bad (w:World) (s:ByteArray) (hs:s.size≤1000000) (hbad:(openR s.data.toList).2≠0):Calls Tryz.prog 12 #[.string s] w (ParsePost w zeroF (openR s.data.toList).2):=by
 obtain⟨cW,cC,hcv,hcF,hcB,hcS,hcc⟩:=conv_any s;obtain⟨k,hk⟩:∃z,Hid ((openR s.data.toList).2=z):=⟨_,zh rfl⟩
 have hn:=fun V:World=>ropen08_t (cW V) (some ⟨V.heap.size,0,none⟩) s.size (cC V) s.data.toList (hcB V V.heap.size rfl) (hcc V) hs;rw [hk.o]at hbad⊢;have hb3:(k !=0)=true:=by simpa using hbad
 have hnh:=zh hn;have hcFh:=zh hcF;clear hcB hcS hcc hn hs hcF;obtain⟨zs,hz,hzh⟩:∃zs:Array Value,zs.size=11∧Hid (zs=zFA.cells):=⟨_,rfl,zh rfl⟩
 go_enter Tryz.func12,Tryz.ntmps12;go_upto_region 1 with(fail)
 refine wp_gen (fun W=>Blk W w.heap.size 26 zs∧Fr [] w W) ⟨by rw [hzh.o];exact Blk.new _ _ _,(Fr.refl _ _).alloc _⟩ ?_;rintro W ⟨hR,fW⟩;obtain⟨gr,HGR⟩:∃z,Hid (w.heap.size=z):=⟨_,zh rfl⟩
 rw [HGR.o]at hR⊢;have hRh:=zh hR;have fWh:=zh fW;clear fW hR;go_upto_region 2 with(go_at_call 56;refine(hnh.o _).mono ?_;rintro e V ⟨fV,⟨h0,_⟩ | ⟨_,rfl⟩⟩;(exact absurd h0 (by rw [hk.o];exact hbad));rw [hk.o];unfold rdV rdC)
 refine wp_gen (fun U=>Blk U gr 26 zs∧Fr [] w U) ⟨hRh.o.fr (((hcFh.o W).trans fV).trans ((Fr.refl [] V).alloc _)) (by simp),((fWh.o.trans (hcFh.o W)).trans fV).trans ((Fr.refl [] V).alloc _)⟩ ?_;rintro U ⟨hRV,fU⟩;have hFV:=zh fU;clear fV fU;have hrl:=hRV.lt;go_wp2_with (refine wpList_store_row rfl 26 _ _ rfl gr zFA.cells rfl rfl 26 zs hRV (infoFamA zFA) (by rw [hz];rfl) (by kernel_rfl) ?_)
 refine bodyPost_ret (v:= .tuple #[zFA.val,.int .i64 k]) (results_ct (p:=2) (q:=3) rfl _ _ gr 26 zFA.cells (0,0) _ rfl (Blk.setRow hRV _) uFam rfl (infoFamA zFA) rfl) rfl ?_;exact zero_post (P:=(zeroF,k)) rfl hFV.o (Nat.le_of_eq HGR.o)
theorem rparse_t (w:World) (s:ByteArray) (hs:s.size≤1000000):Calls Tryz.prog 12 #[.string s] w (ParsePost w (parseM s).1 (parseM s).2):=by
 by_cases h:(openR s.data.toList).2=0
 ·exact rparse_good w s hs h
 ·have e:parseM s=(zeroF,(openR s.data.toList).2):=by
   unfold parseM;rw [if_pos h]
  rw [e];exact rparse_bad w s hs h
end Go.Proofs.YtpmgepijkhaonaaGreat
