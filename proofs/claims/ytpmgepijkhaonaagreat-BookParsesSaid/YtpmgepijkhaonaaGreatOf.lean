/- Walks: the document takes what stands next. Conditions: each theorem's own. -/
import Derived.Test.YtpmgepijkhaonaaGreatOe
namespace Go.Proofs.YtpmgepijkhaonaaGreat
open Go.RowKit Go.Sig
def TkAt (w:World) (g B:Nat) (r:RdS):Prop:=∃A N c p bs bad,Blk w g 118 (rdC A N c p bad)∧RdIs bs N p bad r∧RdB w g B A N (bs.map bv)∧N≤c∧N≤1000000
theorem TkAt.keep {w w':World}{g B:Nat}{r:RdS}{S:List Nat}(h:TkAt w g B r) (hF:Fr S w w') (hS:∀x∈S,B≤x):TkAt w' g B r:=by
 obtain⟨A,N,c,p,bs,bad,h1,h2,h4,h7,h8⟩:=h;obtain⟨h4,h5,h6⟩:=h4;refine⟨A,N,c,p,bs,bad,h1.fr hF fun hm=> ?_,h2,⟨⟨h4.1.fr hF fun hn ad e hm=> ?_,h4.2⟩,h5,h6⟩,h7,h8⟩
 ·have:=hS _ hm;omega
 ·have h9:=hS _ hm;have h10:=h6 hn ad e;omega
theorem TkAt.fr0 {w w':World}{g B:Nat}{r:RdS}(h:TkAt w g B r) (hF:Fr [] w w'):TkAt w' g B r:=h.keep hF (by simp)
theorem TkAt.lt {w:World}{g B:Nat}{r:RdS}(h:TkAt w g B r):g<w.heap.size:=by
 obtain⟨_,_,_,_,_,_,h,_⟩:=h;exact h.lt
theorem TkAt.low {w:World}{g B:Nat}{r:RdS}(h:TkAt w g B r):g<B:=by
 obtain⟨_,_,_,_,_,_,_,_,h,_⟩:=h;exact h.2.1
theorem rd_setT {V:World}{g N c p N0 c0 p0:Nat}{t:TypeId}{A A0:Option Addr}{bad b0:Int}(h:Blk V g t (rdC A0 N0 c0 p0 b0)):Blk (((V.setCell ⟨g,0,none⟩ (.slice A N c)).setCell ⟨g,1,none⟩ (.int .i64 p)).setCell ⟨g,2,none⟩ (.int .i64 bad)) g t (rdC A N c p bad):=by
 have k:=((h.set 0 (.slice A N c)).set 1 (.int .i64 p)).set 2 (.int .i64 bad);simpa [rdC]using k
theorem put_set {V:World}{g m c m0 c0:Nat}{k n k0 n0:Int}{s s0:ByteArray}{A A0:Option Addr}(h:Blk V g 95 (putC k0 n0 s0 A0 m0 c0)):Blk ((((V.setCell ⟨g,0,none⟩ (.int .i64 k)).setCell ⟨g,1,none⟩ (.int .i64 n)).setCell ⟨g,2,none⟩ (.string s)).setCell ⟨g,3,none⟩ (.slice A m c)) g 95 (putC k n s A m c):=by
 have e:=(((h.set 0 (.int .i64 k)).set 1 (.int .i64 n)).set 2 (.string s)).set 3 (.slice A m c);simpa [putC]using e
def ReadPost (R:Nat→Array Value→World→Prop) (V:World) (bs:List UInt8) (A:Option Addr) (N c:Nat) (r:RdS) (e:Ending) (V':World):Prop:=
 ∃k n s L m d p bad,e= .returned (.tuple #[.agg (putC k n s L m d),rdV A N c p bad])∧RdIs bs N p bad r∧R V.heap.size (putC k n s L m d) V'∧Fr [] V V'
def TkPost (R:Nat→Array Value→World→Prop) (w:World) (g B:Nat) (r:RdS) (e:Ending) (w':World):Prop:=∃cs,e= .returned (.agg cs)∧R (w.heap.size+1) cs w'∧TkAt w' g B r∧Fr [g] w w'
set_option maxRecDepth 100000 in
set_option maxHeartbeats 4000000 in
theorem rtake_t (R:Nat→Array Value→World→Prop) (hR:∀x cs V V' S,R x cs V→Fr S V V'→(∀i∈S,i<x)→R x cs V') (k:Int) (r r':RdS)
  (hread:∀V A N c p bs bad,Byts V A N bs→N≤1000000→N≤c→RdIs bs N p bad r→Calls Tryz.prog 112 #[rdV A N c p bad,.int .i64 k] V (ReadPost R V bs A N c r'))
  (w:World) (g B:Nat) (h:TkAt w g B r):Calls Tryz.prog 57 #[.pointer (some ⟨g,0,none⟩),.int .i64 k] w (TkPost R w g B r'):=by
 have hRh:=zh hR;obtain⟨A,N,c,p,bs,bad,hB,hI,hX,hNc,hN⟩:=h;have hrd:=zh (fun(V:World) (hF:Fr [] w V)=>hread V A N c p bs bad (hX.1.1.fr hF (by simp [Off])) hN hNc hI);obtain⟨c0,c1,c2,hgl,z2⟩:=rd_cells hB;have hBh:=zh hB;have hXh:=zh hX;have hNh:=zh (And.intro hNc hN);clear hR hread hB hI hX hN hNc;go_enter Tryz.func57,Tryz.ntmps57;go_upto_region 1 with(fail)
 refine wp_gen (fun W=>Blk W w.heap.size 95 (putC 0 0 ⟨#[]⟩ none 0 0)∧Fr [] w W∧W.heap.size=w.heap.size+1) ⟨Blk.new _ _ _,(Fr.refl _ _).alloc _,by simp⟩ ?_;rintro W ⟨hP,hF,hsz⟩;obtain⟨g4,HG⟩:∃z,Hid (w.heap.size=z):=⟨_,zh rfl⟩
 rw [HG.o]at hP hsz⊢;have hPh:=zh hP;have hFh:=zh hF;have hszh:=zh hsz;have hn:=hrd.o W hF;have hBW:=zh (hBh.o.fr hF (by simp));clear c0 c1 c2 hgl z2 hP hF hsz;obtain⟨c0,c1,c2,hgl,z2⟩:=rd_cells hBW.o;unfold rdV rdC at hn;unfold ReadPost rdV rdC putC at hn;go_upto_region 2 with(go_at_call 112;refine hn.mono ?_;rintro e V ⟨k2,n2,s2,L,m,d,q,bd,rfl,hI2,hRR,F⟩;have hI2h:=zh hI2;have hRRh:=zh hRR;have Fh:=zh F;clear hI2 hRR F)
 obtain⟨g5,HG5⟩:∃z,Hid (V.heap.size=z):=⟨_,zh rfl⟩
 have hBV:=zh (hBW.o.fr Fh.o (by simp));have hPV:=zh (hPh.o.fr Fh.o (by simp));refine wp_gen (fun U=>Blk U g 118 (rdC A N c p bad)∧Blk U g4 95 (putC 0 0 ⟨#[]⟩ none 0 0)∧Blk U V.heap.size 95 (putC k2 n2 s2 L m d)∧Blk U (V.heap.size+1) 113 (rdC A N c q bd)∧Fr [] V U) ⟨(hBV.o.alloc _).alloc _,(hPV.o.alloc _).alloc _,(Blk.new _ _ _).alloc _,Blk.new' _ _ (by simp),(((Fr.refl [] V).alloc _).alloc _)⟩ ?_;rintro U ⟨u1,u2,u3,u4,uF⟩;rw [HG5.o]at u3 u4⊢;clear c0 c1 c2 hgl z2;obtain⟨c0,c1,c2,hgl,z2⟩:=rd_cells u1;obtain⟨p0,p1,p2,p3,hpl,zp⟩:=put_cells u2;obtain⟨x0,x1,x2,x3,hxl,zx⟩:=put_cells u3;obtain⟨r0,r1,r2,hrl,zr⟩:=rd_cells u4;have u1h:=zh u1;have u2h:=zh u2;have uFh:=zh uF;have hgw:g≠g4:=by have:=hBh.o.lt;have:=HG.o;omega
 have hg5:g4≠g5∧g≠g5∧g≠g5+1:=by have h1:=hPV.o.lt;have h2:=hBV.o.lt;have h3:=HG5.o;omega
 obtain⟨q1,q2,q3⟩:=hg5;clear u1 u2 u3 u4 uF hn;go_wp2_with fail
 have a1:Blk (((U.setCell ⟨g,0,none⟩ (.slice A N c)).setCell ⟨g,1,none⟩ (.int .i64 q)).setCell ⟨g,2,none⟩ (.int .i64 bd)) g 118 (rdC A N c q bd):=rd_setT u1h.o;have F3:Fr [g] U (((U.setCell ⟨g,0,none⟩ (.slice A N c)).setCell ⟨g,1,none⟩ (.int .i64 q)).setCell ⟨g,2,none⟩ (.int .i64 bd)):=(((Fr.refl [g] U).setCell (p:=⟨g,0,none⟩) (.inl (by simp)) _).setCell (p:=⟨g,1,none⟩) (.inl (by simp)) _).setCell (p:=⟨g,2,none⟩) (.inl (by simp)) _;obtain⟨U3,hU3⟩:∃z,Hid ((((U.setCell ⟨g,0,none⟩ (.slice A N c)).setCell ⟨g,1,none⟩ (.int .i64 q)).setCell ⟨g,2,none⟩ (.int .i64 bd))=z):=⟨_,zh rfl⟩
 rw [hU3.o]at a1 F3⊢;have a2:=u2h.o.fr F3 (by simp;omega);have a4:Blk ((((U3.setCell ⟨g4,0,none⟩ (.int .i64 k2)).setCell ⟨g4,1,none⟩ (.int .i64 n2)).setCell ⟨g4,2,none⟩ (.string s2)).setCell ⟨g4,3,none⟩ (.slice L m d)) g4 95 (putC k2 n2 s2 L m d):=put_set a2;have F4:Fr [g4] U3 ((((U3.setCell ⟨g4,0,none⟩ (.int .i64 k2)).setCell ⟨g4,1,none⟩ (.int .i64 n2)).setCell ⟨g4,2,none⟩ (.string s2)).setCell ⟨g4,3,none⟩ (.slice L m d)):=((((Fr.refl [g4] U3).setCell (p:=⟨g4,0,none⟩) (.inl (by simp)) _).setCell (p:=⟨g4,1,none⟩) (.inl (by simp)) _).setCell (p:=⟨g4,2,none⟩) (.inl (by simp)) _).setCell (p:=⟨g4,3,none⟩) (.inl (by simp)) _;refine bodyPost_ret (results_cell_row rfl _ _ g4 95 (putC k2 n2 s2 L m d) (0,0) _ rfl a4 uPut rfl (infoPut _ _ _ _ _ _)) rfl ?_;have hge:=HG.o;have hgl2:=hBh.o.lt;have FA:=(F3.mono (S':= [g,g4]) (by simp)).trans (F4.mono (S':= [g,g4]) (by simp));have FW:=((((hFh.o.trans Fh.o).trans uFh.o).nil (S:= [g])).trans F3).andThen F4 (fun i hi=> .inr (by simp at hi;omega));have hRR:=hRRh.o;rw [hszh.o]at hRR;refine⟨_,rfl,hRh.o _ _ _ _ _ hRR ((uFh.o.nil (S:= [g,g4])).trans FA) (fun i hi=>by simp at hi;omega) |>fun z=>by rw [hge];exact z,⟨A,N,c,q,bs,bd,a1.fr F4 (by simp;omega),hI2h.o,RdB.fr hXh.o FW,hNh.o.1,hNh.o.2⟩,FW⟩
theorem take_one {P:Array Value}:∀(x:Nat) (cs:Array Value) (V V':World) (S:List Nat),cs=P→Fr S V V'→(∀i∈S,i<x)→cs=P:=fun _ _ _ _ _ h _ _=>h
def CsIs (P:Array Value):Nat→Array Value→World→Prop:=fun _ cs _=>cs=P
theorem take_text (w:World) (g B:Nat) (r:RdS) (h:TkAt w g B r):Calls Tryz.prog 57 #[.pointer (some ⟨g,0,none⟩),.int .i64 1] w fun e w'=>e= .returned (.agg #[.int .i64 1,.int .i64 0,.string (textR r).1,.slice none 0 0])∧TkAt w' g B (textR r).2∧Fr [g] w w':=by
 refine(rtake_t (CsIs (putC 1 0 (textR r).1 none 0 0)) take_one 1 r (textR r).2 (fun V A N c p bs bad hb hN hc hr=>(rread1_t V A N c p bs bad r hb hN hc hr).mono ?_) w g B h).mono ?_
 ·rintro e V' ⟨p2,b2,rfl,h1,h2⟩;exact⟨_,_,_,_,_,_,p2,b2,rfl,h1,rfl,h2⟩
 ·rintro e w' ⟨cs,rfl,rfl,h1,h2⟩;exact⟨rfl,h1,h2⟩
theorem take_bool (w:World) (g B:Nat) (r:RdS) (h:TkAt w g B r):Calls Tryz.prog 57 #[.pointer (some ⟨g,0,none⟩),.int .i64 2] w fun e w'=>e= .returned (.agg #[.int .i64 2,.int .i64 ((numR 1 r).1:Nat),.string ⟨#[]⟩,.slice none 0 0])∧TkAt w' g B (numR 1 r).2∧Fr [g] w w':=by
 refine(rtake_t (CsIs (putC 2 ((numR 1 r).1:Nat) ⟨#[]⟩ none 0 0)) take_one 2 r (numR 1 r).2 (fun V A N c p bs bad hb hN hc hr=>(rread2_t V A N c p bs bad r hb hN hc hr).mono ?_) w g B h).mono ?_
 ·rintro e V' ⟨p2,b2,rfl,h1,h2⟩;exact⟨_,_,_,_,_,_,p2,b2,rfl,h1,rfl,h2⟩
 ·rintro e w' ⟨cs,rfl,rfl,h1,h2⟩;exact⟨rfl,h1,h2⟩
theorem take_count (w:World) (g B:Nat) (r:RdS) (h:TkAt w g B r):Calls Tryz.prog 57 #[.pointer (some ⟨g,0,none⟩),.int .i64 3] w fun e w'=>e= .returned (.agg #[.int .i64 3,.int .i64 ((numR 4096 r).1:Nat),.string ⟨#[]⟩,.slice none 0 0])∧TkAt w' g B (numR 4096 r).2∧Fr [g] w w':=by
 refine(rtake_t (CsIs (putC 3 ((numR 4096 r).1:Nat) ⟨#[]⟩ none 0 0)) take_one 3 r (numR 4096 r).2 (fun V A N c p bs bad hb hN hc hr=>(rread3_t V A N c p bs bad r hb hN hc hr).mono ?_) w g B h).mono ?_
 ·rintro e V' ⟨p2,b2,rfl,h1,h2⟩;exact⟨_,_,_,_,_,_,p2,b2,rfl,h1,rfl,h2⟩
 ·rintro e w' ⟨cs,rfl,rfl,h1,h2⟩;exact⟨rfl,h1,h2⟩
theorem take_int (w:World) (g B:Nat) (r:RdS) (h:TkAt w g B r):Calls Tryz.prog 57 #[.pointer (some ⟨g,0,none⟩),.int .i64 0] w fun e w'=>e= .returned (.agg #[.int .i64 0,.int .i64 (intR r).1,.string ⟨#[]⟩,.slice none 0 0])∧TkAt w' g B (intR r).2∧Fr [g] w w':=by
 refine(rtake_t (CsIs (putC 0 (intR r).1 ⟨#[]⟩ none 0 0)) take_one 0 r (intR r).2 (fun V A N c p bs bad hb hN hc hr=>(rread0_t V A N c p bs bad r hb hN hc hr).mono ?_) w g B h).mono ?_
 ·rintro e V' ⟨p2,b2,rfl,h1,h2⟩;exact⟨_,_,_,_,_,_,p2,b2,rfl,h1,rfl,h2⟩
 ·rintro e w' ⟨cs,rfl,rfl,h1,h2⟩;exact⟨rfl,h1,h2⟩
def TextsIs (l:List ByteArray) (x:Nat) (cs:Array Value) (w:World):Prop:=∃L d,cs=putC 4 0 ⟨#[]⟩ L l.length d∧Own w 9 1 (.slice L l.length d) l.length (strCells l)∧From x L
theorem take_texts (w:World) (g B:Nat) (r:RdS) (h:TkAt w g B r):Calls Tryz.prog 57 #[.pointer (some ⟨g,0,none⟩),.int .i64 4] w fun e w'=>∃L d,e= .returned (.agg #[.int .i64 4,.int .i64 0,.string ⟨#[]⟩,.slice L (textsR r).1.length d])∧Own w' 9 1 (.slice L (textsR r).1.length d) (textsR r).1.length (strCells (textsR r).1)∧From w.heap.size L∧TkAt w' g B (textsR r).2∧Fr [g] w w':=by
 refine(rtake_t (TextsIs (textsR r).1) ?_ 4 r (textsR r).2 (fun V A N c p bs bad hb hN hc hr=>(rread4_t V A N c p bs bad r hb hN hc hr).mono ?_) w g B h).mono ?_
 ·rintro x cs V V' S ⟨L,d,rfl,h1,h2⟩ hF hS;exact⟨L,d,rfl,h1.fr hF (rowOf_off (fun ad e hm=>by have:=h2 ad e;have:=hS _ hm;omega)),h2⟩
 ·rintro e V' ⟨L,d,p2,b2,rfl,h1,h2,h3,h4⟩;exact⟨_,_,_,_,_,_,p2,b2,rfl,h1,⟨L,d,rfl,h2,h3⟩,h4⟩
 ·rintro e w' ⟨cs,rfl,⟨L,d,rfl,h3,h4⟩,h1,h2⟩;exact⟨L,d,rfl,h3,h4.mono (by omega),h1,h2⟩
end Go.Proofs.YtpmgepijkhaonaaGreat
