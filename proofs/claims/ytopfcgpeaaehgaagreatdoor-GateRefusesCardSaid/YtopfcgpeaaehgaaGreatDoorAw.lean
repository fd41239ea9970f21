/- Walks: a token read: its parts, Peek, Open. Conditions: each theorem's own. -/
import Derived.Test.YtopfcgpeaaehgaaGreatDoorAv
import Derived.Defers
import Derived.Recover
namespace Go.Proofs.YtopfcgpeaaehgaaGreatDoor
open Go.RowKit Go.Sig
def spoiltV:Value:= .iface 141 (.agg #[])
theorem part_ok (w:World) (g:Nat) (s:ByteArray) (hs:s.size≤140737488351232) (hB:Blk w g 9 #[.string s]) {a b:List UInt8}(hq:cutL 46 s.data.toList=(a,b,true)):
  Calls Tryz.prog 93 #[.pointer (some ⟨g,0,none⟩)] w fun e w'=>e= .returned (.string (bA a))∧Blk w' g 9 #[.string (bA b)]∧Fr [g] w w':=by
 have hcut:=cut_t w s 46 hs;unfold CutPost at hcut;rw [hq]at hcut;dsimp only at hcut;have hc:=hB.cell 0;simp only [zG,zH]at hc;have hgl:=hB.lt;have hBh:=zh hB;clear hB hq;go_enter Tryz.func93,Tryz.ntmps93;go_upto_region 2 with(go_at_call 77;refine hcut.mono ?_;clear hcut;rintro e w1 ⟨rfl,F1⟩;have hB1:=hBh.o.fr F1 (by simp);have hF1:=zh F1;clear hc hgl F1)
 have hc1:=hB1.cell 0;have hf1:=hB1.frozen 0;have hgl1:=hB1.lt;simp only [zG,zH]at hc1;have hB1h:=zh (hB1.set 0 (.string (bA b)));clear hB1;go_wp2_with fail
 go_ret;exact⟨rfl,by simpa using hB1h.o,hF1.o.nil.setCell (.inl (by simp)) _⟩
theorem part_no (w:World) (g:Nat) (s:ByteArray) (hs:s.size≤140737488351232) (hB:Blk w g 9 #[.string s]) (hq:(cutL 46 s.data.toList).2.2=false):
  Calls Tryz.prog 93 #[.pointer (some ⟨g,0,none⟩)] w fun e w'=>e= .panicked [{v:=spoiltV,recovered:=false}]∧Fr [] w w':=by
 have hcut:=cut_t w s 46 hs;unfold CutPost at hcut;rw [hq]at hcut;have hc:=hB.cell 0;simp only [zG,zH]at hc;have hgl:=hB.lt;clear hB hq;go_enter Tryz.func93,Tryz.ntmps93;go_wp2_with (go_at_call 77;refine hcut.mono ?_;clear hcut;rintro e w1 ⟨rfl,F1⟩)
 exact⟨rfl,rfl,F1⟩
set_option maxRecDepth 100000 in
set_option maxHeartbeats 1000000 in
theorem peekA_catch (w:World) (gt ge:Nat) (zs:Array Value) (hz:zs.size=3) (y:Value) (hB:Blk w gt 47 zs) (hE:Blk w ge 30 #[y]) (hne:gt≠ge) (older:List PanicEntry):
  CallsD Tryz.prog 92 #[.pointer (some ⟨gt,0,none⟩),.pointer (some ⟨ge,0,none⟩)] (.panicking ({v:=spoiltV,recovered:=false}::older)) w fun e u' w'=>
   e= .returned (.tuple #[])∧u'= .panicking ({v:=spoiltV,recovered:=true}::older)∧Blk w' ge 30 #[.int .i64 3]∧(∃t:GTk,Blk w' gt 47 (tkCells t))∧Fr [gt,ge] w w':=by
 have hta:∀v,(Instr.typeAssert (.iface 141 (.agg #[])) 20 141 true).run Tryz.prog v= .ok (.tuple #[.agg #[],.bool true]) v:=fun v=>by kernel_rfl
 unfold spoiltV;refine callsD_of_wpS Tryz.func92 rfl fun c₀ cs hu=> ?_;change Code.wpS _ _ _ {tmps:=#[.pointer (some ⟨gt,0,none⟩),.pointer (some ⟨ge,0,none⟩),undef,undef,undef,undef,undef,undef,undef,undef,undef,undef,undef,undef,undef,undef,undef],defers:= []} _ _;apply wpS_seq;apply wpS_region;simp [wpOpsS,go_sem,recoverD,hu,Tryz.ntmps92,Exit.thenS];refine wpS_of_wp ?_;go_upto_region 2 with(fail)
 go_upto_region 3 with(fail)
 refine wp_gen (fun W=>Blk W gt 47 zs∧Blk W ge 30 #[y]∧Fr [] w W) ⟨hB.alloc _,hE.alloc _,(Fr.refl _ _).alloc _⟩ ?_;rintro W ⟨hB1,hE1,F1⟩;have hgt:=hB1.lt;have hge:=hE1.lt;have c1:=hE1.cell 0;have f1:=hE1.frozen 0;simp only [zG,zH]at c1;have hEh:=zh hE1;have F1h:=zh F1;clear hB hE F1 hE1;go_upto_region 5 with(fail)
 go_wp2_with (refine wpList_store_row rfl 47 _ _ rfl gt (tkCells ⟨0,nilB,0⟩) rfl rfl 47 zs hB1 (infoTk _) (by rw [hz];rfl) (tk_one _) ?_;have hE2:=hEh.o.farRow (Ne.symm hne) (tkCells ⟨0,nilB,0⟩);have hE2h:=zh hE2;have c2:=hE2.cell 0;have f2:=hE2.frozen 0;have l2:=hE2.lt;simp only [zG,zH]at c2;have hB2h:=zh (Blk.setRow hB1 (tkCells ⟨0,nilB,0⟩));clear c1 f1 hge hE2 hB1)
 have hE3:Blk ((W.setRow gt (tkCells ⟨0,nilB,0⟩)).setCell ⟨ge,0,none⟩ (.int .i64 3)) ge 30 #[.int .i64 3]:=by simpa using hE2h.o.set 0 (.int .i64 3)
 have hB3:Blk ((W.setRow gt (tkCells ⟨0,nilB,0⟩)).setCell ⟨ge,0,none⟩ (.int .i64 3)) gt 47 (tkCells ⟨0,nilB,0⟩):=hB2h.o.far (by simpa using hne) _;have hF3:Fr [gt,ge] w ((W.setRow gt (tkCells ⟨0,nilB,0⟩)).setCell ⟨ge,0,none⟩ (.int .i64 3)):=(F1h.o.nil.setRow (.inl (by simp)) _).setCell (.inl (by simp)) _;unfold bodyPostS;exact⟨rfl,_,rfl,.tuple #[],by simp [results,Tryz.results92],rfl,rfl,hE3,⟨_,hB3⟩,hF3⟩
theorem peekA_idle (w:World) (p q:Value):CallsD Tryz.prog 92 #[p,q] .returning w fun e u' w'=>e= .returned (.tuple #[])∧u'= .returning∧w'=w:=by
 refine callsD_of_wpS Tryz.func92 rfl fun c₀ cs hu=> ?_;change Code.wpS _ _ _ {tmps:=#[p,q,undef,undef,undef,undef,undef,undef,undef,undef,undef,undef,undef,undef,undef,undef,undef],defers:= []} _ _;apply wpS_seq;apply wpS_region;simp [wpOpsS,go_sem,recoverD,hu,Tryz.ntmps92,Exit.thenS];refine wpS_of_wp ?_;go_wp2_with fail
 unfold bodyPostS;exact⟨rfl,_,by cases c₀;simp_all,.tuple #[],by simp [results,Tryz.results92],rfl,rfl,rfl⟩
end Go.Proofs.YtopfcgpeaaehgaaGreatDoor
