/- Walks: tokens' parts: Right, head, tag, Make. Conditions: each theorem's own. -/
import Derived.Test.YtopfcgpeaaehgaaGreatDoorAs
import Derived.Lib.AppendIntMem
import Derived.Lib.ItoaLen
namespace Go.Proofs.YtopfcgpeaaehgaaGreatDoor
open Go.RowKit Go.Sig
def rightT (k:Int) (s:ByteArray) (n:Int):Bool:=decide (1≤k)&&decide (k≤3)&&idM s&&decide (0≤n)&&decide (n≤1099511627776)
theorem rightT_tk (t:GTk):rightT t.kind t.family t.serial=tkOk t:=by
 unfold rightT tkOk;rw [Bool.eq_iff_iff];simp only [Bool.and_eq_true,decide_eq_true_eq];constructor
 ·rintro⟨⟨⟨⟨a,b⟩,c⟩,d⟩,e⟩;exact⟨⟨⟨a,b⟩,c⟩,by omega⟩
 ·rintro⟨⟨⟨a,b⟩,c⟩,d⟩;exact⟨⟨⟨⟨a,b⟩,c⟩,by omega⟩,by omega⟩
set_option maxHeartbeats 2000000 in
theorem sright_t (w:World) (k n:Int) (s:ByteArray) (hs:s.size≤150000000000000):Calls Tryz.prog 31 #[.agg #[.int .i64 k,.string s,.int .i64 n]] w fun e w'=>e= .returned (.bool (rightT k s n))∧Fr [] w w':=by
 go_enter Tryz.func31,Tryz.ntmps31;go_upto_region 1 with(fail)
 refine wp_gen (fun W=>Blk W w.heap.size 47 #[.int .i64 k,.string s,.int .i64 n]∧Fr [] w W) ⟨Blk.new _ _ _,(Fr.refl _ _).alloc _⟩ ?_;rintro W ⟨hB,fW⟩;obtain⟨g,HG⟩:∃z,Hid (w.heap.size=z):=⟨_,zh rfl⟩
 rw [HG.o]at hB⊢;obtain⟨e0,e1,e2⟩:=hB.c3;have hgl:=hB.lt;clear hB;go_wp2_with fail
 go_loopg [3] (s.size+1) (fun gk s3 wr=>∃(i:Nat),s3= .int .i64 i∧i≤s.size∧s.size - i<gk∧(s.data.toList.take i).all signB=true∧W=wr)
 case atStart=>exact⟨0,rfl,by omega,by omega,rfl,rfl⟩
 case round=>
  obtain⟨i,rfl,hi,hk,hall,rfl⟩:=hrel;have hallh:=zh hall;clear hall;by_cases hlt:i<s.size
  ·have hlt':(i:Int)<s.size:=by omega
   have hlth:=zh hlt;have hsg:=sign_t W s[i];obtain⟨r,hr⟩:∃z,Hid (signB s[i]=z):=⟨_,zh rfl⟩
   rw [hr.o]at hsg;cases r with
   |true=>
    go_wp2_with (go_at_call 79;refine hsg.mono ?_;rintro e w' ⟨rfl,rfl⟩)
    go_roundg (s.size - i)
    case measure=>omega
    case rel=>exact⟨i+1,by go_num,by have:=hlth.o;omega,by have:=hlth.o;omega,all_next hlth.o hallh.o hr.o,rfl⟩
   |false=>
    go_wp2_with (go_at_call 79;refine hsg.mono ?_;rintro e w' ⟨rfl,rfl⟩)
    go_ret;exact⟨ret_eq (by unfold rightT idM;rw [all_no hlth.o hr.o];simp),fW⟩
  ·have hge:¬(i:Int)<s.size:=by omega
   have ha:=hallh.o;rw [str_full (by omega)]at ha;have hah:=zh ha;clear hlt ha hk;by_cases p0:1≤k
   ·have r0:1≤k:=by omega
    by_cases p1:k≤3
    ·have r1:k≤3:=by omega
     by_cases p2:1≤s.size
     ·have r2:1≤(s.size:Int):=by omega
      by_cases p3:s.size≤32
      ·have r3:(s.size:Int)≤32:=by omega
       by_cases p4:0≤n
       ·have r4:0≤n:=by omega
        by_cases p5:n≤1099511627776
        ·have r5:n≤1099511627776:=by omega
         have hres:Hid (rightT k s n=true):=zh (by unfold rightT idM;rw [hah.o];simp [p0,p1,p2,p3,p4,p5]);clear p0 p1 p2 p3 p4 p5;go_wp2_with fail
         go_ret;exact⟨by rw [hres.o];rfl,fW⟩
        ·have r5:¬(n≤1099511627776):=by omega
         have hres:Hid (rightT k s n=false):=zh (by unfold rightT idM;simp [p5]);clear p0 p1 p2 p3 p4 p5;go_wp2_with fail
         go_ret;exact⟨by rw [hres.o];rfl,fW⟩
       ·have r4:¬(0≤n):=by omega
        have hres:Hid (rightT k s n=false):=zh (by unfold rightT idM;simp [p4]);clear p0 p1 p2 p3 p4;go_wp2_with fail
        go_ret;exact⟨by rw [hres.o];rfl,fW⟩
      ·have r3:¬((s.size:Int)≤32):=by omega
       have hres:Hid (rightT k s n=false):=zh (by unfold rightT idM;simp [p3]);clear p0 p1 p2 p3;go_wp2_with fail
       go_ret;exact⟨by rw [hres.o];rfl,fW⟩
     ·have r2:¬(1≤(s.size:Int)):=by omega
      have hres:Hid (rightT k s n=false):=zh (by unfold rightT idM;simp [p2]);clear p0 p1 p2;go_wp2_with fail
      go_ret;exact⟨by rw [hres.o];rfl,fW⟩
    ·have r1:¬(k≤3):=by omega
     have hres:Hid (rightT k s n=false):=zh (by unfold rightT idM;simp [p1]);clear p0 p1;go_wp2_with fail
     go_ret;exact⟨by rw [hres.o];rfl,fW⟩
   ·have r0:¬(1≤k):=by omega
    have hres:Hid (rightT k s n=false):=zh (by unfold rightT idM;simp [p0]);clear p0;go_wp2_with fail
    go_ret;exact⟨by rw [hres.o];rfl,fW⟩
def itoaB (n:Int):ByteArray:=⟨(Lib.itoa n).toArray⟩
def headS (c:UInt8) (s:ByteArray) (n:Int):ByteArray:=⟨#[c]⟩++⟨#[46]⟩++s++⟨#[46]⟩++itoaB n++⟨#[46]⟩
theorem tab_fr {w w':World}(h:Lib.TabIs Tryz.prog w "internal/strconv.uint64pow10" .u64 Lib.pow10Tab) (hF:Fr [] w w'):Lib.TabIs Tryz.prog w' "internal/strconv.uint64pow10" .u64 Lib.pow10Tab:=by
 unfold Lib.TabIs World.var? at h⊢;cases hg:Tryz.prog.globalNamed "internal/strconv.uint64pow10"with
 |none=>rw [hg]at h;cases h
 |some g=>
  rw [hg]at h;simp only [Option.bind_some]at h⊢;have hlt:g<w.heap.size:=by
   rcases Nat.lt_or_ge g w.heap.size with h' |h'
   ·exact h'
   ·rw [Array.getElem?_eq_none h']at h;cases h
  rw [hF.block g hlt (by simp)];exact h
theorem itoaB_size (n:Int) (h0:0≤n) (h1:n≤1099511627776):(itoaB n).size≤1000:=by
 have h:=Lib.itoa_length_le n (by omega) (by omega);have h2:(itoaB n).size=(Lib.itoa n).length:=by simp [itoaB,ByteArray.size]
 omega
theorem head_sums (c:UInt8) (s:ByteArray) (n:Int) (hs:s.size≤1000000) (h0:0≤n) (h1:n≤1099511627776):∃a1 a2 a3 a4 a5:ByteArray,
  (∀w,(Op.stringOp .add ⟨#[c]⟩ ⟨#[46]⟩).run Tryz.prog w= .ok (.string a1) w)∧(∀w,(Op.stringOp .add a1 s).run Tryz.prog w= .ok (.string a2) w)∧(∀w,(Op.stringOp .add a2 ⟨#[46]⟩).run Tryz.prog w= .ok (.string a3) w)∧
  (∀w,(Op.stringOp .add a3 (itoaB n)).run Tryz.prog w= .ok (.string a4) w)∧(∀w,(Op.stringOp .add a4 ⟨#[46]⟩).run Tryz.prog w= .ok (.string a5) w)∧headS c s n=a5:=by
 have hi:=itoaB_size n h0 h1;have hc:(ByteArray.mk #[c]).size=1:=rfl;have hd:(ByteArray.mk #[46]).size=1:=rfl;refine⟨_,_,_,_,_,fun w=>run_string_add_sum (P:=Tryz.prog) w _ _ ?_,fun w=>run_string_add_sum (P:=Tryz.prog) w _ _ ?_,fun w=>run_string_add_sum (P:=Tryz.prog) w _ _ ?_,fun w=>run_string_add_sum (P:=Tryz.prog) w _ _ ?_,fun w=>run_string_add_sum (P:=Tryz.prog) w _ _ ?_,rfl⟩<;>(try simp only [ByteArray.size_append])<;>omega
set_option maxRecDepth 100000 in
set_option maxHeartbeats 2000000 in
theorem head1_t (w:World) (s:ByteArray) (n:Int) (hs:s.size≤1000000) (h0:0≤n) (h1:n≤1099511627776) (htab:Lib.TabIs Tryz.prog w "internal/strconv.uint64pow10" .u64 Lib.pow10Tab):
  Calls Tryz.prog 96 #[.agg #[.int .i64 1,.string s,.int .i64 n]] w fun e w'=>e= .returned (.string (headS 99 s n))∧Fr [] w w':=by
 have hit:∀V,Fr [] w V→Calls Tryz.prog 131 #[.int .i64 n] V fun e w'=>e= .returned (.string (itoaB n))∧Fr [] V w':=fun V hF=>(Tryz.strconv_Itoa n (by omega) (by omega) V (tab_fr htab hF)).mono (by
  rintro e w' ⟨rfl,k,os,rfl⟩;exact⟨rfl,Fr.of_below (Lib.below_grow _ V (Nat.le_refl _) k os)⟩)
 obtain⟨a1,a2,a3,a4,a5,ha1,ha2,ha3,ha4,ha5,hfin⟩:=head_sums 99 s n hs h0 h1;clear htab;go_enter Tryz.func96,Tryz.ntmps96;go_upto_region 1 with(fail)
 refine wp_gen (fun W=>Blk W w.heap.size 47 #[.int .i64 1,.string s,.int .i64 n]∧Fr [] w W) ⟨Blk.new _ _ _,(Fr.refl _ _).alloc _⟩ ?_;rintro W ⟨hB,fW⟩;obtain⟨g,HG⟩:∃z,Hid (w.heap.size=z):=⟨_,zh rfl⟩
 rw [HG.o]at hB⊢;obtain⟨e0,e1,e2⟩:=hB.c3;have hgl:=hB.lt;clear hB;refine wp_region_z (fun v=>v.cell? ⟨g,0,none⟩=some (.int .i64 1)∧v.cell? ⟨g,1,none⟩=some (.string s)∧v.cell? ⟨g,2,none⟩=some (.int .i64 n)) [] (by kernel_rfl) ⟨e0,e1,e2⟩ ?_;intro hHeld;refine wpZ_tk (i:=0) (v:= ?_) hHeld ?_ ?_;rotate_left
 ·(intro w hSw;go_simp<;>with_reducible rfl)
 try simp only [zA,zB,zC,Act.put,zD,zE,zF]
 refine wpZ_tk (i:=1) (v:= ?_) hHeld ?_ ?_;rotate_left
 ·(intro w hSw;go_simp<;>with_reducible rfl)
 try simp only [zA,zB,zC,Act.put,zD,zE,zF]
 refine wpZ_tk (i:=2) (v:= ?_) hHeld ?_ ?_;rotate_left
 ·(intro w hSw;go_simp<;>with_reducible rfl)
 try simp only [zA,zB,zC,Act.put,zD,zE,zF]
 refine wpZ_tk (i:=3) (v:= ?_) hHeld ?_ ?_;rotate_left
 ·(intro w hSw;go_simp<;>with_reducible rfl)
 try simp only [zA,zB,zC,Act.put,zD,zE,zF]
 refine wpZ_take (i:=4) (v:= .int .i64 2) rfl (by kernel_rfl) (by kernel_rfl) (by kernel_rfl) (by kernel_rfl) (fun _ _ _ h=>h) (Or.inl ⟨by rfl,?_⟩) hHeld ?_
 ·(intro w hSw;(try dsimp only at hSw);go_simp;kernel_rfl)
 try simp only [zA,zB,zC,Act.put,zD,zE,zF]
 refine wpZ_take (i:=5) (v:= .string ⟨#[99]⟩) rfl (by kernel_rfl) (by kernel_rfl) (by kernel_rfl) (by kernel_rfl) (fun _ _ _ h=>h) (Or.inl ⟨by rfl,?_⟩) hHeld ?_
 ·(intro w hSw;(try dsimp only at hSw);go_simp;kernel_rfl)
 try simp only [zA,zB,zC,Act.put,zD,zE,zF]
 refine wpZ_take (i:=6) (v:= .string a1) rfl (by kernel_rfl) (by kernel_rfl) (by kernel_rfl) (by kernel_rfl) (fun _ _ _ h=>h) (Or.inl ⟨by rfl,?_⟩) hHeld ?_
 ·(intro w hSw;go_simp<;>with_reducible rfl)
 try simp only [zA,zB,zC,Act.put,zD,zE,zF]
 refine wpZ_tk (i:=7) (v:= ?_) hHeld ?_ ?_;rotate_left
 ·(intro w hSw;go_simp<;>with_reducible rfl)
 try simp only [zA,zB,zC,Act.put,zD,zE,zF]
 refine wpZ_tk (i:=8) (v:= ?_) hHeld ?_ ?_;rotate_left
 ·(intro w hSw;go_simp<;>with_reducible rfl)
 try simp only [zA,zB,zC,Act.put,zD,zE,zF]
 refine wpZ_take (i:=9) (v:= .string a2) rfl (by kernel_rfl) (by kernel_rfl) (by kernel_rfl) (by kernel_rfl) (fun _ _ _ h=>h) (Or.inl ⟨by rfl,?_⟩) hHeld ?_
 ·(intro w hSw;go_simp<;>with_reducible rfl)
 try simp only [zA,zB,zC,Act.put,zD,zE,zF]
 refine wpZ_take (i:=10) (v:= .string a3) rfl (by kernel_rfl) (by kernel_rfl) (by kernel_rfl) (by kernel_rfl) (fun _ _ _ h=>h) (Or.inl ⟨by rfl,?_⟩) hHeld ?_
 ·(intro w hSw;go_simp<;>with_reducible rfl)
 try simp only [zA,zB,zC,Act.put,zD,zE,zF]
 refine wpZ_tk (i:=11) (v:= ?_) hHeld ?_ ?_;rotate_left
 ·(intro w hSw;go_simp<;>with_reducible rfl)
 try simp only [zA,zB,zC,Act.put,zD,zE,zF]
 refine wpZ_tk (i:=12) (v:= ?_) hHeld ?_ ?_;rotate_left
 ·(intro w hSw;go_simp<;>with_reducible rfl)
 try simp only [zA,zB,zC,Act.put,zD,zE,zF]
 refine wpZ_one (i:=13) (by kernel_rfl) rfl (fun K hK=> ?_);go_simp;refine(hit _ fW.drew).mono ?_;clear hit;rintro e W2 ⟨rfl,F2⟩;have fW2:=fW.drew.trans F2;dsimp only;refine hK.out _ _ ⟨cell_fr F2 e0,cell_fr F2 e1,cell_fr F2 e2⟩ (fun hHeld=> ?_);clear hK K;try simp only [zA,zB,zC,Act.put,zD,zE,zF]
 refine wpZ_take (i:=14) (v:= .string a4) rfl (by kernel_rfl) (by kernel_rfl) (by kernel_rfl) (by kernel_rfl) (fun _ _ _ h=>h) (Or.inl ⟨by rfl,?_⟩) hHeld ?_
 ·(intro w hSw;go_simp<;>with_reducible rfl)
 try simp only [zA,zB,zC,Act.put,zD,zE,zF]
 refine wpZ_take (i:=15) (v:= .string a5) rfl (by kernel_rfl) (by kernel_rfl) (by kernel_rfl) (by kernel_rfl) (fun _ _ _ h=>h) (Or.inl ⟨by rfl,?_⟩) hHeld ?_
 ·(intro w hSw;go_simp<;>with_reducible rfl)
 try simp only [zA,zB,zC,Act.put,zD,zE,zF]
 refine wpZ_tk (i:=16) (v:= ?_) hHeld ?_ ?_;rotate_left
 ·(intro w hSw;go_simp<;>with_reducible rfl)
 try simp only [zA,zB,zC,Act.put,zD,zE,zF]
 refine wpZ_done (by kernel_rfl) ?_ _;go_wp2_with fail
 go_ret;exact⟨by rw [hfin];rfl,fW2⟩
set_option maxRecDepth 100000 in
set_option maxHeartbeats 2000000 in
theorem head2_t (w:World) (s:ByteArray) (n:Int) (hs:s.size≤1000000) (h0:0≤n) (h1:n≤1099511627776) (htab:Lib.TabIs Tryz.prog w "internal/strconv.uint64pow10" .u64 Lib.pow10Tab):
  Calls Tryz.prog 96 #[.agg #[.int .i64 2,.string s,.int .i64 n]] w fun e w'=>e= .returned (.string (headS 97 s n))∧Fr [] w w':=by
 have hit:∀V,Fr [] w V→Calls Tryz.prog 131 #[.int .i64 n] V fun e w'=>e= .returned (.string (itoaB n))∧Fr [] V w':=fun V hF=>(Tryz.strconv_Itoa n (by omega) (by omega) V (tab_fr htab hF)).mono (by
  rintro e w' ⟨rfl,k,os,rfl⟩;exact⟨rfl,Fr.of_below (Lib.below_grow _ V (Nat.le_refl _) k os)⟩)
 obtain⟨a1,a2,a3,a4,a5,ha1,ha2,ha3,ha4,ha5,hfin⟩:=head_sums 97 s n hs h0 h1;clear htab;go_enter Tryz.func96,Tryz.ntmps96;go_upto_region 1 with(fail)
 refine wp_gen (fun W=>Blk W w.heap.size 47 #[.int .i64 2,.string s,.int .i64 n]∧Fr [] w W) ⟨Blk.new _ _ _,(Fr.refl _ _).alloc _⟩ ?_;rintro W ⟨hB,fW⟩;obtain⟨g,HG⟩:∃z,Hid (w.heap.size=z):=⟨_,zh rfl⟩
 rw [HG.o]at hB⊢;obtain⟨e0,e1,e2⟩:=hB.c3;have hgl:=hB.lt;clear hB;refine wp_region_z (fun v=>v.cell? ⟨g,0,none⟩=some (.int .i64 2)∧v.cell? ⟨g,1,none⟩=some (.string s)∧v.cell? ⟨g,2,none⟩=some (.int .i64 n)) [] (by kernel_rfl) ⟨e0,e1,e2⟩ ?_;intro hHeld;refine wpZ_tk (i:=0) (v:= ?_) hHeld ?_ ?_;rotate_left
 ·(intro w hSw;go_simp<;>with_reducible rfl)
 try simp only [zA,zB,zC,Act.put,zD,zE,zF]
 refine wpZ_tk (i:=1) (v:= ?_) hHeld ?_ ?_;rotate_left
 ·(intro w hSw;go_simp<;>with_reducible rfl)
 try simp only [zA,zB,zC,Act.put,zD,zE,zF]
 refine wpZ_tk (i:=2) (v:= ?_) hHeld ?_ ?_;rotate_left
 ·(intro w hSw;go_simp<;>with_reducible rfl)
 try simp only [zA,zB,zC,Act.put,zD,zE,zF]
 refine wpZ_tk (i:=3) (v:= ?_) hHeld ?_ ?_;rotate_left
 ·(intro w hSw;go_simp<;>with_reducible rfl)
 try simp only [zA,zB,zC,Act.put,zD,zE,zF]
 refine wpZ_take (i:=4) (v:= .int .i64 3) rfl (by kernel_rfl) (by kernel_rfl) (by kernel_rfl) (by kernel_rfl) (fun _ _ _ h=>h) (Or.inl ⟨by rfl,?_⟩) hHeld ?_
 ·(intro w hSw;(try dsimp only at hSw);go_simp;kernel_rfl)
 try simp only [zA,zB,zC,Act.put,zD,zE,zF]
 refine wpZ_take (i:=5) (v:= .string ⟨#[97]⟩) rfl (by kernel_rfl) (by kernel_rfl) (by kernel_rfl) (by kernel_rfl) (fun _ _ _ h=>h) (Or.inl ⟨by rfl,?_⟩) hHeld ?_
 ·(intro w hSw;(try dsimp only at hSw);go_simp;kernel_rfl)
 try simp only [zA,zB,zC,Act.put,zD,zE,zF]
 refine wpZ_take (i:=6) (v:= .string a1) rfl (by kernel_rfl) (by kernel_rfl) (by kernel_rfl) (by kernel_rfl) (fun _ _ _ h=>h) (Or.inl ⟨by rfl,?_⟩) hHeld ?_
 ·(intro w hSw;go_simp<;>with_reducible rfl)
 try simp only [zA,zB,zC,Act.put,zD,zE,zF]
 refine wpZ_tk (i:=7) (v:= ?_) hHeld ?_ ?_;rotate_left
 ·(intro w hSw;go_simp<;>with_reducible rfl)
 try simp only [zA,zB,zC,Act.put,zD,zE,zF]
 refine wpZ_tk (i:=8) (v:= ?_) hHeld ?_ ?_;rotate_left
 ·(intro w hSw;go_simp<;>with_reducible rfl)
 try simp only [zA,zB,zC,Act.put,zD,zE,zF]
 refine wpZ_take (i:=9) (v:= .string a2) rfl (by kernel_rfl) (by kernel_rfl) (by kernel_rfl) (by kernel_rfl) (fun _ _ _ h=>h) (Or.inl ⟨by rfl,?_⟩) hHeld ?_
 ·(intro w hSw;go_simp<;>with_reducible rfl)
 try simp only [zA,zB,zC,Act.put,zD,zE,zF]
 refine wpZ_take (i:=10) (v:= .string a3) rfl (by kernel_rfl) (by kernel_rfl) (by kernel_rfl) (by kernel_rfl) (fun _ _ _ h=>h) (Or.inl ⟨by rfl,?_⟩) hHeld ?_
 ·(intro w hSw;go_simp<;>with_reducible rfl)
 try simp only [zA,zB,zC,Act.put,zD,zE,zF]
 refine wpZ_tk (i:=11) (v:= ?_) hHeld ?_ ?_;rotate_left
 ·(intro w hSw;go_simp<;>with_reducible rfl)
 try simp only [zA,zB,zC,Act.put,zD,zE,zF]
 refine wpZ_tk (i:=12) (v:= ?_) hHeld ?_ ?_;rotate_left
 ·(intro w hSw;go_simp<;>with_reducible rfl)
 try simp only [zA,zB,zC,Act.put,zD,zE,zF]
 refine wpZ_one (i:=13) (by kernel_rfl) rfl (fun K hK=> ?_);go_simp;refine(hit _ fW.drew).mono ?_;clear hit;rintro e W2 ⟨rfl,F2⟩;have fW2:=fW.drew.trans F2;dsimp only;refine hK.out _ _ ⟨cell_fr F2 e0,cell_fr F2 e1,cell_fr F2 e2⟩ (fun hHeld=> ?_);clear hK K;try simp only [zA,zB,zC,Act.put,zD,zE,zF]
 refine wpZ_take (i:=14) (v:= .string a4) rfl (by kernel_rfl) (by kernel_rfl) (by kernel_rfl) (by kernel_rfl) (fun _ _ _ h=>h) (Or.inl ⟨by rfl,?_⟩) hHeld ?_
 ·(intro w hSw;go_simp<;>with_reducible rfl)
 try simp only [zA,zB,zC,Act.put,zD,zE,zF]
 refine wpZ_take (i:=15) (v:= .string a5) rfl (by kernel_rfl) (by kernel_rfl) (by kernel_rfl) (by kernel_rfl) (fun _ _ _ h=>h) (Or.inl ⟨by rfl,?_⟩) hHeld ?_
 ·(intro w hSw;go_simp<;>with_reducible rfl)
 try simp only [zA,zB,zC,Act.put,zD,zE,zF]
 refine wpZ_tk (i:=16) (v:= ?_) hHeld ?_ ?_;rotate_left
 ·(intro w hSw;go_simp<;>with_reducible rfl)
 try simp only [zA,zB,zC,Act.put,zD,zE,zF]
 refine wpZ_done (by kernel_rfl) ?_ _;go_wp2_with fail
 go_ret;exact⟨by rw [hfin];rfl,fW2⟩
set_option maxRecDepth 100000 in
set_option maxHeartbeats 2000000 in
theorem head3_t (w:World) (s:ByteArray) (n:Int) (hs:s.size≤1000000) (h0:0≤n) (h1:n≤1099511627776) (htab:Lib.TabIs Tryz.prog w "internal/strconv.uint64pow10" .u64 Lib.pow10Tab):
  Calls Tryz.prog 96 #[.agg #[.int .i64 3,.string s,.int .i64 n]] w fun e w'=>e= .returned (.string (headS 114 s n))∧Fr [] w w':=by
 have hit:∀V,Fr [] w V→Calls Tryz.prog 131 #[.int .i64 n] V fun e w'=>e= .returned (.string (itoaB n))∧Fr [] V w':=fun V hF=>(Tryz.strconv_Itoa n (by omega) (by omega) V (tab_fr htab hF)).mono (by
  rintro e w' ⟨rfl,k,os,rfl⟩;exact⟨rfl,Fr.of_below (Lib.below_grow _ V (Nat.le_refl _) k os)⟩)
 obtain⟨a1,a2,a3,a4,a5,ha1,ha2,ha3,ha4,ha5,hfin⟩:=head_sums 114 s n hs h0 h1;clear htab;go_enter Tryz.func96,Tryz.ntmps96;go_upto_region 1 with(fail)
 refine wp_gen (fun W=>Blk W w.heap.size 47 #[.int .i64 3,.string s,.int .i64 n]∧Fr [] w W) ⟨Blk.new _ _ _,(Fr.refl _ _).alloc _⟩ ?_;rintro W ⟨hB,fW⟩;obtain⟨g,HG⟩:∃z,Hid (w.heap.size=z):=⟨_,zh rfl⟩
 rw [HG.o]at hB⊢;obtain⟨e0,e1,e2⟩:=hB.c3;have hgl:=hB.lt;clear hB;refine wp_region_z (fun v=>v.cell? ⟨g,0,none⟩=some (.int .i64 3)∧v.cell? ⟨g,1,none⟩=some (.string s)∧v.cell? ⟨g,2,none⟩=some (.int .i64 n)) [] (by kernel_rfl) ⟨e0,e1,e2⟩ ?_;intro hHeld;refine wpZ_tk (i:=0) (v:= ?_) hHeld ?_ ?_;rotate_left
 ·(intro w hSw;go_simp<;>with_reducible rfl)
 try simp only [zA,zB,zC,Act.put,zD,zE,zF]
 refine wpZ_tk (i:=1) (v:= ?_) hHeld ?_ ?_;rotate_left
 ·(intro w hSw;go_simp<;>with_reducible rfl)
 try simp only [zA,zB,zC,Act.put,zD,zE,zF]
 refine wpZ_tk (i:=2) (v:= ?_) hHeld ?_ ?_;rotate_left
 ·(intro w hSw;go_simp<;>with_reducible rfl)
 try simp only [zA,zB,zC,Act.put,zD,zE,zF]
 refine wpZ_tk (i:=3) (v:= ?_) hHeld ?_ ?_;rotate_left
 ·(intro w hSw;go_simp<;>with_reducible rfl)
 try simp only [zA,zB,zC,Act.put,zD,zE,zF]
 refine wpZ_take (i:=4) (v:= .int .i64 4) rfl (by kernel_rfl) (by kernel_rfl) (by kernel_rfl) (by kernel_rfl) (fun _ _ _ h=>h) (Or.inl ⟨by rfl,?_⟩) hHeld ?_
 ·(intro w hSw;(try dsimp only at hSw);go_simp;kernel_rfl)
 try simp only [zA,zB,zC,Act.put,zD,zE,zF]
 refine wpZ_take (i:=5) (v:= .string ⟨#[114]⟩) rfl (by kernel_rfl) (by kernel_rfl) (by kernel_rfl) (by kernel_rfl) (fun _ _ _ h=>h) (Or.inl ⟨by rfl,?_⟩) hHeld ?_
 ·(intro w hSw;(try dsimp only at hSw);go_simp;kernel_rfl)
 try simp only [zA,zB,zC,Act.put,zD,zE,zF]
 refine wpZ_take (i:=6) (v:= .string a1) rfl (by kernel_rfl) (by kernel_rfl) (by kernel_rfl) (by kernel_rfl) (fun _ _ _ h=>h) (Or.inl ⟨by rfl,?_⟩) hHeld ?_
 ·(intro w hSw;go_simp<;>with_reducible rfl)
 try simp only [zA,zB,zC,Act.put,zD,zE,zF]
 refine wpZ_tk (i:=7) (v:= ?_) hHeld ?_ ?_;rotate_left
 ·(intro w hSw;go_simp<;>with_reducible rfl)
 try simp only [zA,zB,zC,Act.put,zD,zE,zF]
 refine wpZ_tk (i:=8) (v:= ?_) hHeld ?_ ?_;rotate_left
 ·(intro w hSw;go_simp<;>with_reducible rfl)
 try simp only [zA,zB,zC,Act.put,zD,zE,zF]
 refine wpZ_take (i:=9) (v:= .string a2) rfl (by kernel_rfl) (by kernel_rfl) (by kernel_rfl) (by kernel_rfl) (fun _ _ _ h=>h) (Or.inl ⟨by rfl,?_⟩) hHeld ?_
 ·(intro w hSw;go_simp<;>with_reducible rfl)
 try simp only [zA,zB,zC,Act.put,zD,zE,zF]
 refine wpZ_take (i:=10) (v:= .string a3) rfl (by kernel_rfl) (by kernel_rfl) (by kernel_rfl) (by kernel_rfl) (fun _ _ _ h=>h) (Or.inl ⟨by rfl,?_⟩) hHeld ?_
 ·(intro w hSw;go_simp<;>with_reducible rfl)
 try simp only [zA,zB,zC,Act.put,zD,zE,zF]
 refine wpZ_tk (i:=11) (v:= ?_) hHeld ?_ ?_;rotate_left
 ·(intro w hSw;go_simp<;>with_reducible rfl)
 try simp only [zA,zB,zC,Act.put,zD,zE,zF]
 refine wpZ_tk (i:=12) (v:= ?_) hHeld ?_ ?_;rotate_left
 ·(intro w hSw;go_simp<;>with_reducible rfl)
 try simp only [zA,zB,zC,Act.put,zD,zE,zF]
 refine wpZ_one (i:=13) (by kernel_rfl) rfl (fun K hK=> ?_);go_simp;refine(hit _ fW.drew).mono ?_;clear hit;rintro e W2 ⟨rfl,F2⟩;have fW2:=fW.drew.trans F2;dsimp only;refine hK.out _ _ ⟨cell_fr F2 e0,cell_fr F2 e1,cell_fr F2 e2⟩ (fun hHeld=> ?_);clear hK K;try simp only [zA,zB,zC,Act.put,zD,zE,zF]
 refine wpZ_take (i:=14) (v:= .string a4) rfl (by kernel_rfl) (by kernel_rfl) (by kernel_rfl) (by kernel_rfl) (fun _ _ _ h=>h) (Or.inl ⟨by rfl,?_⟩) hHeld ?_
 ·(intro w hSw;go_simp<;>with_reducible rfl)
 try simp only [zA,zB,zC,Act.put,zD,zE,zF]
 refine wpZ_take (i:=15) (v:= .string a5) rfl (by kernel_rfl) (by kernel_rfl) (by kernel_rfl) (by kernel_rfl) (fun _ _ _ h=>h) (Or.inl ⟨by rfl,?_⟩) hHeld ?_
 ·(intro w hSw;go_simp<;>with_reducible rfl)
 try simp only [zA,zB,zC,Act.put,zD,zE,zF]
 refine wpZ_tk (i:=16) (v:= ?_) hHeld ?_ ?_;rotate_left
 ·(intro w hSw;go_simp<;>with_reducible rfl)
 try simp only [zA,zB,zC,Act.put,zD,zE,zF]
 refine wpZ_done (by kernel_rfl) ?_ _;go_wp2_with fail
 go_ret;exact⟨by rw [hfin];rfl,fW2⟩
end Go.Proofs.YtopfcgpeaaehgaaGreatDoor
