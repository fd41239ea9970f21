/- Walks of the reference's hash: the bytes, padded. Conditions: each theorem's own. -/
import Derived.Test.YtacljejoedbnkaaGreatSb
import Derived.Test.YtacljejoedbnkaaGreatSf
import Derived.Laws.MakeOwn
namespace Go.Sig
open Go.RowKit
def rotN (X i:Nat):Nat:=X / 2^i+X%2^i*2^(32 - i)
theorem rotr_nat (x:UInt32) {i:Nat}(h:i<32):(rotr x i).toNat=rotN x.toNat i:=by
 show(x.toBitVec.rotateRight i).toNat=_;rw [BitVec.toNat_rotateRight,Nat.mod_eq_of_lt h,Nat.shiftRight_eq_div_pow,Nat.shiftLeft_eq];have hX:x.toNat<2^32:=x.toNat_lt;show x.toNat / 2^i |||x.toNat*2^(32 - i)%2^32=rotN x.toNat i
 generalize x.toNat=X at hX;have e1:X*2^(32 - i)%2^32=2^(32 - i)*(X%2^i):=by
  have:(2:Nat)^32=2^i*2^(32 - i):=by rw [←Nat.pow_add];congr 1;omega
  rw [this,Nat.mul_mod_mul_right,Nat.mul_comm]
 have hlt:X / 2^i<2^(32 - i):=by rw [Nat.div_lt_iff_lt_mul (Nat.two_pow_pos i),←Nat.pow_add];rwa [show 32 - i+i=32 by omega]
 rw [e1,Nat.or_comm,←Nat.two_pow_add_eq_or_of_lt hlt];unfold rotN;rw [Nat.mul_comm,Nat.add_comm]
theorem rotN_step (X:Nat) {i:Nat}(h:i<32):rotN X (i+1)=rotN X i / 2+rotN X i%2*2147483648:=by
 unfold rotN;have e2:(2:Nat)^(32 - i)=2*2^(31 - i):=by rw [show 32 - i=(31 - i)+1 by omega,Nat.pow_succ,Nat.mul_comm]
 have e3:(2:Nat)^(32 - (i+1))=2^(31 - i):=by congr 1;omega
 have e4:(2147483648:Nat)=2^i*2^(31 - i):=by rw [←Nat.pow_add,show i+(31 - i)=31 by omega]
 have hp:=Nat.two_pow_pos i;have hd:X / 2^(i+1)=X / 2^i / 2:=by rw [Nat.pow_succ,Nat.div_div_eq_div_mul]
 have hm:X%2^(i+1)=X%2^i+2^i*(X / 2^i%2):=by rw [Nat.pow_succ,Nat.mod_mul]
 rw [e2,e3,hd,hm];generalize X / 2^i=A;generalize X%2^i=C;have e5:C*(2*2^(31 - i))=2*(C*2^(31 - i)):=by rw [Nat.mul_left_comm]
 rw [e5];have e6:(A+2*(C*2^(31 - i))) / 2=A / 2+C*2^(31 - i):=by omega
 have e7:(A+2*(C*2^(31 - i)))%2=A%2:=by omega
 rw [e6,e7,Nat.add_mul];have e8:2^i*(A%2)*2^(31 - i)=A%2*2147483648:=by rw [e4,Nat.mul_comm (2^i) (A%2),Nat.mul_assoc]
 rw [e8];omega
theorem rotN_zero (X:Nat):rotN X 0=X:=by
 unfold rotN;rw [Nat.pow_zero,Nat.mod_one,Nat.div_one];omega
theorem compl_nat (x:UInt32):(4294967295^^^x:UInt32).toNat=4294967295 - x.toNat:=by
 rw [UInt32.toNat_xor];have h:(BitVec.allOnes 32^^^x.toBitVec).toNat=2^32 - 1 - x.toBitVec.toNat:=by rw [BitVec.allOnes_xor,BitVec.toNat_not]
 rw [BitVec.toNat_xor,BitVec.toNat_allOnes]at h;exact h
def acc4 (f:Nat→UInt8):Nat→Nat
 | 0=>0
 |j+1=>256*acc4 f j+(f j).toNat
theorem acc4_lt (f:Nat→UInt8):∀j,acc4 f j<256^j
 | 0=>by simp [acc4]
 |j+1=>by have:=acc4_lt f j;have hb:=(f j).toNat_lt;unfold acc4;rw [Nat.pow_succ];omega
theorem acc4_word (f:Nat→UInt8):acc4 f 4=(word4 (f 0) (f 1) (f 2) (f 3)).toNat:=by
 have h:=acc4_lt f 4;have h0:=(f 0).toNat_lt;have h1:=(f 1).toNat_lt;have h2:=(f 2).toNat_lt;have h3:=(f 3).toNat_lt;unfold word4;rw [UInt32.toNat_ofNat_of_lt' (by simp [UInt32.size];omega)];simp only [acc4];omega
theorem be8_div (n k:Nat) (h:k<8):(be8 n).getD (7 - k) 0=UInt8.ofNat (n / 256^k):=by
 unfold be8;simp only [List.getD,List.getElem?_map,List.getElem?_range (show 7 - k<8 by omega),Option.map_some,Option.getD_some];rw [show 56 - 8*(7 - k)=8*k by omega,Nat.pow_mul]
end Go.Sig
namespace Go.Proofs.YtacljejoedbnkaaGreat
open Go.RowKit Go.Sig
set_option maxHeartbeats 1000000 in
theorem rdown_t (x:UInt32) (n:Nat) (hn:n≤100) (w:World):Calls Tryz.prog 242 #[.int .u32 x.toNat,.int .i64 n] w fun e w'=>e= .returned (.int .u32 ((x.toNat / 2^n:Nat):Int))∧w=w':=by
 have hx:=x.toNat_lt;obtain⟨X,HX⟩:∃X,Hid (x.toNat=X):=⟨_,zh rfl⟩
 rw [HX.o]at hx⊢;go_enter Tryz.func242,Tryz.ntmps242;go_wp2_with fail
 go_loopg [0,5] (n+1) (fun gk s0 s5 wr=>∃(i Y:Nat),s5= .int .i64 i∧s0= .int .u32 Y∧Y=X / 2^i∧i≤n∧n - i<gk∧w=wr)
 case atStart=>exact⟨0,X,rfl,rfl,by simp,by omega,by omega,rfl⟩
 case round=>
  obtain⟨i,Y,rfl,rfl,hY,hi,hk,rfl⟩:=hrel;have hYh:=zh hY;have hYl:Y<4294967296:=by rw [hY];exact Nat.lt_of_le_of_lt (Nat.div_le_self _ _) hx
  clear hY;by_cases hlt:i<n
  ·have hlt':(i:Int)<n:=by omega
   go_wp2;go_roundg (n - i)
   case measure=>omega
   case rel=>refine⟨i+1,Y / 2,by go_num,by go_num,?_,by omega,by omega,rfl⟩;rw [hYh.o,Nat.pow_succ,Nat.div_div_eq_div_mul]
  ·have hin:i=n:=by omega
   have hge:¬(i:Int)<n:=by omega
   clear hlt hk;go_wp2;go_ret;exact⟨ret_word (by rw [hYh.o,hin];simp),rfl⟩
set_option maxHeartbeats 1000000 in
theorem rturn_t (x:UInt32) (n:Nat) (hn:n≤31) (w:World):Calls Tryz.prog 287 #[.int .u32 x.toNat,.int .i64 n] w fun e w'=>e= .returned (.int .u32 (rotr x n).toNat)∧w=w':=by
 have hx:=x.toNat_lt;have hend:=zh (rotr_nat x (i:=n) (by omega));have hlt32:=zh (fun(i:Nat) (h:i<32)=>(rotr_nat x h)▸(rotr x i).toNat_lt);obtain⟨X,HX⟩:∃X,Hid (x.toNat=X):=⟨_,zh rfl⟩
 rw [HX.o]at hx hend hlt32⊢;obtain⟨R,HR⟩:∃R,Hid ((rotr x n).toNat=R):=⟨_,zh rfl⟩
 rw [HR.o]at hend⊢;go_enter Tryz.func287,Tryz.ntmps287;go_wp2_with fail
 go_loopg [0,5] (n+1) (fun gk s0 s5 wr=>∃(i Y:Nat),s5= .int .i64 i∧s0= .int .u32 Y∧Y=rotN X i∧i≤n∧n - i<gk∧w=wr)
 case atStart=>exact⟨0,X,rfl,rfl,by rw [rotN_zero],by omega,by omega,rfl⟩
 case round=>
  obtain⟨i,Y,rfl,rfl,hY,hi,hk,rfl⟩:=hrel;have hYh:=zh hY;have hYl:Y<4294967296:=by rw [hY];exact hlt32.o i (by omega)
  clear hY;by_cases hlt:i<n
  ·have hlt':(i:Int)<n:=by omega
   have hst:=zh (rotN_step X (i:=i) (by omega));have hm:Y%2=0∨Y%2=1:=by omega
   rcases hm with hm |hm
   ·have hmi:(Y:Int)%2=0:=by omega
    have hmt:((Y:Int)%2==1)=false:=by rw [hmi];rfl
    have hmh:=zh hm;clear hm hmi;go_wp2;go_roundg (n - i)
    case measure=>omega
    case rel=>refine⟨i+1,Y / 2,by go_num,by go_num,?_,by omega,by omega,rfl⟩;rw [hst.o,←hYh.o,hmh.o];omega
   ·have hmi:(Y:Int)%2=1:=by omega
    have hmt:((Y:Int)%2==1)=true:=by rw [hmi];rfl
    have hmh:=zh hm;clear hm hmi;go_wp2;go_roundg (n - i)
    case measure=>omega
    case rel=>refine⟨i+1,Y / 2+2147483648,by go_num,by go_num,?_,by omega,by omega,rfl⟩;rw [hst.o,←hYh.o,hmh.o]
  ·have hin:i=n:=by omega
   have hge:¬(i:Int)<n:=by omega
   clear hlt hk;go_wp2;go_ret;refine⟨ret_word ?_,rfl⟩;rw [hend.o,hYh.o,hin]
theorem rturn_any (x:UInt32) (k:Int) (w:World) (hk:decide (1≤k∧k≤31)=true):Calls Tryz.prog 287 #[.int .u32 x.toNat,.int .i64 k] w fun e w'=>e= .returned (.int .u32 (rotr x k.toNat).toNat)∧w=w':=by
 have hk':=of_decide_eq_true hk;obtain⟨n,rfl⟩:∃n:Nat,k=(n:Int):=⟨k.toNat,by omega⟩
 rw [Int.toNat_natCast];exact rturn_t x n (by omega) w
theorem rdown_any (x:UInt32) (k:Int) (w:World) (hk:decide (0≤k∧k≤31)=true):Calls Tryz.prog 242 #[.int .u32 x.toNat,.int .i64 k] w fun e w'=>e= .returned (.int .u32 ((x.toNat / 2^k.toNat:Nat):Int))∧w=w':=by
 have hk':=of_decide_eq_true hk;obtain⟨n,rfl⟩:∃n:Nat,k=(n:Int):=⟨k.toNat,by omega⟩
 rw [Int.toNat_natCast];exact rdown_t x n (by omega) w
theorem infoW64:(Tryz.prog.info? 353).map (·.size)=some kCells.size:=by kernel_rfl
set_option maxRecDepth 100000 in
theorem rk_t (t:Nat) (h:t<64) (w:World):Calls Tryz.prog 288 #[.int .i64 t] w fun e w'=>e= .returned (.int .u32 (kAt t).toNat)∧Fr [] w w':=by
 go_enter Tryz.func288,Tryz.ntmps288;go_upto_region 2 with(first
  | (refine wpList_build_k rfl 353 _ rfl (cells:=kCells) ?_ ?_;(focus kernel_rfl))
  | (refine wpList_store_row rfl 353 _ _ rfl w.heap.size kCells rfl rfl 353 _ (Blk.new w 353 _) infoW64 (by rfl) (by kernel_rfl) ?_))
 refine wp_gen (fun W=>Blk W w.heap.size 353 kCells∧Fr [] w W) ⟨Blk.setRow (Blk.new w 353 _) _,((Fr.refl _ _).alloc _).setRow (.inr (Nat.le_refl _)) _⟩ ?_;rintro W ⟨hB,fW⟩;have ck:=(hB.cell t).trans (kCells_get h);have hti:(t:Int)<64:=by omega
 go_wp2;go_ret;exact⟨rfl,fW⟩
end Go.Proofs.YtacljejoedbnkaaGreat
namespace Go.Proofs.YtacljejoedbnkaaGreat
open Go.RowKit Go.Sig
def wCells (l:List UInt8):Array Value:=((List.range 64).map fun j=>wv (wAt l j)).toArray
theorem wCells_size (l:List UInt8):(wCells l).size=64:=by simp [wCells]
theorem wCells_get (l:List UInt8) {j:Nat}(h:j<64):(wCells l)[j]? =some (wv (wAt l j)):=by
 simp [wCells,h]
theorem wCells_ext {ws:Array Value}{l:List UInt8}(hs:ws.size=64) (h:∀j,j<64→ws[j]? =some (wv (wAt l j))):ws=wCells l:=by
 apply Array.ext_getElem?;intro j;by_cases hj:j<64
 ·rw [h j hj,wCells_get l hj]
 ·rw [Array.getElem?_eq_none (by omega),Array.getElem?_eq_none (by rw [wCells_size];omega)]
theorem wCells_one (l:List UInt8):(wCells l).all (·.oneCell')=true:=by
 simp [wCells,wv,Value.oneCell']
theorem uW64:Tryz.prog.underlying 353=some (.array 64 230):=by kernel_rfl
theorem infoW64':(Tryz.prog.info? 353).map (·.size)=some 64:=by kernel_rfl
def zW64:Array Value:=(List.replicate 64 (.int .u32 0)).toArray
theorem zW64_get {j:Nat}(h:j<64):zW64[j]? =some (.int .u32 0):=by
 rw [zW64,zG,List.getElem?_replicate,if_pos h]
theorem zW64_size:zW64.size=64:=by simp [zW64]
theorem set_same {ws:Array Value}{i:Nat}{v:Value}(h:ws[i]? =some v):ws.setIfInBounds i v=ws:=by
 apply Array.ext_getElem?;intro j;rw [Array.getElem?_setIfInBounds];by_cases e:i=j
 ·subst e;rw [if_pos rfl,h];have:=(Array.getElem?_eq_some_iff.1 h).1;rw [if_pos this]
 ·rw [if_neg e]
theorem acc_stepR (a:Nat) (b:UInt8) (h:256*a+b.toNat<4294967296):(256*(a:Int)+(b.toNat:Int))%4294967296=((256*a+b.toNat:Nat):Int):=by
 omega
theorem ss1_down (y:UInt32):bits .xor .u32 (bits .xor .u32 ((rotr y 17).toNat:Int) ((rotr y 19).toNat:Int)) ((y.toNat:Int) / 1024)=((ss1 y).toNat:Int):=by
 rw [w_shr y 10 10 rfl 1024 rfl];simp only [w_xor];rfl
theorem ss0_down (y:UInt32):bits .xor .u32 (bits .xor .u32 ((rotr y 7).toNat:Int) ((rotr y 18).toNat:Int)) ((y.toNat:Int) / 8)=((ss0 y).toNat:Int):=by
 rw [w_shr y 3 3 rfl 8 rfl];simp only [w_xor];rfl
theorem wgrow_form (a b s0 s1:UInt32):((s1.toNat:Int)+b.toNat+s0.toNat+a.toNat)%4294967296=((a+b+s0+s1).toNat:Int):=by
 have e:=UInt32.toNat_add (a+b+s0) s1;have e2:=UInt32.toNat_add (a+b) s0;have e3:=UInt32.toNat_add a b;omega
set_option maxRecDepth 100000 in
set_option maxHeartbeats 4000000 in
theorem rwords_t (w:World) (A:Option Addr) (c:Nat) (l:List UInt8) (hb:Byts w A 64 l):
  Calls Tryz.prog 286 #[.slice A 64 c] w fun e w'=>e= .returned (.agg (wCells l))∧Fr [] w w':=by
 obtain⟨b,o,rfl,hbl,-⟩:=hb.at (i:=0) (by decide);go_enter Tryz.func286,Tryz.ntmps286;go_upto_region 2 with(fail)
 refine wp_gen (fun W=>(∃zs,Blk W w.heap.size 353 zs∧zs=zW64)∧(∃zs,Blk W (w.heap.size+1) 353 zs∧zs=zW64)∧Fr [] w W) ⟨⟨_,(Blk.new _ _ _).alloc _,by kernel_rfl⟩,⟨_,Blk.new' _ _ (by simp),by kernel_rfl⟩,((Fr.refl _ _).alloc _).alloc _⟩ ?_;rintro W ⟨⟨_,BR,rfl⟩,⟨_,BW,rfl⟩,fW⟩;have hbW:Byts W (some ⟨b,o,none⟩) 64 l:=Rd.fr hb fW (by simp [Off]);have hbl':b<w.heap.size:=hbl;obtain⟨gr,HGR⟩:∃x,Hid (w.heap.size=x):=⟨_,zh rfl⟩
 rw [HGR.o]at BR BW hbl'⊢;obtain⟨gw,HGW⟩:∃x,Hid (gr+1=x):=⟨_,zh rfl⟩
 rw [HGW.o]at BW⊢;have hrw:gr≠gw:=by have:=HGW.o;omega
 have hbw:b≠gw:=by have:=HGW.o;omega
 have hwsz:w.heap.size≤gw:=by have:=HGW.o;have:=HGR.o;omega
 go_upto_block 0 with(fail)
 go_cut [4,5]from 11 to 33 (fun s4 s5 wx=>∃(ws:Array Value),Blk wx gw 353 ws∧ws.size=64∧(∀j,j<16→ws[j]? =some (wv (wAt l j)))∧Fr [gw] W wx)
 case first=>
  go_wp2_with fail
  go_loopg [4,5] 17 (fun gk s4 s5 wr=>∃(i:Nat) (ws:Array Value),s4= .int .i64 i∧i≤16∧16 - i<gk∧Blk wr gw 353 ws∧ws.size=64∧(∀j,j<i→ws[j]? =some (wv (wAt l j)))∧(∀j,i≤j→j<64→ws[j]? =some (.int .u32 0))∧Fr [gw] W wr)
  case atStart=>exact⟨0,_,rfl,by omega,by omega,BW,zW64_size,fun j hj=>by omega,fun j _ hj=>zW64_get hj,Fr.refl _ _⟩
  case round=>
   clear BW;obtain⟨i,ws,rfl,hi,hk,hBw,hsz,hpre,hz,hF⟩:=hrel;by_cases hlt:i<16
   ·have hlt':(i:Int)<16:=by omega
    have hi64:(i:Int)<64:=by omega
    have hzi:=hz i (Nat.le_refl _) (by omega);obtain⟨f,hf⟩:∃f:Nat→UInt8,Hid (f=fun k=>l.getD (4*i+k) 0):=⟨_,zh rfl⟩
    have hw4:(wAt l i).toNat=acc4 f 4:=by rw [wAt_lo l hlt,w16_get l hlt,acc4_word,hf.o];rfl
    have hw4h:=zh hw4;have hB0:Blk wr gw 353 (ws.setIfInBounds i (.int .u32 ((acc4 f 0:Nat):Int))):=by rw [show((acc4 f 0:Nat):Int)=0 from rfl,set_same hzi];exact hBw
    clear hw4 hBw hzi;go_wp2_with fail
    go_loopg [5] 5 (fun gk s5 wr=>∃(j:Nat),s5= .int .i64 j∧j≤4∧4 - j<gk∧Blk wr gw 353 (ws.setIfInBounds i (.int .u32 ((acc4 f j:Nat):Int)))∧Fr [gw] W wr)
    case atStart=>exact⟨0,rfl,by omega,by omega,hB0,hF⟩
    case round=>
     clear hB0 hF;obtain⟨j,rfl,hj,hkj,hBj,hFj⟩:=hrel;by_cases hjl:j<4
     ·have hjl':(j:Int)<4:=by omega
      have hbr:Byts wr (some ⟨b,o,none⟩) 64 l:=Rd.fr hbW hFj (fun _ ad h=>by cases h;simpa using hbw);have hbc:wr.cell? ⟨b,o+(4*i+j),none⟩=some (.int .u8 ((f j).toNat:Int)):=by
       obtain⟨b',o',e,-,h⟩:=hbr.at (i:=4*i+j) (by omega);cases e
       rw [hf.o];exact h
      have hci:wr.cell? ⟨gw,i,none⟩=some (.int .u32 ((acc4 f j:Nat):Int)):=by rw [hBj.cell,Array.getElem?_setIfInBounds,if_pos rfl,if_pos (by omega)]
      have hfz:=hBj.frozen i;have hlt4:=acc4_lt f (j+1);have hp4:256^(j+1)≤4294967296:=by
       have:j=0∨j=1∨j=2∨j=3:=by omega
       rcases this with e |e |e |e<;>subst e<;>decide
      have hst:=zh (acc_stepR (acc4 f j) (f j) (Nat.lt_of_lt_of_le hlt4 hp4));clear hlt4 hp4 hbr;have hsucc:256*acc4 f j+(f j).toNat=acc4 f (j+1):=rfl;rw [hsucc]at hst;clear hsucc;have hbv:=(f j).toNat_lt;generalize acc4 f j=a0 at*
      obtain⟨a1,ha1⟩:∃x,Hid (acc4 f (j+1)=x):=⟨_,zh rfl⟩
      rw [ha1.o]at hst;have p0:(0:Int)≤4*(i:Int)+j:=by omega
      have b0:4*(i:Int)+j<64:=by omega
      have n0:(4*(i:Int)+j).toNat=4*i+j:=by omega
      have w0:IntKind.i64.wrap (4*(i:Int))=4*(i:Int):=by rw [IntKind.wrap_i64];omega
      have w1:IntKind.i64.wrap (4*(i:Int)+j)=4*(i:Int)+j:=by rw [IntKind.wrap_i64];omega
      go_wp2_with fail
      refine wp_tail 15 (by kernel_rfl) (by kernel_rfl) ?_;simp only [List.take_succ_cons,List.take_zero,List.drop_succ_cons,List.drop_zero];repeat still_step
      refine wpStill_nil ?_;clear p0 b0 n0 w0 w1;go_wp2;go_roundg (4 - j)
      case measure=>omega
      case rel=>refine⟨j+1,by go_num,by omega,by omega,?_,(hFj.setCell (by simp) _).drew⟩;have:=(hBj.set i (.int .u32 (a1:Int))).drew;rw [Array.setIfInBounds_setIfInBounds]at this;rw [ha1.o,hst.o];exact this
     ·have hj4:j=4:=by omega
      subst hj4;have hge:¬((4:Nat):Int)<4:=by omega
      rw [←hw4h.o]at hBj;clear hjl hkj;go_wp2;go_roundg (16 - i)
      case measure=>omega
      case rel=>refine⟨i+1,_,by go_num,by omega,by omega,hBj,by simpa using hsz,pre_step hpre (by omega) rfl,fun j hj hj2=> ?_,hFj⟩;rw [Array.getElem?_setIfInBounds,if_neg (by omega)];exact hz j (by omega) hj2
   ·have hi16:i=16:=by omega
    subst hi16;have hge:¬((16:Nat):Int)<16:=by omega
    clear hlt hk;go_wp2;go_meet;exact⟨ws,hBw,hsz,hpre,hF⟩
 case rest=>
  clear BW;obtain⟨ws,hBw,hsz,hpre,hF⟩:=hcut;go_upto_block 4 with(fail)
  go_cut [6,7,8,9,10]from 34 to 76 (fun s6 s7 s8 s9 s10 wx=>∃(ws:Array Value),Blk wx gw 353 ws∧ws.size=64∧(∀j,j<64→ws[j]? =some (wv (wAt l j)))∧Fr [gw] W wx)
  case first=>
   go_wp2_with fail
   go_loopg [6,7,8,9,10] 49 (fun gk s6 s7 s8 s9 s10 wr=>∃(i:Nat) (ws:Array Value),s6= .int .i64 i∧16≤i∧i≤64∧64 - i<gk∧Blk wr gw 353 ws∧ws.size=64∧(∀j,j<i→ws[j]? =some (wv (wAt l j)))∧Fr [gw] W wr)
   case atStart=>exact⟨16,ws,rfl,by omega,by omega,by omega,hBw,hsz,hpre,hF⟩
   case round=>
    clear hBw hsz hpre hF;obtain⟨i,ws,rfl,h16,hi,hk,hBw,hsz,hpre,hF⟩:=hrel;by_cases hlt:i<64
    ·have hlt':(i:Int)<64:=by omega
     have q16:(16:Int)≤i:=by omega
     have q15:(15:Int)≤i:=by omega
     have q7:(7:Int)≤i:=by omega
     have q2:(2:Int)≤i:=by omega
     have hc:∀j,j<i→wr.cell? ⟨gw,j,none⟩=some (wv (wAt l j)):=fun j hj=>by rw [hBw.cell];exact hpre j hj
     have c2:=hc (i - 2) (by omega);have c7:=hc (i - 7) (by omega);have c15:=hc (i - 15) (by omega);have c16:=hc (i - 16) (by omega);have hh:=zh (wAt_hi l h16 hlt);have hci:wr.cell? ⟨gw,i,none⟩=some ws[i]:=by rw [hBw.cell];exact Array.getElem?_eq_getElem (by omega)
     have hfz:=hBw.frozen i;generalize(ws[i]'(by omega))=vi at*
     clear hc;generalize wAt l (i - 2)=x2 at*
     generalize wAt l (i - 7)=x7 at*
     generalize wAt l (i - 15)=x15 at*
     generalize wAt l (i - 16)=x16 at*
     have heq:=zh (wgrow_form x16 x7 (ss0 x15) (ss1 x2));unfold wv at c2 c7 c15 c16;have p2:(0:Int)≤(i:Int) - 2:=by omega
     have p7:(0:Int)≤(i:Int) - 7:=by omega
     have p15:(0:Int)≤(i:Int) - 15:=by omega
     have p16:(0:Int)≤(i:Int) - 16:=by omega
     have b2:(i:Int) - 2<64:=by omega
     have b7:(i:Int) - 7<64:=by omega
     have b15:(i:Int) - 15<64:=by omega
     have b16:(i:Int) - 16<64:=by omega
     have n2:((i:Int) - 2).toNat=i - 2:=by omega
     have n7:((i:Int) - 7).toNat=i - 7:=by omega
     have n15:((i:Int) - 15).toNat=i - 15:=by omega
     have n16:((i:Int) - 16).toNat=i - 16:=by omega
     have w2:IntKind.i64.wrap ((i:Int) - 2)=(i:Int) - 2:=by rw [IntKind.wrap_i64];omega
     have w7:IntKind.i64.wrap ((i:Int) - 7)=(i:Int) - 7:=by rw [IntKind.wrap_i64];omega
     have w15:IntKind.i64.wrap ((i:Int) - 15)=(i:Int) - 15:=by rw [IntKind.wrap_i64];omega
     have w16':IntKind.i64.wrap ((i:Int) - 16)=(i:Int) - 16:=by rw [IntKind.wrap_i64];omega
     go_wp2_with fail
     refine(rturn_any x2 17 _ (by decide)).mono ?_;rintro _ _ ⟨rfl,rfl⟩;go_wp2_with fail
     refine(rturn_any x2 19 _ (by decide)).mono ?_;rintro _ _ ⟨rfl,rfl⟩;go_wp2_with fail
     refine(rdown_any x2 10 _ (by decide)).mono ?_;rintro _ _ ⟨rfl,rfl⟩;go_wp2_with fail
     rw [ss1_down x2];obtain⟨s1,HS1⟩:∃x,Hid (ss1 x2=x):=⟨_,zh rfl⟩
     rw [HS1.o]at heq⊢;refine(rturn_any x15 7 _ (by decide)).mono ?_;rintro _ _ ⟨rfl,rfl⟩;go_wp2_with fail
     refine(rturn_any x15 18 _ (by decide)).mono ?_;rintro _ _ ⟨rfl,rfl⟩;go_wp2_with fail
     refine(rdown_any x15 3 _ (by decide)).mono ?_;rintro _ _ ⟨rfl,rfl⟩;go_upto_region 16 with(fail)
     rw [ss0_down x15];obtain⟨s0,HS0⟩:∃x,Hid (ss0 x15=x):=⟨_,zh rfl⟩
     rw [HS0.o]at heq⊢;refine wp_tail 15 (by kernel_rfl) (by kernel_rfl) ?_;simp only [List.take_succ_cons,List.take_zero,List.drop_succ_cons,List.drop_zero];repeat still_step
     refine wpStill_nil ?_;clear p2 p7 p15 p16 b2 b7 b15 b16 n2 n7 n15 n16 w2 w7 w15 w16';go_wp2;go_roundg (64 - i)
     case measure=>omega
     case rel=>refine⟨i+1,_,by go_num,by omega,by omega,by omega,(hBw.drewN _).set i _,by simpa using hsz,pre_step hpre (by omega) ?_,(hF.drewN _).setCell (by simp) _⟩;rw [hh.o,HS0.o,HS1.o,heq.o];rfl
    ·have hi64:i=64:=by omega
     subst hi64;have hge:¬((64:Nat):Int)<64:=by omega
     clear hlt hk h16 hi;go_wp2;go_meet;exact⟨ws,hBw,hsz,hpre,hF⟩
  case rest=>
   clear hBw hsz hpre hF;obtain⟨ws,hBw,hsz,hpre,hF⟩:=hcut;obtain rfl:=wCells_ext hsz hpre;have BRc:Blk wc gr 353 zW64:=BR.fr hF (by simpa using hrw);have fc:Fr [] w wc:=fW.andThen hF (fun x hx=> .inr (by simp at hx;omega));clear hF hsz hpre BR;have hsub:Sub (wCells l) 0 (wCells l).toList:=fun j v hv=>by rw [Nat.zero_add,←Array.getElem?_toList];exact hv
   have hinf:(Tryz.prog.info? 353).map (·.size)=some (wCells l).toList.length:=by rw [Array.length_toList,wCells_size];exact infoW64'
   have hinf2:(Tryz.prog.info? 353).map (·.size)=some (wCells l).size:=by rw [wCells_size];exact infoW64'
   have hfit:0+(wCells l).size≤zW64.size:=by rw [wCells_size,zW64_size];decide
   have hone:∀v∈(wCells l).toList,v.oneCell'=true:=fun v hv=>Array.all_eq_true_iff_forall_mem.1 (wCells_one l) v (Array.mem_toList_iff.1 hv);go_wp2_with (first
    | (refine wpList_load_at rfl 353 _ rfl rfl hBw hsub uW64 rfl hinf ?_)
    | (refine wpList_store_at rfl 353 _ _ rfl rfl rfl BRc hinf2 hfit hone ?_))
   have B:=BRc.setRow (laid zW64 0 (wCells l).toList);have el:laid zW64 0 (wCells l).toList=wCells l:=by simp [laid,zW64,wCells_size]
   rw [el]at B;exact bodyPost_ret (v:= .agg (wCells l)) (results_cell_row rfl _ _ gr 353 (wCells l) (0,0) _ rfl B uW64 rfl hinf2) rfl ⟨rfl,fc.setRow (.inr (by have:=HGR.o;omega)) _⟩
end Go.Proofs.YtacljejoedbnkaaGreat
namespace Go.Proofs.YtacljejoedbnkaaGreat
open Go.RowKit Go.Sig
theorem infoWC (l:List UInt8):(Tryz.prog.info? 353).map (·.size)=some (wCells l).size:=by rw [wCells_size];exact infoW64'
theorem infoA8 (H:W8):(Tryz.prog.info? 309).map (·.size)=some H.arr.size:=infoW8
theorem u32_compl (x:UInt32):IntKind.u32.wrap (4294967295 - (x.toNat:Int))=((4294967295^^^x:UInt32).toNat:Int):=by
 rw [compl_nat,IntKind.wrap_u32'];have:=x.toNat_lt;omega
theorem t1_ref (R:W8) (kk ww:UInt32):IntKind.u32.wrap (IntKind.u32.wrap (IntKind.u32.wrap (IntKind.u32.wrap ((R.h.toNat:Int)+bits .xor .u32 (bits .xor .u32 ((rotr R.e 6).toNat:Int) ((rotr R.e 11).toNat:Int)) ((rotr R.e 25).toNat:Int))+bits .xor .u32 (bits .and .u32 (R.e.toNat:Int) (R.f.toNat:Int)) (bits .and .u32 (IntKind.u32.wrap (4294967295 - (R.e.toNat:Int))) (R.g.toNat:Int)))+(kk.toNat:Int))+(ww.toNat:Int))=((t1 R kk ww).toNat:Int):=by
 simp only [w_xor,w_and,u32_compl,w_add];rfl
theorem set8down {w:World}{g:Nat}{t:TypeId}{u0 u1 u2 u3 u4 u5 u6 u7:Value}(h:Blk w g t #[u0,u1,u2,u3,u4,u5,u6,u7]) (v0 v1 v2 v3 v4 v5 v6 v7:Value):
  Blk ((((((((w.setCell ⟨g,7,none⟩ v7).setCell ⟨g,6,none⟩ v6).setCell ⟨g,5,none⟩ v5).setCell ⟨g,4,none⟩ v4).setCell ⟨g,3,none⟩ v3).setCell ⟨g,2,none⟩ v2).setCell ⟨g,1,none⟩ v1).setCell ⟨g,0,none⟩ v0) g t #[v0,v1,v2,v3,v4,v5,v6,v7]:=by
 simpa using (((((((h.set 7 v7).set 6 v6).set 5 v5).set 4 v4).set 3 v3).set 2 v2).set 1 v1).set 0 v0
theorem fr8down {w W:World}{g:Nat}(h:Fr [g] w W) (v0 v1 v2 v3 v4 v5 v6 v7:Value):
  Fr [g] w ((((((((W.setCell ⟨g,7,none⟩ v7).setCell ⟨g,6,none⟩ v6).setCell ⟨g,5,none⟩ v5).setCell ⟨g,4,none⟩ v4).setCell ⟨g,3,none⟩ v3).setCell ⟨g,2,none⟩ v2).setCell ⟨g,1,none⟩ v1).setCell ⟨g,0,none⟩ v0):=
 (((((((h.setCell (p:=⟨g,7,none⟩) (by simp) _).setCell (p:=⟨g,6,none⟩) (by simp) _).setCell (p:=⟨g,5,none⟩) (by simp) _).setCell (p:=⟨g,4,none⟩) (by simp) _).setCell (p:=⟨g,3,none⟩) (by simp) _).setCell (p:=⟨g,2,none⟩) (by simp) _).setCell (p:=⟨g,1,none⟩) (by simp) _).setCell (p:=⟨g,0,none⟩) (by simp) _
theorem fr8up {w W:World}{g:Nat}(h:Fr [] w W) (hg:w.heap.size≤g) (v0 v1 v2 v3 v4 v5 v6 v7:Value):
  Fr [] w ((((((((W.setCell ⟨g,0,none⟩ v0).setCell ⟨g,1,none⟩ v1).setCell ⟨g,2,none⟩ v2).setCell ⟨g,3,none⟩ v3).setCell ⟨g,4,none⟩ v4).setCell ⟨g,5,none⟩ v5).setCell ⟨g,6,none⟩ v6).setCell ⟨g,7,none⟩ v7):=
 (((((((h.setCell (p:=⟨g,0,none⟩) (.inr hg) _).setCell (p:=⟨g,1,none⟩) (.inr hg) _).setCell (p:=⟨g,2,none⟩) (.inr hg) _).setCell (p:=⟨g,3,none⟩) (.inr hg) _).setCell (p:=⟨g,4,none⟩) (.inr hg) _).setCell (p:=⟨g,5,none⟩) (.inr hg) _).setCell (p:=⟨g,6,none⟩) (.inr hg) _).setCell (p:=⟨g,7,none⟩) (.inr hg) _
theorem uW8':Tryz.prog.underlying 309=some (.array 8 230):=uW8
set_option maxRecDepth 100000 in
set_option maxHeartbeats 4000000 in
theorem rtake_t (w:World) (A:Option Addr) (c:Nat) (H:W8) (l:List UInt8) (hb:Byts w A 64 l):
  Calls Tryz.prog 241 #[.agg H.arr,.slice A 64 c] w fun e w'=>e= .returned (.agg (press H l).arr)∧Fr [] w w':=by
 obtain⟨b,o,rfl,hbl,-⟩:=hb.at (i:=0) (by decide);go_enter Tryz.func241,Tryz.ntmps241;go_upto_region 1 with(fail)
 refine wp_gen (fun W=>Blk W w.heap.size 309 H.arr∧Blk W (w.heap.size+1) 309 #[.int .u32 0,.int .u32 0,.int .u32 0,.int .u32 0,.int .u32 0,.int .u32 0,.int .u32 0,.int .u32 0]∧Fr [] w W) ⟨(Blk.new _ _ _).alloc _,Blk.new' _ _ (by simp),((Fr.refl _ _).alloc _).alloc _⟩ ?_;rintro W ⟨BH,BR,fW⟩;have hbW:Byts W (some ⟨b,o,none⟩) 64 l:=Rd.fr hb fW (by simp [Off]);obtain⟨gh,HGH⟩:∃x,Hid (w.heap.size=x):=⟨_,zh rfl⟩
 rw [HGH.o]at BH BR⊢;obtain⟨gr,HGR⟩:∃x,Hid (gh+1=x):=⟨_,zh rfl⟩
 rw [HGR.o]at BR⊢;have hhr:gh≠gr:=by have:=HGR.o;omega
 have hrsz:w.heap.size≤gr:=by have:=HGR.o;have:=HGH.o;omega
 have hhsz:w.heap.size≤gh:=by have:=HGH.o;omega
 go_wp2_with fail
 refine(rwords_t W _ c l hbW).mono ?_;rintro _ W1 ⟨rfl,f1⟩;have BH1:=BH.fr f1 (by simp);have BR1:=BR.fr f1 (by simp);have fw1:=fW.trans f1;clear BH BR f1 fW hbW hb;go_upto_region 2 with(first
  | (refine wpList_store_row rfl 353 _ _ rfl W1.heap.size (wCells l) rfl rfl 353 _ (Blk.new W1 353 _) (infoWC l) (by rw [wCells_size];kernel_rfl) (wCells_one l) ?_))
 refine wp_gen (fun W=>Blk W gh 309 H.arr∧Blk W gr 309 #[.int .u32 0,.int .u32 0,.int .u32 0,.int .u32 0,.int .u32 0,.int .u32 0,.int .u32 0,.int .u32 0]∧Blk W W1.heap.size 353 (wCells l)∧Fr [] w W) ⟨(BH1.alloc _).farRow (by have:=BH1.lt;omega) _,(BR1.alloc _).farRow (by have:=BR1.lt;omega) _,Blk.setRow (Blk.new _ _ _) _,(fw1.alloc _).setRow (.inr fw1.size) _⟩ ?_;rintro W2 ⟨BH2,BR2,BW2,fw2⟩;have hwsz:w.heap.size≤W1.heap.size:=fw1.size;have hhw:=BH1.lt;have hrw:=BR1.lt;obtain⟨gw,HGW⟩:∃x,Hid (W1.heap.size=x):=⟨_,zh rfl⟩
 rw [HGW.o]at BW2 hwsz hhw hrw⊢;clear BH1 BR1 fw1;have h8:=BH2.c8;go_upto_region 3 with(fail)
 refine wp_gen (fun W=>Blk W gh 309 H.arr∧Blk W gr 309 #[.int .u32 0,.int .u32 0,.int .u32 0,.int .u32 0,.int .u32 0,.int .u32 0,.int .u32 0,.int .u32 0]∧Blk W gw 353 (wCells l)∧Blk W W2.heap.size 309 H.arr∧Fr [] w W) ⟨BH2.alloc _,BR2.alloc _,BW2.alloc _,Blk.new _ _ _,fw2.alloc _⟩ ?_;rintro W3 ⟨BH3,BR3,BW3,BV3,fw3⟩;have hvsz:w.heap.size≤W2.heap.size:=fw2.size;have hhv:=BH2.lt;have hrv:=BR2.lt;have hwv:=BW2.lt;obtain⟨gv,HGV⟩:∃x,Hid (W2.heap.size=x):=⟨_,zh rfl⟩
 rw [HGV.o]at BV3 hvsz hhv hrv hwv⊢;clear BH2 BR2 BW2 fw2 h8;go_upto_block 0 with(fail)
 go_cut [7,8,9,10,11]from 16 to 103 (fun s7 s8 s9 s10 s11 wx=>Blk wx gv 309 (rAt H l 64).arr∧Fr [gv] W3 wx)
 case first=>
  go_wp2_with fail
  go_loopg [7,8,9,10,11] 65 (fun gk s7 s8 s9 s10 s11 wr=>∃(i:Nat),s7= .int .i64 i∧i≤64∧64 - i<gk∧Blk wr gv 309 (rAt H l i).arr∧Fr [gv] W3 wr)
  case atStart=>exact⟨0,rfl,by omega,by omega,BV3,Fr.refl _ _⟩
  case round=>
   clear BV3;obtain⟨i,rfl,hi,hk,hBv,hFv⟩:=hrel;by_cases hlt:i<64
   ·have hlt':(i:Int)<64:=by omega
    have hW4:=BW3.fr hFv (by simp;omega);have cw:=(hW4.cell i).trans (wCells_get l hlt);unfold wv at cw;have hr:=zh (rAt_succ H l hlt);have hkt:=fun W=>rk_t i hlt W;generalize rAt H l i=R at*
    generalize kAt i=kk at*
    generalize wAt l i=ww at*
    have c8:=hBv.c8;obtain⟨c0,c1,c2,c3,c4,c5,c6,c7⟩:=c8;go_upto_region 8 with(fail)
    have k0:wr.cell? ⟨gv,5,none⟩=some (.int .u32 R.f.toNat)∧wr.cell? ⟨gv,6,none⟩=some (.int .u32 R.g.toNat)∧wr.cell? ⟨gv,7,none⟩=some (.int .u32 R.h.toNat)∧wr.cell? ⟨gw,i,none⟩=some (.int .u32 ww.toNat):=⟨c5,c6,c7.1,cw⟩
    go_region_held3 (fun w'=>w'.cell? ⟨gv,5,none⟩=some (.int .u32 R.f.toNat)∧w'.cell? ⟨gv,6,none⟩=some (.int .u32 R.g.toNat)∧w'.cell? ⟨gv,7,none⟩=some (.int .u32 R.h.toNat)∧w'.cell? ⟨gw,i,none⟩=some (.int .u32 ww.toNat))
     (first |exact k0 |exact k1)
     (first
       | (go_at_call 287;refine(rturn_any R.e _ _ (by decide)).mono ?_;rintro _ _ ⟨rfl,rfl⟩;dsimp only)
       | (go_at_call 288;refine(hkt _).mono ?_;rintro _ w1 ⟨rfl,F1⟩;have B1:=hBv.fr F1.of_drew (by simp);have d1:=B1.c8;have k1:w1.cell? ⟨gv,5,none⟩=some (.int .u32 R.f.toNat)∧w1.cell? ⟨gv,6,none⟩=some (.int .u32 R.g.toNat)∧w1.cell? ⟨gv,7,none⟩=some (.int .u32 R.h.toNat)∧w1.cell? ⟨gw,i,none⟩=some (.int .u32 ww.toNat):=⟨d1.2.2.2.2.2.1,d1.2.2.2.2.2.2.1,d1.2.2.2.2.2.2.2.1,(F1.of_drew.cell (BW3.fr hFv (by simp;omega)).lt (by simp)).trans cw⟩;dsimp only))
    all_goals
     rw [t1_ref R kk ww];obtain⟨T1,HT1⟩:∃x,Hid (t1 R kk ww=x):=⟨_,zh rfl⟩
     rw [HT1.o];have fv1:=hFv.trans F1.of_drew.nil;clear c0 c1 c2 c3 c4 c5 c6 c7 k0 k1 hBv F1 hFv hkt cw hW4;obtain⟨c0,c1,c2,c3,c4,c5,c6,c7⟩:=d1;go_upto_region 9 with(fail)
     go_quiet ((go_at_call 287;first |exact quiet_left (rturn_any _ _ _ (by decide)) |exact quiet_add_left (rturn_any _ _ _ (by decide))))
     go_upto_region 10 with(fail)
     rw [t2_eq R];obtain⟨T2,HT2⟩:∃x,Hid (t2 R=x):=⟨_,zh rfl⟩
     rw [HT2.o];refine wp_gen (fun W4=>Blk W4 gv 309 R.arr∧Fr [gv] W3 W4) ⟨B1.drewN _,fv1.drewN _⟩ ?_;rintro W4 ⟨hB4,hF4⟩;clear B1 fv1 c0 c1 c2 c3 c4 c5 c6 c7;have d8:=hB4.c8;have a1:=w_add T1 T2;have a2:=w_add' T1 T2;have a3:=w_add R.d T1;have a4:=w_add' R.d T1;obtain⟨S1,HS1⟩:∃x,Hid (T1+T2=x):=⟨_,zh rfl⟩
     obtain⟨S2,HS2⟩:∃x,Hid (R.d+T1=x):=⟨_,zh rfl⟩
     rw [HS1.o]at a1 a2;rw [HS2.o]at a3 a4;have hz8:=fun j=>hB4.frozen j;have hgv4:=hB4.lt;go_upto_region 5 with(fail)
     have e5:(rAt H l (i+1)).arr=#[.int .u32 S1.toNat,.int .u32 R.a.toNat,.int .u32 R.b.toNat,.int .u32 R.c.toNat,.int .u32 S2.toNat,.int .u32 R.e.toNat,.int .u32 R.f.toNat,.int .u32 R.g.toNat]:=by rw [hr.o];unfold round1;rw [HT1.o,HT2.o,HS1.o,HS2.o]
     refine wp_gen (fun W5=>Blk W5 gv 309 (rAt H l (i+1)).arr∧Fr [gv] W3 W5) ⟨?_,?_⟩ ?_
     ·rw [e5];exact set8down hB4 _ _ _ _ _ _ _ _
     ·exact fr8down hF4 _ _ _ _ _ _ _ _
     rintro W5 ⟨hB5,hF5⟩;clear d8 hB4 hF4 a1 a2 a3 a4 hz8 hgv4 e5 hr HT1 HT2 HS1 HS2;go_wp2_with fail
     go_roundg (64 - i)
     case measure=>omega
     case rel=>exact⟨i+1,by go_num,by omega,by omega,hB5,hF5⟩
   ·have hi64:i=64:=by omega
    subst hi64;have hge:¬((64:Nat):Int)<64:=by omega
    clear hlt hk hi;go_wp2;go_meet;exact⟨hBv,hFv⟩
 case rest=>
  obtain⟨hBv,hFv⟩:=hcut;have BHc:=BH3.fr hFv (by simp;omega);have BRc:=BR3.fr hFv (by simp;omega);have fc:Fr [] w wc:=fw3.andThen hFv (fun x hx=> .inr (by simp at hx;omega));clear BV3 BH3 BR3 BW3 hFv fw3;obtain⟨R,HR⟩:∃x,Hid (rAt H l 64=x):=⟨_,zh rfl⟩
  rw [HR.o]at hBv;go_upto_block 2 with(fail)
  go_cut [12]from 104 to 116 (fun s12 wx=>Blk wx gh 309 (press H l).arr∧Fr [gh] wc wx)
  case first=>
   go_wp2_with fail
   go_loopg [12] 9 (fun gk s12 wr=>∃(i:Nat) (ds:Array Value),s12= .int .i64 i∧i≤8∧8 - i<gk∧Blk wr gh 309 ds∧ds.size=8∧(∀j,j<i→ds[j]? =some (wv (H.list.getD j 0+R.list.getD j 0)))∧(∀j,i≤j→ds[j]? =H.arr[j]?)∧Fr [gh] wc wr)
   case atStart=>exact⟨0,_,rfl,by omega,by omega,BHc,rfl,fun j hj=>by omega,fun j _=>rfl,Fr.refl _ _⟩
   case round=>
    clear BHc;obtain⟨i,ds,rfl,hi,hk,hBd,hds,hlo,hhi,hFd⟩:=hrel;by_cases hlt:i<8
    ·have hlt':(i:Int)<8:=by omega
     have hBvi:=hBv.fr hFd (by simp;omega);have c1:=(hBd.cell i).trans ((hhi i (Nat.le_refl _)).trans (H.arr_get hlt));have c2:=(hBvi.cell i).trans (R.arr_get hlt);have hz:=hBd.frozen i;have hadd:=zh (w_add' (H.list.getD i 0) (R.list.getD i 0));obtain⟨x1,HX1⟩:∃x,Hid (H.list.getD i 0=x):=⟨_,zh rfl⟩
     obtain⟨x2,HX2⟩:∃x,Hid (R.list.getD i 0=x):=⟨_,zh rfl⟩
     rw [HX1.o]at c1 hadd;rw [HX2.o]at c2 hadd;go_wp2_with fail
     refine wp_tail 9 (by kernel_rfl) (by kernel_rfl) ?_;simp only [List.take_succ_cons,List.take_zero,List.drop_succ_cons,List.drop_zero];repeat still_step
     refine wpStill_nil ?_;go_wp2;go_roundg (8 - i)
     case measure=>omega
     case rel=>
      refine⟨i+1,_,by go_num,by omega,by omega,(hBd.set i _).drew,by simpa using hds,pre_step (f:=fun j=>H.list.getD j 0+R.list.getD j 0) hlo (by omega) ?_,fun j hj=> ?_,(hFd.setCell (by simp) _).drew⟩
      ·rw [hadd.o,HX1.o,HX2.o];rfl
      ·rw [Array.getElem?_setIfInBounds,if_neg (by omega)];exact hhi j (by omega)
    ·have hi8:i=8:=by omega
     subst hi8;have hge:¬((8:Nat):Int)<8:=by omega
     have hR:=HR.o;rw [rAt_end]at hR;have e8:ds=(press H l).arr:=by
      apply Array.ext_getElem?;intro j;by_cases hj:j<8
      ·rw [hlo j hj,W8.arr_get _ hj];have e:(press H l).list.getD j 0=H.list.getD j 0+R.list.getD j 0:=by
        unfold press;rw [hR];have:j=0∨j=1∨j=2∨j=3∨j=4∨j=5∨j=6∨j=7:=by omega
        rcases this with e |e |e |e |e |e |e |e<;>subst e<;>rfl
       rw [e];rfl
      ·rw [Array.getElem?_eq_none (by omega),Array.getElem?_eq_none (by show 8≤j;omega)]
     subst e8;clear hR HR hlo hhi hds hlt hk;go_wp2;go_meet;exact⟨hBd,hFd⟩
  case rest=>
   obtain⟨hBh,hFh⟩:=hcut;have BRd:=BRc.fr hFh (by simp;omega);have fd:Fr [] w wc:=fc.andThen hFh (fun x hx=> .inr (by simp at hx;omega));clear BHc BRc hFh fc hBv HR;obtain⟨P,HP⟩:∃x,Hid (press H l=x):=⟨_,zh rfl⟩
   rw [HP.o]at hBh;have h8:=hBh.c8;have hg8:=BRd.c8;have hgl:=BRd.lt;go_wp2_with fail
   have B:=BRd.set8 (.int .u32 P.a.toNat) (.int .u32 P.b.toNat) (.int .u32 P.c.toNat) (.int .u32 P.d.toNat) (.int .u32 P.e.toNat) (.int .u32 P.f.toNat) (.int .u32 P.g.toNat) (.int .u32 P.h.toNat);exact bodyPost_ret (v:= .agg P.arr) (results_cell_row rfl _ _ gr 309 P.arr (0,0) _ rfl B uW8 rfl (infoA8 P)) rfl ⟨by rw [HP.o],fr8up fd hrsz _ _ _ _ _ _ _ _⟩
end Go.Proofs.YtacljejoedbnkaaGreat
namespace Go.Proofs.YtacljejoedbnkaaGreat
open Go.RowKit Go.Sig
theorem tByt:SliceTy Tryz.prog 81 5 1 1 (.int .u8 0):=⟨by kernel_rfl,by kernel_rfl,rfl,by decide⟩
theorem _root_.Go.Sig.Own.cap {w:World}{e size n c:Nat}{A:Option Addr}{xs:List Value}(h:Own w e size (.slice A n c) n xs):n≤c:=by
 rcases h.2 with⟨hv,h0⟩ | ⟨g,cap,cur,hv,_,hh,h1,h2,h3,h4⟩
 ·omega
 ·injection hv with _ _ hc
  omega
theorem make_byts (w:World) (c:Nat) (hc:c≤100000000000000):∃w',(Instr.makeSlice 81 (.int .i64 0) (.int .i64 (c:Int))).run Tryz.prog w= .ok (.slice (some ⟨w.heap.size,0,none⟩) 0 c) w'∧
  Own w' 5 1 (.slice (some ⟨w.heap.size,0,none⟩) 0 c) 0 []∧Fr [] w w':=by
 obtain⟨i,hi,hz,hs,hby⟩:=info_parts tByt.info;obtain⟨w',h1,h2,h3⟩:=run_make_own (P:=Tryz.prog) w 0 81 5 i (.int .u8 0) 1 tByt.ty hi hz hs .i64 .i64 c (by rw [hby];omega) (by unfold maxLen;omega) (Nat.zero_le _);exact⟨w',h1,h2,(Fr.refl _ _).grown h3 (fun k hk=>by cases hk)⟩
theorem byts_one (x:UInt8) {w:World}{g:Nat}{t:TypeId}(h:Blk w g t #[.int .u8 x.toNat]):Rd w 1 (some ⟨g,0,none⟩) 1 ([x].map bv):=
 byts_new (l:= [x]) h rfl rfl
def PadSt (w wr:World) (l:List UInt8) (z:Nat) (s:Value):Prop:=
 ∃A c,s= .slice A (l.length+1+z) c∧Own wr 5 1 (.slice A (l.length+1+z) c) (l.length+1+z) ((l++128::List.replicate z 0).map bv)∧(∀g,g∈rowOf (.slice A (l.length+1+z) c)→w.heap.size≤g)∧Fr [] w wr
theorem pad_step (l:List UInt8) (z:Nat):(l++128::List.replicate z 0).map bv++ [(0:UInt8)].map bv=(l++128::List.replicate (z+1) 0).map bv:=by
 rw [List.replicate_succ'];simp
set_option maxRecDepth 100000 in
set_option maxHeartbeats 4000000 in
theorem rpadded_t (w:World) (A:Option Addr) (n c:Nat) (l:List UInt8) (hb:Byts w A n l) (hA:A=none→n=0) (hmax:n≤1000000000000):
  Calls Tryz.prog 240 #[.slice A n c] w fun e w'=>∃g c',e= .returned (.slice (some ⟨g,0,none⟩) (padded l).length c')∧Byts w' (some ⟨g,0,none⟩) (padded l).length (padded l)∧Fr [] w w'∧w.heap.size≤g∧(padded l).length≤c':=by
 have hl:=hb.length;obtain⟨w0,hrun,hO0,F0⟩:=make_byts w (n+80) (by omega);have hnn:((n+80:Nat):Int)=(n:Int)+80:=by omega
 rw [hnn]at hrun;go_enter Tryz.func240,Tryz.ntmps240;go_upto_region 2 with(refine wpList_own_append tByt hO0 (Rd.fr hb F0 (by simp [Off])) (bv_one l) hA (by unfold maxLen;omega) (by omega) rfl rfl rfl rfl (fun v1 w1 q1 q2 q3=> ?_);obtain⟨A1,c1,rfl,hA1⟩:=q1.form)
 have R0:∀g,g∈rowOf (.slice (some ⟨w.heap.size,0,none⟩) 0 (n+80))→w.heap.size≤g:=fun g hg=>by simp [rowOf,Value.ownBlock]at hg;omega
 have F1:Fr [] w w1:=F0.andThen q2 (fun x hx=> .inr (R0 x hx));have R1:∀g,g∈rowOf (.slice A1 (0+n) c1)→w.heap.size≤g:=fun g hg=>(q3 g hg).elim (R0 g) (fun e=>by rw [e];exact F0.size);have e1: []++l.map bv=l.map bv:=rfl;rw [Nat.zero_add]at R1;rw [e1,Nat.zero_add]at q1;clear hA1 q2 q3 R0 F0 hO0 hrun;go_upto_block 0 with(refine wpList_own_append tByt (q1.fr ((Fr.refl [] _).alloc _) (by simp)) (byts_one 128 (Blk.new _ _ _)) (bv_one [128]) (by simp) (by unfold maxLen;omega) (by omega) rfl rfl rfl rfl (fun v2 w2 p1 p2 p3=> ?_);obtain⟨A2,c2,rfl,hA2⟩:=p1.form)
 have F2:Fr [] w w2:=(F1.alloc _).andThen p2 (fun x hx=> .inr (R1 x hx));have R2:∀g,g∈rowOf (.slice A2 (n+1) c2)→w.heap.size≤g:=fun g hg=>(p3 g hg).elim (R1 g) (fun e=>by rw [e];exact Nat.le_trans F1.size (by simp));have hS:PadSt w w2 l 0 (.slice A2 (n+1) c2):=by
  refine⟨A2,c2,by rw [hl],?_,by rw [hl];exact R2,F2⟩;rw [hl];have e2:(l++128::List.replicate 0 0).map bv=l.map bv++ [(128:UInt8)].map bv:=by simp
  rw [e2];exact p1
 clear q1 F1 R1 e1 p1 p2 p3 hA2 F2 R2;go_cut [3]from 16 to 22 (fun s3 wx=>∃z,n+1+z=64*((n+72) / 64) - 8∧PadSt w wx l z s3)
 case first=>
  go_wp2_with fail
  go_loopg [3] 65 (fun gk s3 wr=>∃z,n+1+z≤64*((n+72) / 64) - 8∧64*((n+72) / 64) - 8 - (n+1+z)<gk∧PadSt w wr l z s3)
  case atStart=>exact⟨0,by omega,by omega,hS⟩
  case round=>
   clear hS;obtain⟨z,hz1,hz2,A3,c3,rfl,O3,R3,F3⟩:=hrel;rw [hl]at O3 R3⊢;have hremt:((n+1+z:Nat):Int).tmod 64=((n+1+z)%64:Nat):=by rw [Int.tmod_eq_emod_of_nonneg (by omega)];omega
   have hrem:((n+1+z:Nat):Int)%64=((n+1+z)%64:Nat):=by omega
   have hq:=zh (show(n+1+z)%64=56↔n+1+z=64*((n+72) / 64) - 8 by omega);have hm63:n+1+z+1≤1000000000200:=by omega
   obtain⟨q,hqq⟩:∃x,Hid ((n+1+z)%64=x):=⟨_,zh rfl⟩
   rw [hqq.o]at hrem hremt;by_cases he:q=56
   ·subst he;have hfin:=hq.o.1 hqq.o;have he1:(((56:Nat):Int) !=56)=false:=by decide
    go_wp2_with fail
    go_meet;exact⟨z,hfin,A3,c3,by rw [hl],by rw [hl];exact O3,by rw [hl];exact R3,F3⟩
   ·have hlt:n+1+z<64*((n+72) / 64) - 8:=by
     have:¬n+1+z=64*((n+72) / 64) - 8:=fun e=>he (by rw [←hqq.o];exact hq.o.2 e);omega
    have he1:((q:Int)==56)=false:=by simp;omega
    have he2:decide ((q:Int)=56)=false:=by simp;omega
    have he3:((q:Int) !=56)=true:=by simp;omega
    go_wp2_with (refine wpList_own_append tByt (O3.fr ((Fr.refl [] _).alloc _) (by simp)) (byts_one 0 (Blk.new _ _ _)) (bv_one [0]) (by simp) (by unfold maxLen;omega) (by omega) rfl rfl rfl rfl (fun v2 w2 p1 p2 p3=> ?_);obtain⟨A2,c2,rfl,hA2⟩:=p1.form)
    go_roundg (64*((n+72) / 64) - 8 - (n+1+z))
    case measure=>exact hz2
    case rel=>
     refine⟨z+1,by omega,by omega,A2,c2,by rw [hl];rfl,?_,?_,(F3.alloc _).andThen p2 (fun x hx=> .inr (R3 x hx))⟩
     ·rw [hl,←pad_step];exact p1
     ·rw [hl];exact fun g hg=>(p3 g hg).elim (R3 g) (fun e=>by rw [e];exact Nat.le_trans F3.size (by simp))
 case rest=>
  clear hS;obtain⟨z,hz,A3,c3,rfl,O3,R3,F3⟩:=hcut;rw [hl]at O3 R3⊢;have hpad:padded l=(l++128::List.replicate z 0)++be8 (n*8):=by unfold padded;rw [hl,show(119 - n%64)%64=z by omega,show n*8%18446744073709551616=n*8 by omega]
  have hpl:(padded l).length=n+1+z+8:=by rw [padded_length,hl];omega
  have hpadh:=zh hpad;have hplh:=zh hpl;have hzb:n+1+z≤1000000000200:=by omega
  clear hpad hpl hz;go_upto_region 7 with(fail)
  refine wp_gen (fun W4=>Blk W4 wc.heap.size 352 #[.int .u8 0,.int .u8 0,.int .u8 0,.int .u8 0,.int .u8 0,.int .u8 0,.int .u8 0,.int .u8 0]∧Fr [] wc W4) ⟨Blk.new _ _ _,(Fr.refl _ _).alloc _⟩ ?_;rintro W4 ⟨hB8,F4⟩;have O4:=O3.fr F4 (by simp);have f4:=F3.trans F4;have hrl:=O3.lt;obtain⟨g8,HG8⟩:∃x,Hid (wc.heap.size=x):=⟨_,zh rfl⟩
  have hg8w:w.heap.size≤g8:=by rw [←HG8.o];exact F3.size
  rw [HG8.o]at hB8 hrl⊢;clear O3 F3 F4;have hN:8*(n:Int)=((n*8:Nat):Int):=by omega
  rw [hN];obtain⟨N,HN⟩:∃x,Hid (n*8=x):=⟨_,zh rfl⟩
  have hNl:N<18446744073709551616:=by have:=HN.o;omega
  rw [HN.o]at hpadh⊢;clear hN;go_upto_block 2 with(fail)
  go_cut [4,6]from 27 to 37 (fun s4 s6 wx=>Blk wx g8 352 ((be8 N).map bv).toArray∧Fr [g8] W4 wx)
  case first=>
   go_wp2_with fail
   go_loopg [4,6] 9 (fun gk s4 s6 wr=>∃(k:Nat) (ds:Array Value),s6= .int .i64 (7 - (k:Int))∧s4= .int .u64 ((N / 256^k:Nat):Int)∧k≤8∧8 - k<gk∧Blk wr g8 352 ds∧ds.size=8∧(∀j,j<k→ds[7 - j]? =some (bv (UInt8.ofNat (N / 256^j))))∧Fr [g8] W4 wr)
   case atStart=>exact⟨0,_,rfl,by simp,by omega,by omega,hB8,rfl,fun j hj=>by omega,Fr.refl _ _⟩
   case round=>
    clear hB8;obtain⟨k,ds,rfl,rfl,hk8,hk,hB8,hds,hpre,F8⟩:=hrel;by_cases hlt:k<8
    ·have p0:(0:Int)≤7 - (k:Int):=by omega
     have p1:7 - (k:Int)<8:=by omega
     have p2:(7 - (k:Int)).toNat=7 - k:=by omega
     have hq:N / 256^k<18446744073709551616:=Nat.lt_of_le_of_lt (Nat.div_le_self _ _) hNl;have hqs:=zh (show N / 256^(k+1)=N / 256^k / 256 by rw [Nat.pow_succ,Nat.div_div_eq_div_mul]);obtain⟨q,Hq⟩:∃x,Hid (N / 256^k=x):=⟨_,zh rfl⟩
     rw [Hq.o]at hq hqs⊢;have hci:wr.cell? ⟨g8,7 - k,none⟩=some ds[7 - k]:=by rw [hB8.cell];exact Array.getElem?_eq_getElem (by omega)
     have hfz:=hB8.frozen (7 - k);go_wp2_with fail
     go_roundg (8 - k)
     case measure=>omega
     case rel=>
      refine⟨k+1,_,by go_num,?_,by omega,by omega,hB8.set (7 - k) _,by simpa using hds,?_,F8.setCell (by simp) _⟩
      ·rw [hqs.o];simp
      ·intro j hj;rw [Array.getElem?_setIfInBounds];by_cases e:j=k
       ·subst e;rw [if_pos rfl,if_pos (by omega),Hq.o,b_ext (n:=(q:Int)) (k:=q) (by omega)]
       ·rw [if_neg (by omega)];exact hpre j (by omega)
    ·have hk8':k=8:=by omega
     subst hk8';have hge:¬(0:Int)≤7 - ((8:Nat):Int):=by omega
     have e8:ds=((be8 N).map bv).toArray:=by
      have hbl:(be8 N).length=8:=by simp [be8]
      apply Array.ext_getElem?;intro j;by_cases hj:j<8
      ·have h1:=hpre (7 - j) (by omega);have h2:=be8_div N (7 - j) (by omega);rw [show 7 - (7 - j)=j by omega]at h1 h2;rw [h1,zG,List.getElem?_map,←h2];simp [List.getD,List.getElem?_eq_getElem (show j<(be8 N).length by omega)]
      ·rw [Array.getElem?_eq_none (by omega),Array.getElem?_eq_none (by simp [be8];omega)]
     subst e8;clear hpre hds hlt hk hk8;generalize N / 256^8=q;go_wp2;go_meet;exact⟨hB8,F8⟩
  case rest=>
   clear hB8;obtain⟨hB8,F8⟩:=hcut;have hn8:∀g,g∈rowOf (.slice A3 (n+1+z) c3)→g∉ [g8]:=fun g hg=>by have:=hrl g hg;simp;omega
   have O5:=O4.fr F8 hn8;have f5:Fr [] w wc:=f4.andThen F8 (fun x hx=> .inr (by simp at hx;omega));have hr8:Rd wc 1 (some ⟨g8,0,none⟩) 8 ((be8 N).map bv):=byts_new hB8 rfl (by simp [be8]);have hgl:=hB8.lt;clear O4 F8 f4;go_wp2_with (refine wpList_own_append tByt O5 hr8 (bv_one (be8 N)) (by simp) (by unfold maxLen;omega) (by omega) rfl rfl rfl rfl (fun v2 w2 p1 p2 p3=> ?_);obtain⟨A2,c2,rfl,hA2⟩:=p1.form)
   have hrows:∀g,g∈rowOf (.slice A2 (n+1+z+8) c2)→w.heap.size≤g:=fun g hg=>(p3 g hg).elim (R3 g) (fun e=>by rw [e];exact f5.size);have fe:Fr [] w w2:=f5.andThen p2 (fun x hx=> .inr (R3 x hx));have hrd:=p1.rd;have hcap:=p1.cap;rw [←List.map_append,←hpadh.o]at hrd;have hlen:=hplh.o;clear p1 p2 p3 O5;rcases hA2 with rfl | ⟨g,rfl,hg⟩
   ·obtain⟨_,_,h0,_⟩:=hrd.2 (by omega);cases h0
   ·have hg2:=hrows g (by simp [rowOf,Value.ownBlock]);go_ret;rw [hlen];exact⟨g,c2,rfl,hrd,fe,hg2,hcap⟩
end Go.Proofs.YtacljejoedbnkaaGreat
