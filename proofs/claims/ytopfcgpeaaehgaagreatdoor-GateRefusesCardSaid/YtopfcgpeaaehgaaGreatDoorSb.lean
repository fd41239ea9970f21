/- Walks of the hash: a block is taken. Conditions: each theorem's own. -/
import Derived.Test.YtopfcgpeaaehgaaGreatDoorRow
import Derived.Laws.BitsAllLaws
import Derived.Test.YtopfcgpeaaehgaaGreatDoorProg
import Derived.Deep.RegionHeld3
import Derived.Deep.RegionLaw
import Derived.Deep.DeepCutAuto
import Derived.Deep.CutBlock
namespace Go.Sig
open Go.RowKit
def bv (b:UInt8):Value:= .int .u8 b.toNat
def wv (x:UInt32):Value:= .int .u32 x.toNat
theorem bv_one (l:List UInt8):∀u∈l.map bv,u.oneCell'=true:=by
 intro u hu;obtain⟨_,_,rfl⟩:=List.mem_map.1 hu;rfl
theorem ret_word {a b:Int}(h:a=b):Ending.returned (.int .u32 a)= .returned (.int .u32 b):=by rw [h]
def Byts (w:World) (A:Option Addr) (n:Nat) (l:List UInt8):Prop:=Rd w 1 A n (l.map bv)
theorem Byts.length {w:World}{A:Option Addr}{n:Nat}{l:List UInt8}(h:Byts w A n l):l.length=n:=by have:=h.1;simpa using this
theorem Byts.at {w:World}{A:Option Addr}{n i:Nat}{l:List UInt8}(h:Byts w A n l) (hi:i<n):∃b o,A=some ⟨b,o,none⟩∧b<w.heap.size∧w.cell? ⟨b,o+i,none⟩=some (.int .u8 ((l.getD i 0).toNat:Int)):=by
 obtain⟨b,o,hA,hc⟩:=h.2 (by omega);have hl:=h.length;have:=hc i (bv (l.getD i 0)) (by simp [List.getD,List.getElem?_map,List.getElem?_eq_getElem (show i<l.length by omega)]);exact⟨b,o,hA,block_lt_of_cell (a:=⟨b,o+i,none⟩) this,this⟩
section
variable (a b:UInt32)
theorem w_add:IntKind.u32.wrap ((a.toNat:Int)+(b.toNat:Int))=((a+b).toNat:Int):=by
 rw [IntKind.wrap_u32',UInt32.toNat_add];omega
theorem w_xor:bits .xor .u32 (a.toNat:Int) (b.toNat:Int)=((a^^^b).toNat:Int):=by
 rw [u32_xor_nat _ _ a.toNat_lt b.toNat_lt,UInt32.toNat_xor]
theorem w_and:bits .and .u32 (a.toNat:Int) (b.toNat:Int)=((a&&&b).toNat:Int):=by
 rw [u32_and_nat _ _ a.toNat_lt b.toNat_lt,UInt32.toNat_and]
end
def rotr (x:UInt32) (n:Nat):UInt32:=⟨x.toBitVec.rotateRight n⟩
def ss0 (x:UInt32):UInt32:=rotr x 7^^^rotr x 18^^^(x>>>3)
def ss1 (x:UInt32):UInt32:=rotr x 17^^^rotr x 19^^^(x>>>10)
def bs0 (x:UInt32):UInt32:=rotr x 2^^^rotr x 13^^^rotr x 22
def bs1 (x:UInt32):UInt32:=rotr x 6^^^rotr x 11^^^rotr x 25
def chs (x y z:UInt32):UInt32:=(x&&&y)^^^((4294967295^^^x)&&&z)
def maj (x y z:UInt32):UInt32:=(x&&&y)^^^(x&&&z)^^^(y&&&z)
def kTab:List UInt32:= [
 0x428a2f98,0x71374491,0xb5c0fbcf,0xe9b5dba5,0x3956c25b,0x59f111f1,0x923f82a4,0xab1c5ed5,
 0xd807aa98,0x12835b01,0x243185be,0x550c7dc3,0x72be5d74,0x80deb1fe,0x9bdc06a7,0xc19bf174,
 0xe49b69c1,0xefbe4786,0x0fc19dc6,0x240ca1cc,0x2de92c6f,0x4a7484aa,0x5cb0a9dc,0x76f988da,
 0x983e5152,0xa831c66d,0xb00327c8,0xbf597fc7,0xc6e00bf3,0xd5a79147,0x06ca6351,0x14292967,
 0x27b70a85,0x2e1b2138,0x4d2c6dfc,0x53380d13,0x650a7354,0x766a0abb,0x81c2c92e,0x92722c85,
 0xa2bfe8a1,0xa81a664b,0xc24b8b70,0xc76c51a3,0xd192e819,0xd6990624,0xf40e3585,0x106aa070,
 0x19a4c116,0x1e376c08,0x2748774c,0x34b0bcb5,0x391c0cb3,0x4ed8aa4a,0x5b9cca4f,0x682e6ff3,
 0x748f82ee,0x78a5636f,0x84c87814,0x8cc70208,0x90befffa,0xa4506ceb,0xbef9a3f7,0xc67178f2]
structure W8 where
 a:UInt32
 b:UInt32
 c:UInt32
 d:UInt32
 e:UInt32
 f:UInt32
 g:UInt32
 h:UInt32
def W8.list (v:W8):List UInt32:= [v.a,v.b,v.c,v.d,v.e,v.f,v.g,v.h]
@[reducible] def W8.arr (v:W8):Array Value:=#[.int .u32 v.a.toNat,.int .u32 v.b.toNat,.int .u32 v.c.toNat,.int .u32 v.d.toNat,.int .u32 v.e.toNat,.int .u32 v.f.toNat,.int .u32 v.g.toNat,.int .u32 v.h.toNat]
def W8.add (v u:W8):W8:=⟨v.a+u.a,v.b+u.b,v.c+u.c,v.d+u.d,v.e+u.e,v.f+u.f,v.g+u.g,v.h+u.h⟩
def shaInit:W8:=⟨0x6a09e667,0xbb67ae85,0x3c6ef372,0xa54ff53a,0x510e527f,0x9b05688c,0x1f83d9ab,0x5be0cd19⟩
def word4 (a b c d:UInt8):UInt32:=UInt32.ofNat (a.toNat*16777216+b.toNat*65536+c.toNat*256+d.toNat)
def w16 (l:List UInt8):List UInt32:=(List.range 16).map fun t=>word4 (l.getD (4*t) 0) (l.getD (4*t+1) 0) (l.getD (4*t+2) 0) (l.getD (4*t+3) 0)
def wnext (ws:List UInt32):UInt32:=
 ws.getD (ws.length - 16) 0+ws.getD (ws.length - 7) 0+ss0 (ws.getD (ws.length - 15) 0)+ss1 (ws.getD (ws.length - 2) 0)
def wgrow:Nat→List UInt32→List UInt32
 | 0,ws=>ws
 |n+1,ws=>wgrow n (ws++ [wnext ws])
def t1 (v:W8) (k w:UInt32):UInt32:=v.h+bs1 v.e+chs v.e v.f v.g+k+w
def t2 (v:W8):UInt32:=bs0 v.a+maj v.a v.b v.c
def round1 (v:W8) (k w:UInt32):W8:=⟨t1 v k w+t2 v,v.a,v.b,v.c,v.d+t1 v k w,v.e,v.f,v.g⟩
def rounds:List (UInt32×UInt32)→W8→W8
 | [],v=>v
 |p::l,v=>rounds l (round1 v p.1 p.2)
def press (h:W8) (l:List UInt8):W8:=h.add (rounds (kTab.zip (wgrow 48 (w16 l))) h)
def pressN:Nat→W8→List UInt8→W8
 | 0,h,_=>h
 |n+1,h,l=>pressN n (press h (l.take 64)) (l.drop 64)
def be8 (n:Nat):List UInt8:=(List.range 8).map fun i=>UInt8.ofNat (n / 2^(56 - 8*i))
def padded (l:List UInt8):List UInt8:=l++128::List.replicate ((119 - l.length%64)%64) 0++be8 (l.length*8%18446744073709551616)
def bytes4 (x:UInt32):List UInt8:= [UInt8.ofNat (x.toNat / 16777216),UInt8.ofNat (x.toNat / 65536),UInt8.ofNat (x.toNat / 256),UInt8.ofNat x.toNat]
def sha (l:List UInt8):List UInt8:=(pressN ((padded l).length / 64) shaInit (padded l)).list.flatMap bytes4
theorem sha_length (l:List UInt8):(sha l).length=32:=rfl
theorem press_snoc:∀(n:Nat) (h:W8) (l:List UInt8),pressN (n+1) h l=press (pressN n h l) ((l.drop (64*n)).take 64)
 | 0,h,l=>by simp [pressN]
 |n+1,h,l=>by show pressN (n+1) (press h (l.take 64)) (l.drop 64)=_;rw [press_snoc n,List.drop_drop];show press (pressN n (press h (l.take 64)) (l.drop 64)) _=press (pressN (n+1) h l) _;rw [show 64+64*n=64*(n+1) by omega];rfl
theorem pressN_take:∀(n:Nat) (h:W8) (l m:List UInt8),64*n≤l.length→pressN n h (l++m)=pressN n h l
 | 0,h,l,m,_=>rfl
 |n+1,h,l,m,hl=>by
  have h64:64≤l.length:=by omega
  show pressN n (press h ((l++m).take 64)) ((l++m).drop 64)=pressN n (press h (l.take 64)) (l.drop 64);rw [List.take_append_of_le_length h64,List.drop_append_of_le_length h64];exact pressN_take n _ _ _ (by simp;omega)
theorem padded_length (l:List UInt8):(padded l).length=64*((l.length+72) / 64):=by
 simp only [padded,be8,List.length_append,List.length_cons,List.length_replicate,List.length_map,List.length_range];omega
theorem wgrow_snoc:∀(n:Nat) (ws:List UInt32),wgrow (n+1) ws=wgrow n ws++ [wnext (wgrow n ws)]
 | 0,ws=>rfl
 |n+1,ws=>by show wgrow (n+1) (ws++ [wnext ws])=_;rw [wgrow_snoc n];rfl
theorem wgrow_length:∀(n:Nat) (ws:List UInt32),(wgrow n ws).length=ws.length+n
 | 0,ws=>rfl
 |n+1,ws=>by show(wgrow n (ws++ [wnext ws])).length=_;rw [wgrow_length n];simp;omega
theorem w16_length (l:List UInt8):(w16 l).length=16:=by simp [w16]
theorem rounds_append:∀(l m:List (UInt32×UInt32)) (v:W8),rounds (l++m) v=rounds m (rounds l v)
 | [],_m,_v=>rfl
 |_p::l,m,_v=>rounds_append l m _
end Go.Sig
namespace Go.Proofs.YtopfcgpeaaehgaaGreatDoor
open Go.RowKit Go.Sig
theorem rotl_eq (x:UInt32) (n:Nat) (h:n<32):bits .or .u32 ((x.toNat:Int)*2^(32 - n)%4294967296) ((x.toNat:Int) / 2^n)=((rotr x n).toNat:Int):=by
 have e1:(x.toNat:Int)*2^(32 - n)%4294967296=((x.toNat*2^(32 - n)%4294967296:Nat):Int):=by simp
 have e2:(x.toNat:Int) / 2^n=((x.toNat / 2^n:Nat):Int):=by simp
 rw [e1,e2,u32_or_nat _ _ (Nat.mod_lt _ (by decide)) (Nat.lt_of_le_of_lt (Nat.div_le_self _ _) x.toNat_lt)];show _=((x.toBitVec.rotateRight n).toNat:Int)
 rw [BitVec.toNat_rotateRight,Nat.mod_eq_of_lt h,Nat.shiftRight_eq_div_pow,Nat.shiftLeft_eq,Nat.or_comm];rfl
theorem rotl_t (x:UInt32) (k:Int) (n:Nat) (w:World) (hk:bits .and .u64 (IntKind.u64.wrap k) 31=32 - (n:Int)) (h:n<32) (h0:0<n):
  Calls Tryz.prog 230 #[wv x,.int .i64 k] w fun e w'=>e= .returned (wv (rotr x n))∧w=w':=by
 unfold wv;go_enter Tryz.func230,Tryz.ntmps230;go_wp2;go_ret;refine⟨ret_word ?_,rfl⟩;rw [show 32 - (32 - n)=n by omega];exact rotl_eq x n h
theorem turns_and:∀n:Nat,n<32→0<n→bits .and .u64 (IntKind.u64.wrap (-(n:Int))) 31=32 - (n:Int):=by decide
theorem rotl_any (x:UInt32) (k:Int) (w:World) (hk:decide (-31≤k∧k≤ -1)=true):
  Calls Tryz.prog 230 #[.int .u32 x.toNat,.int .i64 k] w fun e w'=>e= .returned (.int .u32 (rotr x (-k).toNat).toNat)∧w=w':=by
 have hk':=of_decide_eq_true hk;obtain⟨n,rfl⟩:∃n:Nat,k= -(n:Int):=⟨(-k).toNat,by omega⟩
 have e:(-(-(n:Int))).toNat=n:=by omega
 rw [e];exact rotl_t x _ n w (turns_and n (by omega) (by omega)) (by omega) (by omega)
def kCells:Array Value:=(kTab.map wv).toArray
theorem consts_t (w:World):
  Calls Tryz.prog 215 #[] w fun e w'=>e= .returned (.pointer (some ⟨w.heap.size,0,none⟩))∧w'=w.alloc (.cells kCells 251):=by
 go_enter Tryz.func215,Tryz.ntmps215;go_wp2_with (refine wpList_build_k rfl 251 _ rfl (cells:=kCells) ?_ ?_;(focus kernel_rfl))
 go_ret;exact⟨rfl,rfl⟩
def restZero:List Value:=List.replicate 64 (Value.int .u8 0)
def initCells:Array Value:=(shaInit.list.map wv++restZero++ [Value.int .i64 0]).toArray
def w8Cells:Array Value:=(shaInit.list.map wv).toArray
theorem infoState:(Tryz.prog.info? 234).map (·.size)=some initCells.size:=by kernel_rfl
theorem zState:Tryz.zeroCells234.size=initCells.size:=by kernel_rfl
theorem uState:Tryz.prog.underlying 234=some (.struct (Tryz.prog.fieldsOf 234)):=by kernel_rfl
theorem initOne:initCells.all (·.oneCell')=true:=by kernel_rfl
theorem begun_t (w:World):
  Calls Tryz.prog 189 #[] w fun e w'=>e= .returned (.agg initCells)∧Fr [] w w':=by
 go_enter Tryz.func189,Tryz.ntmps189;go_wp2_with (first
  | (refine wpList_build_k rfl 220 _ rfl (cells:=w8Cells) ?_ ?_;(focus kernel_rfl))
  | (refine wpList_build_k rfl 234 _ rfl (cells:=initCells) ?_ ?_;(focus kernel_rfl))
  | (refine wpList_store_row rfl 234 _ _ rfl w.heap.size initCells rfl rfl 234 Tryz.zeroCells234 (Blk.new w 234 _) infoState zState initOne ?_))
 have B:=Blk.setRow (Blk.new w 234 Tryz.zeroCells234) initCells;exact bodyPost_ret (v:= .agg initCells) (results_cell_row rfl _ _ w.heap.size 234 initCells (0,0) _ rfl B uState rfl infoState) rfl ⟨rfl,((Fr.refl _ _).alloc _).setRow (.inr (Nat.le_refl _)) _⟩
end Go.Proofs.YtopfcgpeaaehgaaGreatDoor
namespace Go.Proofs.YtopfcgpeaaehgaaGreatDoor
open Go.RowKit Go.Sig
theorem word4_eq (a b c d:UInt8):bits .or .u32 (bits .or .u32 (bits .or .u32 ((a.toNat:Int)%4294967296*16777216%4294967296) ((b.toNat:Int)%4294967296*65536%4294967296)) ((c.toNat:Int)%4294967296*256%4294967296)) ((d.toNat:Int)%4294967296)=((word4 a b c d).toNat:Int):=by
 have ha:=a.toNat_lt;have hb:=b.toNat_lt;have hc:=c.toNat_lt;have hd:=d.toNat_lt;have e1:(a.toNat:Int)%4294967296*16777216%4294967296=((a.toNat*16777216:Nat):Int):=by omega
 have e2:(b.toNat:Int)%4294967296*65536%4294967296=((b.toNat*65536:Nat):Int):=by omega
 have e3:(c.toNat:Int)%4294967296*256%4294967296=((c.toNat*256:Nat):Int):=by omega
 have e4:(d.toNat:Int)%4294967296=(d.toNat:Int):=by omega
 rw [e1,e2,e3,e4,u32_or_nat _ _ (by omega) (by omega),nat_join 24 (a.toNat*16777216) (b.toNat*65536) (by omega) (by omega),
  u32_or_nat _ _ (by omega) (by omega),nat_join 16 _ (c.toNat*256) (by omega) (by omega),
  u32_or_nat _ _ (by omega) (by omega),nat_join 8 _ d.toNat (by omega) (by omega)]
 unfold word4;rw [UInt32.toNat_ofNat_of_lt' (by simp [UInt32.size];omega)]
theorem pre_step {ws:Array Value}{f:Nat→UInt32}{i:Nat}{v:Value}(h:∀j,j<i→ws[j]? =some (wv (f j))) (hi:i<ws.size) (hv:v=wv (f i)):∀j,j<i+1→(ws.setIfInBounds i v)[j]? =some (wv (f j)):=by
 intro j hj;rw [Array.getElem?_setIfInBounds];by_cases e:i=j
 ·subst e;rw [if_pos rfl,if_pos hi,hv]
 ·rw [if_neg e];exact h j (by omega)
def wAt (l:List UInt8) (j:Nat):UInt32:=(wgrow 48 (w16 l)).getD j 0
theorem wgrow_prefix:∀(n:Nat) (ws:List UInt32) (j:Nat),j<ws.length→(wgrow n ws).getD j 0=ws.getD j 0
 | 0,ws,j,_=>rfl
 |n+1,ws,j,h=>by show(wgrow n (ws++ [wnext ws])).getD j 0=_;rw [wgrow_prefix n _ j (by simp;omega)];simp [List.getD,List.getElem?_append_left h]
theorem wgrow_split:∀(m n:Nat) (ws:List UInt32),wgrow (m+n) ws=wgrow n (wgrow m ws)
 | 0,n,ws=>by rw [Nat.zero_add];rfl
 |m+1,n,ws=>by rw [show m+1+n=(m+n)+1 by omega];exact wgrow_split m n _
theorem wAt_lo (l:List UInt8) {j:Nat}(h:j<16):wAt l j=(w16 l).getD j 0:=wgrow_prefix _ _ _ (by rw [w16_length];exact h)
theorem wAt_hi (l:List UInt8) {i:Nat}(h1:16≤i) (h2:i<64):wAt l i=wAt l (i - 16)+wAt l (i - 7)+ss0 (wAt l (i - 15))+ss1 (wAt l (i - 2)):=by
 have key:∀j,j<i→wAt l j=(wgrow (i - 16) (w16 l)).getD j 0:=fun j hj=>by unfold wAt;rw [show 48=(i - 16)+(64 - i) by omega,wgrow_split];exact wgrow_prefix _ _ _ (by rw [wgrow_length,w16_length];omega)
 have hl:(wgrow (i - 16) (w16 l)).length=i:=by rw [wgrow_length,w16_length];omega
 have e:wgrow 48 (w16 l)=wgrow (63 - i) (wgrow (i - 16) (w16 l)++ [wnext (wgrow (i - 16) (w16 l))]):=by rw [←wgrow_snoc,←wgrow_split];congr 1;omega
 have e2:wAt l i=wnext (wgrow (i - 16) (w16 l)):=by unfold wAt;rw [e,wgrow_prefix _ _ _ (by simp;omega)];simp [List.getD,hl]
 rw [key (i - 16) (by omega),key (i - 7) (by omega),key (i - 15) (by omega),key (i - 2) (by omega),e2];unfold wnext;rw [hl]
theorem w_add' (a b:UInt32):((a.toNat:Int)+(b.toNat:Int))%4294967296=((a+b).toNat:Int):=by
 rw [UInt32.toNat_add];omega
theorem w_shr (x:UInt32) (k:UInt32) (n:Nat) (h:k.toNat%32=n) (m:Int) (hm:m=((2^n:Nat):Int)):(x.toNat:Int) / m=((x>>>k).toNat:Int):=by
 rw [UInt32.toNat_shiftRight,Nat.shiftRight_eq_div_pow,h,hm];simp
theorem wnext_eq (a b x y:UInt32):((a.toNat:Int)+b.toNat+bits .xor .u32 (bits .xor .u32 ((rotr x 7).toNat:Int) ((rotr x 18).toNat:Int)) ((x.toNat:Int) / 8)+bits .xor .u32 (bits .xor .u32 ((rotr y 17).toNat:Int) ((rotr y 19).toNat:Int)) ((y.toNat:Int) / 1024))%4294967296=((a+b+ss0 x+ss1 y).toNat:Int):=by
 rw [w_shr x 3 3 rfl 8 rfl,w_shr y 10 10 rfl 1024 rfl];simp only [w_xor];have e:=UInt32.toNat_add (a+b+ss0 x) (ss1 y);have e2:=UInt32.toNat_add (a+b) (ss0 x);have e3:=UInt32.toNat_add a b;unfold ss0 at e e2;unfold ss1 at e;unfold ss0 ss1;omega
theorem t1_eq (R:W8) (kk ww:UInt32):(((R.h.toNat:Int)+bits .xor .u32 (bits .xor .u32 ((rotr R.e 6).toNat:Int) ((rotr R.e 11).toNat:Int)) ((rotr R.e 25).toNat:Int)+bits .xor .u32 (bits .and .u32 (R.e.toNat:Int) (R.f.toNat:Int)) (bits .and .u32 (bits .xor .u32 (if IntKind.u32.signed=true then -1 else IntKind.u32.max) (R.e.toNat:Int)) (R.g.toNat:Int))+(kk.toNat:Int))%4294967296+(ww.toNat:Int))%4294967296=((t1 R kk ww).toNat:Int):=by
 have e0:(if IntKind.u32.signed=true then -1 else IntKind.u32.max)=((4294967295:UInt32).toNat:Int):=by decide
 rw [e0];simp only [w_xor,w_and];have e1:=UInt32.toNat_add (R.h+bs1 R.e+chs R.e R.f R.g+kk) ww;have e2:=UInt32.toNat_add (R.h+bs1 R.e+chs R.e R.f R.g) kk;have e3:=UInt32.toNat_add (R.h+bs1 R.e) (chs R.e R.f R.g);have e4:=UInt32.toNat_add R.h (bs1 R.e);unfold t1;unfold bs1 chs at*
 omega
theorem t2_eq (R:W8):(bits .xor .u32 (bits .xor .u32 ((rotr R.a 2).toNat:Int) ((rotr R.a 13).toNat:Int)) ((rotr R.a 22).toNat:Int)+bits .xor .u32 (bits .xor .u32 (bits .and .u32 (R.a.toNat:Int) (R.b.toNat:Int)) (bits .and .u32 (R.a.toNat:Int) (R.c.toNat:Int))) (bits .and .u32 (R.b.toNat:Int) (R.c.toNat:Int)))%4294967296=((t2 R).toNat:Int):=by
 simp only [w_xor,w_and];have e4:=UInt32.toNat_add (bs0 R.a) (maj R.a R.b R.c);unfold t2;unfold bs0 maj at*
 omega
def HasW (cs:Array Value) (H:W8):Prop:=Sub cs 0 (H.list.map wv)
theorem HasW.get {cs:Array Value}{H:W8}(h:HasW cs H) {j:Nat}(hj:j<8):cs[j]? =some (wv (H.list.getD j 0)):=by
 have:=h j (wv (H.list.getD j 0)) (by simp [List.getD,List.getElem?_map,List.getElem?_eq_getElem (show j<H.list.length from hj)]);rwa [Nat.zero_add]at this
theorem w16_get (l:List UInt8) {i:Nat}(hi:i<16):(w16 l).getD i 0=word4 (l.getD (4*i) 0) (l.getD (4*i+1) 0) (l.getD (4*i+2) 0) (l.getD (4*i+3) 0):=by
 simp [w16,List.getD,hi]
def rAt (H:W8) (l:List UInt8) (i:Nat):W8:=rounds ((kTab.zip (wgrow 48 (w16 l))).take i) H
def kAt (i:Nat):UInt32:=kTab.getD i 0
theorem _root_.Go.Sig.W8.arr_get (R:W8) {i:Nat}(hi:i<8):R.arr[i]? =some (.int .u32 ((R.list.getD i 0).toNat:Int)):=by
 have:i=0∨i=1∨i=2∨i=3∨i=4∨i=5∨i=6∨i=7:=by omega
 rcases this with e |e |e |e |e |e |e |e<;>subst e<;>rfl
theorem zip_length (l:List UInt8):(kTab.zip (wgrow 48 (w16 l))).length=64:=by
 rw [List.length_zip,wgrow_length,w16_length];rfl
theorem rAt_succ (H:W8) (l:List UInt8) {i:Nat}(hi:i<64):rAt H l (i+1)=round1 (rAt H l i) (kAt i) (wAt l i):=by
 have hl:=zip_length l;unfold rAt;rw [List.take_succ_eq_append_getElem (by rw [hl];exact hi),rounds_append];have h1:i<kTab.length:=hi;have h2:i<(wgrow 48 (w16 l)).length:=by rw [wgrow_length,w16_length];exact hi
 simp only [rounds,List.getElem_zip];unfold kAt wAt;simp [List.getD,List.getElem?_eq_getElem h1,List.getElem?_eq_getElem h2]
theorem rAt_end (H:W8) (l:List UInt8):rAt H l 64=rounds (kTab.zip (wgrow 48 (w16 l))) H:=by
 unfold rAt;rw [List.take_of_length_le (by rw [zip_length];exact Nat.le_refl _)]
theorem kCells_get {i:Nat}(hi:i<64):kCells[i]? =some (.int .u32 ((kAt i).toNat:Int)):=by
 have h1:i<kTab.length:=hi;unfold kCells kAt;rw [zG,List.getElem?_map,List.getElem?_eq_getElem h1];simp [List.getD,List.getElem?_eq_getElem h1,wv]
def TakePost (w:World) (g t:Nat) (cs:Array Value) (H:W8) (l:List UInt8) (e:Ending) (w':World):Prop:=
 e= .returned (.tuple #[])∧Fr [g] w w'∧∃cs',Blk w' g t cs'∧cs'.size=cs.size∧HasW cs' (press H l)∧∀j,8≤j→cs'[j]? =cs[j]?
set_option maxRecDepth 100000 in
set_option maxHeartbeats 4000000 in
theorem take_t (w:World) (g t gK:Nat) (cs:Array Value) (H:W8) (A:Option Addr) (c:Nat) (l:List UInt8) (hB:Blk w g t cs) (h73:cs.size=73) (hH:HasW cs H) (hb:Byts w A 64 l) (hK:Blk w gK 251 kCells):
  Calls Tryz.prog 216 #[.pointer (some ⟨g,0,none⟩),.slice A 64 c,.pointer (some ⟨gK,0,none⟩)] w (TakePost w g t cs H l):=by
 have hgl:=hB.lt;obtain⟨b,o,rfl,hbl,-⟩:=hb.at (i:=0) (by decide);go_enter Tryz.func216,Tryz.ntmps216;go_upto_region 1 with(fail)
 refine wp_gen (fun W=>(∃zs,Blk W w.heap.size 251 zs∧zs.size=64)∧Fr [] w W) ⟨⟨_,Blk.new _ _ _,rfl⟩,(Fr.refl _ _).alloc _⟩ ?_;rintro W ⟨⟨zs,BW,hz⟩,fW⟩;have hBg:=hB.fr fW (by simp);have hbW:Byts W (some ⟨b,o,none⟩) 64 l:=Rd.fr hb fW (by simp [Off]);have hKW:=hK.fr fW (by simp);have hgl':g<w.heap.size:=hgl;have hbl':b<w.heap.size:=hbl;have hkl:=hK.lt;obtain⟨gw,HGW⟩:∃x,Hid (w.heap.size=x):=⟨_,zh rfl⟩
 rw [HGW.o]at BW hgl' hbl' hkl⊢;go_upto_block 0 with(fail)
 go_cut [7,18]from 18 to 56 (fun s7 s18 wx=>∃(ws:Array Value),Blk wx gw 251 ws∧ws.size=64∧(∀j,j<16→ws[j]? =some (wv (wAt l j)))∧Fr [gw] W wx)
 case first=>
  go_wp2_with fail
  go_loopg [18] 17 (fun k s18 wr=>∃(i:Nat) (ws:Array Value),s18= .int .i64 i∧i≤16∧16 - i<k∧Blk wr gw 251 ws∧ws.size=64∧(∀j,j<i→ws[j]? =some (wv (wAt l j)))∧Fr [gw] W wr)
  case atStart=>exact⟨0,_,rfl,by omega,by omega,BW,hz,fun j hj=>by omega,Fr.refl _ _⟩
  case round=>
   clear BW hz;obtain⟨i,ws,rfl,hi,hk,hBw,hsz,hpre,hF⟩:=hrel;by_cases hlt:i<16
   ·have hlt':(i:Int)<16:=by omega
    have hi64:(i:Int)<64:=by omega
    have hbr:Byts wr (some ⟨b,o,none⟩) 64 l:=Rd.fr hbW hF (fun _ ad h=>by cases h;simp;omega);have hbc:∀j,j<64→wr.cell? ⟨b,o+j,none⟩=some (.int .u8 ((l.getD j 0).toNat:Int)):=fun j hj=>by
     obtain⟨b',o',e,-,h⟩:=hbr.at hj;cases e
     exact h
    have c0:=hbc (4*i) (by omega);have c1:=hbc (4*i+1) (by omega);have c2:=hbc (4*i+2) (by omega);have c3:=hbc (4*i+3) (by omega);have hw4:=zh ((wAt_lo l hlt).trans (w16_get l hlt));have hw5:=zh (word4_eq (l.getD (4*i) 0) (l.getD (4*i+1) 0) (l.getD (4*i+2) 0) (l.getD (4*i+3) 0));have hci:wr.cell? ⟨gw,i,none⟩=some ws[i]:=by rw [hBw.cell];exact Array.getElem?_eq_getElem (by omega)
    have hfz:=hBw.frozen i;clear hbc;have p0:(0:Int)≤4*(i:Int):=by omega
    have p1:(0:Int)≤4*(i:Int)+1:=by omega
    have p2:(0:Int)≤4*(i:Int)+2:=by omega
    have p3:(0:Int)≤4*(i:Int)+3:=by omega
    have b0:4*(i:Int)<64:=by omega
    have b1:4*(i:Int)+1<64:=by omega
    have b2:4*(i:Int)+2<64:=by omega
    have b3:4*(i:Int)+3<64:=by omega
    have n0:(4*(i:Int)).toNat=4*i:=by omega
    have n1:(4*(i:Int)+1).toNat=4*i+1:=by omega
    have n2:(4*(i:Int)+2).toNat=4*i+2:=by omega
    have n3:(4*(i:Int)+3).toNat=4*i+3:=by omega
    have w0:IntKind.i64.wrap (4*(i:Int))=4*(i:Int):=by rw [IntKind.wrap_i64];omega
    have w1:IntKind.i64.wrap (4*(i:Int)+1)=4*(i:Int)+1:=by rw [IntKind.wrap_i64];omega
    have w2:IntKind.i64.wrap (4*(i:Int)+2)=4*(i:Int)+2:=by rw [IntKind.wrap_i64];omega
    have w3:IntKind.i64.wrap (4*(i:Int)+3)=4*(i:Int)+3:=by rw [IntKind.wrap_i64];omega
    generalize l.getD (4*i) 0=x0 at*
    generalize l.getD (4*i+1) 0=x1 at*
    generalize l.getD (4*i+2) 0=x2 at*
    generalize l.getD (4*i+3) 0=x3 at*
    generalize(ws[i]'(by omega))=vi at*
    go_wp2_with fail
    refine wp_tail 35 (by kernel_rfl) (by kernel_rfl) ?_;simp only [List.take_succ_cons,List.take_zero,List.drop_succ_cons,List.drop_zero];repeat still_step
    refine wpStill_nil ?_;clear p0 p1 p2 p3 b0 b1 b2 b3 n0 n1 n2 n3 w0 w1 w2 w3;go_wp2;go_roundg (16 - i)
    case measure=>omega
    case rel=>refine⟨i+1,_,by go_num,by omega,by omega,(hBw.set i _).drew,by simpa using hsz,pre_step hpre (by omega) ?_,(hF.setCell (by simp) _).drew⟩;rw [hw5.o,hw4.o];rfl
   ·have hi16:i=16:=by omega
    subst hi16;have hge:¬((16:Nat):Int)<16:=by omega
    clear hlt hk;go_wp2;go_meet;exact⟨ws,hBw,hsz,hpre,hF⟩
 case rest=>
  clear BW hz;obtain⟨ws,hBw,hsz,hpre,hF⟩:=hcut;go_upto_block 2 with(fail)
  go_cut [8,9,10]from 57 to 97 (fun s8 s9 s10 wx=>∃(ws:Array Value),Blk wx gw 251 ws∧ws.size=64∧(∀j,j<64→ws[j]? =some (wv (wAt l j)))∧Fr [gw] W wx)
  case first=>
   go_wp2_with fail
   go_loopg [8] 49 (fun k s8 wr=>∃(i:Nat) (ws:Array Value),s8= .int .i64 i∧16≤i∧i≤64∧64 - i<k∧Blk wr gw 251 ws∧ws.size=64∧(∀j,j<i→ws[j]? =some (wv (wAt l j)))∧Fr [gw] W wr)
   case atStart=>exact⟨16,ws,rfl,by omega,by omega,by omega,hBw,hsz,hpre,hF⟩
   case round=>
    clear hBw hsz hpre hF;obtain⟨i,ws,rfl,h16,hi,hk,hBw,hsz,hpre,hF⟩:=hrel;by_cases hlt:i<64
    ·have hlt':(i:Int)<64:=by omega
     have q16:(16:Int)≤i:=by omega
     have q15:(15:Int)≤i:=by omega
     have q7:(7:Int)≤i:=by omega
     have q2:(2:Int)≤i:=by omega
     have hc:∀j,j<i→wr.cell? ⟨gw,j,none⟩=some (wv (wAt l j)):=fun j hj=>by rw [hBw.cell];exact hpre j hj
     have c2:=hc (i - 2) (by omega);have c7:=hc (i - 7) (by omega);have c15:=hc (i - 15) (by omega);have c16:=hc (i - 16) (by omega);have hh:=zh (wAt_hi l h16 hlt);have hci:wr.cell? ⟨gw,i,none⟩=some ws[i]:=by rw [hBw.cell];exact Array.getElem?_eq_getElem (by omega)
     have hfz:=hBw.frozen i;generalize(ws[i]'(by omega))=vi at*
     clear hc;generalize wAt l (i - 2)=x2 at*
     generalize wAt l (i - 7)=x7 at*
     generalize wAt l (i - 15)=x15 at*
     generalize wAt l (i - 16)=x16 at*
     have heq:=zh (wnext_eq x16 x7 x15 x2);unfold wv at c2 c7 c15 c16;have p2:(0:Int)≤(i:Int) - 2:=by omega
     have p7:(0:Int)≤(i:Int) - 7:=by omega
     have p15:(0:Int)≤(i:Int) - 15:=by omega
     have p16:(0:Int)≤(i:Int) - 16:=by omega
     have b2:(i:Int) - 2<64:=by omega
     have b7:(i:Int) - 7<64:=by omega
     have b15:(i:Int) - 15<64:=by omega
     have b16:(i:Int) - 16<64:=by omega
     have n2:((i:Int) - 2).toNat=i - 2:=by omega
     have n7:((i:Int) - 7).toNat=i - 7:=by omega
     have n15:((i:Int) - 15).toNat=i - 15:=by omega
     have n16:((i:Int) - 16).toNat=i - 16:=by omega
     have w2:IntKind.i64.wrap ((i:Int) - 2)=(i:Int) - 2:=by rw [IntKind.wrap_i64];omega
     have w7:IntKind.i64.wrap ((i:Int) - 7)=(i:Int) - 7:=by rw [IntKind.wrap_i64];omega
     have w15:IntKind.i64.wrap ((i:Int) - 15)=(i:Int) - 15:=by rw [IntKind.wrap_i64];omega
     have w16':IntKind.i64.wrap ((i:Int) - 16)=(i:Int) - 16:=by rw [IntKind.wrap_i64];omega
     go_wp2_with fail
     go_quiet (fail)
     go_upto_region 10 with(fail)
     refine wp_tail 29 (by kernel_rfl) (by kernel_rfl) ?_;simp only [List.take_succ_cons,List.take_zero,List.drop_succ_cons,List.drop_zero];repeat (first |still_step |still_call (still_left (rotl_any _ _ _ (by decide))))
     refine wpStill_nil ?_;clear p2 p7 p15 p16 b2 b7 b15 b16 n2 n7 n15 n16 w2 w7 w15 w16';go_wp2;go_roundg (64 - i)
     case measure=>omega
     case rel=>refine⟨i+1,_,by go_num,by omega,by omega,by omega,(hBw.drewN _).set i _,by simpa using hsz,pre_step hpre (by omega) ?_,(hF.drewN _).setCell (by simp) _⟩;rw [heq.o,hh.o];rfl
    ·have hi64:i=64:=by omega
     subst hi64;have hge:¬((64:Nat):Int)<64:=by omega
     clear hlt hk h16 hi;go_wp2;go_meet;exact⟨ws,hBw,hsz,hpre,hF⟩
  case rest=>
   clear hBw hsz hpre hF;obtain⟨ws,hBw,hsz,hpre,hF⟩:=hcut;have hBr:Blk wc g t cs:=hBg.fr hF (by simp;omega);have hKr:Blk wc gK 251 kCells:=hKW.fr hF (by simp;omega);have hcH:=fun(j:Nat) (hj:j<8)=>(hBr.cell j).trans (hH.get hj);have h0:=hcH 0 (by decide);have h1:=hcH 1 (by decide);have h2:=hcH 2 (by decide);have h3:=hcH 3 (by decide);have h4:=hcH 4 (by decide);have h5:=hcH 5 (by decide);have h6:=hcH 6 (by decide);have h7:=hcH 7 (by decide);simp only [W8.list,List.getD,zH,zI,Option.getD_some]at h0 h1 h2 h3 h4 h5 h6 h7;unfold wv at h0 h1 h2 h3 h4 h5 h6 h7;clear hcH;go_upto_region 12 with(fail)
   have hglr:=hBr.lt;have hwl:=hBw.lt;have hklr:=hKr.lt;refine wp_gen (fun W3=>Blk W3 wc.heap.size 220 H.arr∧Fr [] wc W3) ⟨Blk.new _ _ _,(Fr.refl _ _).alloc _⟩ ?_;rintro W3 ⟨BV,fV⟩;have hB3:=hBr.fr fV (by simp);have hK3:=hKr.fr fV (by simp);have hW3:=hBw.fr fV (by simp);have hF3:Fr [gw] W W3:=hF.trans fV.nil;have hsz3:=zh hF3.size;have hszr:=hF.size;obtain⟨gv,HGV⟩:∃x,Hid (wc.heap.size=x):=⟨_,zh rfl⟩
   rw [HGV.o]at BV hglr hwl hklr hszr⊢;clear h0 h1 h2 h3 h4 h5 h6 h7 hBr hKr hBw fV hF HGV;go_upto_block 4 with(fail)
   go_cut [12,13,14,15,16]from 102 to 185 (fun s12 s13 s14 s15 s16 wx=>Blk wx gv 220 (rAt H l 64).arr∧Fr [gv] W3 wx)
   case first=>
    go_wp2_with fail
    go_loopg [102] 65 (fun k s102 wr=>∃(i:Nat),s102= .int .i64 i∧i≤64∧64 - i<k∧Blk wr gv 220 (rAt H l i).arr∧Fr [gv] W3 wr)
    case atStart=>exact⟨0,rfl,by omega,by omega,BV,Fr.refl _ _⟩
    case round=>
     clear BV;obtain⟨i,rfl,hi,hk,hBv,hFv⟩:=hrel;have hKi:=hK3.fr hFv (by simp;omega);have hWi:=hW3.fr hFv (by simp;omega);by_cases hlt:i<64
     ·have hlt':(i:Int)<64:=by omega
      have ck:=(hKi.cell i).trans (kCells_get hlt);have cw:=(hWi.cell i).trans (hpre i hlt);unfold wv at cw;have hr:=zh (rAt_succ H l hlt);have c8:=hBv.c8;generalize rAt H l i=R at*
      generalize kAt i=kk at*
      generalize wAt l i=ww at*
      go_wp2_with fail
      go_quiet (fail)
      go_upto_region 16 with(fail)
      go_quiet ((go_at_call 230;first |exact quiet_left (rotl_any _ _ _ (by decide)) |exact quiet_add_left (rotl_any _ _ _ (by decide))))
      go_upto_region 17 with(fail)
      go_quiet ((go_at_call 230;first |exact quiet_left (rotl_any _ _ _ (by decide)) |exact quiet_add_left (rotl_any _ _ _ (by decide))))
      go_upto_region 18 with(fail)
      rw [t1_eq R kk ww,t2_eq R];obtain⟨T1,HT1⟩:∃x,Hid (t1 R kk ww=x):=⟨_,zh rfl⟩
      obtain⟨T2,HT2⟩:∃x,Hid (t2 R=x):=⟨_,zh rfl⟩
      rw [HT1.o,HT2.o];refine wp_gen (fun W4=>Blk W4 gv 220 R.arr∧Fr [gv] W3 W4) ⟨((hBv.drewN _).drewN _).drewN _,((hFv.drewN _).drewN _).drewN _⟩ ?_;rintro W4 ⟨hB4,hF4⟩;have d8:=hB4.c8;clear c8 ck cw hKi hWi hBv hFv;have a1:=w_add T1 T2;have a2:=w_add' T1 T2;have a3:=w_add R.d T1;have a4:=w_add' R.d T1;obtain⟨S1,HS1⟩:∃x,Hid (T1+T2=x):=⟨_,zh rfl⟩
      obtain⟨S2,HS2⟩:∃x,Hid (R.d+T1=x):=⟨_,zh rfl⟩
      rw [HS1.o]at a1 a2;rw [HS2.o]at a3 a4;have hz8:=fun j=>hB4.frozen j;have hgv4:=hB4.lt;go_upto_region 19 with(refine wpList_build_k rfl 220 _ rfl (cells:=#[.int .u32 S1.toNat,.int .u32 R.a.toNat,.int .u32 R.b.toNat,.int .u32 R.c.toNat,.int .u32 S2.toNat,.int .u32 R.e.toNat,.int .u32 R.f.toNat,.int .u32 R.g.toNat]) ?_ ?_;(focus kernel_rfl))
      have E4:=hB4.set8 (.int .u32 S1.toNat) (.int .u32 R.a.toNat) (.int .u32 R.b.toNat) (.int .u32 R.c.toNat) (.int .u32 S2.toNat) (.int .u32 R.e.toNat) (.int .u32 R.f.toNat) (.int .u32 R.g.toNat);have F4:=(((((((hF4.setCell (p:=⟨gv,0,none⟩) (by simp) (.int .u32 S1.toNat)).setCell (p:=⟨gv,1,none⟩) (by simp) (.int .u32 R.a.toNat)).setCell (p:=⟨gv,2,none⟩) (by simp) (.int .u32 R.b.toNat)).setCell (p:=⟨gv,3,none⟩) (by simp) (.int .u32 R.c.toNat)).setCell (p:=⟨gv,4,none⟩) (by simp) (.int .u32 S2.toNat)).setCell (p:=⟨gv,5,none⟩) (by simp) (.int .u32 R.e.toNat)).setCell (p:=⟨gv,6,none⟩) (by simp) (.int .u32 R.f.toNat)).setCell (p:=⟨gv,7,none⟩) (by simp) (.int .u32 R.g.toNat);refine wp_gen (fun W5=>Blk W5 gv 220 #[.int .u32 S1.toNat,.int .u32 R.a.toNat,.int .u32 R.b.toNat,.int .u32 R.c.toNat,.int .u32 S2.toNat,.int .u32 R.e.toNat,.int .u32 R.f.toNat,.int .u32 R.g.toNat]∧Fr [gv] W3 W5) ⟨E4,F4⟩ ?_;rintro W5 ⟨hB5,hF5⟩;have e5:(rAt H l (i+1)).arr=#[.int .u32 S1.toNat,.int .u32 R.a.toNat,.int .u32 R.b.toNat,.int .u32 R.c.toNat,.int .u32 S2.toNat,.int .u32 R.e.toNat,.int .u32 R.f.toNat,.int .u32 R.g.toNat]:=by rw [hr.o];unfold round1;rw [HT1.o,HT2.o,HS1.o,HS2.o]
      rw [←e5]at hB5;clear d8 hB4 hF4 a1 a2 a3 a4 E4 F4 hz8 hgv4 e5 hr HT1 HT2 HS1 HS2 hsz3;go_wp2_with fail
      go_roundg (64 - i)
      case measure=>omega
      case rel=>exact⟨i+1,by go_num,by omega,by omega,hB5,hF5⟩
     ·have hi64:i=64:=by omega
      subst hi64;have hge:¬((64:Nat):Int)<64:=by omega
      clear hlt hk hi;go_wp2;go_meet;exact⟨hBv,hFv⟩
   case rest=>
    obtain⟨hBv,hFv⟩:=hcut;have hB4:=hB3.fr hFv (by simp;omega);have hF4:Fr [] w wc:=by have h1:=HGW.o;have h2:=fW.size;exact(fW.andThen hF3 (fun x hx=> .inr (by simp at hx;omega))).andThen hFv (fun x hx=> .inr (by simp at hx;omega))
    clear BV hB3 hK3 hW3 hpre hFv hF3;obtain⟨R,HR⟩:∃x,Hid (rAt H l 64=x):=⟨_,zh rfl⟩
    rw [HR.o]at hBv;have hgvl:=hBv.lt;go_wp2_with fail
    go_loopg [186] 9 (fun k s186 wr=>∃(i:Nat) (ds:Array Value),s186= .int .i64 i∧i≤8∧8 - i<k∧Blk wr g t ds∧ds.size=cs.size∧(∀j,j<i→ds[j]? =some (wv (H.list.getD j 0+R.list.getD j 0)))∧(∀j,i≤j→ds[j]? =cs[j]?)∧Fr [g] wc wr)
    case atStart=>exact⟨0,cs,rfl,by omega,by omega,hB4,rfl,fun j hj=>by omega,fun j _=>rfl,Fr.refl _ _⟩
    case round=>
     obtain⟨i,ds,rfl,hi,hk,hBd,hds,hlo,hhi,hFd⟩:=hrel;by_cases hlt:i<8
     ·have hlt':(i:Int)<8:=by omega
      have hBvi:=hBv.fr hFd (by simp;omega);have c1:=(hBd.cell i).trans ((hhi i (Nat.le_refl _)).trans (hH.get hlt));have c2:=(hBvi.cell i).trans (R.arr_get hlt);have hz:=hBd.frozen i;unfold wv at c1;have hadd:=zh (w_add' (H.list.getD i 0) (R.list.getD i 0));obtain⟨x1,HX1⟩:∃x,Hid (H.list.getD i 0=x):=⟨_,zh rfl⟩
      obtain⟨x2,HX2⟩:∃x,Hid (R.list.getD i 0=x):=⟨_,zh rfl⟩
      rw [HX1.o]at c1 hadd;rw [HX2.o]at c2 hadd;go_wp2_with fail
      refine wp_tail 13 (by kernel_rfl) (by kernel_rfl) ?_;simp only [List.take_succ_cons,List.take_zero,List.drop_succ_cons,List.drop_zero];repeat still_step
      refine wpStill_nil ?_;go_wp2;go_roundg (8 - i)
      case measure=>omega
      case rel=>
       refine⟨i+1,_,by go_num,by omega,by omega,(hBd.set i _).drew,by simpa using hds,pre_step (f:=fun j=>H.list.getD j 0+R.list.getD j 0) hlo (by omega) ?_,fun j hj=> ?_,(hFd.setCell (by simp) _).drew⟩
       ·rw [hadd.o,HX1.o,HX2.o];rfl
       ·rw [Array.getElem?_setIfInBounds,if_neg (by omega)];exact hhi j (by omega)
     ·have hi8:i=8:=by omega
      subst hi8;have hge:¬((8:Nat):Int)<8:=by omega
      have hR:=HR.o;rw [rAt_end]at hR;have HR2:=zh hR;clear hR HR;go_wp2;go_end0;refine⟨rfl,hF4.nil.trans hFd,ds,hBd,hds,?_,hhi⟩;intro j v hv;have hj:j<8:=by have h1:=(List.getElem?_eq_some_iff.1 hv).1;have h2:((press H l).list.map wv).length=8:=rfl;omega
      rw [Nat.zero_add,hlo j hj];have e:(press H l).list.getD j 0=H.list.getD j 0+R.list.getD j 0:=by
       unfold press;rw [HR2.o];have:j=0∨j=1∨j=2∨j=3∨j=4∨j=5∨j=6∨j=7:=by omega
       rcases this with e |e |e |e |e |e |e |e<;>subst e<;>rfl
      rw [←e,←hv,List.getElem?_map,List.getElem?_eq_getElem (show j<(press H l).list.length from hj)];simp [List.getD,List.getElem?_eq_getElem (show j<(press H l).list.length from hj)]
end Go.Proofs.YtopfcgpeaaehgaaGreatDoor
