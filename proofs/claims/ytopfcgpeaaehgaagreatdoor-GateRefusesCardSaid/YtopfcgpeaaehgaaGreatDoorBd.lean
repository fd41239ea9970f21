/- Walks: sixty-four signs, the basic ones. Conditions: each theorem's own. -/
import Derived.Test.YtopfcgpeaaehgaaGreatDoorGh
import Derived.Test.YtopfcgpeaaehgaaGreatDoorAc
import Derived.Test.YtopfcgpeaaehgaaGreatDoorAy
namespace Go.Proofs.YtopfcgpeaaehgaaGreatDoor
open Go.RowKit Go.Sig
def kBas:ByteArray:=⟨basS.toArray⟩
def sixByteB (held bits:Nat) (x:UInt8):List UInt8×Nat×Nat:=
 let h:=held*256+x.toNat
 if bits=4 then([basS.getD (h / 64) 0,basS.getD (h%64) 0],0,0)else([basS.getD (h / 2^(bits+2)) 0],h%2^(bits+2),bits+2)
def sixGoB:List UInt8→Nat→Nat→List UInt8→List UInt8
 | [],held,bits,out=>if bits=0 then out else out++ [basS.getD (held*2^(6 - bits)) 0]
 |x::xs,held,bits,out=>sixGoB xs (sixByteB held bits x).2.1 (sixByteB held bits x).2.2 (out++(sixByteB held bits x).1)
def basM (b:List UInt8):List UInt8:=sixGoB b 0 0 []
theorem kbas_size:kBas.size=64:=by decide
theorem kbas_at {j:Nat}(h:j<kBas.size):kBas[j]=basS.getD j 0:=by
 have h':j<basS.length:=by rw [kbas_size]at h;exact h
 rw [List.getD_eq_getElem?_getD,List.getElem?_eq_getElem h',Option.getD_some];rfl
set_option maxRecDepth 100000 in
set_option maxHeartbeats 4000000 in
theorem sixesB_t (w:World) (A:Option Addr) (n c:Nat) (l:List UInt8) (hb:Byts w A n l) (hmax:n≤1000000):Calls Tryz.prog 100 #[.string kBas,.slice A n c] w fun e w'=>∃v,e= .returned v∧BIn w w' v (basM l):=by
 have hln:l.length=n:=Byts.length hb;have hbh:=zh hb;have hqs:=kbas_size;have hqat:=zh (fun(j:Nat) (h:j<kBas.size)=>kbas_at h);obtain⟨q,hq⟩:∃z,Hid (kBas=z):=⟨_,zh rfl⟩
 rw [hq.o]at hqs hqat⊢;clear hb;go_enter Tryz.func100,Tryz.ntmps100;go_wp2_with fail
 go_loopg [5,6,7,9,12] (n+1) (fun gk s5 s6 s7 s9 s12 wr=>∃(i held nb:Nat) (out:List UInt8),s12= .int .i64 i∧s6= .int .i64 held∧s7= .int .i64 nb∧i≤n∧n - i<gk∧BIn w wr s5 out∧(nb=0∨nb=2∨nb=4)∧held<2^nb∧out.length≤2*i∧sixGoB (l.drop i) held nb out=basM l)
 case atStart=>exact⟨0,0,0,[],rfl,rfl,rfl,by omega,by omega,BIn.nil w,by omega,by decide,by simp,rfl⟩
 case round=>
  obtain⟨i,held,nb,out,rfl,rfl,rfl,hi,hk,hB,hbits,hheld,hlen,hgo⟩:=hrel;have hgoh:=zh hgo;have hBh:=zh hB;clear hgo;obtain⟨A2,c2,rfl,O2,R2,F2⟩:=hB;obtain⟨n2,hn2⟩:∃z,Hid (out.length=z):=⟨_,zh rfl⟩
  rw [hn2.o]at O2 R2 hlen⊢;by_cases hlt:i<n
  ·have hlt':(i:Int)<n:=by omega
   have hlth:=zh hlt;have hi':i<l.length:=by omega
   have hdr:=zh (List.drop_eq_getElem_cons hi');have hbr:=Rd.fr hbh.o F2 (by simp [Off]);obtain⟨b,o,rfl,hcell⟩:=hbr.2 (by omega);have cx:=hcell i (bv l[i]) (by rw [List.getElem?_map,List.getElem?_eq_getElem hi'];rfl);clear hcell hbr;obtain⟨x,hx⟩:∃z,Hid (l[i]=z):=⟨_,zh rfl⟩
   rw [hx.o]at cx hdr;unfold bv at cx;have hx256:x.toNat<256:=x.toNat_lt;obtain⟨h,hh⟩:∃z,Hid (held*256+x.toNat=z):=⟨_,zh rfl⟩
   have hb16:held<16:=by rcases hbits with rfl |rfl |rfl<;>omega
   have hor:bits .or .i64 ((held:Int)*256) (x.toNat:Int)=(h:Int):=by have:=or_byte ⟨held,hb16⟩ ⟨x.toNat,hx256⟩;simp only at this;rw [this,hh.o]
   have hh4:h<4096:=by have:=hh.o;omega
   rcases hbits with rfl |rfl |rfl
   ·have hj:h / 4<q.size:=by have:=hh.o;rw [hqs];omega
    obtain⟨j,hjj⟩:∃z,Hid (h / 4=z):=⟨_,zh rfl⟩
    rw [hjj.o]at hj;have hsh:(h:Int) / 4=(j:Int):=by have:=hjj.o;omega
    have hqj:=zh (hqat.o _ hj);have hand:=(and_at hh4).2.1;have hst:=zh (show sixByteB held 0 x=([basS.getD j 0],h%4,2) by
     unfold sixByteB;simp only [hh.o];rw [if_neg (by decide)];show([basS.getD (h / 4) 0],h%4,2)=_;rw [hjj.o])
    go_wp2_with fail
    go_step3
    go_wp2_with fail
    go_step3
    go_wp2_with fail
    refine wp_loop_rounds 2 ?_;rw [rounds_succ];go_wp2_with (refine wpList_own_append tB1 (O2.fr ((Fr.refl [] _).alloc _) (by simp)) (byte_new _ _ (q[j]) _ rfl) (fun u hu=>by simp at hu;rw [hu];rfl) (by simp) (by unfold maxLen;omega) (by omega) rfl rfl rfl rfl (fun v3 w3 p13 p23 p33=> ?_);obtain⟨A3,c3,rfl,hA3⟩:=p13.form)
    rw [rounds_succ];go_wp2_with fail
    rw [Exit.noGoto_normal];go_wp2_with fail
    go_roundg (n - i)
    case measure=>omega
    case rel=>
     refine⟨i+1,h%4,2,out++ [basS.getD j 0],by go_num,by first |rfl | (simp;done) | (congr 1;omega),rfl,by have:=hlth.o;omega,by have:=hlth.o;omega,?_,by omega,by omega,by rw [List.length_append,hn2.o,List.length_singleton];omega,?_⟩
     ·rw [←hqj.o];exact BIn.push hn2.o R2 F2 p13 p23 p33
     ·rw [←hgoh.o,hdr.o,sixGoB,hst.o]
   ·have hj:h / 16<q.size:=by have:=hh.o;rw [hqs];omega
    obtain⟨j,hjj⟩:∃z,Hid (h / 16=z):=⟨_,zh rfl⟩
    rw [hjj.o]at hj;have hsh:(h:Int) / 16=(j:Int):=by have:=hjj.o;omega
    have hqj:=zh (hqat.o _ hj);have hand:=(and_at hh4).2.2;have hst:=zh (show sixByteB held 2 x=([basS.getD j 0],h%16,4) by
     unfold sixByteB;simp only [hh.o];rw [if_neg (by decide)];show([basS.getD (h / 16) 0],h%16,4)=_;rw [hjj.o])
    go_wp2_with fail
    go_step3
    go_wp2_with fail
    go_step3
    go_wp2_with fail
    refine wp_loop_rounds 2 ?_;rw [rounds_succ];go_wp2_with (refine wpList_own_append tB1 (O2.fr ((Fr.refl [] _).alloc _) (by simp)) (byte_new _ _ (q[j]) _ rfl) (fun u hu=>by simp at hu;rw [hu];rfl) (by simp) (by unfold maxLen;omega) (by omega) rfl rfl rfl rfl (fun v3 w3 p13 p23 p33=> ?_);obtain⟨A3,c3,rfl,hA3⟩:=p13.form)
    rw [rounds_succ];go_wp2_with fail
    rw [Exit.noGoto_normal];go_wp2_with fail
    go_roundg (n - i)
    case measure=>omega
    case rel=>
     refine⟨i+1,h%16,4,out++ [basS.getD j 0],by go_num,by first |rfl | (simp;done) | (congr 1;omega),rfl,by have:=hlth.o;omega,by have:=hlth.o;omega,?_,by omega,by omega,by rw [List.length_append,hn2.o,List.length_singleton];omega,?_⟩
     ·rw [←hqj.o];exact BIn.push hn2.o R2 F2 p13 p23 p33
     ·rw [←hgoh.o,hdr.o,sixGoB,hst.o]
   ·have hj:h / 64<q.size:=by have:=hh.o;rw [hqs];omega
    obtain⟨j,hjj⟩:∃z,Hid (h / 64=z):=⟨_,zh rfl⟩
    rw [hjj.o]at hj;have hsh:(h:Int) / 64=(j:Int):=by have:=hjj.o;omega
    have hj2:h%64<q.size:=by rw [hqs];omega
    have hand:=and_63 hh4;have hst:=zh (show sixByteB held 4 x=([basS.getD j 0,basS.getD (h%64) 0],0,0) by
     unfold sixByteB;simp only [hh.o];rw [if_pos (by decide),hjj.o])
    obtain⟨k,hkk⟩:∃z,Hid (h%64=z):=⟨_,zh rfl⟩
    rw [hkk.o]at hj2 hand hst;have hqj:=zh (hqat.o _ hj);have hqk:=zh (hqat.o _ hj2);have hk4:k<4096:=by have:=hkk.o;omega
    have hand2:=(and_at hk4).1;go_wp2_with fail
    go_step3
    go_wp2_with fail
    go_step3
    go_wp2_with fail
    refine wp_loop_rounds 3 ?_;rw [rounds_succ];go_wp2_with (refine wpList_own_append tB1 (O2.fr ((Fr.refl [] _).alloc _) (by simp)) (byte_new _ _ (q[j]) _ rfl) (fun u hu=>by simp at hu;rw [hu];rfl) (by simp) (by unfold maxLen;omega) (by omega) rfl rfl rfl rfl (fun v3 w3 p13 p23 p33=> ?_);obtain⟨A3,c3,rfl,hA3⟩:=p13.form)
    have hB3:=BIn.push hn2.o R2 F2 p13 p23 p33;obtain⟨A5,c5,hs5,O5,R5,F5⟩:=hB3;obtain⟨rfl,rfl⟩:A3=A5∧c3=c5:=by injection hs5 with h1 _ h3;exact⟨h1,h3⟩
    have hl3:(out++ [q[j]]).length=n2+1:=by rw [List.length_append,hn2.o,List.length_singleton]
    rw [hl3]at O5 R5;clear hs5 p13 p23 p33;rw [rounds_succ];go_wp2_with (refine wpList_own_append tB1 (O5.fr ((Fr.refl [] _).alloc _) (by simp)) (byte_new _ _ (q[k]) _ rfl) (fun u hu=>by simp at hu;rw [hu];rfl) (by simp) (by unfold maxLen;omega) (by omega) rfl rfl rfl rfl (fun v4 w4 p14 p24 p34=> ?_);obtain⟨A4,c4,rfl,hA4⟩:=p14.form)
    rw [rounds_succ];go_wp2_with fail
    rw [Exit.noGoto_normal];go_wp2_with fail
    go_roundg (n - i)
    case measure=>omega
    case rel=>
     refine⟨i+1,0,0,out++ [basS.getD j 0,basS.getD k 0],by go_num,rfl,rfl,by have:=hlth.o;omega,by have:=hlth.o;omega,?_,by omega,by decide,by rw [List.length_append,hn2.o];simp;omega,?_⟩
     ·have:=BIn.push hl3 R5 F5 p14 p24 p34;rw [hqj.o,hqk.o,List.append_assoc]at this;exact this
     ·rw [←hgoh.o,hdr.o,sixGoB,hst.o]
  ·have hge:¬(i:Int)<n:=by omega
   have hfin:=hgoh.o;rw [List.drop_eq_nil_of_le (by omega),sixGoB]at hfin;have hfinh:=zh hfin;clear hlt hk hfin;rcases hbits with rfl |rfl |rfl
   ·go_wp2_with fail
    go_ret;refine⟨_,rfl,?_⟩;have:=hBh.o;rw [hn2.o]at this;rw [←hfinh.o];first
     |rw [if_pos rfl]
     |simp only [if_true]
    exact this
   ·have hj:held*16<q.size:=by rw [hqs];omega
    obtain⟨j,hjj⟩:∃z,Hid (held*16=z):=⟨_,zh rfl⟩
    rw [hjj.o]at hj;have hsh:(held:Int)*16=(j:Int):=by have:=hjj.o;omega
    have hqj:=zh (hqat.o _ hj);go_wp2_with (refine wpList_own_append tB1 (O2.fr ((Fr.refl [] _).alloc _) (by simp)) (byte_new _ _ (q[j]) _ rfl) (fun u hu=>by simp at hu;rw [hu];rfl) (by simp) (by unfold maxLen;omega) (by omega) rfl rfl rfl rfl (fun v3 w3 p13 p23 p33=> ?_);obtain⟨A3,c3,rfl,hA3⟩:=p13.form)
    go_ret;refine⟨_,rfl,?_⟩;rw [←hfinh.o,if_neg (by decide),show held*2^(6 - 2)=j from hjj.o,←hqj.o];exact BIn.push hn2.o R2 F2 p13 p23 p33
   ·have hj:held*4<q.size:=by rw [hqs];omega
    obtain⟨j,hjj⟩:∃z,Hid (held*4=z):=⟨_,zh rfl⟩
    rw [hjj.o]at hj;have hsh:(held:Int)*4=(j:Int):=by have:=hjj.o;omega
    have hqj:=zh (hqat.o _ hj);go_wp2_with (refine wpList_own_append tB1 (O2.fr ((Fr.refl [] _).alloc _) (by simp)) (byte_new _ _ (q[j]) _ rfl) (fun u hu=>by simp at hu;rw [hu];rfl) (by simp) (by unfold maxLen;omega) (by omega) rfl rfl rfl rfl (fun v3 w3 p13 p23 p33=> ?_);obtain⟨A3,c3,rfl,hA3⟩:=p13.form)
    go_ret;refine⟨_,rfl,?_⟩;rw [←hfinh.o,if_neg (by decide),show held*2^(6 - 4)=j from hjj.o,←hqj.o];exact BIn.push hn2.o R2 F2 p13 p23 p33
theorem bldSize:(Tryz.prog.info? 156).map (·.size)=some 2:=by kernel_rfl
theorem bldLies:liesAt Tryz.prog Tryz.prog.depth 156 (2 / Tryz.prog.cellsOf 156) 0 156 1=true:=by kernel_rfl
theorem uBldp:Tryz.prog.underlying 154=some (.pointer 156):=by kernel_rfl
set_option maxRecDepth 100000 in
set_option maxHeartbeats 1000000 in
theorem bcopy_t (b:Nat) (w:World) (hB:Blk w b 156 #[.pointer none,.slice none 0 0]):
  Calls Tryz.prog 136 #[.pointer (some ⟨b,0,none⟩)] w fun e w'=>e= .returned (.tuple #[])∧w'=w.setCell ⟨b,0,none⟩ (.pointer (some ⟨b,0,none⟩)):=by
 obtain⟨j,hj,hjs⟩:=Option.map_eq_some_iff.1 bldSize;have h0:w.cell? ⟨b,0,none⟩=some (.pointer none):=by rw [hB.cell];rfl
 have hfz:=hB.frozen 0;have hsh:w.shape? b=some (156,2):=by have h:w.heap[b]? =some (.cells #[.pointer none,.slice none 0 0] 156 (0,0)):=hB;simp [World.shape?,h]
 have hbl:=hB.lt;clear hB;go_enter Tryz.func136,Tryz.ntmps136;go_wp2_with fail
 rw [Lib.run_to_unsafe w ⟨b,0,none⟩ uBldp (show Tryz.prog.underlying 210=some .unsafePointer by kernel_rfl) hj (by rw [hjs];decide) hsh (Nat.zero_lt_succ 1)];simp only [Result.andThen];rw [Oper.upon_value];go_wp2_with fail
 rw [run_callFunc_extern Tryz.func171 (by kernel_rfl) (by kernel_rfl) (by kernel_rfl) (e:=Extern.AbiNoEscape.same) (by kernel_rfl)];rw [Lib.run_noEscape];simp only [Result.andThen];rw [Oper.upon_value];go_wp2_with fail
 rw [Lib.run_from_unsafe w ⟨b,0,none⟩ (show Tryz.prog.underlying 210=some .unsafePointer by kernel_rfl) uBldp hj hsh bldLies];simp only [Result.andThen];rw [Oper.upon_value];go_wp2_with fail
 go_end0;exact⟨rfl,rfl⟩
set_option maxRecDepth 100000 in
set_option maxHeartbeats 2000000 in
theorem bbyte_t (b:Nat) (w:World) (c:UInt8) (hB:Blk w b 156 #[.pointer none,.slice none 0 0]):
  Calls Tryz.prog 102 #[.pointer (some ⟨b,0,none⟩),bv c] w fun e w'=>e= .returned .nilIface∧∃v,Blk w' b 156 #[.pointer (some ⟨b,0,none⟩),v]∧Sig.Own w' 5 1 v 1 [bv c]∧(∀g,g∈rowOf v→w.heap.size≤g)∧Fr [b] w w':=by
 have hcp:=bcopy_t b w hB;have hB1:Blk (w.setCell ⟨b,0,none⟩ (.pointer (some ⟨b,0,none⟩))) b 156 #[.pointer (some ⟨b,0,none⟩),.slice none 0 0]:=by have:=hB.set 0 (.pointer (some ⟨b,0,none⟩));simpa using this
 have F1:Fr [b] w (w.setCell ⟨b,0,none⟩ (.pointer (some ⟨b,0,none⟩))):=(Fr.refl _ _).setCell (.inl (by simp)) _;have hbl:=hB.lt;unfold bv;clear hB;go_enter Tryz.func102,Tryz.ntmps102;go_upto_region 2 with(go_at_call 136;refine hcp.mono ?_;clear hcp;rintro e w1 ⟨rfl,rfl⟩)
 refine wp_gen (fun W=>Blk W b 156 #[.pointer (some ⟨b,0,none⟩),.slice none 0 0]∧Fr [b] w W) ⟨hB1,F1⟩ ?_;clear hB1 F1;rintro W ⟨hB,fW⟩;have c0:=hB.cell 0;have c1:=hB.cell 1;simp only [zG,zH,zI]at c0 c1;have hBh:=zh hB;have fWh:=zh fW;have hbW:=hB.lt;clear hB fW;go_wp2_with (refine wpList_own_append tB1 (Sig.Own.nil _ _ _) (byte_new _ _ c _ (by rfl)) (fun u hu=>by simp at hu;rw [hu];rfl) (by simp) (by unfold maxLen;omega) (by omega) rfl rfl rfl rfl (fun v2 w2 p1 p2 p3=> ?_);obtain⟨A3,c3,rfl,hA3⟩:=p1.form;have hB2:=(hBh.o.alloc _).fr p2 (by simp [rowOf,Value.ownBlock]);have d0:=hB2.cell 0;have d1:=hB2.cell 1;simp only [zG,zH,zI]at d0 d1;have z1:=hB2.frozen 1;have hb2:=hB2.lt)
 go_ret;have hB3:=hB2.set 1 (.slice A3 (0+1) c3);refine⟨rfl,_,by simpa using hB3,?_,?_,?_⟩
 ·have hO:Sig.Own (w2.setCell ⟨b,1,none⟩ (.slice A3 (0+1) c3)) 5 1 (.slice A3 (0+1) c3) (0+1) ([]++ [c].map bv):=p1.fr ((Fr.refl [b] _).setCell (.inl (by simp)) _) (fun g hg hx=>by
   have h1:=p3 g hg;simp [rowOf,Value.ownBlock]at h1 hx;omega)
  exact hO
 ·intro g hg;have h1:=p3 g hg;have h2:=fWh.o.size;simp [rowOf,Value.ownBlock]at h1;omega
 ·refine Fr.setCell ?_ (.inl (by simp)) _;exact(fWh.o.alloc _).trans (p2.mono (by simp [rowOf,Value.ownBlock]))
theorem plain_az (w:World) (c:UInt8) (h1:97≤c.toNat) (h2:c.toNat≤122):Calls Tryz.prog 101 #[bv c] w fun e w'=>e= .returned (.bool true)∧w=w':=by
 have e1:(65:Int)≤c.toNat:=by omega
 have e2:¬(c.toNat:Int)≤90:=by omega
 have e3:(97:Int)≤c.toNat:=by omega
 have e4:(c.toNat:Int)≤122:=by omega
 have d1:decide ((65:Int)≤c.toNat)=true:=decide_eq_true e1;have d2:decide ((c.toNat:Int)≤90)=false:=decide_eq_false e2;have d3:decide ((97:Int)≤c.toNat)=true:=decide_eq_true e3;have d4:decide ((c.toNat:Int)≤122)=true:=decide_eq_true e4;unfold bv;go_enter Tryz.func101,Tryz.ntmps101;go_wp2_with fail
 go_ret;exact⟨rfl,rfl⟩
theorem own_from {w:World}{e size n B:Nat}{v:Value}{xs:List Value}(h:Sig.Own w e size v n xs) (hB:∀g,g∈rowOf v→B≤g):w.ownsRow B e size v n xs:=by
 obtain⟨h1,h2⟩:=h;refine⟨h1,?_⟩;rcases h2 with h2 | ⟨g,cap,cur,rfl,_,hh,r⟩
 ·exact .inl h2
 ·exact .inr ⟨g,cap,cur,rfl,hB g (by simp [rowOf,Value.ownBlock]),hh,r⟩
set_option maxRecDepth 100000 in
set_option maxHeartbeats 2000000 in
theorem quote1_t (w:World) (s:ByteArray) (c:UInt8) (hs:s.size=1) (hc:∀h:0<s.size,s[0]=c) (h1:97≤c.toNat) (h2:c.toNat≤122):Calls Tryz.prog 53 #[.string s] w fun e w'=>e= .returned (.string ⟨#[c]⟩)∧Fr [] w w':=by
 have hp:=fun V=>plain_az V c h1 h2;unfold bv at hp;have hlt:0<s.size:=by omega
 have hc':=hc hlt;have z1:(0:Int)<s.size:=by omega
 have z2:¬(1:Int)<s.size:=by omega
 have hsh:=zh hs;clear h1 h2 hs hc;go_enter Tryz.func53,Tryz.ntmps53;go_upto_block 0 with(fail)
 refine wp_gen (fun W=>Blk W w.heap.size 156 #[.pointer none,.slice none 0 0]∧Fr [] w W) ⟨Blk.new _ _ _,(Fr.refl _ _).alloc _⟩ ?_;rintro W ⟨hB,fW⟩;obtain⟨b,hb⟩:∃z,Hid (w.heap.size=z):=⟨_,zh rfl⟩
 rw [hb.o]at hB⊢;have hbb:=bbyte_t b W c hB;unfold bv at hbb;have fWh:=zh fW;have hbl:=hB.lt;clear hB fW;go_wp2_with fail
 refine wp_loop_rounds 2 ?_;rw [rounds_succ];go_wp2_with (first
  | (go_at_call 101;refine(hp _).mono ?_;clear hp;rintro e w1 ⟨rfl,rfl⟩)
  | (go_at_call 102;refine hbb.mono ?_;clear hbb;rintro e w1 ⟨rfl,v,hB1,hO1,hR1,F1⟩))
 have hst:=Tryz.Builder_String b b [c] w1 (.inr ⟨Nat.le_refl _,v,hB1,own_from hO1 (fun g hg=>Nat.le_trans (Nat.le_of_lt hbl) (hR1 g hg)),fun e=>by
  have h1:=hR1 b (by simp [rowOf,e]);omega⟩) (by simp)
 have hBl:Below b w w1:=(fWh.o.below (Nat.le_of_eq hb.o.symm) (by simp)).trans (F1.below (Nat.le_of_lt hbl) (by simp));clear hO1 hR1 F1 hB1 z1 hc' hlt;rw [rounds_succ];go_wp2_with (go_at_call 104;refine hst.mono ?_;clear hst;rintro e w2 ⟨rfl,F2⟩)
 go_ret;refine⟨rfl,Fr.of_below ?_⟩;rw [hb.o];exact hBl.trans F2
set_option maxRecDepth 100000 in
set_option maxHeartbeats 2000000 in
theorem basic_t (w:World) (A:Option Addr) (n c:Nat) (l:List UInt8) (hb:Byts w A n l) (hmax:n≤1000000) (h0:0<(basM l).length) (h4:(basM l).length%4=0):Calls Tryz.prog 52 #[.slice A n c] w fun e w'=>e= .returned (.string (bA (basM l)))∧Fr [] w w':=by
 have hs:=sixesB_t w A n c l hb hmax;rw [show kBas=⟨#[65,66,67,68,69,70,71,72,73,74,75,76,77,78,79,80,81,82,83,84,85,86,87,88,89,90,97,98,99,100,101,102,103,104,105,106,107,108,109,110,111,112,113,114,115,116,117,118,119,120,121,122,48,49,50,51,52,53,54,55,56,57,43,47]⟩from rfl]at hs;obtain⟨bs,hbs⟩:∃z,Hid (basM l=z):=⟨_,zh rfl⟩
 rw [hbs.o]at hs h0 h4⊢;have hm:Int.tmod (bs.length:Int) 4=0:=by rw [Int.tmod_eq_emod_of_nonneg (by omega)];omega
 have h0h:=zh h0;clear h4 h0;go_enter Tryz.func52,Tryz.ntmps52;go_upto_block 0 with(go_at_call 100;refine hs.mono ?_;clear hs;rintro e w' ⟨v,rfl,A2,c2,rfl,O2,R2,F2⟩)
 obtain⟨b,o,rfl,hcell⟩:=O2.rd.2 h0h.o;have hcv:=run_convert_bytes_back (P:=Tryz.prog) w' 23 9 5 ⟨b,o,none⟩ c2 bs tBytes (by kernel_rfl) tStr (fun j hj=>by
  rw [Addr.add_lit];exact hcell j _ (by rw [List.getElem?_map,List.getElem?_eq_getElem hj];rfl))
 have F2h:=zh F2;clear hcell O2 R2 F2;go_wp2_with fail
 refine wp_loop_rounds 1 ?_;rw [rounds_succ];go_wp2_with fail
 go_ret;exact⟨rfl,F2h.o⟩
def hdrAS:ByteArray:=⟨#[66,97,115,105,99,32,89,84,112,122]⟩
set_option maxRecDepth 100000 in
set_option maxHeartbeats 2000000 in
theorem header_t (w:World):Calls Tryz.prog 22 #[.string ⟨#[97]⟩,.string ⟨#[115]⟩] w fun e w'=>e= .returned (.string hdrAS)∧Fr [] w w':=by
 have q1:=fun V=>quote1_t V ⟨#[97]⟩ 97 rfl (fun _=>rfl) (by decide) (by decide);have q2:=fun V=>quote1_t V ⟨#[115]⟩ 115 rfl (fun _=>rfl) (by decide) (by decide);go_enter Tryz.func22,Tryz.ntmps22;obtain⟨cW,cC,hcc,hcF,hcB,hcS,hcG⟩:=conv_any ⟨#[97,58,115]⟩;go_wp2_with (first
  | (go_at_call 53;first
   | (refine(q1 _).mono ?_;clear q1;rintro e w1 ⟨rfl,F1⟩)
   | (refine(q2 _).mono ?_;clear q2;rintro e w2 ⟨rfl,F2⟩)))
 rw [show(⟨#[97]⟩:ByteArray)++⟨#[58]⟩++⟨#[115]⟩=⟨#[97,58,115]⟩from rfl,hcc w2];simp only [Result.andThen];rw [Oper.upon_value];have hba:=basic_t (cW w2) (some ⟨w2.heap.size,0,none⟩) 3 (cC w2) [97,58,115] (hcB w2 _ rfl) (by decide) (by decide+kernel) (by decide+kernel);rw [show bA (basM [97,58,115])=⟨#[89,84,112,122]⟩from by decide+kernel]at hba;have F3:=hcF w2;clear hcB hcF hcc hcS hcG;go_wp2_with (go_at_call 52;refine hba.mono ?_;clear hba;rintro e w4 ⟨rfl,F4⟩)
 go_ret;exact⟨rfl,F1.trans (F2.trans (F3.trans F4))⟩
end Go.Proofs.YtopfcgpeaaehgaaGreatDoor
