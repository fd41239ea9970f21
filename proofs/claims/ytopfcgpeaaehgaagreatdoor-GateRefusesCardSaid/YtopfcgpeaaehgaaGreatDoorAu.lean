/- Walks: the keyed digest. Conditions: each theorem's own. -/
import Derived.Test.YtopfcgpeaaehgaaGreatDoorAt
namespace Go.Proofs.YtopfcgpeaaehgaaGreatDoor
open Go.RowKit Go.Sig
def mixA (K:List UInt8) (v:UInt8) (i:Nat):List UInt8:=(K.take i).map (·^^^v)++K.drop i
theorem mixA_at {K:List UInt8}{v:UInt8}{i:Nat}(h:i<K.length):(mixA K v i)[i]? =some K[i]:=by
 unfold mixA;rw [List.getElem?_append_right (by simp;omega)];simp [Nat.min_eq_left (Nat.le_of_lt h),h]
theorem mixA_set {K:List UInt8}{v:UInt8}{i:Nat}(h:i<K.length):(mixA K v i).set i (K[i]^^^v)=mixA K v (i+1):=by
 unfold mixA;have hl:((K.take i).map (·^^^v)).length=i:=by simp;omega
 rw [List.set_append_right _ _ (by omega),hl,Nat.sub_self,List.drop_eq_getElem_cons h,zE,List.take_succ_eq_append_getElem h,List.map_append];simp
theorem mixA_end (K:List UInt8) (v:UInt8):mixA K v K.length=K.map (·^^^v):=by simp [mixA]
theorem macKey_len (k:List UInt8):(macKey k).length=64:=by
 unfold macKey;rw [List.length_append,List.length_replicate];by_cases h:64<k.length
 ·rw [if_pos h];have:=sha_length k;omega
 ·rw [if_neg h];omega
theorem u8_xor_byte (x:UInt8) (c:Nat) (v:UInt8) (hv:v.toNat=c):bits .xor .u8 (x.toNat:Int) (c:Int)=(((x^^^v).toNat:Nat):Int):=by
 rw [UInt8.toNat_xor,hv];exact u8_xor_nat x.toNat c x.toNat_lt (by have:=v.toNat_lt;omega)
def blkCells (l:List UInt8):Array Value:=(l.map bv).toArray
theorem blk_set {K:List UInt8}{v:UInt8}{i:Nat}(h:i<K.length):(blkCells (mixA K v i)).setIfInBounds i (bv (K[i]^^^v))=blkCells (mixA K v (i+1)):=by
 unfold blkCells;rw [zD,←List.map_set,mixA_set h]
theorem blk_at {K:List UInt8}{v:UInt8}{i:Nat}(h:i<K.length):(blkCells (mixA K v i))[i]? =some (bv K[i]):=by
 unfold blkCells;rw [zG,List.getElem?_map,mixA_at h];rfl
theorem lay_key (K0:List UInt8):laid (blkCells (List.replicate 64 0)) 0 (K0.map bv)=blkCells (K0++List.replicate (64 - K0.length) 0):=by
 unfold laid blkCells;rw [List.take_zero,List.nil_append,Nat.zero_add,List.length_map,List.map_replicate,List.drop_replicate,List.map_append,List.map_replicate]
theorem blkCells_size (l:List UInt8):(blkCells l).size=l.length:=by simp [blkCells]
theorem tBsl:SliceTy Tryz.prog 207 23 1 24 (.slice none 0 0):=⟨by kernel_rfl,by kernel_rfl,rfl,by decide⟩
theorem byts_blk {w:World}{g:Nat}{t:TypeId}{l:List UInt8}(n:Nat) (h:Blk w g t (blkCells l)) (hl:l.length=n):Byts w (some ⟨g,0,none⟩) n l:=
 ⟨by rw [List.length_map];omega,fun _=>⟨g,0,rfl,fun j u hu=>by rw [Nat.zero_add,h.cell];unfold blkCells;rw [zG];exact hu⟩⟩
set_option maxRecDepth 100000 in
set_option maxHeartbeats 4000000 in
theorem mac_t (w:World) (A:Option Addr) (n c:Nat) (key:List UInt8) (hk:Byts w A n key) (hc:n≤c) (hmax:n≤140737488351232) (gp:Nat) (p:Part) (hp:w.cell? ⟨gp,0,none⟩=some p.val) (hpo:p.Ok w) (hpm:p.2.length≤1000000):
  Calls Tryz.prog 132 #[.slice A n c,.slice (some ⟨gp,0,none⟩) 1 1] w fun e w'=>e= .returned (.agg (digCells (mac key p.2)))∧Fr [] w w':=by
 have hkl:=hk.length;have hkh:=zh hk;have hpoh:=zh hpo;have hph:=zh hp;clear hk hpo hp;obtain⟨K0,HK0⟩:∃z,Hid ((if 64<key.length then sha key else key)=z):=⟨_,zh rfl⟩
 have HKm:Hid (macKey key=K0++List.replicate (64 - K0.length) 0):=zh (by unfold macKey;rw [HK0.o]);go_enter Tryz.func132,Tryz.ntmps132;go_upto_region 1 with(fail)
 refine wp_gen (fun W=>(∃zs,Blk W w.heap.size 184 zs∧zs.size=32)∧Fr [] w W) ⟨⟨_,Blk.new _ _ _,rfl⟩,(Fr.refl _ _).alloc _⟩ ?_;rintro W0 ⟨⟨zs,hR,hzs⟩,F0⟩;obtain⟨gr,HR⟩:∃z,Hid (w.heap.size=z):=⟨_,zh rfl⟩
 rw [HR.o]at hR⊢;have hgr:w.heap.size≤gr:=by have:=HR.o;omega
 have hRh:=zh hR;have hzsh:=zh hzs;have F0h:=zh F0;clear hR hzs F0;go_upto_if 12 with(fail)
 go_cut [0,5,12]from 13 to 15 (fun s0 s5 s12 wx=>∃(A2:Option Addr) (m d:Nat),s0= .slice A2 m d∧m≤64∧m≤d∧Byts wx A2 m K0∧Fr [] W0 wx)
 case first=>
  by_cases h64:64<key.length
  ·have h64b:(64:Int)<(n:Nat):=by omega
   have hlen:=sha_length key;have hsum:=sum1_t W0 A n c key (hkh.o.fr F0h.o (fun _=>off_nil _)) hc (by omega);have HD:sha key=K0:=by rw [←HK0.o,if_pos h64]
   rw [HD]at hsum hlen;clear HD;clear h64;go_upto_region 3 with(first
    | (go_at_call 145;refine hsum.mono ?_;clear hsum;rintro e W1 ⟨rfl,F1⟩)
    | (refine wpList_store_row rfl 184 _ _ rfl W1.heap.size (digCells K0) rfl rfl 184 _ (Blk.new W1 184 _) (infoDigA hlen) (by rw [digCells_size hlen];rfl) (digCells_one K0) ?_))
   refine wp_gen (fun W2=>Blk W2 W1.heap.size 184 (digCells K0)∧Fr [] W1 W2) ⟨Blk.setRow (Blk.new W1 184 _) _,((Fr.refl _ _).alloc _).setRow (.inr (Nat.le_refl _)) _⟩ ?_;rintro W2 ⟨hB2,F2⟩;obtain⟨gd,HGD⟩:∃z,Hid (W1.heap.size=z):=⟨_,zh rfl⟩
   rw [HGD.o]at hB2⊢;have hgl:=hB2.lt;have hb:=zh (byts_dig hB2 hlen);have f12:=zh (F1.trans F2);clear hB2 F1 F2;go_wp2_with fail
   go_meet;exact⟨_,32,32,rfl,by omega,by omega,hb.o,f12.o⟩
  ·have h64b:¬(64:Int)<(n:Nat):=by omega
   have HD:key=K0:=by rw [←HK0.o,if_neg h64]
   subst HD;have hn64:n≤64:=by omega
   clear h64;go_wp2_with fail
   go_meet;exact⟨A,n,c,rfl,hn64,hc,hkh.o.fr F0h.o (fun _=>off_nil _),Fr.refl _ _⟩
 case rest=>
  obtain⟨A2,m,d,rfl,hm64,hmd,hK,F1⟩:=hcut;have hKl:K0.length=m:=hK.length;have hKh:=zh hK;have hF1:=zh (F0h.o.trans F1);have hRc:=zh (hRh.o.fr F1 (by simp));have hWc:w.heap.size≤wc.heap.size:=hF1.o.size;have hml:=zh hm64;have hKll:Hid (K0.length=m):=zh hKl;clear hK F1 hm64;go_upto_region 5 with(fail)
  refine wp_gen (fun V=>Blk V wc.heap.size 208 (blkCells (List.replicate 64 0))∧Blk V (wc.heap.size+1) 208 (blkCells (List.replicate 64 0))∧Fr [] wc V) ⟨?_,?_,((Fr.refl _ _).alloc _).alloc _⟩ ?_
  ·exact((Blk.new _ _ _).alloc _)
  ·exact Blk.new' _ _ (by simp)
  rintro V0 ⟨hB6,hB7,FV⟩;obtain⟨g6,HG6⟩:∃z,Hid (wc.heap.size=z):=⟨_,zh rfl⟩
  rw [HG6.o]at hB6 hB7⊢;obtain⟨g7,HG7⟩:∃z,Hid (g6+1=z):=⟨_,zh rfl⟩
  rw [HG7.o]at hB7⊢;have hne:g6≠g7:=by have:=HG7.o;omega
  have h6w:w.heap.size≤g6:=by have:=HG6.o;omega
  have h7w:w.heap.size≤g7:=by have:=HG7.o;omega
  have hg6:=hB6.lt;have hg7:=hB7.lt;have hV0:=zh FV;have hB7h:=zh hB7;have hn:(K0.map bv).length=m*1:=by rw [List.length_map];omega
  have hM:Nat.min m 64=m:=Nat.min_eq_left hml.o;have hsrc:0<m→∃a,A2=some a∧∀j v,(K0.map bv)[j]? =some v→V0.cell? (a.add j)=some v:=by have h:=byts_src (Rd.fr hKh.o FV (fun _=>off_nil _)) (Nat.le_refl m);rwa [List.take_of_length_le (by have:=hKll.o;omega)]at h
  have hfit:0+(K0.map bv).length≤(blkCells (List.replicate 64 0)).size:=by rw [blkCells_size,List.length_map,List.length_replicate];have:=hml.o;omega
  have hone:=bv_one K0;clear hB7 FV hKl;go_upto_region 6 with(refine wpList_copy_rows (elem:=5) (size:=1) (cs:=K0.map bv) m rfl rfl rfl rfl tBytes (by kernel_rfl) hB6 hM hn hsrc hfit hone ?_)
  rw [lay_key,←HKm.o];obtain⟨K,HKe⟩:∃z,Hid (macKey key=z):=⟨_,zh rfl⟩
  have hKlen:K.length=64:=by rw [←HKe.o];exact macKey_len key
  rw [HKe.o];refine wp_gen (fun V=>Blk V g6 208 (blkCells K)∧Fr [g6] V0 V) ⟨hB6.setRow _,(Fr.refl _ _).setRow (.inl (by simp)) _⟩ ?_;rintro V1 ⟨hC6,G1⟩;have hC6h:=zh hC6;have hB7:=hB7h.o.fr G1 (by simpa using Ne.symm hne);have hG1:=zh G1;have hsrc:0<m→∃a,A2=some a∧∀j v,(K0.map bv)[j]? =some v→V1.cell? (a.add j)=some v:=by
   have h:=byts_src (Rd.fr (Rd.fr hKh.o hV0.o (fun _=>off_nil _)) G1 (fun h0=>fun ad e=>by
    have h1:=Rd.lt hKh.o (by decide) h0 ad e;have h2:=HG6.o;simp;omega)) (Nat.le_refl m)
   rwa [List.take_of_length_le (by have:=hKll.o;omega)]at h
  clear hC6 G1 hB6;go_upto_region 7 with(refine wpList_copy_rows (elem:=5) (size:=1) (cs:=K0.map bv) m rfl rfl rfl rfl tBytes (by kernel_rfl) hB7 hM hn hsrc hfit hone ?_)
  rw [lay_key,←HKm.o,HKe.o];refine wp_gen (fun V=>Blk V g7 208 (blkCells K)∧Fr [g7] V1 V) ⟨hB7.setRow _,(Fr.refl _ _).setRow (.inl (by simp)) _⟩ ?_;rintro V2 ⟨hC7,G2⟩;have hC6:=hC6h.o.fr G2 (by simpa using hne);have hF2:Hid (Fr [] w V2):=zh ((hF1.o.trans hV0.o).andThen ((hG1.o.mono (S':= [g6,g7]) (by simp)).trans (G2.mono (by simp))) (fun i hi=> .inr (by simp at hi;omega)));have hC6h:=zh hC6;have hC7h:=zh hC7;have hgrl:gr<g6:=by have:=hRc.o.lt;have:=HG6.o;omega
  have hR2:=zh (((hRc.o.fr hV0.o (by simp)).fr hG1.o (by simp;omega)).fr G2 (by simp;have:=HG7.o;omega));clear hsrc hfit hone hM hn hB7 hC6 hC7 G2 hg6 hg7;go_upto_block 0 with(fail)
  go_cut [8,22]from 23 to 35 (fun s8 s22 wx=>Blk wx g6 208 (blkCells (K.map (·^^^54)))∧Blk wx g7 208 (blkCells (K.map (·^^^92)))∧Fr [g6,g7] V2 wx)
  case first=>
   go_wp2_with fail
   go_loopg [8,22] 65 (fun gk s8 s22 wr=>∃(i:Nat),s22= .int .i64 i∧i≤64∧64 - i<gk∧Blk wr g6 208 (blkCells (mixA K 54 i))∧Blk wr g7 208 (blkCells (mixA K 92 i))∧Fr [g6,g7] V2 wr)
   case atStart=>exact⟨0,rfl,by omega,by omega,hC6h.o,hC7h.o,Fr.refl _ _⟩
   case round=>
    obtain⟨i,rfl,hi,hk,h6,h7,hF⟩:=hrel;have hFh:=zh hF;have h6h:=zh h6;have h7h:=zh h7;clear hF;by_cases hlt:i<64
    ·have hlt':(i:Int)<64:=by omega
     have hik:i<K.length:=by omega
     have c6:=h6.cell i;have c7:=h7.cell i;rw [blk_at hik]at c6 c7;have s6:=zh (blk_set (v:=54) hik);have s7:=zh (blk_set (v:=92) hik);obtain⟨k,hkk⟩:∃z,Hid (K[i]'hik=z):=⟨_,zh rfl⟩
     rw [hkk.o]at c6 c7 s6 s7;unfold bv at c6 c7;have x6:=u8_xor_byte k 54 54 rfl;have x7:=u8_xor_byte k 92 92 rfl;have z6:=h6.frozen i;have z7:=h7.frozen i;have l6:=h6.lt;have l7:=h7.lt;have hlth:=zh hlt;clear h6 h7 hkk hlt;clear hik;go_upto_region 11 with(fail)
     refine wp_gen (fun V=>Blk V g6 208 (blkCells (mixA K 54 (i+1)))∧Fr [g6] wr V) ⟨by have:=h6h.o.set i (bv (k^^^54));rw [s6.o]at this;unfold bv at this;rw [←x6]at this;exact this,(Fr.refl _ _).setCell (.inl (by simp)) _⟩ ?_;rintro V3 ⟨n6,G3⟩;have n7:=h7h.o.fr G3 (by simpa using Ne.symm hne);have n7h:=zh n7;have d7:=(n7.cell i).trans ((h7h.o.cell i).symm.trans c7);have y7:=n7.frozen i;have m7:=n7.lt;clear c6 c7 z6 z7 l6 l7 n7 x6;go_upto_region 12 with(fail)
     refine wp_gen (fun V=>Blk V g7 208 (blkCells (mixA K 92 (i+1)))∧Fr [g7] V3 V) ⟨by have:=n7h.o.set i (bv (k^^^92));rw [s7.o]at this;unfold bv at this;rw [←x7]at this;exact this,(Fr.refl _ _).setCell (.inl (by simp)) _⟩ ?_;rintro V4 ⟨q7,G4⟩;have q6:=zh (n6.fr G4 (by simpa using hne));have q7:=zh q7;have hF4:=zh (hFh.o.trans ((G3.mono (S':= [g6,g7]) (by simp)).trans (G4.mono (by simp))));clear n6 G3 G4 d7 y7 m7 x7;go_wp2_with fail
     go_roundg (64 - i)
     case measure=>have:=hlth.o;omega
     case rel=>exact⟨i+1,by go_num,by have:=hlth.o;omega,by have:=hlth.o;omega,q6.o,q7.o,hF4.o⟩
    ·have hlt':¬(i:Int)<64:=by omega
     have h64:i=K.length:=by omega
     rw [h64,mixA_end]at h6 h7;have h6h:=zh h6;have h7h:=zh h7;clear hlt h6 h7 h64;go_wp2_with fail
     go_meet;exact⟨h6h.o,h7h.o,hFh.o⟩
  case rest=>
   obtain⟨h6,h7,G5⟩:=hcut;have hF5:Fr [] w wc:=hF2.o.andThen G5 (fun i hi=> .inr (by simp at hi;omega));have hRr:=zh (hR2.o.fr G5 (by simp;have:=HG7.o;omega));have hli:(K.map (·^^^54)).length=64:=by rw [List.length_map];exact hKlen
   have hlo:(K.map (·^^^92)).length=64:=by rw [List.length_map];exact hKlen
   have hmac:Hid (mac key p.2=sha (K.map (·^^^92)++sha (K.map (·^^^54)++p.2))):=zh (by unfold mac;rw [HKe.o]);obtain⟨KI,HI⟩:∃z,Hid (K.map (·^^^54)=z):=⟨_,zh rfl⟩
   obtain⟨KO,HO⟩:∃z,Hid (K.map (·^^^92)=z):=⟨_,zh rfl⟩
   rw [HI.o]at h6 hli hmac;rw [HO.o]at h7 hlo hmac;have b6:=byts_blk 64 h6 hli;have b7:=zh (byts_blk 64 h7 hlo);have hg6:=h6.lt;have hg7:=h7.lt;have hb7:=zh h7;have hpr:∀V,Fr [] wc V→Rd V 1 (some ⟨gp,0,none⟩) 1 [p.val]:=fun V hF=>⟨rfl,fun _=>⟨gp,0,rfl,fun j u hu=>by
    cases j with
    |zero=>simp at hu;subst hu;exact cell_fr (hF5.trans hF) hph.o
    |succ j=>simp at hu⟩⟩
   have hall:∀V A' c',Fr [] wc V→Rd V 1 A' 2 [.slice (some ⟨g6,0,none⟩) 64 64,p.val]→Calls Tryz.prog 170 #[.slice A' 2 c'] V fun e w'=>e= .returned (.agg (digCells (sha (KI++p.2))))∧Fr [] V w':=fun V A' c' hF hR=>by
    have:=all_t V A' 2 c' [((some ⟨g6,0,none⟩,64,64),KI),p] (by decide) hR (fun q hq=>by
     rcases List.mem_cons.1 hq with rfl |hq
     ·exact⟨Rd.fr b6 hF (fun _=>off_nil _),Nat.le_refl _⟩
     ·rw [List.mem_singleton]at hq;subst hq;exact hpoh.o.fr (hF5.trans hF) (by simp)) (by simp;omega)
    simpa using this
   have hF5h:=zh hF5;clear h6 h7 G5 hF5 hC6h hC7h;go_upto_region 14 with(first
    | (refine wpList_own_append (n:=1) (m:=1) tBsl (Own.made _ #[.slice (some ⟨g6,0,none⟩) 64 64] 23 1 1 1 (by decide) (by decide) rfl) (hpr _ ((Fr.refl _ _).alloc _)) (by simp [Part.val,Value.oneCell']) (by simp) (by decide) (by decide) rfl rfl rfl rfl (fun v' w' hO F hnew=> ?_))
    | (go_at_call 170;obtain⟨A',c',rfl,-⟩:=hO.form;have hF':Fr [] wc w':=((Fr.refl [] wc).alloc _).andThen F (fun i hi=> .inr (by simp [rowOf,Value.ownBlock]at hi;omega));refine(hall w' A' c' hF' hO.rd).mono ?_;rintro e W6 ⟨rfl,F6⟩;have hF6:=zh (hF'.trans F6);clear hO F hnew F6 hF' hall hpr)
    | (refine wpList_store_row rfl 184 _ _ rfl W6.heap.size (digCells (sha (KI++p.2))) rfl rfl 184 _ (Blk.new W6 184 _) (infoDigA (sha_length _)) (by rw [digCells_size (sha_length _)];rfl) (digCells_one _) ?_))
   obtain⟨D1,HD1⟩:∃z,Hid (sha (KI++p.2)=z):=⟨_,zh rfl⟩
   have hD1:D1.length=32:=by rw [←HD1.o];exact sha_length _
   rw [HD1.o]at hmac⊢;refine wp_gen (fun V=>Blk V W6.heap.size 184 (digCells D1)∧Fr [] W6 V) ⟨Blk.setRow (Blk.new W6 184 _) _,((Fr.refl _ _).alloc _).setRow (.inr (Nat.le_refl _)) _⟩ ?_;rintro W7 ⟨hB9,F7⟩;obtain⟨g9,HG9⟩:∃z,Hid (W6.heap.size=z):=⟨_,zh rfl⟩
   rw [HG9.o]at hB9⊢;have b9:=byts_dig hB9 hD1;have hg9:=hB9.lt;have hF7:=zh (hF6.o.trans F7);have b7':=Rd.fr b7.o hF7.o (fun _=>off_nil _);have hRr7:=hRr.o.fr hF7.o (by simp);have hg7':g7<W7.heap.size:=Nat.lt_of_lt_of_le hg7 hF7.o.size;have hgrr:=hRr7.lt;have hall:∀V g,Fr [] W7 V→Blk V g 23 #[.slice (some ⟨g7,0,none⟩) 64 64,.slice (some ⟨g9,0,none⟩) 32 32]→Calls Tryz.prog 170 #[.slice (some ⟨g,0,none⟩) 2 2] V fun e w'=>e= .returned (.agg (digCells (sha (KO++D1))))∧Fr [] V w':=fun V g hF hB=>by
    have:=all_t V (some ⟨g,0,none⟩) 2 2 [((some ⟨g7,0,none⟩,64,64),KO),((some ⟨g9,0,none⟩,32,32),D1)] (by decide) ⟨rfl,fun _=>⟨g,0,rfl,fun j u hu=>by rw [Nat.zero_add,hB.cell,zG];exact hu⟩⟩ (fun q hq=>by
     rcases List.mem_cons.1 hq with rfl |hq
     ·exact⟨Rd.fr b7' hF (fun _=>off_nil _),Nat.le_refl _⟩
     ·rw [List.mem_singleton]at hq;subst hq;exact⟨Rd.fr b9 hF (fun _=>off_nil _),Nat.le_refl _⟩) (by simp;omega)
    simpa using this
   clear hB9 F7 hF6;refine wp_region_z (fun _=>True) [4] (by kernel_rfl) trivial ?_;intro hHeld;refine wpZ_tk (i:=0) (v:= ?_) hHeld ?_ ?_;rotate_left
   ·(intro w hSw;go_simp<;>with_reducible rfl)
   try simp only [zA,zB,zC,Act.put,zD,zE,zF]
   refine wpZ_tk (i:=1) (v:= ?_) hHeld ?_ ?_;rotate_left
   ·(intro w hSw;go_simp<;>with_reducible rfl)
   try simp only [zA,zB,zC,Act.put,zD,zE,zF]
   refine wpZ_one (i:=2) (by kernel_rfl) rfl (fun K hK=> ?_);go_simp;refine hK.out _ _ trivial (fun hHeld=> ?_);clear hK K;try simp only [zA,zB,zC,Act.put,zD,zE,zF]
   refine wpZ_one (i:=3) (by kernel_rfl) rfl (fun K hK=> ?_);go_simp;refine(hall _ _ ((Fr.refl [] W7).drew.alloc _) (Blk.new' _ _ rfl)).mono ?_;clear hall;rintro e W8 ⟨rfl,F8⟩;have F78:Fr [] W7 W8:=(((Fr.refl [] W7).drew.alloc _).trans F8)
   have hR8:=hRr7.fr F78 (by simp);dsimp only;refine hK.out _ _ trivial (fun hHeld=> ?_);clear hK K;try simp only [zA,zB,zC,Act.put,zD,zE,zF]
   refine wpZ_end (i:=4) (by kernel_rfl) rfl rfl (fun K hK=> ?_);rw [if_pos (wanted_none rfl)];refine wp_store_row 184 _ _ rfl gr (digCells (sha (KO++D1))) rfl rfl 184 zs hR8 (infoDigA (sha_length _)) (by rw [digCells_size (sha_length _)];exact hzsh.o) (digCells_one _) ?_;show K (Act.put _ none undef) _;refine hK.out _ _ ?_;clear hK K;try simp only [zA,zB,zC,Act.put,zD,zE,zF]
   refine wpZ_done (by kernel_rfl) ?_ _;go_wp2_with fail
   have F:=(hF5h.o.trans (hF7.o.trans F78)).setRow (g:=gr) (.inr hgr) (digCells (sha (KO++D1)));refine bodyPost_ret (v:= .agg (digCells (sha (KO++D1)))) (results_c (p:=4) rfl _ _ gr 184 _ (0,0) _ rfl (Blk.setRow hR8 _) uDig rfl (infoDigA (sha_length _))) rfl ?_;exact⟨by rw [hmac.o],F⟩
end Go.Proofs.YtopfcgpeaaehgaaGreatDoor
