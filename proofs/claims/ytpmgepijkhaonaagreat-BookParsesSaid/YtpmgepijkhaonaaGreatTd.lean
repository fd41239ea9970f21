/- Walks of the trie: a node of sixteen. Conditions: each theorem's own. -/
import Derived.Test.YtpmgepijkhaonaaGreatTe
namespace Go.Proofs.YtpmgepijkhaonaaGreat.T
open Go.RowKit Go.Sig
def flatN (l:List Pr):List UInt8:=l.flatMap fun y=>szd y.1++szd y.2
theorem flatN_length:∀{l:List Pr},(∀y∈l,y.1.size≤100000∧y.2.size≤100000)→(flatN l).length≤l.length*200008
 | [],_=>by simp [flatN]
 |y::l,h=>by have h1:=h y (by simp);have ih:=flatN_length (l:=l) (fun z hz=>h z (by simp [hz]));unfold flatN at ih⊢;rw [List.flatMap_cons,List.length_append,List.length_append,szd_length,szd_length,List.length_cons];omega
theorem flatN_take {l:List Pr}{i:Nat}(h:i<l.length):flatN (l.take (i+1))=flatN (l.take i)++(szd l[i].1++szd l[i].2):=by
 unfold flatN;rw [List.take_succ_eq_append_getElem h,List.flatMap_append];simp
theorem laid0_t (w:World) (A:Option Addr) (c:Nat):Calls Tryz.prog 165 #[.slice A 0 c] w fun e w'=>e= .returned nilP∧Fr [] w w':=by
 go_enter Tryz.func165,Tryz.ntmps165;go_wp2;go_ret;exact⟨rfl,Fr.refl _ _⟩
theorem off_new {w:World}{A:Option Addr}{g:Nat}(h:∀ad,A=some ad→w.heap.size≤ad.block) (hg:g<w.heap.size):Off [g] A:=by
 intro ad e;have:=h ad e;simp;omega
set_option maxRecDepth 100000 in
set_option maxHeartbeats 4000000 in
theorem laidN_t (w:World) (X:List Nat) (A:Option Addr) (n c:Nat) (l:List Pr) (hR:Rd w 2 A n (pairCells l)) (hn:l.length=n) (h2:2≤n) (hc:n≤c) (hX:∀x∈X,x<w.heap.size) (hA:Off X A) (hs:Small l):
  Calls Tryz.prog 165 #[.slice A n c] w fun e w'=>∃p,e= .returned p∧LeafAt w' X (leafN l) l p∧Fr [] w w':=by
 obtain⟨b,o,rfl,hcell⟩:=hR.2 (by omega);have hbl:b<w.heap.size:=by have:=Rd.lt hR (by decide) (by omega) ⟨b,o,none⟩ rfl;exact this
 have hflat:=flatN_length hs.1;have hl4:=hs.2;have hd0:((n:Int)==0)=false:=by simp;omega
 have hd1:((n:Int)==1)=false:=by simp;omega
 have hd2:decide ((n:Int)=0)=false:=by simp;omega
 have hd3:decide ((n:Int)=1)=false:=by simp;omega
 go_enter Tryz.func165,Tryz.ntmps165;go_upto_region 4 with(fail)
 refine wp_gen (fun W=>Blk W w.heap.size 230 (nodeCells zeroDig (.slice (some ⟨b,o,none⟩) n c) nilP n)∧Fr [] w W) ⟨Blk.new _ _ _,(Fr.refl _ _).alloc _⟩ ?_;rintro W ⟨hB,fW⟩;have hRW:=Rd.fr hR fW (by simp [Off]);obtain⟨g,HG⟩:∃x,Hid (w.heap.size=x):=⟨_,zh rfl⟩
 rw [HG.o]at hB hbl⊢;clear hcell;have hgl:=hB.lt;go_wp2_with fail
 refine(hnew_t W).mono ?_;rintro e W1 ⟨rfl,F1,hge,S1⟩;obtain⟨gh,HGH⟩:∃x,Hid (W1.heap.size - 1=x):=⟨_,zh rfl⟩
 rw [HGH.o]at hge S1⊢;have hB1:=hB.fr F1 (by simp);have hghl:=S1.lt;go_wp2_with fail
 have hbs:Byts (W1.alloc (.cells #[.int .u8 2] 5)) (some ⟨W1.heap.size,0,none⟩) 1 [2]:=byts_bs (b:=2) rfl;refine(hwrite_t _ gh [] [2] _ 1 1 (S1.fr ((Fr.refl [] _).alloc _) (by simp)) hbs (fun _=>by simp [Off];omega) (Nat.le_refl _) (by decide)).mono ?_;rintro e W2 ⟨rfl,F2,S2⟩;have F12:Fr [gh] W W2:=(F1.nil.trans (((Fr.refl [gh] W1).alloc _).trans F2))
 clear hbs F2 S1 hB1 F1;go_upto_block 0 with(fail)
 have hB2:Blk W2 g 230 _:=hB.fr F12 (by simp;omega);have hR2:=Rd.fr hRW F12 (fun _=>by simp [Off];omega);have hgh2:=S2.lt;have hbgh:b≠gh:=by omega
 have f2:Fr [] w W2:=fW.andThen F12 (fun x hx=> .inr (by have:=HG.o;simp at hx;omega));have hggh:g<gh:=Nat.lt_of_lt_of_le hgl hge;have hwgh:w.heap.size≤gh:=Nat.le_trans fW.size hge;clear hB F12 fW hRW hR hge;have hgW2:=f2.size;go_wp2_with fail
 go_loopg [6,41] (n+1) (fun k s6 s41 wr=>∃(i:Nat),s41= .int .i64 i∧i≤n∧n - i<k∧StIn wr gh 320 ([2]++flatN (l.take i))∧Fr [gh] W2 wr)
 case atStart=>exact⟨0,rfl,by omega,by omega,by simpa [flatN]using S2,Fr.refl _ _⟩
 case round=>
  clear S2;obtain⟨i,rfl,hi,hk,S3,F3⟩:=hrel;by_cases hlt:i<n
  ·have hlt':(i:Int)<n:=by omega
   have hlth:=zh hlt;have hi':i<l.length:=by omega
   have hRr:=Rd.fr hR2 F3 (fun _=>by simp [Off];omega);obtain⟨b',o',e,hcell⟩:=hRr.2 (by omega);cases e
   have hp:=pairCells_at hi';have cn:=hcell _ _ hp.1;have cv:=hcell _ _ hp.2;have hsm:=hs.1 l[i] (List.getElem_mem hi');have htk:=zh (flatN_take hi');have hln:([2]++flatN (l.take i)).length≤1+10000*200008:=by
    have:=flatN_length (l:=l.take i) (fun z hz=>hs.1 z (List.mem_of_mem_take hz));simp only [List.length_append,List.length_cons,List.length_nil];rw [List.length_take]at this;have h1:min i l.length≤10000:=by omega
    have h2:min i l.length*200008≤10000*200008:=Nat.mul_le_mul_right _ h1;omega
   have hghr:=S3.lt;have hlnh:=zh hln;clear hp hcell hRr hln;obtain⟨⟨y1,y2⟩,hy⟩:∃x,Hid (l[i]=x):=⟨_,zh rfl⟩
   rw [hy.o]at cn cv hsm htk;simp only at cn cv hsm htk;have hs1:=hsm.1;have hs2:=hsm.2;have ebo:o+i*2+1=o+(i*2+1):=by omega
   have cv2:=cv;rw [←ebo]at cv2;clear ebo;go_upto_region 12 with(fail)
   refine wp_gen (fun W3=>Blk W3 wr.heap.size 191 #[.string y1,.string y2]∧Fr [] wr W3) ⟨Blk.new _ _ _,(Fr.refl _ _).alloc _⟩ ?_;rintro W3 ⟨hBp,F4⟩;have S4:=S3.fr F4 (by simp);have d1:=(hBp.cell 0)
   have d2:=(hBp.cell 1)
   simp only [zG,zH,zI]at d1 d2;have hg3:=S4.lt;have hpl:=hBp.lt;obtain⟨gp,HGP⟩:∃x,Hid (wr.heap.size=x):=⟨_,zh rfl⟩
   rw [HGP.o]at d1 d2 hBp hpl⊢;have hgpg:gh<gp:=by rw [←HGP.o];exact hghr
   clear cn cv cv2 S3;go_wp2_with fail
   refine(sized_t W3 y1 (by omega)).mono ?_;rintro e W5 ⟨A5,c5,rfl,hb5,hc5,hA5,F5⟩;have S5:=S4.fr F5 (by simp);have hBp5:=hBp.fr F5 (by simp);have hg5:=S5.lt;clear S4 hBp d1 d2;go_wp2_with fail
   refine(hwrite_t W5 gh _ (szd y1) A5 (4+y1.size) c5 S5 hb5 (fun _=>off_new hA5 hg3) hc5 (by have:=hlnh.o;omega)).mono ?_;rintro e W6 ⟨rfl,F6,S6⟩;have hBp6:=hBp5.fr F6 (by simp;omega);have d2:=(hBp6.cell 1)
   simp only [zG,zH,zI]at d2;have F36:Fr [gh] wr W6:=F4.nil.trans (F5.nil.trans F6);clear F4 F5 F6 hb5 hA5 hc5 S5 hBp5;have hg6:=S6.lt;go_wp2_with fail
   refine(sized_t W6 y2 (by omega)).mono ?_;rintro e W7 ⟨A7,c7,rfl,hb7,hc7,hA7,F7⟩;have S7:=S6.fr F7 (by simp);have hg7:=S7.lt;clear S6 d2 hBp6;go_wp2_with fail
   refine(hwrite_t W7 gh _ (szd y2) A7 (4+y2.size) c7 S7 hb7 (fun _=>off_new hA7 hg6) hc7 (by have:=hlnh.o;simp only [List.length_append,szd_length]at this⊢;omega)).mono ?_;rintro e W8 ⟨rfl,F8,S8⟩;have F38:Fr [gh] wr W8:=F36.trans (F7.nil.trans F8);clear F36 F7 F8 hb7 hA7 hc7 S7;go_wp2_with fail
   go_roundg (n - i)
   case measure=>omega
   case rel=>refine⟨i+1,by go_num,by have:=hlth.o;omega,by have:=hlth.o;omega,?_,F3.trans F38⟩;rw [htk.o];simpa using S8
  ·have hin:i=n:=by omega
   have hge:¬(i:Int)<n:=by omega
   rw [List.take_of_length_le (by omega)]at S3;have hB3:=hB2.fr F3 (by simp;omega);have hR3:=Rd.fr hR2 F3 (fun _=>by simp [Off];omega);have f3:Fr [] w wr:=f2.andThen F3 (fun x hx=> .inr (by simp at hx;omega));have hlf:([2]++flatN l).length≤150000000000000:=by have:l.length*200008≤10000*200008:=Nat.mul_le_mul_right _ hl4;simp only [List.length_append,List.length_cons,List.length_nil];omega
   subst hin;clear hlt hk hB2 hR2 F3 f2;have hg3:=S3.lt;have hgg:=hB3.lt;go_wp2_with fail
   refine(hsum_t wr gh _ S3 hlf).mono ?_;rintro e W9 ⟨rfl,F9⟩;have hB9:=hB3.fr F9 (by simp);have hR9:=Rd.fr hR3 F9 (by simp [Off]);have f9:=f3.trans F9;have hlen:=sha_length ([2]++flatN l);have hsh:leafN l=sha ([2]++flatN l):=rfl;have hshh:=zh hsh;obtain⟨D,HDD⟩:∃x,Hid (sha ([2]++flatN l)=x):=⟨_,zh rfl⟩
   rw [HDD.o]at hlen⊢;have hB9l:=hB9.lt;clear hsh hB3 hR3 f3 F9 S3;go_wp2_with (refine wpList_store_at rfl 74 _ _ rfl rfl rfl hB9 (infoDigA hlen) (by rw [digCells_size hlen,nodeCells_size rfl];decide) (digCells_one' D) ?_)
   go_ret;refine⟨_,rfl,⟨g,some ⟨b,o,none⟩,c,rfl,fun hx=>by have:=hX g hx;have:=HG.o;omega,?_,by rw [hn];exact Rd.fr hR9 ((Fr.refl [g] W9).setRow (.inl (by simp)) _) (fun _ ad e=>by cases e;simp;omega),by omega,fun _=>hA⟩,f9.setRow (.inr (by have:=HG.o;omega)) _⟩;have hfin:=Blk.setRow hB9 (laid (nodeCells zeroDig (.slice (some ⟨b,o,none⟩) i c) nilP i) 0 (digCells D).toList);rw [laid_dig rfl hlen]at hfin⊢;rw [hshh.o,HDD.o,hn];exact hfin
end Go.Proofs.YtpmgepijkhaonaaGreat.T
namespace Go.Proofs.YtpmgepijkhaonaaGreat.T
open Go.RowKit Go.Sig
theorem node_many {w:World}{X:List Nat}{f:Nat}{l:List Pr}{p:Value}(hN:NodeAt w X f l p):(l= []∧p=nilP)∨(l≠ []∧∃g D s k,p= .pointer (some ⟨g,0,none⟩)∧g∉X∧D.length=32∧Blk w g 230 (nodeCells D s k l.length)):=by
 match f,l,hN with
 |f,[],hN=>exact .inl ⟨rfl,node_nil.1 hN⟩
 |f,[y],hN=>obtain⟨g,A,c,hp,hg,hB,_⟩:=node_one.1 hN;exact .inr ⟨by simp,g,_,_,_,hp,hg,rfl,hB⟩
 | 0,y::z::l,hN=>obtain⟨g,A,c,hp,hg,hB,_⟩:=(node_leaf (by simp)).1 hN;exact .inr ⟨by simp,g,_,_,_,hp,hg,rfl,hB⟩
 |f+1,y::z::l,hN=>obtain⟨ps,⟨g,k,hp,hg,_,hB,_⟩,_⟩:=(node_branch (by simp)).1 hN;exact .inr ⟨by simp,g,_,_,_,hp,hg,dig_length _ _,hB⟩
def kidN (f:Nat) (l:List Pr) (i:Nat):Nat:=((List.range i).map fun k=>(kid f l k).length).sum
theorem kidN_succ (f:Nat) (l:List Pr) (i:Nat):kidN f l (i+1)=kidN f l i+(kid f l i).length:=by
 unfold kidN;rw [List.range_succ,List.map_append,List.sum_append];simp
theorem kidN_le (f:Nat) (l:List Pr) (i:Nat):kidN f l i≤l.length:=by
 unfold kidN;rw [kid_sum];exact List.length_filter_le _ _
def kidD (f:Nat) (l:List Pr) (i:Nat):List UInt8:=(List.range i).flatMap fun k=>dig f (kid f l k)
theorem kidD_succ (f:Nat) (l:List Pr) (i:Nat):kidD f l (i+1)=kidD f l i++dig f (kid f l i):=by
 unfold kidD;rw [List.range_succ,List.flatMap_append];simp
theorem kidD_length (f:Nat) (l:List Pr):∀i,(kidD f l i).length=32*i
 | 0=>rfl
 |i+1=>by rw [kidD_succ,List.length_append,kidD_length f l i,dig_length];omega
def LastOk (f:Nat) (l:List Pr) (ps:List Value) (i:Nat) (v:Value):Prop:=
 ((∀j,j<i→kid f l j= [])∧v=nilP)∨∃j,j<i∧kid f l j≠ []∧v=ps.getD j undef
theorem LastOk.nil {f:Nat}{l:List Pr}{ps:List Value}{i:Nat}{v:Value}(h:LastOk f l ps i v) (hk:kid f l i= []):LastOk f l ps (i+1) v:=by
 rcases h with⟨h1,h2⟩ | ⟨j,h1,h2,h3⟩
 ·exact .inl ⟨fun j hj=>by
   by_cases e:j=i
   ·rw [e];exact hk
   ·exact h1 j (by omega),h2⟩
 ·exact .inr ⟨j,by omega,h2,h3⟩
theorem nodeCells_set {s k:Value}{n:Nat}{v:Int}:(nodeCells zeroDig s k n).setIfInBounds 34 (.int .i64 v)=(zeroDig.map bv++ [s,k,.int .i64 v]).toArray:=by rfl
theorem nodeCells_add {s k:Value}{a b:Nat}:nodeCells zeroDig s k (a+b)=(zeroDig.map bv++ [s,k,.int .i64 ((a:Int)+b)]).toArray:=by
 unfold nodeCells;rw [Int.natCast_add]
theorem tKidsU:Tryz.prog.underlying 232=some (.array 16 186):=by kernel_rfl
theorem infoKids {ps:List Value}(h:ps.length=16):(Tryz.prog.info? 232).map (·.size)=some ps.length:=by rw [h];kernel_rfl
theorem byts_dig {w:World}{g:Nat}{t:TypeId}{l:List UInt8}(h:Blk w g t (digCells l)) (hl:l.length=32):Byts w (some ⟨g,0,none⟩) 32 l:=byts_new h rfl hl
set_option maxRecDepth 100000 in
set_option maxHeartbeats 4000000 in
theorem branch_t (w:World) (X:List Nat) (f:Nat) (l:List Pr) (ps:List Value) (hps:ps.length=16) (hk:∀i,i<16→NodeAt w X f (kid f l i) (ps.getD i undef)) (hX:∀x∈X,x<w.heap.size) (hlen:l.length≤10000):
  Calls Tryz.prog 166 #[.agg ps.toArray] w fun e w'=>∃p,e= .returned p∧NodeAt w' X (f+1) l p∧Fr [] w w':=by
 have hsz:ps.toArray.size=16:=by simpa using hps
 go_enter Tryz.func166,Tryz.ntmps166;go_upto_region 2 with(fail)
 refine wp_gen (fun W=>Blk W w.heap.size 232 ps.toArray∧Blk W (w.heap.size+1) 230 (nodeCells zeroDig (.slice none 0 0) (.pointer (some ⟨w.heap.size,0,none⟩)) 0)∧Fr [] w W) ⟨(Blk.new _ _ _).alloc _,Blk.new' _ _ (by simp),((Fr.refl _ _).alloc _).alloc _⟩ ?_;rintro W ⟨hK,hB,fW⟩;obtain⟨gz,HGK⟩:∃x,Hid (w.heap.size=x):=⟨_,zh rfl⟩
 rw [HGK.o]at hK hB⊢;obtain⟨g,HG⟩:∃x,Hid (gz+1=x):=⟨_,zh rfl⟩
 rw [HG.o]at hB⊢;have hgkg:gz<g:=by have:=HG.o;omega
 have hgl:=hB.lt;go_wp2_with fail
 refine(hnew_t W).mono ?_;rintro e W1 ⟨rfl,F1,hge,S1⟩;obtain⟨gh,HGH⟩:∃x,Hid (W1.heap.size - 1=x):=⟨_,zh rfl⟩
 rw [HGH.o]at hge S1⊢;have hghl:=S1.lt;have hggh:g<gh:=Nat.lt_of_lt_of_le hgl hge;go_wp2_with fail
 have hbs:Byts (W1.alloc (.cells #[.int .u8 1] 5)) (some ⟨W1.heap.size,0,none⟩) 1 [1]:=byts_bs (b:=1) rfl;refine(hwrite_t _ gh [] [1] _ 1 1 (S1.fr ((Fr.refl [] _).alloc _) (by simp)) hbs (fun _=>by simp [Off];omega) (Nat.le_refl _) (by decide)).mono ?_;rintro e W2 ⟨rfl,F2,S2⟩;have F12:Fr [gh] W W2:=(F1.nil.trans (((Fr.refl [gh] W1).alloc _).trans F2))
 have hB2:=hB.fr F12 (by simp;omega);have hK2:=hK.fr F12 (by simp;omega);have f2:Fr [] w W2:=fW.andThen F12 (fun x hx=> .inr (by have:=HGK.o;simp at hx;omega));clear hbs F2 S1 F1 F12 fW hB hK hge;have hghl2:=S2.lt;go_upto_block 0 with(first | (refine wpList_load_at rfl 232 _ rfl rfl hK2 (sub_self _) tKidsU rfl (by rw [Array.length_toList,hsz];kernel_rfl) ?_;rw [Array.toArray_toList]) |fail)
 have hall:∀wr:World,Fr [g,gh] W2 wr→∀i,i<16→NodeAt wr X f (kid f l i) (ps.getD i undef):=fun wr hF i hi=>by refine(hk i hi).fr (S:= [g,gh]) (f2.nil.trans hF) (fun x hx=> .inr ?_);have:=HGK.o;have:=HG.o;simp at hx;omega
 have hallh:=zh hall;clear hall;go_wp2_with fail
 go_loopg [4,7,8,16] 17 (fun k s4 s7 s8 s16 wr=>∃(i:Nat),s16= .int .i64 i∧i≤16∧16 - i<k∧LastOk f l ps i s4∧Blk wr g 230 (nodeCells zeroDig (.slice none 0 0) (.pointer (some ⟨gz,0,none⟩)) (kidN f l i))∧StIn wr gh 320 ([1]++kidD f l i)∧Blk wr gz 232 ps.toArray∧Fr [g,gh] W2 wr)
 case atStart=>exact⟨0,rfl,by omega,by omega,.inl ⟨fun j hj=>by omega,rfl⟩,hB2,by simpa [kidD]using S2,hK2,Fr.refl _ _⟩
 case round=>
  clear S2 hB2 hK2;obtain⟨i,rfl,hi,hkk,hlast,hB3,S3,hK3,F3⟩:=hrel;have hN3:=hallh.o _ F3;by_cases hlt:i<16
  ·have hlt':(i:Int)<16:=by omega
   have hNi:=hN3 i hlt;have hpi:ps.toArray[i]? =some (ps.getD i undef):=by rw [zG,List.getElem?_eq_getElem (by omega)];simp [List.getD,List.getElem?_eq_getElem (show i<ps.length by omega)]
   have hrun:=run_index_arr (P:=Tryz.prog) wr tKidsU hlt (by kernel_rfl) (d:= .pointer 230) (by kernel_rfl) rfl hpi;have hghr:=S3.lt;have hgr:=hB3.lt;have hkl:=kidN_le f l (i+1);have hks:=kidN_succ f l i;have hkd:=kidD_succ f l i;have hkdl:=kidD_length f l i;have hlen1:([1]++kidD f l i).length≤10000:=by simp only [List.length_append,List.length_cons,List.length_nil,hkdl];omega
   rcases node_many hNi with⟨he,hp⟩ | ⟨hne,gq,D,s,kk,hp,hgq,hDl,hBq⟩
   ·have hlenh:=zh hlen1;have hkdh:=zh hkd;obtain⟨Dg,HDg⟩:∃x,Hid (dig f (kid f l i)=x):=⟨_,zh rfl⟩
    rw [hp]at hrun hNi;unfold nilP at hrun hNi;clear hpi hkd hkdl hlen1;go_wp2_with fail
    refine(nsum_t wr X f (kid f l i) (.pointer none) hNi).mono ?_;rintro e W5 ⟨rfl,F5⟩;have hdl:=dig_length f (kid f l i);rw [HDg.o]at hdl⊢;go_upto_region 12 with(refine wpList_store_row rfl 74 _ _ rfl W5.heap.size (digCells Dg) rfl rfl 74 _ (Blk.new W5 74 _) (infoDigA hdl) (by rw [digCells_size hdl];rfl) (digCells_one Dg) ?_)
    refine wp_gen (fun W6=>Blk W6 W5.heap.size 74 (digCells Dg)∧Fr [] W5 W6) ⟨Blk.setRow (Blk.new W5 74 _) _,((Fr.refl _ _).alloc _).setRow (.inr (Nat.le_refl _)) _⟩ ?_;rintro W6 ⟨hDD,F6⟩;have F56:=F5.trans F6;have S6:=S3.fr F56 (by simp);have hb6:=byts_dig hDD hdl;have hg6:=S6.lt;have hghs5:gh<W5.heap.size:=by have:=F5.size;have:=hghr;omega
    clear F5 F6;obtain⟨g5,HG5⟩:∃x,Hid (W5.heap.size=x):=⟨_,zh rfl⟩
    rw [HG5.o]at hDD hb6 hghs5⊢;go_wp2_with fail
    refine(hwrite_t W6 gh _ Dg _ 32 32 S6 hb6 (fun _=>by simp [Off];omega) (Nat.le_refl _) (by have:=hlenh.o;omega)).mono ?_;rintro e W7 ⟨rfl,F7,S7⟩;have F37:Fr [gh] wr W7:=F56.nil.trans F7;clear F56 F7 S6 hb6 hDD;go_wp2_with fail
    go_roundg (16 - i)
    case measure=>omega
    case rel=>
     have FF:Fr [g,gh] wr W7:=F37.mono (fun x hx=>by simp at hx;simp [hx]);refine⟨i+1,by go_num,by omega,by omega,hlast.nil he,?_,?_,hK3.fr FF (by simp;omega),F3.trans FF⟩
     ·rw [hks,he];exact hB3.fr F37 (by simp;omega)
     ·rw [hkdh.o,HDg.o,←List.append_assoc];exact S7
   ·have hlenh:=zh hlen1;have hkdh:=zh hkd;obtain⟨Dg,HDg⟩:∃x,Hid (dig f (kid f l i)=x):=⟨_,zh rfl⟩
    have hlast2:=zh (show LastOk f l ps (i+1) (ps.getD i undef)from .inr ⟨i,by omega,hne,rfl⟩);rw [hp]at hrun hNi hlast2;have cq:=(hBq.cell 34).trans (nodeCells_at hDl).2.2;have cg:=(hB3.cell 34).trans (nodeCells_at (D:=zeroDig) rfl).2.2;have fg:=hB3.frozen 34;have hql:=hBq.lt;have hqg:gq≠g:=by
     rintro rfl;have h1:=hk i hlt;rw [hp]at h1;rcases node_many h1 with⟨_,h2⟩ | ⟨_,g2,_,_,_,h2,_,_,hB2⟩
     ·cases h2
     ·cases h2
      have:=hB2.lt;have:=HGK.o;omega
    have hksh:=zh hks;have hsum:(kidN f l i:Int)+(kid f l i).length≤10000:=by omega
    clear hpi hkd hkdl hlen1 hks;go_upto_region 9 with(fail)
    go_region
    go_upto_region 10 with(fail)
    refine wp_gen (fun W4=>Blk W4 g 230 (nodeCells zeroDig (.slice none 0 0) (.pointer (some ⟨gz,0,none⟩)) (kidN f l (i+1)))∧Fr [g] wr W4) ⟨?_,((Fr.refl _ _).setCell (.inl (by simp)) _).drew⟩ ?_
    ·have:=(hB3.set 34 (.int .i64 ((kidN f l i:Int)+(kid f l i).length))).drew;rw [nodeCells_set]at this;rw [hksh.o,nodeCells_add];exact this
    rintro W4 ⟨hB4,F4⟩;have hN4:=hallh.o _ (F3.trans (F4.mono (fun x hx=>by simp at hx;simp [hx]))) i hlt;rw [hp]at hN4;have S4:=S3.fr F4 (by simp;omega);have hgh4:=S4.lt;clear cq cg fg hB3 S3 hNi;go_wp2_with fail
    refine(nsum_t W4 X f (kid f l i) (.pointer (some ⟨gq,0,none⟩)) hN4).mono ?_;rintro e W5 ⟨rfl,F5⟩;have hdl:=dig_length f (kid f l i);rw [HDg.o]at hdl⊢;go_upto_region 12 with(refine wpList_store_row rfl 74 _ _ rfl W5.heap.size (digCells Dg) rfl rfl 74 _ (Blk.new W5 74 _) (infoDigA hdl) (by rw [digCells_size hdl];rfl) (digCells_one Dg) ?_)
    refine wp_gen (fun W6=>Blk W6 W5.heap.size 74 (digCells Dg)∧Fr [] W5 W6) ⟨Blk.setRow (Blk.new W5 74 _) _,((Fr.refl _ _).alloc _).setRow (.inr (Nat.le_refl _)) _⟩ ?_;rintro W6 ⟨hDD,F6⟩;have F56:=F5.trans F6;have S6:=S4.fr F56 (by simp);have hb6:=byts_dig hDD hdl;have hg6:=S6.lt;have hghs5:gh<W5.heap.size:=by have:=F5.size;have:=hgh4;omega
    clear F5 F6;obtain⟨g5,HG5⟩:∃x,Hid (W5.heap.size=x):=⟨_,zh rfl⟩
    rw [HG5.o]at hDD hb6 hghs5⊢;go_wp2_with fail
    refine(hwrite_t W6 gh _ Dg _ 32 32 S6 hb6 (fun _=>by simp [Off];omega) (Nat.le_refl _) (by have:=hlenh.o;omega)).mono ?_;rintro e W7 ⟨rfl,F7,S7⟩;have F37:Fr [gh] W4 W7:=F56.nil.trans F7;clear F56 F7 S6 hb6 hDD;go_wp2_with fail
    go_roundg (16 - i)
    case measure=>omega
    case rel=>
     have FF:Fr [g,gh] wr W7:=(F4.mono (fun x hx=>by simp at hx;simp [hx])).trans (F37.mono (fun x hx=>by simp at hx;simp [hx]));refine⟨i+1,by go_num,by omega,by omega,hlast2.o,?_,?_,hK3.fr FF (by simp;omega),F3.trans FF⟩
     ·exact hB4.fr F37 (by simp;omega)
     ·rw [hkdh.o,HDg.o,←List.append_assoc];exact S7
  ·have hi16:i=16:=by omega
   subst hi16;have hge:¬((16:Nat):Int)<16:=by omega
   have hks16:kidN f l 16=l.length:=kid_sum16 f l;rw [hks16]at hB3;have f3:Fr [] w wr:=f2.andThen F3 (fun x hx=> .inr (by have:=HGK.o;have:=HG.o;simp at hx;omega));have cg:=(hB3.cell 34).trans (nodeCells_at (D:=zeroDig) rfl).2.2;have hks16h:=zh hks16;clear hlt hkk hi hks16;by_cases hone:l.length≤1
   ·have hone':(l.length:Int)≤1:=by omega
    go_wp2;go_ret;refine⟨_,rfl,?_,f3⟩;match l,hone,hlast,hN3,hks16h with
    | [],_,hlast,hN3,_=>
     rcases hlast with⟨_,h2⟩ | ⟨j,_,h2,_⟩
     ·rw [h2];exact node_nil.2 rfl
     ·exact absurd rfl h2
    | [y],_,hlast,hN3,hks=>
     have hkid:∀j,kid f [y] j= []∨kid f [y] j= [y]:=fun j=>by
      unfold kid;by_cases h:nib (pathOf y.1) (63 - f)=j
      ·right;simp [h]
      ·left;simp [h]
     rcases hlast with⟨h1,_⟩ | ⟨j,hj,h2,h3⟩
     ·exfalso;have:kidN f [y] 16=0:=by
       unfold kidN;have e:(List.range 16).map (fun k=>(kid f [y] k).length)=(List.range 16).map (fun _=>0):=by apply List.map_congr_left;intro k hk;rw [h1 k (List.mem_range.1 hk)];rfl
       rw [e];rfl
      have h5:=hks.o;rw [this]at h5;simp at h5
     ·rw [h3];have h4:=hN3 j hj;rw [(hkid j).resolve_left h2]at h4;rw [node_one]at h4⊢;exact h4
   ·have hone':¬(l.length:Int)≤1:=by omega
    have hkdl:=kidD_length f l 16;have hlf:([1]++kidD f l 16).length≤150000000000000:=by simp only [List.length_append,List.length_cons,List.length_nil,hkdl];omega
    have hgr:=hB3.lt;have hghr:=S3.lt;go_wp2_with fail
    refine(hsum_t wr gh _ S3 hlf).mono ?_;rintro e W9 ⟨rfl,F9⟩;have hB9:=hB3.fr F9 (by simp);have hK9:=hK3.fr F9 (by simp);have f9:=f3.trans F9;have hlen9:=sha_length ([1]++kidD f l 16);have hsh:dig (f+1) l=sha ([1]++kidD f l 16):=byLen_two (by omega) _ _ _;have hshh:=zh hsh;obtain⟨D,HDD⟩:∃x,Hid (sha ([1]++kidD f l 16)=x):=⟨_,zh rfl⟩
    rw [HDD.o]at hlen9⊢;have hB9l:=hB9.lt;clear hsh hB3 f3 F9 S3 cg;go_wp2_with (refine wpList_store_at rfl 74 _ _ rfl rfl rfl hB9 (infoDigA hlen9) (by rw [digCells_size hlen9,nodeCells_size rfl];decide) (digCells_one' D) ?_)
    go_ret;have hgX:g∉X:=fun hx=>by have:=hX g hx;have:=HGK.o;have:=HG.o;omega
    have hkX:gz∉X:=fun hx=>by have:=hX gz hx;have:=HGK.o;omega
    have FR:Fr [g] W9 (W9.setRow g (laid (nodeCells zeroDig (.slice none 0 0) (.pointer (some ⟨gz,0,none⟩)) l.length) 0 (digCells D).toList)):=(Fr.refl [g] W9).setRow (.inl (by simp)) _;refine⟨_,rfl,(node_branch (by omega)).2 ⟨ps,⟨g,gz,rfl,hgX,hkX,?_,hK9.fr FR (by simp;omega),hps⟩,fun i hi=> ?_⟩,f9.setRow (.inr (by have:=HGK.o;have:=HG.o;omega)) _⟩
    ·have hfin:=Blk.setRow hB9 (laid (nodeCells zeroDig (.slice none 0 0) (.pointer (some ⟨gz,0,none⟩)) l.length) 0 (digCells D).toList);rw [laid_dig rfl hlen9]at hfin⊢;rw [hshh.o,HDD.o];exact hfin
    ·refine(hk i hi).fr (S:= [g]) (f9.nil.trans FR) (fun x hx=> .inr ?_);have:=HGK.o;have:=HG.o;simp at hx;omega
end Go.Proofs.YtpmgepijkhaonaaGreat.T
