/- Walks of the trie: Del. Conditions: each theorem's own. -/
import Derived.Test.YtpmgepijkhaonaaGreatTj
namespace Go.Proofs.YtpmgepijkhaonaaGreat.T
open Go.RowKit Go.Sig
theorem cell_row {w:World}{b o:Nat}{v:Value}{g:Nat}{cs:Array Value}(hne:b≠g) (h:w.cell? ⟨b,o,none⟩=some v):(w.setRow g cs).cell? ⟨b,o,none⟩=some v:=(((Fr.refl [g] w).setRow (.inl (by simp)) cs).cell (block_lt_of_cell h) (by simpa using hne)).trans h
def TrieIn (w:World) (X:List Nat) (t:Nat) (l:List Pr):Prop:=∃p,Blk w t 188 #[p]∧NodeAt w X 64 l p∧t∈X∧∀g∈X,g<w.heap.size
structure Good (l:List Pr):Prop where
 rising:Rising l
 fits:∀y∈l,(1≤y.1.size∧y.1.size≤64)∧y.2.size≤60000
 few:l.length≤4096
theorem Good.small {l:List Pr}(h:Good l):Small l:=⟨fun y hy=>by have:=h.fits y hy;omega,by have:=h.few;omega⟩
def getRes (o:Option ByteArray):Value:= .tuple #[.string (o.getD ⟨#[]⟩),.int .i64 (if o.isSome then 0 else 7)]
set_option maxRecDepth 100000 in
set_option maxHeartbeats 4000000 in
theorem get_t (w:World) (X:List Nat) (t:Nat) (l:List Pr) (s:ByteArray) (hs:s.size≤150000000000000) (hT:TrieIn w X t l) (_hr:Rising l) (hsm:Small l):
  Calls Tryz.prog 115 #[.pointer (some ⟨t,0,none⟩),.string s] w fun e w'=>e= .returned (getRes (aget s l))∧Fr [] w w':=by
 obtain⟨p,hB,hN,htX,hX⟩:=hT;have hct:=hB.cell 0;simp only [zG,zH]at hct;have htl:=hB.lt;obtain⟨cW,cC,hcv,hcF,hcB,hcS,hcc⟩:=conv_any s;obtain⟨D,HD⟩:∃z,Hid (pathOf s=z):=⟨_,zh rfl⟩
 have hsD:=zh (show sha s.data.toList=D from HD.o);have hDl:D.length=32:=by rw [←HD.o];rfl
 go_enter Tryz.func115,Tryz.ntmps115;go_upto_region 3 with(fail)
 go_cut [6,7]from 13 to 19 (fun s6 s7 wx=>s6=p∧∃gp,s7= .pointer (some ⟨gp,0,none⟩)∧Blk wx gp 192 (digCells D)∧Fr [] w wx)
 case first=>
  refine wp_region_held_drew (S:=fun w'=>w'.cell? ⟨t,0,none⟩=some p) (by kernel_rfl) (show w.drew.cell? _=_ from hct) ?_;intro hHeld;refine wpAnyH_take (i:=0) (v:= ?_) rfl (by kernel_rfl) (by kernel_rfl) (by kernel_rfl) (fun _ _ _ h=>h) (Or.inl ⟨by rfl,?_⟩) hHeld ?_;rotate_left
  ·(intro w hSw;go_simp<;>with_reducible rfl)
  try simp only [Act.put,zD]
  refine wpAnyH_take (i:=1) (v:= ?_) rfl (by kernel_rfl) (by kernel_rfl) (by kernel_rfl) (fun _ _ _ h=>h) (Or.inl ⟨by rfl,?_⟩) hHeld ?_;rotate_left
  ·(intro w hSw;go_simp<;>with_reducible rfl)
  try simp only [Act.put]
  refine wpAnyH_take (i:=2) (v:= ?_) rfl (by kernel_rfl) (by kernel_rfl) (by kernel_rfl) (fun _ _ _ h=>h) (Or.inl ⟨by rfl,?_⟩) hHeld ?_;rotate_left
  ·(intro w hSw;go_simp<;>with_reducible rfl)
  try simp only [Act.put]
  refine wpAnyH_take (i:=3) (v:= ?_) rfl (by kernel_rfl) (by kernel_rfl) (by kernel_rfl) (fun _ _ _ h=>h) (Or.inl ⟨by rfl,?_⟩) hHeld ?_;rotate_left
  ·(intro w hSw;go_simp<;>with_reducible rfl)
  try simp only [Act.put]
  refine wpAnyH_take (i:=4) (v:= ?_) rfl (by kernel_rfl) (by kernel_rfl) (by kernel_rfl) (fun _ _ _ h=>h) (Or.inl ⟨by rfl,?_⟩) hHeld ?_;rotate_left
  ·(intro w hSw;go_simp<;>with_reducible rfl)
  try simp only [Act.put]
  refine wpAnyH_ready (rs:= [5,7]) (by kernel_rfl) (by simp) ?_;refine AllReadyH.cons rfl (fun K hK=> ?_) (AllReadyH.cons rfl (fun K hK=> ?_) AllReadyH.nil)
  ·go_simp;refine hK.out _ _ (cell_fr (hcF _) hct) (fun hHeld=> ?_);clear hK K;try simp only [Act.put,zD,zE,zF]
   refine wpAnyH_ready (rs:= [6,7]) (by kernel_rfl) (by simp) ?_;refine AllReadyH.cons rfl (fun K hK=> ?_) (AllReadyH.cons rfl (fun K hK=> ?_) AllReadyH.nil)
   ·go_simp;go_wp2_with fail
    refine(sum1_t (cW w.drew) _ _ _ _ (hcB _ _ rfl) (hcc _) (by omega)).mono ?_;rintro e W2 ⟨rfl,F2⟩;rw [hsD.o];dsimp only;refine hK.out _ _ (cell_fr F2 (cell_fr (hcF _) hct)) (fun hHeld=> ?_);clear hK K;try simp only [Act.put,zD,zE,zF]
    refine wpAnyH_ready (rs:= [7]) (by kernel_rfl) (by simp) ?_;refine AllReadyH.cons rfl (fun K hK=> ?_) AllReadyH.nil;go_simp;refine hK.out _ _ (cell_al (cell_fr F2 (cell_fr (hcF _) hct))) (fun hHeld=> ?_);clear hK K;try simp only [Act.put,zD,zE,zF]
    refine wpAnyH_take (i:=8) (v:= ?_) rfl (by kernel_rfl) (by kernel_rfl) (by kernel_rfl) (fun _ _ _ h=>h) (Or.inl ⟨by rfl,?_⟩) hHeld ?_;rotate_left
    ·(intro w hSw;go_simp<;>with_reducible rfl)
    try simp only [Act.put,zD]
    simp only [zA,zB,zC,zE,zF];refine wpAnyH_ready (rs:= [9]) (by kernel_rfl) (by simp) ?_;refine AllReadyH.cons rfl (fun K hK=> ?_) AllReadyH.nil;rw [if_pos (by rfl)];refine wp_store_row 192 _ _ rfl W2.heap.size (digCells D) rfl rfl 192 _ (Blk.new W2 192 _) (by rw [digCells_size hDl];kernel_rfl) (by rw [digCells_size hDl];rfl) (digCells_one D) ?_;refine hK.out _ _ (cell_row (by have:=block_lt_of_cell hct;have:=((hcF w.drew).trans F2).size;simp at this;omega) (cell_al (cell_fr F2 (cell_fr (hcF _) hct)))) (fun hHeld=> ?_);clear hK K;try simp only [Act.put,zD]
    refine wpAnyH_done (by kernel_rfl) ?_ _;go_wp2_with fail
    go_meet;exact⟨rfl,W2.heap.size,rfl,Blk.setRow (Blk.new W2 192 _) _,((((Fr.refl [] w).drew.trans (hcF _)).trans F2).alloc _).setRow (.inr (by have:=((hcF w.drew).trans F2).size;simp at this;omega)) _⟩
   ·go_simp;refine hK.out _ _ (cell_al (cell_fr (hcF _) hct)) (fun hHeld=> ?_);clear hK K;try simp only [Act.put,zD,zE,zF]
    refine wpAnyH_ready (rs:= [6]) (by kernel_rfl) (by simp) ?_;refine AllReadyH.cons rfl (fun K hK=> ?_) AllReadyH.nil;go_simp;go_wp2_with fail
    refine(sum1_t ((cW w.drew).alloc _) _ _ _ _ (byts_alloc (hcB _ _ rfl)) (hcc _) (by omega)).mono ?_;rintro e W2 ⟨rfl,F2⟩;rw [hsD.o];dsimp only;refine hK.out _ _ (cell_fr F2 (cell_al (cell_fr (hcF _) hct))) (fun hHeld=> ?_);clear hK K;try simp only [Act.put,zD,zE,zF]
    refine wpAnyH_take (i:=8) (v:= ?_) rfl (by kernel_rfl) (by kernel_rfl) (by kernel_rfl) (fun _ _ _ h=>h) (Or.inl ⟨by rfl,?_⟩) hHeld ?_;rotate_left
    ·(intro w hSw;go_simp<;>with_reducible rfl)
    try simp only [Act.put,zD]
    simp only [zA,zB,zC,zE,zF];refine wpAnyH_ready (rs:= [9]) (by kernel_rfl) (by simp) ?_;refine AllReadyH.cons rfl (fun K hK=> ?_) AllReadyH.nil;rw [if_pos (by rfl)];refine wp_store_row 192 _ _ rfl _ (digCells D) rfl rfl 192 _ ((Blk.new' (w:=cW w.drew) (g:=w.heap.size+1) 192 _ (by simp [hcS])).fr F2 (by simp)) (by rw [digCells_size hDl];kernel_rfl) (by rw [digCells_size hDl];rfl) (digCells_one D) ?_;refine hK.out _ _ (cell_row (by have:=block_lt_of_cell hct;omega) (cell_fr F2 (cell_al (cell_fr (hcF _) hct)))) (fun hHeld=> ?_);clear hK K;try simp only [Act.put,zD]
    refine wpAnyH_done (by kernel_rfl) ?_ _;go_wp2_with fail
    go_meet;exact⟨rfl,_,rfl,Blk.setRow ((Blk.new' (w:=cW w.drew) (g:=w.heap.size+1) 192 _ (by simp [hcS])).fr F2 (by simp)) _,(((((Fr.refl [] w).drew.trans (hcF _))).alloc _).trans F2).setRow (.inr (by omega)) _⟩
  ·go_simp;refine hK.out _ _ (cell_al (cell_dr hct)) (fun hHeld=> ?_);clear hK K;try simp only [Act.put,zD,zE,zF]
   refine wpAnyH_ready (rs:= [5]) (by kernel_rfl) (by simp) ?_;refine AllReadyH.cons rfl (fun K hK=> ?_) AllReadyH.nil;go_simp;refine hK.out _ _ (cell_fr (hcF _) (cell_al (cell_dr hct))) (fun hHeld=> ?_);clear hK K;try simp only [Act.put,zD,zE,zF]
   refine wpAnyH_ready (rs:= [6]) (by kernel_rfl) (by simp) ?_;refine AllReadyH.cons rfl (fun K hK=> ?_) AllReadyH.nil;go_simp;go_wp2_with fail
   refine(sum1_t (cW (w.drew.alloc _)) _ _ _ _ (hcB _ _ (by simp)) (hcc _) (by omega)).mono ?_;rintro e W2 ⟨rfl,F2⟩;rw [hsD.o];dsimp only;refine hK.out _ _ (cell_fr F2 (cell_fr (hcF _) (cell_al (cell_dr hct)))) (fun hHeld=> ?_);clear hK K;try simp only [Act.put,zD,zE,zF]
   refine wpAnyH_take (i:=8) (v:= ?_) rfl (by kernel_rfl) (by kernel_rfl) (by kernel_rfl) (fun _ _ _ h=>h) (Or.inl ⟨by rfl,?_⟩) hHeld ?_;rotate_left
   ·(intro w hSw;go_simp<;>with_reducible rfl)
   try simp only [Act.put,zD]
   simp only [zA,zB,zC,zE,zF];refine wpAnyH_ready (rs:= [9]) (by kernel_rfl) (by simp) ?_;refine AllReadyH.cons rfl (fun K hK=> ?_) AllReadyH.nil;rw [if_pos (by rfl)];refine wp_store_row 192 _ _ rfl _ (digCells D) rfl rfl 192 _ (((Blk.new w.drew 192 _).fr (hcF _) (by simp)).fr F2 (by simp)) (by rw [digCells_size hDl];kernel_rfl) (by rw [digCells_size hDl];rfl) (digCells_one D) ?_;refine hK.out _ _ (cell_row (by have:=block_lt_of_cell hct;simp;omega) (cell_fr F2 (cell_fr (hcF _) (cell_al (cell_dr hct))))) (fun hHeld=> ?_);clear hK K;try simp only [Act.put,zD]
   refine wpAnyH_done (by kernel_rfl) ?_ _;go_wp2_with fail
   go_meet;exact⟨rfl,_,rfl,Blk.setRow (((Blk.new w.drew 192 _).fr (hcF _) (by simp)).fr F2 (by simp)) _,(((((Fr.refl [] w).drew.alloc _).trans (hcF _))).trans F2).setRow (.inr (Nat.le_refl _)) _⟩
 case rest=>
  obtain⟨rfl,gp,rfl,hBp,fW⟩:=hcut;have hk0:w.heap.size≤wc.heap.size:=fW.size;have hBp0:=hBp;have hNc:NodeAt wc X 64 l u6:=hN.fr0 fW;have hgpl:=hBp.lt;clear hB hN hct hcv hcF hcB hcS hcc hBp;go_upto_block 0 with(fail)
  go_cut [6,8]from 20 to 40 (fun s6 s8 wx=>∃l',(l'= []∧s6=nilP∨l'≠ []∧∃D',D'.length=32∧LeafAt wx X D' l' s6)∧aget s l'=aget s l∧l'.length≤10000∧Fr [] wc wx)
  case first=>
   go_wp2_with fail
   go_loopg [6,8] 65 (fun gk s6 s8 wr=>∃(f:Nat) (l':List Pr),s8= .int .i64 ((64 - f:Nat):Int)∧f≤64∧f<gk∧NodeAt wr X f l' s6∧aget s l'=aget s l∧l'.length≤10000∧Fr [] wc wr)
   case atStart=>exact⟨64,l,rfl,by omega,by omega,hNc,rfl,hsm.2,Fr.refl _ _⟩
   case round=>
    clear hNc;obtain⟨f,l',rfl,hf,hk,hN',hag,hlen,hF⟩:=hrel;have hcase:(l'= []∧u6=nilP)∨(l'≠ []∧∃D',D'.length=32∧LeafAt wr X D' l' u6)∨∃f',f=f'+1∧∃ps D',D'.length=32∧BranchAt wr X D' l'.length ps u6∧∀i,i<16→NodeAt wr X f' (kid f' l' i) (ps.getD i undef):=by
     match f,l',hN' with
     |f,[],hN'=>exact .inl ⟨rfl,node_nil.1 hN'⟩
     |f,[y],hN'=>exact .inr (.inl ⟨by simp,_,rfl,node_one.1 hN'⟩)
     | 0,y::z::l',hN'=>exact .inr (.inl ⟨by simp,_,rfl,(node_leaf (by simp)).1 hN'⟩)
     |f+1,y::z::l',hN'=>obtain⟨ps,h1,h2⟩:=(node_branch (by simp)).1 hN';exact .inr (.inr ⟨f,rfl,ps,_,dig_length _ _,h1,h2⟩)
    have hagh:=zh hag;clear hag hN';rcases hcase with⟨hl0,rfl⟩ | ⟨hl0,D',hD',hL⟩ | ⟨f',rfl,ps,D',hD',⟨gq,kq,rfl,hgq,hkq,hBq,hKq,hps⟩,hkids⟩
    ·unfold nilP;go_wp2;go_meet;exact⟨l',.inl ⟨hl0,rfl⟩,hagh.o,hlen,hF⟩
    ·obtain⟨gq,A,c,rfl,hgq,hBq,hR,hc,hA⟩:=hL;have c33:=(hBq.cell 33).trans (nodeCells_at hD').2.1;have hql:=hBq.lt;unfold nilP at c33;go_wp2;go_meet;exact⟨l',.inr ⟨hl0,D',hD',⟨gq,A,c,rfl,hgq,hBq,hR,hc,hA⟩⟩,hagh.o,hlen,hF⟩
    ·have c33:=(hBq.cell 33).trans (nodeCells_at hD').2.1;have hql:=hBq.lt;have hkl:=hKq.lt;have hBp:=hBp0.fr hF (by simp);obtain⟨dp,HDP⟩:∃z,Hid (63 - f'=z):=⟨_,zh rfl⟩
     have hdp:dp<64:=by have:=HDP.o;omega
     have hdeq:64 - (f'+1)=dp:=by have:=HDP.o;omega
     rw [hdeq];have hdn:(64 - f':Nat)=dp+1:=by have:=HDP.o;omega
     have hnl:=nib_lt D dp;obtain⟨q,HQ⟩:∃z,Hid (nib D dp=z):=⟨_,zh rfl⟩
     rw [HQ.o]at hnl;have hq16:(q:Int)<16:=by omega
     have ckq:wr.cell? ⟨kq,q,none⟩=some (ps.getD q undef):=by rw [hKq.cell,zG];exact getD_some (by omega)
     have hNq:=zh (hkids q hnl);obtain⟨pq,HPQ⟩:∃z,Hid (ps.getD q undef=z):=⟨_,zh rfl⟩
     rw [HPQ.o]at ckq hNq;have hkag:=zh (aget_kid (f:=f') (s:=s) (l:=l'));have hklen:=kid_length_le f' l' q;have hrg:=range_blk hBp;have hu:=uPath;have hi:=infoPathL hDl;have hdnh:=zh hdn;have hgpl:=hBp.lt;clear hkids hKq hBq hps hdn hdeq;go_upto_region 7 with(fail)
     go_region_held_law (fun w'=>w'.cell? ⟨gq,33,none⟩=some (.pointer (some ⟨kq,0,none⟩))∧w'.cell? ⟨kq,q,none⟩=some pq∧w'.rangeAt gp 0 (D.map bv)) ((first |exact⟨c33,ckq,hrg⟩ |exact⟨m1,m2,m3⟩))
      (first
        | (try go_simp
           go_at_call 164
           refine(at_t _ D dp hDl hdp).mono ?_;rintro e w' ⟨rfl,F2⟩;rw [HQ.o];have F3:Fr [] wr w':=F2.of_drew;have m1:=cell_fr F3 c33;have m2:=cell_fr F3 ckq;have m3:=range_fr0 F3 hrg;dsimp only))
     go_wp2;go_roundg (f'+1)
     case measure=>omega
     case rel=>
      refine⟨f',kid f' l' q,?_,by omega,by omega,hNq.o.fr0 F3,?_,Nat.le_trans hklen hlen,hF.trans F3⟩
      ·rw [hdnh.o]
       go_num
      ·have:=hkag.o;rw [HD.o,HDP.o,HQ.o]at this;rw [this];exact hagh.o
  case rest=>
   obtain⟨l',hcase,hag,hlen,hF⟩:=hcut;have f2:=fW.trans hF;clear hNc hBp0;have hagh:=zh hag;clear hag;rcases hcase with⟨rfl,rfl⟩ | ⟨hl0,D',hD',⟨gq,A,c,rfl,hgq,hBq,hR,hc,hA⟩⟩
   ·unfold nilP;go_wp2;go_ret2;rw [←hagh.o];exact⟨rfl,f2⟩
   ·have c32:=(hBq.cell 32).trans (nodeCells_at hD').1;have hql:=hBq.lt;obtain⟨n,hn⟩:∃n,l'.length=n:=⟨_,rfl⟩
    rw [hn]at c32 hR hc hA hlen;go_wp2_with fail
    go_loopg [10,48] (n+1) (fun gk s10 s48 wr=>∃(i:Nat),s48= .int .i64 i∧i≤n∧n - i<gk∧aget s (l'.drop i)=aget s l'∧Fr [] wc wr)
    case atStart=>exact⟨0,rfl,by omega,by omega,by simp,Fr.refl _ _⟩
    case round=>
     obtain⟨i,rfl,hi,hk,hag2,hF2⟩:=hrel;have hag2h:=zh hag2;clear hag2;by_cases hlt:i<n
     ·have hlt':(i:Int)<n:=by omega
      have hlth:=zh hlt;have hi':i<l'.length:=by omega
      have hRr:=Rd.fr hR hF2 (by simp [Off]);obtain⟨b,o,rfl,hcell⟩:=hRr.2 (by omega);have hp:=pairCells_at hi';have cn:=hcell _ _ hp.1;have cv:=hcell _ _ hp.2;rw [←Nat.add_assoc]at cv;have hdr:=zh (List.drop_eq_getElem_cons hi');clear hp hcell hRr;obtain⟨⟨y1,y2⟩,hy⟩:∃z,Hid (l'[i]=z):=⟨_,zh rfl⟩
      rw [hy.o]at cn cv hdr;simp only at cn cv;have htb:=toList_beq y1 s;by_cases hyk:y1=s
      ·have hyh:=zh hyk;rw [show decide (y1=s)=true by simpa using hyk]at htb;clear hyk;go_wp2;go_ret2;have e:aget s l'=some y2:=by
        rw [←hag2h.o,hdr.o];simp [aget,hyh.o]
       refine⟨?_,(f2.trans hF2).alloc _⟩;rw [←hagh.o,e];rfl
      ·have hyh:=zh hyk;rw [show decide (y1=s)=false by simpa using hyk]at htb;clear hyk;go_wp2;go_roundg (n - i)
       case measure=>omega
       case rel=>refine⟨i+1,by go_num,by have:=hlth.o;omega,by have:=hlth.o;omega,?_,hF2.alloc _⟩;rw [←hag2h.o,hdr.o];simp [aget,hyh.o]
     ·have hin:i=n:=by omega
      have hge:¬(i:Int)<n:=by omega
      have e:aget s l'=none:=by rw [←hag2h.o,List.drop_of_length_le (by omega)];rfl
      clear hlt hk;go_wp2;go_ret2;rw [←hagh.o,e];exact⟨rfl,f2.trans hF2⟩
end Go.Proofs.YtpmgepijkhaonaaGreat.T
namespace Go.Proofs.YtpmgepijkhaonaaGreat.T
open Go.RowKit Go.Sig
theorem count_t (w:World) (X:List Nat) (t:Nat) (l:List Pr) (hT:TrieIn w X t l):Calls Tryz.prog 116 #[.pointer (some ⟨t,0,none⟩)] w fun e w'=>e= .returned (.int .i64 l.length)∧w=w':=by
 obtain⟨p,hB,hN,htX,hX⟩:=hT;have hct:=hB.cell 0;simp only [zG,zH]at hct;have htl:=hB.lt;rcases node_many hN with⟨rfl,rfl⟩ | ⟨hne,g,D,s,k,rfl,hg,hD,hBq⟩
 ·unfold nilP at hct;go_enter Tryz.func116,Tryz.ntmps116;go_wp2;go_ret;exact⟨rfl,rfl⟩
 ·have c34:=(hBq.cell 34).trans (nodeCells_at hD).2.2;have hql:=hBq.lt;go_enter Tryz.func116,Tryz.ntmps116;go_wp2;go_ret;exact⟨rfl,rfl⟩
def fitsE (k v:ByteArray):Int:=if k.size<1∨64<k.size then 1 else if 60000<v.size then 2 else 0
theorem fits_t (k v:ByteArray) (w:World) (hk:k.size≤9223372036854775807) (hv:v.size≤9223372036854775807):Calls Tryz.prog 114 #[.string k,.string v] w fun e w'=>e= .returned (.int .i64 (fitsE k v))∧w=w':=by
 by_cases h1:k.size<1
 ·have h1i:(k.size:Int)<1:=by omega
  have e:fitsE k v=1:=by unfold fitsE;rw [if_pos (.inl h1)]
  rw [e];go_enter Tryz.func114,Tryz.ntmps114;go_wp2;go_ret;exact⟨rfl,rfl⟩
 ·have h1i:¬(k.size:Int)<1:=by omega
  by_cases h2:64<k.size
  ·have h2i:(64:Int)<k.size:=by omega
   have e:fitsE k v=1:=by unfold fitsE;rw [if_pos (.inr h2)]
   rw [e];go_enter Tryz.func114,Tryz.ntmps114;go_wp2;go_ret;exact⟨rfl,rfl⟩
  ·have h2i:¬(64:Int)<k.size:=by omega
   by_cases h3:60000<v.size
   ·have h3i:(60000:Int)<v.size:=by omega
    have e:fitsE k v=2:=by unfold fitsE;rw [if_neg (by omega),if_pos h3]
    rw [e];go_enter Tryz.func114,Tryz.ntmps114;go_wp2;go_ret;exact⟨rfl,rfl⟩
   ·have h3i:¬(60000:Int)<v.size:=by omega
    have e:fitsE k v=0:=by unfold fitsE;rw [if_neg (by omega),if_neg h3]
    rw [e];go_enter Tryz.func114,Tryz.ntmps114;go_wp2;go_ret;exact⟨rfl,rfl⟩
def putE (k v:ByteArray) (l:List Pr):Int:=if fitsE k v≠0 then fitsE k v else if(aget k l).isSome=false∧4096≤l.length then 8 else 0
def putM (k v:ByteArray) (l:List Pr):List Pr:=if putE k v l=0 then put (k,v) l else l
theorem fitsE_zero {k v:ByteArray}(h:fitsE k v=0):(1≤k.size∧k.size≤64)∧v.size≤60000:=by
 unfold fitsE at h;split at h
 ·omega
 ·split at h
  ·omega
  ·omega
theorem putM_good {k v:ByteArray}{l:List Pr}(h:Good l):Good (putM k v l):=by
 unfold putM;split
 ·rename_i he;unfold putE at he;split at he
  ·rename_i h1;exact absurd he h1
  ·rename_i h1;split at he
   ·omega
   ·rename_i h2;refine⟨put_rising h.rising,fun y hy=> ?_,?_⟩
    ·rcases mem_put hy with e |hy
     ·rw [e];exact fitsE_zero (by simpa using h1)
     ·exact h.fits y hy
    ·rw [put_length h.rising];have hf:=h.few;show(if(aget k l).isSome=true then _ else _)≤_;split
     ·exact hf
     ·rename_i h3;have:¬4096≤l.length:=fun h4=>h2 ⟨by simpa using h3,h4⟩;omega
 ·exact h
theorem TrieIn.fr {w w':World}{X S:List Nat}{t:Nat}{l:List Pr}(h:TrieIn w X t l) (hf:Fr S w w') (hS:∀s∈S,s∈X∨w.heap.size≤s) (ht:t∉S):TrieIn w' X t l:=by
 obtain⟨p,hB,hN,htX,hX⟩:=h;exact⟨p,hB.fr hf ht,hN.fr hf hS,htX,fun g hg=>Nat.lt_of_lt_of_le (hX g hg) hf.size⟩
theorem TrieIn.fr0 {w w':World}{X:List Nat}{t:Nat}{l:List Pr}(h:TrieIn w X t l) (hf:Fr [] w w'):TrieIn w' X t l:=h.fr hf (by simp) (by simp)
set_option maxRecDepth 100000 in
set_option maxHeartbeats 4000000 in
theorem put_t (w:World) (X:List Nat) (t:Nat) (l:List Pr) (k v:ByteArray) (hk:k.size≤150000000000000) (hv:v.size≤9223372036854775807) (hT:TrieIn w X t l) (hG:Good l):
  Calls Tryz.prog 60 #[.pointer (some ⟨t,0,none⟩),.string k,.string v] w fun e w'=>e= .returned (.int .i64 (putE k v l))∧TrieIn w' X t (putM k v l)∧Fr [t] w w':=by
 have hfit:=fits_t k v w (by omega) hv;by_cases h1:fitsE k v=0
 ·have hlim:=fitsE_zero h1;have hget:=get_t w X t l k (by omega) hT hG.rising hG.small;by_cases h2:(aget k l).isSome=false∧4096≤l.length
  ·have e1:putE k v l=8:=by unfold putE;rw [if_neg (by simpa using h1),if_pos h2]
   have e2:putM k v l=l:=by unfold putM;rw [if_neg (by rw [e1];decide)]
   rw [e1,e2];rw [h1]at hfit;have e3:getRes (aget k l)= .tuple #[.string ((aget k l).getD ⟨#[]⟩),.int .i64 7]:=by unfold getRes;rw [h2.1];rfl
   rw [e3]at hget;have hcnt:=fun W (h:TrieIn W X t l)=>count_t W X t l h;have hcnth:=zh hcnt;have hlen:(4096:Int)≤l.length:=by omega
   obtain⟨av,HAV⟩:∃z,Hid ((aget k l).getD ⟨#[]⟩=z):=⟨_,zh rfl⟩
   rw [HAV.o]at hget;clear hcnt h2 e1 e2 e3;have hTh:=zh hT;clear hT;go_enter Tryz.func60,Tryz.ntmps60;go_wp2_with fail
   refine hfit.mono ?_;rintro e w1 ⟨rfl,rfl⟩;go_wp2_with fail
   refine hget.mono ?_;rintro e w2 ⟨rfl,F2⟩;have hT2:=hTh.o.fr0 F2;go_wp2_with fail
   refine(hcnth.o w2 hT2).mono ?_;rintro e w3 ⟨rfl,rfl⟩;go_wp2;go_ret;exact⟨rfl,hT2,F2.nil⟩
  ·have e1:putE k v l=0:=by unfold putE;rw [if_neg (by simpa using h1),if_neg h2]
   have e2:putM k v l=put (k,v) l:=by unfold putM;rw [if_pos e1]
   rw [e1,e2];rw [h1]at hfit;obtain⟨p,hB,hN,htX,hX⟩:=id hT;have hct0:=hB.cell 0;simp only [zG,zH]at hct0;have htl0:=hB.lt;have hcnt:=fun W (h:TrieIn W X t l)=>count_t W X t l h;have hcnth:=zh hcnt;have hTh:=zh hT;have hNh:=zh hN;have hget2:∃(av:ByteArray) (er:Int),getRes (aget k l)= .tuple #[.string av,.int .i64 er]∧((er !=0)=false∨(er !=0)=true∧(decide ((4096:Int)≤l.length)=false)):=by
    cases h:aget k l with
    |none=>refine⟨_,_,rfl,.inr ⟨rfl,?_⟩⟩;rw [h]at h2;have:¬4096≤l.length:=fun h4=>h2 ⟨rfl,h4⟩;simp;omega
    |some a=>exact⟨_,_,rfl,.inl rfl⟩
   obtain⟨av,er,hge,hcase⟩:=hget2;rw [hge]at hget;obtain⟨cW,cC,hcv,hcF,hcB,hcS,hcc⟩:=conv_any k;obtain⟨D,HD⟩:∃z,Hid (pathOf k=z):=⟨_,zh rfl⟩
   have hsD:=zh (show sha k.data.toList=D from HD.o);have hwith:=zh (with_t (k,v) (by constructor<;>simp<;>omega) 64 (Nat.le_refl _));have hcFh:=zh hcF;have hcBh:=zh hcB;have hcch:=zh hcc;have hflen:=hG.few;have hGh:=zh hG;clear hcnt h2 e1 e2 hT hN hge hcF hcB hcc hG;go_enter Tryz.func60,Tryz.ntmps60;go_wp2_with fail
   refine hfit.mono ?_;rintro e w1 ⟨rfl,rfl⟩;go_wp2_with fail
   refine hget.mono ?_;rintro e w2 ⟨rfl,F2⟩;have hct:=cell_fr F2 hct0;have htl:=block_lt_of_cell hct;have hcountc:=hcnth.o w2 (hTh.o.fr0 F2);have hB2:=hB.fr F2 (by simp);clear hget hfit hct0 hB;rcases hcase with h3 | ⟨h3,h4⟩
   all_goals
    go_upto_region 9 with(go_at_call 116;refine hcountc.mono ?_;rintro e w3 ⟨rfl,rfl⟩)
    have hcW:(cW w2.drew).cell? ⟨t,0,none⟩=some p:=cell_fr (hcFh.o _) hct;refine wp_region_held_drew (S:=fun _=>True) (by kernel_rfl) trivial ?_;intro hHeld;refine wpAnyH_take (i:=0) (v:= ?_) rfl (by kernel_rfl) (by kernel_rfl) (by kernel_rfl) (fun _ _ _ h=>h) (Or.inl ⟨by rfl,?_⟩) hHeld ?_;rotate_left
    ·(intro w hSw;go_simp<;>with_reducible rfl)
    try simp only [Act.put,zD]
    refine wpAnyH_take (i:=1) (v:= ?_) rfl (by kernel_rfl) (by kernel_rfl) (by kernel_rfl) (fun _ _ _ h=>h) (Or.inl ⟨by rfl,?_⟩) hHeld ?_;rotate_left
    ·(intro w hSw;go_simp<;>with_reducible rfl)
    try simp only [Act.put]
    refine wpAnyH_take (i:=2) (v:= ?_) rfl (by kernel_rfl) (by kernel_rfl) (by kernel_rfl) (fun _ _ _ h=>h) (Or.inl ⟨by rfl,?_⟩) hHeld ?_;rotate_left
    ·(intro w hSw;go_simp<;>with_reducible rfl)
    try simp only [Act.put]
    refine wpAnyH_take (i:=3) (v:= ?_) rfl (by kernel_rfl) (by kernel_rfl) (by kernel_rfl) (fun _ _ _ h=>h) (Or.inl ⟨by rfl,?_⟩) hHeld ?_;rotate_left
    ·(intro w hSw;go_simp<;>with_reducible rfl)
    try simp only [Act.put]
    refine wpAnyH_take (i:=5) (v:= ?_) rfl (by kernel_rfl) (by kernel_rfl) (by kernel_rfl) (fun _ _ _ h=>h) (Or.inl ⟨by rfl,?_⟩) hHeld ?_;rotate_left
    ·(intro w hSw;go_simp<;>with_reducible rfl)
    try simp only [Act.put]
    refine wpAnyH_take (i:=6) (v:= ?_) rfl (by kernel_rfl) (by kernel_rfl) (by kernel_rfl) (fun _ _ _ h=>h) (Or.inl ⟨by rfl,?_⟩) hHeld ?_;rotate_left
    ·(intro w hSw;go_simp<;>with_reducible rfl)
    try simp only [Act.put]
    refine wpAnyH_take (i:=7) (v:= ?_) rfl (by kernel_rfl) (by kernel_rfl) (by kernel_rfl) (fun _ _ _ h=>h) (Or.inl ⟨by rfl,?_⟩) hHeld ?_;rotate_left
    ·(intro w hSw;go_simp<;>with_reducible rfl)
    try simp only [Act.put]
    refine wpAnyH_take (i:=8) (v:= ?_) rfl (by kernel_rfl) (by kernel_rfl) (by kernel_rfl) (fun _ _ _ h=>h) (Or.inl ⟨by rfl,?_⟩) hHeld ?_;rotate_left
    ·(intro w hSw;go_simp<;>with_reducible rfl)
    try simp only [Act.put]
    refine wpAnyH_ready (rs:= [4,9]) (by kernel_rfl) (by simp) ?_;refine AllReadyH.cons rfl (fun K hK=> ?_) (AllReadyH.cons rfl (fun K hK=> ?_) AllReadyH.nil)
    ·go_simp;refine hK.out _ _ trivial (fun hHeld=> ?_);clear hK K;try simp only [Act.put,zD,zE,zF]
     refine wpAnyH_ready (rs:= [9]) (by kernel_rfl) (by simp) ?_;refine AllReadyH.cons rfl (fun K hK=> ?_) AllReadyH.nil;go_simp;refine hK.out _ _ trivial (fun hHeld=> ?_);clear hK K;try simp only [Act.put,zD,zE,zF]
     refine wpAnyH_ready (rs:= [10]) (by kernel_rfl) (by simp) ?_;refine AllReadyH.cons rfl (fun K hK=> ?_) AllReadyH.nil;go_simp;go_wp2_with fail
     refine(sum1_t (cW w2.drew) _ _ _ _ (hcBh.o _ _ rfl) (hcch.o _) (by omega)).mono ?_;rintro e w4 ⟨rfl,F4⟩;rw [hsD.o];have m1:=cell_fr F4 hcW;dsimp only;refine hK.out _ _ trivial (fun hHeld=> ?_);clear hK K;try simp only [Act.put,zD,zE,zF]
     refine wpAnyH_ready (rs:= [11]) (by kernel_rfl) (by simp) ?_;refine AllReadyH.cons rfl (fun K hK=> ?_) AllReadyH.nil;go_simp;have F24:Fr [] w2 w4:=((Fr.refl [] w2).drew.trans (hcFh.o _)).trans F4;have hw:=hwith.o w4 X l p ((hNh.o.fr0 F2).fr0 F24) hGh.o.rising hGh.o.small (by omega) (fun g hg=>Nat.lt_of_lt_of_le (hX g hg) (F2.trans F24).size);unfold xV at hw;rw [HD.o]at hw;go_wp2_with fail
     refine hw.mono ?_;rintro e w5 ⟨p5,rfl,hN5,F5⟩;obtain⟨A5,rfl⟩:=node_ptr hN5;have hB5:=(hB2.fr F24 (by simp)).fr F5 (by simp);have m2:=cell_fr F5 m1;have m3:=hB5.frozen 0;have m4:=hB5.lt;dsimp only;refine hK.out _ _ trivial (fun hHeld=> ?_);clear hK K;try simp only [Act.put,zD,zE,zF]
     refine wpAnyH_take (i:=12) (v:= ?_) rfl (by kernel_rfl) (by kernel_rfl) (by kernel_rfl) (fun _ _ _ h=>h) (Or.inl ⟨by rfl,?_⟩) hHeld ?_;rotate_left
     ·(intro w hSw;go_simp<;>with_reducible rfl)
     try simp only [Act.put,zD]
     refine wpAnyH_take (i:=13) (v:= ?_) rfl (by kernel_rfl) (by kernel_rfl) (by kernel_rfl) (fun _ _ _ h=>h) (Or.inl ⟨by rfl,?_⟩) hHeld ?_;rotate_left
     ·(intro w hSw;go_simp<;>with_reducible rfl)
     try simp only [Act.put]
     refine wpAnyH_ready (rs:= [14]) (by kernel_rfl) (by simp) ?_;refine AllReadyH.cons rfl (fun K hK=> ?_) AllReadyH.nil;go_simp;refine hK.out _ _ trivial (fun hHeld=> ?_);clear hK K;try simp only [Act.put,zD,zE,zF]
     refine wpAnyH_done (by kernel_rfl) ?_ _;go_wp2;go_ret;have hB6:=hB5.set 0 (.pointer A5);have F6:Fr [t] w5 (w5.setCell ⟨t,0,none⟩ (.pointer A5)):=(Fr.refl [t] w5).setCell (.inl (by simp)) _;refine⟨rfl,⟨_,hB6,hN5.fr F6 (fun z hz=> .inl (by simp at hz;rw [hz];exact htX)),htX,fun g hg=>Nat.lt_of_lt_of_le (hX g hg) (Nat.le_trans ((F2.trans F24).trans F5).size F6.size)⟩,((F2.trans F24).trans F5).nil.trans F6⟩
    ·go_simp;refine hK.out _ _ trivial (fun hHeld=> ?_);clear hK K;try simp only [Act.put,zD,zE,zF]
     refine wpAnyH_ready (rs:= [4,10]) (by kernel_rfl) (by simp) ?_;refine AllReadyH.cons rfl (fun K hK=> ?_) (AllReadyH.cons rfl (fun K hK=> ?_) AllReadyH.nil)
     ·go_simp;refine hK.out _ _ trivial (fun hHeld=> ?_);clear hK K;try simp only [Act.put,zD,zE,zF]
      refine wpAnyH_ready (rs:= [10]) (by kernel_rfl) (by simp) ?_;refine AllReadyH.cons rfl (fun K hK=> ?_) AllReadyH.nil;go_simp;go_wp2_with fail
      refine(sum1_t (cW w2.drew) _ _ _ _ (hcBh.o _ _ rfl) (hcch.o _) (by omega)).mono ?_;rintro e w4 ⟨rfl,F4⟩;rw [hsD.o];have m1:=cell_fr F4 hcW;dsimp only;refine hK.out _ _ trivial (fun hHeld=> ?_);clear hK K;try simp only [Act.put,zD,zE,zF]
      refine wpAnyH_ready (rs:= [11]) (by kernel_rfl) (by simp) ?_;refine AllReadyH.cons rfl (fun K hK=> ?_) AllReadyH.nil;go_simp;have F24:Fr [] w2 w4:=((Fr.refl [] w2).drew.trans (hcFh.o _)).trans F4;have hw:=hwith.o w4 X l p ((hNh.o.fr0 F2).fr0 F24) hGh.o.rising hGh.o.small (by omega) (fun g hg=>Nat.lt_of_lt_of_le (hX g hg) (F2.trans F24).size);unfold xV at hw;rw [HD.o]at hw;go_wp2_with fail
      refine hw.mono ?_;rintro e w5 ⟨p5,rfl,hN5,F5⟩;obtain⟨A5,rfl⟩:=node_ptr hN5;have hB5:=(hB2.fr F24 (by simp)).fr F5 (by simp);have m2:=cell_fr F5 m1;have m3:=hB5.frozen 0;have m4:=hB5.lt;dsimp only;refine hK.out _ _ trivial (fun hHeld=> ?_);clear hK K;try simp only [Act.put,zD,zE,zF]
      refine wpAnyH_take (i:=12) (v:= ?_) rfl (by kernel_rfl) (by kernel_rfl) (by kernel_rfl) (fun _ _ _ h=>h) (Or.inl ⟨by rfl,?_⟩) hHeld ?_;rotate_left
      ·(intro w hSw;go_simp<;>with_reducible rfl)
      try simp only [Act.put,zD]
      refine wpAnyH_take (i:=13) (v:= ?_) rfl (by kernel_rfl) (by kernel_rfl) (by kernel_rfl) (fun _ _ _ h=>h) (Or.inl ⟨by rfl,?_⟩) hHeld ?_;rotate_left
      ·(intro w hSw;go_simp<;>with_reducible rfl)
      try simp only [Act.put]
      refine wpAnyH_ready (rs:= [14]) (by kernel_rfl) (by simp) ?_;refine AllReadyH.cons rfl (fun K hK=> ?_) AllReadyH.nil;go_simp;refine hK.out _ _ trivial (fun hHeld=> ?_);clear hK K;try simp only [Act.put,zD,zE,zF]
      refine wpAnyH_done (by kernel_rfl) ?_ _;go_wp2;go_ret;have hB6:=hB5.set 0 (.pointer A5);have F6:Fr [t] w5 (w5.setCell ⟨t,0,none⟩ (.pointer A5)):=(Fr.refl [t] w5).setCell (.inl (by simp)) _;refine⟨rfl,⟨_,hB6,hN5.fr F6 (fun z hz=> .inl (by simp at hz;rw [hz];exact htX)),htX,fun g hg=>Nat.lt_of_lt_of_le (hX g hg) (Nat.le_trans ((F2.trans F24).trans F5).size F6.size)⟩,((F2.trans F24).trans F5).nil.trans F6⟩
     ·go_simp;go_wp2_with fail
      refine(sum1_t (cW w2.drew) _ _ _ _ (hcBh.o _ _ rfl) (hcch.o _) (by omega)).mono ?_;rintro e w4 ⟨rfl,F4⟩;rw [hsD.o];have m1:=cell_fr F4 hcW;dsimp only;refine hK.out _ _ trivial (fun hHeld=> ?_);clear hK K;try simp only [Act.put,zD,zE,zF]
      refine wpAnyH_ready (rs:= [4]) (by kernel_rfl) (by simp) ?_;refine AllReadyH.cons rfl (fun K hK=> ?_) AllReadyH.nil;go_simp;refine hK.out _ _ trivial (fun hHeld=> ?_);clear hK K;try simp only [Act.put,zD,zE,zF]
      refine wpAnyH_ready (rs:= [11]) (by kernel_rfl) (by simp) ?_;refine AllReadyH.cons rfl (fun K hK=> ?_) AllReadyH.nil;go_simp;have F24:Fr [] w2 w4:=((Fr.refl [] w2).drew.trans (hcFh.o _)).trans F4;have hw:=hwith.o w4 X l p ((hNh.o.fr0 F2).fr0 F24) hGh.o.rising hGh.o.small (by omega) (fun g hg=>Nat.lt_of_lt_of_le (hX g hg) (F2.trans F24).size);unfold xV at hw;rw [HD.o]at hw;go_wp2_with fail
      refine hw.mono ?_;rintro e w5 ⟨p5,rfl,hN5,F5⟩;obtain⟨A5,rfl⟩:=node_ptr hN5;have hB5:=(hB2.fr F24 (by simp)).fr F5 (by simp);have m2:=cell_fr F5 m1;have m3:=hB5.frozen 0;have m4:=hB5.lt;dsimp only;refine hK.out _ _ trivial (fun hHeld=> ?_);clear hK K;try simp only [Act.put,zD,zE,zF]
      refine wpAnyH_take (i:=12) (v:= ?_) rfl (by kernel_rfl) (by kernel_rfl) (by kernel_rfl) (fun _ _ _ h=>h) (Or.inl ⟨by rfl,?_⟩) hHeld ?_;rotate_left
      ·(intro w hSw;go_simp<;>with_reducible rfl)
      try simp only [Act.put,zD]
      refine wpAnyH_take (i:=13) (v:= ?_) rfl (by kernel_rfl) (by kernel_rfl) (by kernel_rfl) (fun _ _ _ h=>h) (Or.inl ⟨by rfl,?_⟩) hHeld ?_;rotate_left
      ·(intro w hSw;go_simp<;>with_reducible rfl)
      try simp only [Act.put]
      refine wpAnyH_ready (rs:= [14]) (by kernel_rfl) (by simp) ?_;refine AllReadyH.cons rfl (fun K hK=> ?_) AllReadyH.nil;go_simp;refine hK.out _ _ trivial (fun hHeld=> ?_);clear hK K;try simp only [Act.put,zD,zE,zF]
      refine wpAnyH_done (by kernel_rfl) ?_ _;go_wp2;go_ret;have hB6:=hB5.set 0 (.pointer A5);have F6:Fr [t] w5 (w5.setCell ⟨t,0,none⟩ (.pointer A5)):=(Fr.refl [t] w5).setCell (.inl (by simp)) _;refine⟨rfl,⟨_,hB6,hN5.fr F6 (fun z hz=> .inl (by simp at hz;rw [hz];exact htX)),htX,fun g hg=>Nat.lt_of_lt_of_le (hX g hg) (Nat.le_trans ((F2.trans F24).trans F5).size F6.size)⟩,((F2.trans F24).trans F5).nil.trans F6⟩
 ·have e1:putE k v l=fitsE k v:=by unfold putE;rw [if_pos h1]
  have e2:putM k v l=l:=by unfold putM;rw [if_neg (by rw [e1];exact h1)]
  rw [e1,e2];obtain⟨fe,HFE⟩:∃z,Hid (fitsE k v=z):=⟨_,zh rfl⟩
  rw [HFE.o]at hfit h1⊢;have hne:(fe==0)=false:=by simpa using h1
  have hTh:=zh hT;clear hT h1 e1 e2;go_enter Tryz.func60,Tryz.ntmps60;go_wp2_with fail
  refine hfit.mono ?_;rintro e w1 ⟨rfl,rfl⟩;go_wp2;go_ret;exact⟨rfl,hTh.o,Fr.refl _ _⟩
end Go.Proofs.YtpmgepijkhaonaaGreat.T
namespace Go.Proofs.YtpmgepijkhaonaaGreat.T
open Go.RowKit Go.Sig
def errRes (o:Option ByteArray):Int:=if o.isSome then 0 else 7
theorem del_absent {s:ByteArray}{l:List Pr}(h:aget s l=none):del s l=l:=del_all fun y hy e=>by
 have:=aget_none_iff.1 h;exact this (List.mem_map.2 ⟨y,hy,e⟩)
set_option maxRecDepth 100000 in
set_option maxHeartbeats 4000000 in
theorem del_t (w:World) (X:List Nat) (t:Nat) (l:List Pr) (k:ByteArray) (hk:k.size≤150000000000000) (hT:TrieIn w X t l) (hG:Good l):
  Calls Tryz.prog 183 #[.pointer (some ⟨t,0,none⟩),.string k] w fun e w'=>e= .returned (.int .i64 (errRes (aget k l)))∧TrieIn w' X t (del k l)∧Fr [t] w w':=by
 have hget:=get_t w X t l k hk hT hG.rising hG.small;cases hag:aget k l with
 |none=>
  rw [hag]at hget;rw [del_absent hag];have hTh:=zh hT;clear hT hag;have e3:getRes none= .tuple #[.string ⟨#[]⟩,.int .i64 7]:=rfl;rw [e3]at hget;go_enter Tryz.func183,Tryz.ntmps183;go_wp2_with fail
  refine hget.mono ?_;rintro e w2 ⟨rfl,F2⟩;go_wp2;go_ret;exact⟨rfl,hTh.o.fr0 F2,F2.nil⟩
 |some a=>
  rw [hag]at hget;have e3:getRes (some a)= .tuple #[.string a,.int .i64 0]:=rfl;rw [e3]at hget;obtain⟨p,hB,hN,htX,hX⟩:=id hT;have hct0:=hB.cell 0;simp only [zG,zH]at hct0;have htl0:=hB.lt;have hTh:=zh hT;have hNh:=zh hN;obtain⟨cW,cC,hcv,hcF,hcB,hcS,hcc⟩:=conv_any k;obtain⟨D,HD⟩:∃z,Hid (pathOf k=z):=⟨_,zh rfl⟩
  have hsD:=zh (show sha k.data.toList=D from HD.o);have hwith:=zh (without_t k 64 (Nat.le_refl _));have hcFh:=zh hcF;have hcBh:=zh hcB;have hcch:=zh hcc;have hflen:=hG.few;have hGh:=zh hG;clear hT hN e3 hag hcF hcB hcc hG;go_enter Tryz.func183,Tryz.ntmps183;go_wp2_with fail
  refine hget.mono ?_;rintro e w2 ⟨rfl,F2⟩;have hct:=cell_fr F2 hct0;have htl:=block_lt_of_cell hct;have hB2:=hB.fr F2 (by simp);clear hget hct0 hB;go_upto_region 4 with(fail)
  have hcW:(cW w2.drew).cell? ⟨t,0,none⟩=some p:=cell_fr (hcFh.o _) hct;refine wp_region_held_drew (S:=fun _=>True) (by kernel_rfl) trivial ?_;intro hHeld;refine wpAnyH_take (i:=0) (v:= ?_) rfl (by kernel_rfl) (by kernel_rfl) (by kernel_rfl) (fun _ _ _ h=>h) (Or.inl ⟨by rfl,?_⟩) hHeld ?_;rotate_left
  ·(intro w hSw;go_simp<;>with_reducible rfl)
  try simp only [Act.put,zD]
  refine wpAnyH_take (i:=1) (v:= ?_) rfl (by kernel_rfl) (by kernel_rfl) (by kernel_rfl) (fun _ _ _ h=>h) (Or.inl ⟨by rfl,?_⟩) hHeld ?_;rotate_left
  ·(intro w hSw;go_simp<;>with_reducible rfl)
  try simp only [Act.put]
  refine wpAnyH_take (i:=2) (v:= ?_) rfl (by kernel_rfl) (by kernel_rfl) (by kernel_rfl) (fun _ _ _ h=>h) (Or.inl ⟨by rfl,?_⟩) hHeld ?_;rotate_left
  ·(intro w hSw;go_simp<;>with_reducible rfl)
  try simp only [Act.put]
  refine wpAnyH_take (i:=3) (v:= ?_) rfl (by kernel_rfl) (by kernel_rfl) (by kernel_rfl) (fun _ _ _ h=>h) (Or.inl ⟨by rfl,?_⟩) hHeld ?_;rotate_left
  ·(intro w hSw;go_simp<;>with_reducible rfl)
  try simp only [Act.put]
  refine wpAnyH_take (i:=5) (v:= ?_) rfl (by kernel_rfl) (by kernel_rfl) (by kernel_rfl) (fun _ _ _ h=>h) (Or.inl ⟨by rfl,?_⟩) hHeld ?_;rotate_left
  ·(intro w hSw;go_simp<;>with_reducible rfl)
  try simp only [Act.put]
  refine wpAnyH_take (i:=6) (v:= ?_) rfl (by kernel_rfl) (by kernel_rfl) (by kernel_rfl) (fun _ _ _ h=>h) (Or.inl ⟨by rfl,?_⟩) hHeld ?_;rotate_left
  ·(intro w hSw;go_simp<;>with_reducible rfl)
  try simp only [Act.put]
  refine wpAnyH_ready (rs:= [4,7]) (by kernel_rfl) (by simp) ?_;refine AllReadyH.cons rfl (fun K hK=> ?_) (AllReadyH.cons rfl (fun K hK=> ?_) AllReadyH.nil)
  ·go_simp;refine hK.out _ _ trivial (fun hHeld=> ?_);clear hK K;try simp only [Act.put,zD,zE,zF]
   refine wpAnyH_ready (rs:= [7]) (by kernel_rfl) (by simp) ?_;refine AllReadyH.cons rfl (fun K hK=> ?_) AllReadyH.nil;go_simp;refine hK.out _ _ trivial (fun hHeld=> ?_);clear hK K;try simp only [Act.put,zD,zE,zF]
   refine wpAnyH_ready (rs:= [8]) (by kernel_rfl) (by simp) ?_;refine AllReadyH.cons rfl (fun K hK=> ?_) AllReadyH.nil;go_simp;go_wp2_with fail
   refine(sum1_t (cW w2.drew) _ _ _ _ (hcBh.o _ _ rfl) (hcch.o _) (by omega)).mono ?_;rintro e w4 ⟨rfl,F4⟩;rw [hsD.o];have m1:=cell_fr F4 hcW;dsimp only;refine hK.out _ _ trivial (fun hHeld=> ?_);clear hK K;try simp only [Act.put,zD,zE,zF]
   refine wpAnyH_ready (rs:= [9]) (by kernel_rfl) (by simp) ?_;refine AllReadyH.cons rfl (fun K hK=> ?_) AllReadyH.nil;go_simp;have F24:Fr [] w2 w4:=((Fr.refl [] w2).drew.trans (hcFh.o _)).trans F4;have hw:=hwith.o w4 X l p ((hNh.o.fr0 F2).fr0 F24) hGh.o.rising hGh.o.small (by omega) (fun g hg=>Nat.lt_of_lt_of_le (hX g hg) (F2.trans F24).size);rw [HD.o]at hw;go_wp2_with fail
   refine hw.mono ?_;rintro e w5 ⟨p5,rfl,hN5,F5⟩;obtain⟨A5,rfl⟩:=node_ptr hN5;have hB5:=(hB2.fr F24 (by simp)).fr F5 (by simp);have m2:=cell_fr F5 m1;have m3:=hB5.frozen 0;have m4:=hB5.lt;dsimp only;refine hK.out _ _ trivial (fun hHeld=> ?_);clear hK K;try simp only [Act.put,zD,zE,zF]
   refine wpAnyH_take (i:=10) (v:= ?_) rfl (by kernel_rfl) (by kernel_rfl) (by kernel_rfl) (fun _ _ _ h=>h) (Or.inl ⟨by rfl,?_⟩) hHeld ?_;rotate_left
   ·(intro w hSw;go_simp<;>with_reducible rfl)
   try simp only [Act.put,zD]
   refine wpAnyH_take (i:=11) (v:= ?_) rfl (by kernel_rfl) (by kernel_rfl) (by kernel_rfl) (fun _ _ _ h=>h) (Or.inl ⟨by rfl,?_⟩) hHeld ?_;rotate_left
   ·(intro w hSw;go_simp<;>with_reducible rfl)
   try simp only [Act.put]
   refine wpAnyH_ready (rs:= [12]) (by kernel_rfl) (by simp) ?_;refine AllReadyH.cons rfl (fun K hK=> ?_) AllReadyH.nil;go_simp;refine hK.out _ _ trivial (fun hHeld=> ?_);clear hK K;try simp only [Act.put,zD,zE,zF]
   refine wpAnyH_done (by kernel_rfl) ?_ _;go_wp2;go_ret;have hB6:=hB5.set 0 (.pointer A5);have F6:Fr [t] w5 (w5.setCell ⟨t,0,none⟩ (.pointer A5)):=(Fr.refl [t] w5).setCell (.inl (by simp)) _;refine⟨rfl,⟨_,hB6,hN5.fr F6 (fun z hz=> .inl (by simp at hz;rw [hz];exact htX)),htX,fun g hg=>Nat.lt_of_lt_of_le (hX g hg) (Nat.le_trans ((F2.trans F24).trans F5).size F6.size)⟩,((F2.trans F24).trans F5).nil.trans F6⟩
  ·go_simp;refine hK.out _ _ trivial (fun hHeld=> ?_);clear hK K;try simp only [Act.put,zD,zE,zF]
   refine wpAnyH_ready (rs:= [4,8]) (by kernel_rfl) (by simp) ?_;refine AllReadyH.cons rfl (fun K hK=> ?_) (AllReadyH.cons rfl (fun K hK=> ?_) AllReadyH.nil)
   ·go_simp;refine hK.out _ _ trivial (fun hHeld=> ?_);clear hK K;try simp only [Act.put,zD,zE,zF]
    refine wpAnyH_ready (rs:= [8]) (by kernel_rfl) (by simp) ?_;refine AllReadyH.cons rfl (fun K hK=> ?_) AllReadyH.nil;go_simp;go_wp2_with fail
    refine(sum1_t (cW w2.drew) _ _ _ _ (hcBh.o _ _ rfl) (hcch.o _) (by omega)).mono ?_;rintro e w4 ⟨rfl,F4⟩;rw [hsD.o];have m1:=cell_fr F4 hcW;dsimp only;refine hK.out _ _ trivial (fun hHeld=> ?_);clear hK K;try simp only [Act.put,zD,zE,zF]
    refine wpAnyH_ready (rs:= [9]) (by kernel_rfl) (by simp) ?_;refine AllReadyH.cons rfl (fun K hK=> ?_) AllReadyH.nil;go_simp;have F24:Fr [] w2 w4:=((Fr.refl [] w2).drew.trans (hcFh.o _)).trans F4;have hw:=hwith.o w4 X l p ((hNh.o.fr0 F2).fr0 F24) hGh.o.rising hGh.o.small (by omega) (fun g hg=>Nat.lt_of_lt_of_le (hX g hg) (F2.trans F24).size);rw [HD.o]at hw;go_wp2_with fail
    refine hw.mono ?_;rintro e w5 ⟨p5,rfl,hN5,F5⟩;obtain⟨A5,rfl⟩:=node_ptr hN5;have hB5:=(hB2.fr F24 (by simp)).fr F5 (by simp);have m2:=cell_fr F5 m1;have m3:=hB5.frozen 0;have m4:=hB5.lt;dsimp only;refine hK.out _ _ trivial (fun hHeld=> ?_);clear hK K;try simp only [Act.put,zD,zE,zF]
    refine wpAnyH_take (i:=10) (v:= ?_) rfl (by kernel_rfl) (by kernel_rfl) (by kernel_rfl) (fun _ _ _ h=>h) (Or.inl ⟨by rfl,?_⟩) hHeld ?_;rotate_left
    ·(intro w hSw;go_simp<;>with_reducible rfl)
    try simp only [Act.put,zD]
    refine wpAnyH_take (i:=11) (v:= ?_) rfl (by kernel_rfl) (by kernel_rfl) (by kernel_rfl) (fun _ _ _ h=>h) (Or.inl ⟨by rfl,?_⟩) hHeld ?_;rotate_left
    ·(intro w hSw;go_simp<;>with_reducible rfl)
    try simp only [Act.put]
    refine wpAnyH_ready (rs:= [12]) (by kernel_rfl) (by simp) ?_;refine AllReadyH.cons rfl (fun K hK=> ?_) AllReadyH.nil;go_simp;refine hK.out _ _ trivial (fun hHeld=> ?_);clear hK K;try simp only [Act.put,zD,zE,zF]
    refine wpAnyH_done (by kernel_rfl) ?_ _;go_wp2;go_ret;have hB6:=hB5.set 0 (.pointer A5);have F6:Fr [t] w5 (w5.setCell ⟨t,0,none⟩ (.pointer A5)):=(Fr.refl [t] w5).setCell (.inl (by simp)) _;refine⟨rfl,⟨_,hB6,hN5.fr F6 (fun z hz=> .inl (by simp at hz;rw [hz];exact htX)),htX,fun g hg=>Nat.lt_of_lt_of_le (hX g hg) (Nat.le_trans ((F2.trans F24).trans F5).size F6.size)⟩,((F2.trans F24).trans F5).nil.trans F6⟩
   ·go_simp;go_wp2_with fail
    refine(sum1_t (cW w2.drew) _ _ _ _ (hcBh.o _ _ rfl) (hcch.o _) (by omega)).mono ?_;rintro e w4 ⟨rfl,F4⟩;rw [hsD.o];have m1:=cell_fr F4 hcW;dsimp only;refine hK.out _ _ trivial (fun hHeld=> ?_);clear hK K;try simp only [Act.put,zD,zE,zF]
    refine wpAnyH_ready (rs:= [4]) (by kernel_rfl) (by simp) ?_;refine AllReadyH.cons rfl (fun K hK=> ?_) AllReadyH.nil;go_simp;refine hK.out _ _ trivial (fun hHeld=> ?_);clear hK K;try simp only [Act.put,zD,zE,zF]
    refine wpAnyH_ready (rs:= [9]) (by kernel_rfl) (by simp) ?_;refine AllReadyH.cons rfl (fun K hK=> ?_) AllReadyH.nil;go_simp;have F24:Fr [] w2 w4:=((Fr.refl [] w2).drew.trans (hcFh.o _)).trans F4;have hw:=hwith.o w4 X l p ((hNh.o.fr0 F2).fr0 F24) hGh.o.rising hGh.o.small (by omega) (fun g hg=>Nat.lt_of_lt_of_le (hX g hg) (F2.trans F24).size);rw [HD.o]at hw;go_wp2_with fail
    refine hw.mono ?_;rintro e w5 ⟨p5,rfl,hN5,F5⟩;obtain⟨A5,rfl⟩:=node_ptr hN5;have hB5:=(hB2.fr F24 (by simp)).fr F5 (by simp);have m2:=cell_fr F5 m1;have m3:=hB5.frozen 0;have m4:=hB5.lt;dsimp only;refine hK.out _ _ trivial (fun hHeld=> ?_);clear hK K;try simp only [Act.put,zD,zE,zF]
    refine wpAnyH_take (i:=10) (v:= ?_) rfl (by kernel_rfl) (by kernel_rfl) (by kernel_rfl) (fun _ _ _ h=>h) (Or.inl ⟨by rfl,?_⟩) hHeld ?_;rotate_left
    ·(intro w hSw;go_simp<;>with_reducible rfl)
    try simp only [Act.put,zD]
    refine wpAnyH_take (i:=11) (v:= ?_) rfl (by kernel_rfl) (by kernel_rfl) (by kernel_rfl) (fun _ _ _ h=>h) (Or.inl ⟨by rfl,?_⟩) hHeld ?_;rotate_left
    ·(intro w hSw;go_simp<;>with_reducible rfl)
    try simp only [Act.put]
    refine wpAnyH_ready (rs:= [12]) (by kernel_rfl) (by simp) ?_;refine AllReadyH.cons rfl (fun K hK=> ?_) AllReadyH.nil;go_simp;refine hK.out _ _ trivial (fun hHeld=> ?_);clear hK K;try simp only [Act.put,zD,zE,zF]
    refine wpAnyH_done (by kernel_rfl) ?_ _;go_wp2;go_ret;have hB6:=hB5.set 0 (.pointer A5);have F6:Fr [t] w5 (w5.setCell ⟨t,0,none⟩ (.pointer A5)):=(Fr.refl [t] w5).setCell (.inl (by simp)) _;refine⟨rfl,⟨_,hB6,hN5.fr F6 (fun z hz=> .inl (by simp at hz;rw [hz];exact htX)),htX,fun g hg=>Nat.lt_of_lt_of_le (hX g hg) (Nat.le_trans ((F2.trans F24).trans F5).size F6.size)⟩,((F2.trans F24).trans F5).nil.trans F6⟩
end Go.Proofs.YtpmgepijkhaonaaGreat.T
