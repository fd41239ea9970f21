/- Walks of the trie: the digest under a prefix; a trie of pairs. Conditions: each theorem's own. -/
import Derived.Test.YtpmgepijkhaonaaGreatTm
namespace Go.Proofs.YtpmgepijkhaonaaGreat.T
open Go.RowKit Go.Sig
def outI (k:Int):Bool:=decide (k<0) ||decide (15<k)
def intCells (ns:List Int):List Value:=ns.map (Value.int .i64)
theorem under1_t (w:World) (k:Int):Calls Tryz.prog 195 #[.int .i64 k] w fun e w'=>e= .returned (.bool (outI k))∧w=w':=by
 obtain⟨r,hr⟩:∃r,Hid (outI k=r):=⟨_,zh rfl⟩
 rw [hr.o];have h:=hr.o;unfold outI at h;by_cases h1:k<0
 ·go_enter Tryz.func195,Tryz.ntmps195;go_wp2;go_ret;refine⟨?_,rfl⟩;rw [←h];simp [h1]
 ·go_enter Tryz.func195,Tryz.ntmps195;go_wp2;go_ret;refine⟨?_,rfl⟩;rw [←h,show decide (k<0)=false by simpa using h1,Bool.false_or];rfl
set_option maxRecDepth 100000 in
set_option maxHeartbeats 1000000 in
theorem idxI_t (w:World) (A:Option Addr) (n c:Nat) (ns:List Int) (hR:Rd w 1 A n (intCells ns)) (hn:ns.length=n) (hmax:n≤150000000000000):
  Calls Tryz.prog 238 #[.slice A n c,.func (.func 195) #[] #[]] w fun e w'=>w=w'∧∃r,e= .returned (.int .i64 r)∧decide (0≤r)=ns.any outI:=by
 have eg:∀args w,(callFunc 195 args).run Tryz.prog w= .ok (.enter 195 args) w:=enters_of Tryz.func195 (by kernel_rfl) rfl;go_enter Tryz.func238,Tryz.ntmps238;go_wp2_with fail
 go_loopg [5,8] (n+1) (fun gk s5 s8 wr=>∃(i:Nat),s8= .int .i64 i∧i≤n∧n - i<gk∧(ns.take i).any outI=false∧w=wr)
 case atStart=>exact⟨0,rfl,by omega,by omega,rfl,rfl⟩
 case round=>
  obtain⟨i,rfl,hi,hk,hpre,rfl⟩:=hrel;have hpreh:=zh hpre;clear hpre;by_cases hlt:i<n
  ·have hlt':(i:Int)<n:=by omega
   have hlth:=zh hlt;have hi':i<ns.length:=by omega
   obtain⟨b,o,rfl,hcell⟩:=hR.2 (by omega);have ck:=hcell i (.int .i64 ns[i]) (by rw [intCells,List.getElem?_map,List.getElem?_eq_getElem hi'];rfl);have htk:=zh (List.take_succ_eq_append_getElem hi');clear hcell;obtain⟨k,hkk⟩:∃z,Hid (ns[i]=z):=⟨_,zh rfl⟩
   rw [hkk.o]at ck htk;have hcall:=under1_t w k;cases ho:outI k with
   |true=>
    rw [ho]at hcall;have hoh:=zh ho;clear ho;go_wp2_with (go_at_call 195;refine hcall.mono ?_;rintro e w' ⟨rfl,rfl⟩)
    go_ret;refine⟨rfl,i,rfl,?_⟩;have:ns.any outI=true:=by rw [List.any_eq_true];exact⟨k,by rw [←hkk.o];exact List.getElem_mem hi',hoh.o⟩
    rw [this];simp
   |false=>
    rw [ho]at hcall;have hoh:=zh ho;clear ho;go_wp2_with (go_at_call 195;refine hcall.mono ?_;rintro e w' ⟨rfl,rfl⟩)
    go_roundg (n - i)
    case measure=>omega
    case rel=>refine⟨i+1,by go_num,by have:=hlth.o;omega,by have:=hlth.o;omega,?_,rfl⟩;rw [htk.o,List.any_append,hpreh.o];simp [hoh.o]
  ·have hin:i=n:=by omega
   have hge:¬(i:Int)<n:=by omega
   clear hlt hk;go_wp2;go_ret;refine⟨rfl,-1,rfl,?_⟩;have:=hpreh.o;rw [List.take_of_length_le (by omega)]at this;rw [this];rfl
theorem hasI_t (w:World) (A:Option Addr) (n c:Nat) (ns:List Int) (hR:Rd w 1 A n (intCells ns)) (hn:ns.length=n) (hmax:n≤150000000000000):
  Calls Tryz.prog 194 #[.slice A n c,.func (.func 195) #[] #[]] w fun e w'=>e= .returned (.bool (ns.any outI))∧w=w':=by
 have hidx:=idxI_t w A n c ns hR hn hmax;go_enter Tryz.func194,Tryz.ntmps194;go_wp2_with (go_at_call 238;refine hidx.mono ?_;rintro e w' ⟨rfl,r,rfl,hr⟩)
 go_ret;exact⟨ret_bool (by simp),rfl⟩
def begins (d:List UInt8):Nat→List Int→Bool
 |_,[]=>true
 |j,k::ks=>decide ((nib d j:Int)=k)&&begins d (j+1) ks
theorem begins_take {d:List UInt8}:∀{ns:List Int}{i j:Nat}(h:i<ns.length),begins d j (ns.take (i+1))=(begins d j (ns.take i)&&decide ((nib d (j+i):Int)=ns[i]))
 |k::ns,0,j,h=>by simp [begins]
 |k::ns,i+1,j,h=>by have:=begins_take (d:=d) (ns:=ns) (i:=i) (j:=j+1) (by simpa using h);simp only [List.take_succ_cons,begins,this,Bool.and_assoc,zB];rw [show j+1+i=j+(i+1) by omega]
def underL (l:List Pr) (ns:List Int):List Pr:=l.filter fun y=>begins (pathOf y.1) 0 ns
theorem underL_nil (l:List Pr):underL l []=l:=by
 unfold underL;rw [List.filter_eq_self];intro _ _;rfl
theorem underL_take {l:List Pr}{ns:List Int}{i:Nat}(h:i<ns.length):underL l (ns.take (i+1))=(underL l (ns.take i)).filter fun y=>decide ((nib (pathOf y.1) i:Int)=ns[i]):=by
 unfold underL;rw [List.filter_filter];congr 1;funext y;rw [begins_take h,Nat.zero_add,Bool.and_comm]
theorem underL_kid {l:List Pr}{ns:List Int}{i:Nat}{k:Nat}{f:Nat}(h:i<ns.length) (hk:ns[i]=(k:Int)) (hf:63 - f=i):underL l (ns.take (i+1))=kid f (underL l (ns.take i)) k:=by
 rw [underL_take h,hk];unfold kid;rw [hf];congr 1;funext y;rw [decide_eq_decide];omega
end Go.Proofs.YtpmgepijkhaonaaGreat.T
namespace Go.Proofs.YtpmgepijkhaonaaGreat.T
open Go.RowKit Go.Sig
def badI (ns:List Int):Bool:=decide (64<ns.length) ||ns.any outI
def UnderOk (w:World) (X:List Nat) (l:List Pr) (ns:List Int) (v:Value):Prop:=
 if badI ns then v= .tuple #[nilP,.int .i64 6]else∃p,v= .tuple #[p,.int .i64 0]∧NodeAt w X (64 - ns.length) (underL l ns) p
theorem underL_more {l:List Pr}{ns:List Int}{i:Nat}(h:underL l (ns.take i)= []):underL l ns= []:=by
 unfold underL at h⊢;rw [List.filter_eq_nil_iff]at h⊢;intro y hy hb;refine h y hy ?_;have key:∀(ms:List Int) (j i:Nat),begins (pathOf y.1) j ms=true→begins (pathOf y.1) j (ms.take i)=true:=by
  intro ms;induction ms with
  |nil=>intro j i _;simp [begins]
  |cons k ms ih=>
   intro j i hb;cases i with
   |zero=>rfl
   |succ i=>simp only [begins,Bool.and_eq_true]at hb;simp only [List.take_succ_cons,begins,Bool.and_eq_true];exact⟨hb.1,ih _ _ hb.2⟩
 exact key ns 0 i hb
theorem under_one {l:List Pr}{ns:List Int}{i:Nat}{y:Pr}(h:underL l (ns.take i)= [y]):underL l ns=if begins (pathOf y.1) 0 ns then [y]else []:=by
 have key:∀(z:Pr) (ms:List Int) (j i:Nat),begins (pathOf z.1) j ms=true→begins (pathOf z.1) j (ms.take i)=true:=by
  intro z ms;induction ms with
  |nil=>intro j i _;simp [begins]
  |cons k ms ih=>
   intro j i hb;cases i with
   |zero=>rfl
   |succ i=>simp only [begins,Bool.and_eq_true]at hb;simp only [List.take_succ_cons,begins,Bool.and_eq_true];exact⟨hb.1,ih _ _ hb.2⟩
 have e:underL l ns=(underL l (ns.take i)).filter fun y=>begins (pathOf y.1) 0 ns:=by
  unfold underL;rw [List.filter_filter];apply List.filter_congr;intro z _;cases hz:begins (pathOf z.1) 0 ns with
  |false=>rfl
  |true=>simp [key z ns 0 i hz]
 rw [e,h];simp [List.filter_cons]
theorem begins_from {d:List UInt8}{ns:List Int}:∀{i:Nat},begins d 0 (ns.take i)=true→i≤ns.length→(∀j,i≤j→∀h:j<ns.length,(nib d j:Int)=ns[j])→begins d 0 ns=true:=by
 intro i h hi hall;have key:∀m,i+m≤ns.length→begins d 0 (ns.take (i+m))=true:=by
  intro m;induction m with
  |zero=>intro _;exact h
  |succ m ih=>intro hm;rw [show i+(m+1)=(i+m)+1 by omega,begins_take (by omega),ih (by omega),Nat.zero_add];simpa using hall (i+m) (by omega) (by omega)
 have:=key (ns.length - i) (by omega);rwa [show i+(ns.length - i)=ns.length by omega,List.take_length]at this
theorem begins_not {d:List UInt8}{ns:List Int}{j:Nat}(h:j<ns.length) (hne:(nib d j:Int)≠ns[j]):begins d 0 ns=false:=by
 have key:∀(ms:List Int) (a i:Nat) (hi:i<ms.length),(nib d (a+i):Int)≠ms[i]→begins d a ms=false:=by
  intro ms;induction ms with
  |nil=>intro a i hi;simp at hi
  |cons k ms ih=>
   intro a i hi hne;cases i with
   |zero=>
    simp only [begins];have:decide ((nib d a:Int)=k)=false:=by simpa using hne
    rw [this];rfl
   |succ i=>simp only [begins,ih (a+1) i (by simpa using hi) (by rw [show a+1+i=a+(i+1) by omega];simpa using hne),Bool.and_false]
 exact key ns 0 j h (by rw [Nat.zero_add];exact hne)
set_option maxRecDepth 100000 in
set_option maxHeartbeats 4000000 in
theorem under_t (w:World) (X:List Nat) (t:Nat) (l:List Pr) (hT:TrieIn w X t l) (hsm:Small l) (A:Option Addr) (n c:Nat) (ns:List Int) (hR:Rd w 1 A n (intCells ns)) (hn:ns.length=n) (hmax:n≤150000000000000):
  Calls Tryz.prog 138 #[.pointer (some ⟨t,0,none⟩),.slice A n c] w fun e w'=>∃v,e= .returned v∧UnderOk w' X l ns v∧Fr [] w w':=by
 obtain⟨p,hB,hN,htX,hX⟩:=hT;have hct:=hB.cell 0;simp only [zG,zH]at hct;have htl:=hB.lt;by_cases h64:64<n
 ·have h64i:(64:Int)<n:=by omega
  have hbad:badI ns=true:=by unfold badI;rw [hn];simp [h64]
  have hbh:=zh hbad;clear hbad;go_enter Tryz.func138,Tryz.ntmps138;go_wp2;go_ret2;exact⟨_,rfl,by unfold UnderOk;rw [if_pos hbh.o];rfl,Fr.refl _ _⟩
 ·have h64i:¬(64:Int)<n:=by omega
  have hhas:=hasI_t w A n c ns hR hn hmax;cases hany:ns.any outI with
  |true=>
   rw [hany]at hhas;have hbad:badI ns=true:=by unfold badI;rw [hany];simp
   have hbh:=zh hbad;clear hbad hany;go_enter Tryz.func138,Tryz.ntmps138;go_wp2_with (go_at_call 194;refine hhas.mono ?_;rintro e w' ⟨rfl,rfl⟩)
   go_ret2;exact⟨_,rfl,by unfold UnderOk;rw [if_pos hbh.o];rfl,Fr.refl _ _⟩
  |false=>
   rw [hany]at hhas;have hbad:badI ns=false:=by unfold badI;rw [hany,hn];simpa using h64
   have hbh:=zh hbad;have hin:∀i,∀h:i<ns.length,0≤ns[i]∧ns[i]≤15:=by intro i h;have:=(List.any_eq_false.1 hany) ns[i] (List.getElem_mem h);unfold outI at this;simp at this;omega
   have hinh:=zh hin;have hNh:=zh hN;clear hbad hany hin hN;go_enter Tryz.func138,Tryz.ntmps138;go_upto_block 0 with(go_at_call 194;refine hhas.mono ?_;rintro e w' ⟨rfl,rfl⟩)
   go_wp2_with fail
   go_loopg [6,7,8,9,10,26] (n+1) (fun gk s6 s7 s8 s9 s10 s26 wr=>∃(i:Nat),s26= .int .i64 i∧i≤n∧n - i<gk∧NodeAt wr X (64 - i) (underL l (ns.take i)) s6∧Fr [] w wr)
   case atStart=>exact⟨0,rfl,by omega,by omega,by rw [List.take_zero,underL_nil];exact hNh.o,Fr.refl _ _⟩
   case round=>
    obtain⟨i,rfl,hi,hk,hNi,hF⟩:=hrel;by_cases hlt:i<n
    ·have hlt':(i:Int)<n:=by omega
     have hlth:=zh hlt;have hi':i<ns.length:=by omega
     have hRr:=Rd.fr hR hF (by simp [Off]);obtain⟨b,o,rfl,hcell⟩:=hRr.2 (by omega);have hcellh:=zh (fun(j:Nat) (hj:j<ns.length)=>hcell j (.int .i64 ns[j]) (by rw [intCells,List.getElem?_map,List.getElem?_eq_getElem hj];rfl));have ck:=hcellh.o i hi';have hkr:=hinh.o i hi';obtain⟨f,hf⟩:∃f,64 - i=f+1:=⟨63 - i,by omega⟩
     have hfi:63 - f=i:=by omega
     rw [hf]at hNi;have hukh:=zh (fun(k:Nat) (hk:ns[i]=(k:Int))=>underL_kid (l:=l) hi' hk hfi);have hls:(underL l (ns.take i)).length≤10000:=Nat.le_trans (List.length_filter_le _ _) hsm.2;have hsub:∀y∈underL l (ns.take i),y∈l:=fun y hy=>(List.mem_filter.1 hy).1;have hcase:(underL l (ns.take i)= []∧u6=nilP)∨(∃y,underL l (ns.take i)= [y]∧LeafAt wr X (leaf1 y) [y] u6)∨∃ps D',D'.length=32∧BranchAt wr X D' (underL l (ns.take i)).length ps u6∧∀j,j<16→NodeAt wr X f (kid f (underL l (ns.take i)) j) (ps.getD j undef):=by
      match h:underL l (ns.take i),hNi with
      | [],hN'=>exact .inl ⟨rfl,node_nil.1 hN'⟩
      | [y],hN'=>exact .inr (.inl ⟨y,rfl,node_one.1 hN'⟩)
      |y::z::l',hN'=>obtain⟨ps,h1,h2⟩:=(node_branch (by simp)).1 hN';exact .inr (.inr ⟨ps,_,dig_length _ _,h1,h2⟩)
     have hFh:=zh hF;clear hNi hcell;rcases hcase with⟨h0,rfl⟩ | ⟨y,hy,hL⟩ | ⟨ps,D',hD',⟨gq,kq,rfl,hgq,hkq,hBq,hKq,hps⟩,hkids⟩
     ·have h0h:=zh (underL_more h0);unfold nilP;clear h0 hsub;go_wp2;go_ret2;refine⟨_,rfl,?_,hFh.o⟩;unfold UnderOk;rw [if_neg (by rw [hbh.o];simp),h0h.o];exact⟨_,rfl,node_nil.2 rfl⟩
     ·obtain⟨gq,A1,c1,rfl,hgq,hBq,hR1,hc1,hA1⟩:=hL;have hLh:Hid (LeafAt wr X (leaf1 y) [y] (.pointer (some ⟨gq,0,none⟩))):=⟨gq,A1,c1,rfl,hgq,hBq,hR1,hc1,hA1⟩
      obtain⟨b1,o1,rfl,hcell1⟩:=hR1.2 (by simp);have hcn:=hcell1 0 (.string y.1) rfl;rw [Nat.add_zero]at hcn;have c32:=(hBq.cell 32).trans (nodeCells_at (sha_len _)).1;have c33:=(hBq.cell 33).trans (nodeCells_at (sha_len _)).2.1;have hql:=hBq.lt;unfold nilP at c33;rw [show([y]:List Pr).length=1 from rfl]at c32;have hys:=(hsm.1 y (hsub y (by rw [hy];simp))).1;have hyh:=zh hy;have hbg:=zh (show begins (pathOf y.1) 0 (ns.take i)=true by
       have:y∈underL l (ns.take i):=by rw [hy];simp
       simpa using (List.mem_filter.1 this).2)
      obtain⟨cW,cC,hcv,hcF,hcB,hcS,hcc⟩:=conv_any y.1;obtain⟨D,HD⟩:∃z,Hid (pathOf y.1=z):=⟨_,zh rfl⟩
      have hsD:=zh (show sha y.1.data.toList=D from HD.o);have hDl:D.length=32:=by rw [←HD.o];rfl
      have hcFh:=zh (hcF wr);have hcBh:=zh (hcB wr wr.heap.size rfl);have hcch:=zh (hcc wr);clear hy hsub hcell1 hcF hcB hcc hBq hR1;go_wp2_with fail
      refine(sum1_t (cW wr) _ _ _ _ hcBh.o hcch.o (by omega)).mono ?_;rintro e W2 ⟨rfl,F2⟩;rw [hsD.o];have F12:=hcFh.o.trans F2;have ck2:=cell_fr F12 ck;have hbl:=block_lt_of_cell ck2;clear hcFh hcBh hcch hcv hcS F2 ck c32 c33 hcn;go_upto_region 12 with(refine wpList_store_row rfl 192 _ _ rfl W2.heap.size (digCells D) rfl rfl 192 _ (Blk.new W2 192 _) (by rw [digCells_size hDl];kernel_rfl) (by rw [digCells_size hDl];rfl) (digCells_one D) ?_)
      refine wp_gen (fun W3=>Blk W3 W2.heap.size 192 (digCells D)∧Fr [] W2 W3) ⟨Blk.setRow (Blk.new W2 192 _) _,((Fr.refl _ _).alloc _).setRow (.inr (Nat.le_refl _)) _⟩ ?_;rintro W3 ⟨hBe,F3⟩;obtain⟨ge,HGE⟩:∃z,Hid (W2.heap.size=z):=⟨_,zh rfl⟩
      rw [HGE.o]at hBe⊢;have hcell3:=zh (fun(j:Nat) (hj:j<ns.length)=>cell_fr (F12.trans F3) (hcellh.o j hj));have f13:=zh (F12.trans F3);clear ck2 hbl F12 F3 hRr;go_wp2_with fail
      go_loopg [10] (n+1) (fun gj s10 wq=>∃(j:Nat),s10= .int .i64 j∧i≤j∧j≤n∧n - j<gj∧(∀m,i≤m→m<j→∀h:m<ns.length,(nib D m:Int)=ns[m])∧Fr [] W3 wq)
      case atStart=>exact⟨i,rfl,by omega,by omega,by omega,fun m h1 h2=>by omega,Fr.refl _ _⟩
      case round=>
       obtain⟨j,rfl,hij,hjn,hkj,hall,hFq⟩:=hrel;have hallh:=zh hall;have hFqh:=zh hFq;clear hall hFq;by_cases hjl:j<n
       ·have hjl':(j:Int)<n:=by omega
        have hjlh:=zh hjl;have hj':j<ns.length:=by omega
        have cj:=cell_fr hFqh.o (hcell3.o j hj');have hrg:=range_blk (hBe.fr hFqh.o (by simp));have hj64:j<64:=by omega
        have hu:=uPath;have hi2:=infoPathL hDl;have hbll:=block_lt_of_cell cj;have hgel:=(hBe.fr hFqh.o (by simp)).lt;obtain⟨kj,hkjj⟩:∃z,Hid (ns[j]=z):=⟨_,zh rfl⟩
        rw [hkjj.o]at cj;have hatt:=fun W'=>at_t W' D j hDl hj64;obtain⟨nj,HNJ⟩:∃z,Hid ((nib D j:Int)=z):=⟨_,zh rfl⟩
        rw [HNJ.o]at hatt;have hatth:=zh hatt;clear hatt;go_upto_region 15 with(fail)
        go_region_held_law (fun w'=>w'.cell? ⟨b,o+j,none⟩=some (.int .i64 kj)∧w'.rangeAt ge 0 (D.map bv)) ((first |exact⟨cj,hrg⟩ |exact⟨m1,m2⟩))
         (first
           | (try go_simp
              go_at_call 164
              refine(hatth.o _).mono ?_;rintro e w' ⟨rfl,F5⟩;have F6:Fr [] wr w':=F5.of_drew;have m1:=cell_fr F6 cj;have m2:=range_fr0 F6 hrg;dsimp only))
        by_cases hne:nj=kj
        ·have hneh:=zh hne;have hne1:(nj !=kj)=false:=by simpa using hne
         clear hne;go_wp2;go_roundg (n - j)
         case measure=>omega
         case rel=>
          refine⟨j+1,by go_num,by omega,by have:=hjlh.o;omega,by have:=hjlh.o;omega,fun m h1 h2 h=> ?_,hFqh.o.trans F6⟩;by_cases e:m=j
          ·subst e;rw [HNJ.o,hkjj.o];exact hneh.o
          ·exact hallh.o m h1 (by omega) h
        ·have hneh:=zh hne;have hne1:(nj !=kj)=true:=by simpa using hne
         clear hne;go_wp2;go_ret2;refine⟨_,rfl,?_,hFh.o.trans (f13.o.trans (hFqh.o.trans F6))⟩;unfold UnderOk;rw [if_neg (by rw [hbh.o];simp),under_one hyh.o,if_neg (by
          rw [HD.o,begins_not hj' (by rw [HNJ.o,hkjj.o];exact hneh.o)];simp)]
         exact⟨_,rfl,node_nil.2 rfl⟩
       ·have hjn':j=n:=by omega
        have hge:¬(j:Int)<n:=by omega
        clear hjl hkj;go_wp2;go_ret2;refine⟨_,rfl,?_,hFh.o.trans (f13.o.trans hFqh.o)⟩;unfold UnderOk;rw [if_neg (by rw [hbh.o];simp),under_one hyh.o,if_pos (by
         have h1:=hbg.o;rw [HD.o]at h1⊢;exact begins_from h1 (by omega) (fun m h1 h=>hallh.o m h1 (by omega) h))]
        exact⟨_,rfl,node_one.2 (LeafAt.go ⟨f13.o.trans hFqh.o,by simp,fun y hy=> .inl hy⟩ hLh)⟩
     ·obtain⟨k,hk2⟩:∃k:Nat,ns[i]=(k:Int):=⟨ns[i].toNat,by omega⟩
      have huk:=zh (hukh.o k hk2);have hk16:k<16:=by omega
      have hk16i:(k:Int)<16:=by omega
      rw [hk2]at ck;have c33:=(hBq.cell 33).trans (nodeCells_at hD').2.1;have ckk:wr.cell? ⟨kq,k,none⟩=some (ps.getD k undef):=by rw [hKq.cell,zG];exact getD_some (by omega)
      have hql:=hBq.lt;have hkl:=hKq.lt;have hNk:=zh (hkids k hk16);obtain⟨pk,HPK⟩:∃z,Hid (ps.getD k undef=z):=⟨_,zh rfl⟩
      rw [HPK.o]at ckk hNk;have hk2h:=zh hk2;have hfh:=zh hf;clear hkids hsub hk2 hkr hf hBq hKq;go_wp2;go_roundg (n - i)
      case measure=>omega
      case rel=>refine⟨i+1,by go_num,by have:=hlth.o;omega,by have:=hlth.o;omega,?_,hFh.o⟩;rw [huk.o,show 64 - (i+1)=f by have:=hfh.o;omega];exact hNk.o
    ·have hin:i=n:=by omega
     have hge:¬(i:Int)<n:=by omega
     have hNih:=zh hNi;have hFh:=zh hF;clear hlt hk hNi hF;go_wp2;go_ret2;refine⟨_,rfl,?_,hFh.o⟩;have h1:=hNih.o;rw [List.take_of_length_le (by omega),hin,←hn]at h1;unfold UnderOk;rw [if_neg (by rw [hbh.o];simp)];exact⟨_,rfl,h1⟩
end Go.Proofs.YtpmgepijkhaonaaGreat.T
namespace Go.Proofs.YtpmgepijkhaonaaGreat.T
open Go.RowKit Go.Sig
theorem results_cell_tmp {P:Program}{fn:Func}{p q:Tmp}{ty:TypeId}(h:fn.results=#[.cell p ty,.tmp q]) (tmps:Array Value) (w:World) (g:Nat) (t:TypeId) (cs:Array Value) (fr:Nat×Nat) (d:TypeDesc)
  (hp:tmps.getD p undef= .pointer (some ⟨g,0,none⟩)) (hg:w.heap[g]? =some (.cells cs t fr))
  (hu:P.underlying ty=some d) (hd:(match d with | .struct _ | .array _ _=>true |_=>false)=true) (hi:(P.info? ty).map (·.size)=some cs.size) {v:Value}(hv:tmps.getD q undef=v):
  (results fn tmps).run P w= .ok (.tuple #[.agg cs,v]) w:=by
 subst hv;have hp':tmps[p]?.getD undef= .pointer (some ⟨g,0,none⟩):=by simpa using hp
 simp [results,h,hp',asAddr,run_loadVar_row w g t ty cs fr d hg hu hd hi]
def nodeD (l:List Pr) (ns:List Int):List UInt8:=if badI ns then List.replicate 32 0 else dig (64 - ns.length) (underL l ns)
def nodeE (ns:List Int):Int:=if badI ns then 6 else 0
theorem nodeD_length (l:List Pr) (ns:List Int):(nodeD l ns).length=32:=by
 unfold nodeD;split
 ·rfl
 ·exact dig_length _ _
set_option maxRecDepth 100000 in
set_option maxHeartbeats 1000000 in
theorem node_t (w:World) (X:List Nat) (t:Nat) (l:List Pr) (hT:TrieIn w X t l) (hsm:Small l) (A:Option Addr) (n c:Nat) (ns:List Int) (hR:Rd w 1 A n (intCells ns)) (hn:ns.length=n) (hmax:n≤150000000000000):
  Calls Tryz.prog 86 #[.pointer (some ⟨t,0,none⟩),.slice A n c] w fun e w'=>e= .returned (.tuple #[.agg (digCells (nodeD l ns)),.int .i64 (nodeE ns)])∧Fr [] w w':=by
 have hund:=fun(W:World) (hF:Fr [] w W)=>under_t W X t l (hT.fr0 hF) hsm A n c ns (Rd.fr hR hF (by simp [Off])) hn hmax;have hundh:=zh hund;have hTh:=zh hT;have hdl:=nodeD_length l ns;clear hund hT;go_enter Tryz.func86,Tryz.ntmps86;go_upto_region 1 with(fail)
 refine wp_gen (fun W=>(∃zs,Blk W w.heap.size 74 zs∧zs.size=32)∧Fr [] w W) ⟨⟨_,Blk.new _ _ _,rfl⟩,(Fr.refl _ _).alloc _⟩ ?_;rintro W ⟨⟨zs,hD,hz⟩,fW⟩;obtain⟨gd,HGD⟩:∃x,Hid (w.heap.size=x):=⟨_,zh rfl⟩
 rw [HGD.o]at hD⊢;go_wp2_with fail
 refine(hundh.o W fW).mono ?_;rintro e W2 ⟨v,rfl,hU,F2⟩;have hv:∃p f l2,v= .tuple #[p,.int .i64 (nodeE ns)]∧NodeAt W2 X f l2 p∧dig f l2=nodeD l ns:=by
  unfold UnderOk at hU;unfold nodeE nodeD;cases hb:badI ns with
  |true=>rw [hb]at hU;exact⟨nilP,0,[],hU,node_nil.2 rfl,dig_nil 0⟩
  |false=>rw [hb]at hU;obtain⟨p,hp,hN⟩:=hU;exact⟨p,_,_,hp,hN,rfl⟩
 obtain⟨p,f,l2,rfl,hN,hdg⟩:=hv;have hns:=nsum_t W2 X f l2 p hN;rw [hdg]at hns;have hD2:=hD.fr F2 (by simp);obtain⟨D,HDD⟩:∃x,Hid (nodeD l ns=x):=⟨_,zh rfl⟩
 obtain⟨er,HER⟩:∃x,Hid (nodeE ns=x):=⟨_,zh rfl⟩
 rw [HDD.o]at hns hdl;rw [HER.o];clear hU hN hdg;go_wp2_with (first
  | (go_at_call 139;refine hns.mono ?_;rintro e W3 ⟨rfl,F3⟩)
  |refine wpList_store_row rfl 74 _ _ rfl gd (digCells D) rfl rfl 74 zs (hD2.fr F3 (by simp)) (infoDigA hdl) (by rw [hz,digCells_size hdl]) (digCells_one D) ?_)
 exact bodyPost_ret (v:= .tuple #[.agg (digCells D),.int .i64 er]) (results_cell_tmp (p:=4) (q:=5) rfl _ _ gd 74 (digCells D) (0,0) _ rfl (Blk.setRow (hD2.fr F3 (by simp)) _) uDig rfl (infoDigA hdl) rfl) rfl ⟨by rw [HDD.o,HER.o],((fW.trans F2).trans F3).setRow (.inr (by have:=HGD.o;omega)) _⟩
def newR:List Pr→List Pr→Int×List Pr
 | [],l=>(0,l)
 |y::ys,l=>if putE y.1 y.2 l=0 then newR ys (put y l)else(putE y.1 y.2 l,l)
def NewPost (w:World) (X:List Nat) (R:Int×List Pr) (e:Ending) (w':World):Prop:=
 Fr [] w w'∧((R.1=0∧∃t,e= .returned (.tuple #[.pointer (some ⟨t,0,none⟩),.int .i64 0])∧w.heap.size≤t∧TrieIn w' (t::X) t R.2∧Good R.2)∨(R.1≠0∧e= .returned (.tuple #[nilP,.int .i64 R.1])))
set_option maxRecDepth 100000 in
set_option maxHeartbeats 1000000 in
theorem new_t (w:World) (X:List Nat) (hX:∀g∈X,g<w.heap.size) (A:Option Addr) (n c:Nat) (ps:List Pr) (hR:Rd w 2 A n (pairCells ps)) (hn:ps.length=n) (hmax:n≤150000000000000) (hs:∀y∈ps,y.1.size≤1000000∧y.2.size≤1000000):
  Calls Tryz.prog 74 #[.slice A n c] w (NewPost w X (newR ps [])):=by
 obtain⟨R,HR⟩:∃R,Hid (newR ps []=R):=⟨_,zh rfl⟩
 rw [HR.o];go_enter Tryz.func74,Tryz.ntmps74;go_upto_region 2 with(fail)
 refine wp_gen (fun W=>Blk W w.heap.size 188 #[nilP]∧Fr [] w W) ⟨Blk.new _ _ _,(Fr.refl _ _).alloc _⟩ ?_;rintro W ⟨hB,fW⟩;obtain⟨t,HT⟩:∃x,Hid (w.heap.size=x):=⟨_,zh rfl⟩
 rw [HT.o]at hB⊢;have hT0:TrieIn W (t::X) t []:=⟨nilP,hB,node_nil.2 rfl,by simp,fun g hg=>(List.mem_cons.1 hg).elim (fun e=>by rw [e];exact hB.lt) (fun h=>Nat.lt_of_lt_of_le (hX g h) fW.size)⟩
 have hG0:Good []:=⟨List.Pairwise.nil,fun y hy=>by simp at hy,by simp⟩
 have hAt:0<n→Off [t] A:=fun h0 ad e=>by have:=Rd.lt hR (by decide) h0 ad e;rw [HT.o]at this;simp;omega
 have hRW:=Rd.fr hR fW (by simp [Off]);clear hB hR;go_wp2_with fail
 go_loopg [6,7,12] (n+1) (fun gk s6 s7 s12 wr=>∃(i:Nat) (l:List Pr),s12= .int .i64 i∧i≤n∧n - i<gk∧TrieIn wr (t::X) t l∧Good l∧newR (ps.drop i) l=R∧Fr [t] W wr)
 case atStart=>exact⟨0,[],rfl,by omega,by omega,hT0,hG0,by rw [List.drop_zero];exact HR.o,Fr.refl _ _⟩
 case round=>
  clear hT0 hG0;obtain⟨i,l,rfl,hi,hk,hTi,hGi,hRi,hF⟩:=hrel;have hTih:=zh hTi;have hGih:=zh hGi;have hRih:=zh hRi;have hFh:=zh hF;by_cases hlt:i<n
  ·have hlt':(i:Int)<n:=by omega
   have hlth:=zh hlt;have hi':i<ps.length:=by omega
   have hRr:=Rd.fr hRW hF hAt;obtain⟨b,o,rfl,hcell⟩:=hRr.2 (by omega);have hp:=pairCells_at hi';have cn:=hcell _ _ hp.1;have cv:=hcell _ _ hp.2;rw [←Nat.add_assoc]at cv;have hsy:=hs ps[i] (List.getElem_mem hi');have hdr:=zh (List.drop_eq_getElem_cons hi');clear hcell hp hRr hTi hGi hRi hF;obtain⟨⟨y1,y2⟩,hy⟩:∃z,Hid (ps[i]=z):=⟨_,zh rfl⟩
   rw [hy.o]at cn cv hdr hsy;simp only at cn cv hsy;have hput:=fun(W':World) (h:TrieIn W' (t::X) t l)=>put_t W' (t::X) t l y1 y2 (by omega) (by omega) h hGih.o;have hputh:=zh hput;clear hput;go_upto_region 5 with(fail)
   refine wp_gen (fun W3=>Blk W3 wr.heap.size 191 #[.string y1,.string y2]∧Fr [] wr W3) ⟨Blk.new _ _ _,(Fr.refl _ _).alloc _⟩ ?_;rintro W3 ⟨hBp,F3⟩;have d1:=(hBp.cell 0)
   have d2:=(hBp.cell 1)
   simp only [zG,zH,zI]at d1 d2;have hpl:=hBp.lt;clear cn cv;go_wp2_with fail
   refine(hputh.o W3 (hTih.o.fr0 F3)).mono ?_;rintro e W4 ⟨rfl,hT4,F4⟩;by_cases he:putE y1 y2 l=0
   ·have e2:putM y1 y2 l=put (y1,y2) l:=by unfold putM;rw [if_pos he]
    have hG4:=zh (putM_good (k:=y1) (v:=y2) hGih.o);rw [e2]at hT4 hG4;have hT4h:=zh hT4;have heh:=zh he;rw [he];clear he e2 hT4;go_wp2;go_roundg (n - i)
    case measure=>omega
    case rel=>refine⟨i+1,put (y1,y2) l,by go_num,by have:=hlth.o;omega,by have:=hlth.o;omega,hT4h.o,hG4.o,?_,hFh.o.trans (F3.nil.trans F4)⟩;have:=hRih.o;rw [hdr.o]at this;unfold newR at this;rwa [if_pos heh.o]at this
   ·have hR2:R=(putE y1 y2 l,l):=by
     have:=hRih.o;rw [hdr.o]at this;unfold newR at this;rw [if_neg he]at this;exact this.symm
    obtain⟨pe,HPE⟩:∃z,Hid (putE y1 y2 l=z):=⟨_,zh rfl⟩
    rw [HPE.o]at he hR2⊢;have he1:(pe !=0)=true:=by simpa using he
    have heh:=zh he;have hR2h:=zh hR2;clear he hR2 hT4;go_wp2;go_ret2;have FE:=(fW.nil.trans (hFh.o.trans (F3.nil.trans F4))).mono' (S':= []) (fun z hz=> .inr (by have:=HT.o;simp at hz;omega));refine⟨FE,.inr ?_⟩;rw [hR2h.o];exact⟨heh.o,rfl⟩
  ·have hin:i=n:=by omega
   have hge:¬(i:Int)<n:=by omega
   have hR2:R=(0,l):=by rw [←hRi,List.drop_of_length_le (by omega)];rfl
   have hR2h:=zh hR2;clear hlt hk hTi hGi hRi hF hR2;go_wp2;go_ret2;have FE:=(fW.nil.trans hFh.o).mono' (S':= []) (fun z hz=> .inr (by have:=HT.o;simp at hz;omega));refine⟨FE,.inl ?_⟩;rw [hR2h.o];exact⟨rfl,t,rfl,Nat.le_of_eq HT.o,hTih.o,hGih.o⟩
end Go.Proofs.YtpmgepijkhaonaaGreat.T
