/- Walk: the document's Do: words, and a command that may not be. Conditions: each theorem's own. -/
import Derived.Test.YtdeoinjjphdbmaaGreatGi
import Derived.Test.YtdeoinjjphdbmaaGreatRf
import Derived.Test.YtdeoinjjphdbmaaGreatJj
import Derived.Test.YtdeoinjjphdbmaaGreatJl
import Derived.Test.YtdeoinjjphdbmaaGreatJf
import Derived.Test.YtdeoinjjphdbmaaGreatJo
import Derived.Test.YtdeoinjjphdbmaaGreatJp
import Derived.Test.YtdeoinjjphdbmaaGreatJq
import Derived.Test.YtdeoinjjphdbmaaGreatKf
namespace Go.Proofs.YtdeoinjjphdbmaaGreat
open Go.RowKit Go.Sig
set_option maxRecDepth 100000 in
theorem infoRdigA {l:List UInt8}(h:l.length=32):(Tryz.prog.info? 166).map (·.size)=some (digCells l).size:=by
 simp only [digCells,List.size_toArray,List.length_map,h]
 exact(by kernel_rfl:(Tryz.prog.info? 166).map (·.size)=some 32)
set_option maxRecDepth 100000 in
set_option maxHeartbeats 2000000 in
theorem rchal_t (w:World) (ver me:ByteArray) (hv:ver.size≤1000000):Calls Tryz.prog 108 #[.string ver,.string me] w (ChalPost w (chalM ver me)):=by
 have hver:=fun(W:World)=>rver_t W ver (by omega)
 have e1:=toList_beq me sPlain
 have e2:=toList_beq me sS256
 rw [show sPlain.toList= [112,108,97,105,110] by rw [Lib.toList_data];rfl]at e1
 rw [show sS256.toList= [83,50,53,54] by rw [Lib.toList_data];rfl]at e2
 unfold chalM ChalPost
 obtain⟨r,hr⟩:∃z,Hid (verM ver=z):=⟨_,zh rfl⟩
 simp only [hr.o]at hver⊢
 by_cases h1:me=sPlain
 ·rw [decide_eq_true h1]at e1
  rw [if_pos h1]
  clear e2 h1
  cases r with
  |true=>
   go_enter Tryz.func108,Tryz.ntmps108
   go_wp2_with (go_at_call 105;refine(hver _).mono ?_;rintro e w' ⟨rfl,rfl⟩)
   go_ret2
   exact⟨rfl,Fr.refl _ _⟩
  |false=>
   go_enter Tryz.func108,Tryz.ntmps108
   go_wp2_with (go_at_call 105;refine(hver _).mono ?_;rintro e w' ⟨rfl,rfl⟩)
   go_ret2
   exact⟨rfl,Fr.refl _ _⟩
 ·rw [decide_eq_false h1]at e1
  rw [if_neg h1]
  by_cases h2:me=sS256
  ·rw [decide_eq_true h2]at e2
   rw [if_pos h2]
   clear h1 h2
   cases r with
   |true=>
    obtain⟨cW,cC,hcv,hcF,hcB,hcS,hcc⟩:=conv_any ver
    have hlen:=sha_length ver.data.toList
    have hsum:=rsum_t (cW w) (some ⟨w.heap.size,0,none⟩) _ (cC w) _ (hcB w w.heap.size rfl) (by simp) (by omega)
    have hF0:=zh (hcF w)
    obtain⟨D,HD⟩:∃z,Hid (sha ver.data.toList=z):=⟨_,zh rfl⟩
    rw [HD.o]at hsum hlen⊢
    have hwe:=zh (web_eq D)
    clear hcB hcS hcc hcF
    go_enter Tryz.func108,Tryz.ntmps108
    go_wp2_with (go_at_call 105;refine(hver _).mono ?_;rintro e w' ⟨rfl,rfl⟩)
    refine hsum.mono ?_
    rintro e W1 ⟨rfl,F1⟩
    have f1:=zh (hF0.o.trans F1)
    clear hsum F1 hcv hver
    go_upto_region 8 with(refine wpList_store_row rfl 166 _ _ rfl W1.heap.size (digCells D) rfl rfl 166 _ (Blk.new W1 166 _) (infoRdigA hlen) (by rw [digCells_size hlen];rfl) (digCells_one D) ?_)
    refine wp_gen (fun W2=>Blk W2 W1.heap.size 166 (digCells D)∧Fr [] W1 W2) ⟨Blk.setRow (Blk.new W1 166 _) _,((Fr.refl _ _).alloc _).setRow (.inr (Nat.le_refl _)) _⟩ ?_
    rintro W2 ⟨hB2,F2⟩
    obtain⟨gd,HGD⟩:∃z,Hid (W1.heap.size=z):=⟨_,zh rfl⟩
    rw [HGD.o]at hB2⊢
    have hweb:=rweb_t W2 _ 32 32 D (byts_dig hB2 hlen) (by decide)
    rw [hwe.o]at hweb
    have f2:=zh (f1.o.trans F2)
    have hgl:=hB2.lt
    clear F2 hB2
    go_wp2_with (go_at_call 133;refine hweb.mono ?_;rintro e W3 ⟨rfl,F3⟩)
    go_ret2
    exact⟨rfl,f2.o.trans F3⟩
   |false=>
    go_enter Tryz.func108,Tryz.ntmps108
    go_wp2_with (go_at_call 105;refine(hver _).mono ?_;rintro e w' ⟨rfl,rfl⟩)
    go_ret2
    exact⟨rfl,Fr.refl _ _⟩
  ·rw [decide_eq_false h2]at e2
   rw [if_neg h2]
   clear h1 h2 hver
   go_enter Tryz.func108,Tryz.ntmps108
   go_wp2_with fail
   go_ret2
   exact⟨rfl,Fr.refl _ _⟩
theorem rcheck_t (w:World) (ch me ver:ByteArray) (hv:ver.size≤1000000):Calls Tryz.prog 89 #[.string ch,.string me,.string ver] w fun e w'=>e= .returned (.bool (pkCheck ch me ver))∧Fr [] w w':=by
 have hch:=rchal_t w ver me hv
 rw [pkCheck_chal]
 obtain⟨⟨c,er⟩,hr⟩:∃z,Hid (chalM ver me=z):=⟨_,zh rfl⟩
 rw [hr.o]at hch⊢
 simp only
 unfold ChalPost at hch
 simp only at hch
 have hcc:(c.toList==ch.toList)=decide (c.data.toList=ch.data.toList):=by
  rw [Lib.toList_data,Lib.toList_data,Bool.beq_eq_decide_eq]
 by_cases h0:er=0
 ·subst h0
  go_enter Tryz.func89,Tryz.ntmps89
  go_wp2_with (go_at_call 108;refine hch.mono ?_;rintro e W1 ⟨rfl,F1⟩)
  go_ret
  exact⟨ret_eq (by simp),F1⟩
 ·have h0':(er==0)=false:=by simpa using h0
  rw [decide_eq_false h0]
  clear h0
  go_enter Tryz.func89,Tryz.ntmps89
  go_wp2_with (go_at_call 108;refine hch.mono ?_;rintro e W1 ⟨rfl,F1⟩)
  go_ret
  exact⟨rfl,F1⟩
end Go.Proofs.YtdeoinjjphdbmaaGreat
namespace Go.Proofs.YtdeoinjjphdbmaaGreat
open Go.RowKit Go.Sig
set_option maxRecDepth 100000 in
set_option maxHeartbeats 2000000 in
theorem rmay_out (w:World) (c:GCmd) (A:Option Addr) (n d:Nat) (hk:c.kind<1∨7<c.kind):Calls Tryz.prog 23 #[.agg (cmdV c A n d)] w fun e w'=>e= .returned (.bool (mayM c))∧Fr [] w w':=by
 have hv:=zh (show mayM c=false from mayM_no (fun r=>by have:=r.lo;have:=r.hi;omega))
 obtain⟨k,hkd⟩:∃z,Hid (c.kind=z):=⟨_,zh rfl⟩
 rw [hkd.o]at hk
 have hkh:=zh hk
 clear hk
 unfold cmdV
 go_enter Tryz.func23,Tryz.ntmps23
 go_upto_region 1 with(fail)
 refine wp_gen (fun W=>Blk W w.heap.size 30 (cmdV c A n d)∧Fr [] w W) ⟨Blk.new _ _ _,(Fr.refl _ _).alloc _⟩ ?_
 rintro W0 ⟨hC,f0⟩
 obtain⟨gc,HGC⟩:∃z,Hid (w.heap.size=z):=⟨_,zh rfl⟩
 rw [HGC.o]at hC⊢
 have F0:=zh f0
 obtain⟨c0,c1,c2,c3,c4,c5,c6,c7,c8,c9,c10,c11,c12,hgl⟩:=cmdV_cells hC
 rw [hkd.o]at c0
 clear hC f0
 by_cases h1:k<1
 ·have d1:decide (k<1)=true:=decide_eq_true h1
  clear h1
  go_wp2_with fail
  go_ret
  exact⟨ret_eq hv.o.symm,F0.o⟩
 ·have d1:decide (k<1)=false:=decide_eq_false h1
  have d2:decide (7<k)=true:=decide_eq_true (by have:=hkh.o;omega)
  clear h1
  go_wp2_with fail
  go_ret
  exact⟨ret_eq hv.o.symm,F0.o⟩
theorem rmay17_t (w:World) (c:GCmd) (A:Option Addr) (n d:Nat) (hS:Rd w 1 A n (strCells c.scope)) (hn:c.scope.length=n) (hl:n≤150000000000000) (hs:∀s∈c.scope,s.size≤150000000000000) (hfam:c.family.size≤150000000000000):
  Calls Tryz.prog 23 #[.agg (cmdV c A n d)] w fun e w'=>e= .returned (.bool (mayM c))∧Fr [] w w':=by
 by_cases ho:c.kind<1∨7<c.kind
 ·exact rmay_out w c A n d ho
 ·have hk:c.kind=1∨c.kind=2∨c.kind=3∨c.kind=4∨c.kind=5∨c.kind=6∨c.kind=7:=by omega
  rcases hk with h |h |h |h |h |h |h
  ·exact rmay_1 w c A n d hS hn hl hs hfam h
  ·exact rmay_2 w c A n d hS hn hl hs hfam h
  ·exact rmay_3 w c A n d hS hn hl hs hfam h
  ·exact rmay_4 w c A n d hS hn hl hs hfam h
  ·exact rmay_5 w c A n d hS hn hl hs hfam h
  ·exact rmay_6 w c A n d hS hn hl hs hfam h
  ·exact rmay_7 w c A n d hS hn hl hs hfam h
end Go.Proofs.YtdeoinjjphdbmaaGreat
namespace Go.Proofs.YtdeoinjjphdbmaaGreat
open Go.RowKit Go.Sig
structure RBk (w:World) (X:List Nat) (A:Option Addr) (n:Nat) (l:List FA) (b:GBk):Prop where
 hL:FamsIn w X A n l
 hb:l.map (·.f)=famsM b
 ok:BkOk b
 hX:∀g∈X,g<w.heap.size
 hmax:n≤900000
def RDoPost (w:World) (X:List Nat) (room:Int) (r:List GFam×GAns) (e:Ending) (w':World):Prop:=
 ∃A' c' l' aA ac,e= .returned (.tuple #[.agg #[.slice A' (List.length l') c',.int .i64 room],(AA.mk r.2 aA ac).val])∧FamsIn w' X A' (List.length l') l'∧l'.map (·.f)=r.1∧RdX w' X 1 aA r.2.scope.length (strCells r.2.scope)∧Fr [] w w'
theorem rdo_end {w V:World}{X:List Nat}{A' aA:Option Addr}{n c' ac g4 g5:Nat}{l':List FA}{room:Int}{r:List GFam×GAns}(hL:FamsIn V (X++ [g4,g5]) A' n l') (hl:l'.map (·.f)=r.1) (ha:RdX V (X++ [g4,g5]) 1 aA r.2.scope.length (strCells r.2.scope))
  (hF:Fr [] w V) (h4:w.heap.size≤g4) (h5:w.heap.size≤g5) {cs:Array Value}(hc:(AA.mk r.2 aA ac).cells=cs):
  RDoPost w X room r (.returned (.tuple #[.agg #[.slice A' n c',.int .i64 room],.agg cs])) ((V.setRow g4 #[.slice A' n c',.int .i64 room]).setRow g5 cs):=by
 have hn:=hL.hn
 subst hn
 subst hc
 have F1:Fr [g4,g5] V ((V.setRow g4 #[.slice A' l'.length c',.int .i64 room]).setRow g5 (AA.mk r.2 aA ac).cells):=((Fr.refl [g4,g5] V).setRow (.inl (by simp)) _).setRow (.inl (by simp)) _
 have hm:∀g∈ [g4,g5],g∈X++ [g4,g5]:=fun g hg=>List.mem_append.2 (.inr hg)
 refine⟨A',c',l',aA,ac,rfl,(hL.fr (F1.mono hm)).mono (by simp+contextual),hl,(ha.fr (F1.mono hm)).mono (by simp+contextual),hF.andThen F1 (fun g hg=> .inr ?_)⟩
 simp at hg
 omega
theorem rdo_blks {V:World}{g4 g5:Nat}{cb cs za:Array Value}(h4:Blk V g4 50 #[.slice none 0 0,.int .i64 0]) (h5:Blk V g5 33 za) (hne:g4≠g5):Blk (V.setRow g4 cb) g5 33 za∧Blk ((V.setRow g4 cb).setRow g5 cs) g4 50 cb∧Blk ((V.setRow g4 cb).setRow g5 cs) g5 33 cs:=by
 have a:=h5.fr ((Fr.refl [g4] V).setRow (g:=g4) (.inl (by simp)) cb) (by simp;exact fun h=>hne h.symm)
 exact⟨a,(Blk.setRow h4 cb).fr ((Fr.refl [g5] _).setRow (.inl (by simp)) _) (by simp;exact hne),Blk.setRow a _⟩
theorem get_ok {b:GBk}(ok:BkOk b) (s:ByteArray):FamOk ((dGet s (famsM b)).getD zeroF)∨(dGet s (famsM b)).getD zeroF=zeroF:=by
 rw [dGet_fams ok]
 cases h:aget s b with
 |none=>exact .inr rfl
 |some f=>exact .inl (ok.2 _ _ h).2
theorem dk1 {room:Int}{c:GCmd}{l:List GFam}(hm:mayM c=true) (hk:c.kind=1):dDo room c l=if(dGet c.family l).isSome=true then(l,noA 1)else if room≤(l.length:Int)then(l,noA 7)else(dWith ⟨c.family,c.client,c.user,c.scope,c.redirect,c.challenge,c.method,1,[],false,[]⟩ l,⟨0,0,0,c.scope,nilB,nilB,false,false⟩):=by
 unfold dDo
 rw [if_neg (by rw [hm];decide),if_pos (.inl hk),if_neg (show¬c.kind=4 by omega)]
theorem dk4 {room:Int}{c:GCmd}{l:List GFam}(hm:mayM c=true) (hk:c.kind=4):dDo room c l=if(dGet c.family l).isSome=true then(l,noA 1)else if room≤(l.length:Int)then(l,noA 7)else(dWith (issueM ⟨c.family,c.client,nilB,c.scope,nilB,nilB,nilB,0,[],false,[]⟩ c.scope false).1 l,(issueM ⟨c.family,c.client,nilB,c.scope,nilB,nilB,nilB,0,[],false,[]⟩ c.scope false).2):=by
 unfold dDo
 rw [if_neg (by rw [hm];decide),if_pos (.inr hk),if_pos hk]
theorem dNone {room:Int}{c:GCmd}{l:List GFam}(hm:mayM c=true) (h1:c.kind≠1) (h4:c.kind≠4) (hg:dGet c.family l=none):dDo room c l=(l,noA (if c.kind=2∨c.kind=3 then 3 else 0)):=by
 unfold dDo
 rw [if_neg (by rw [hm];decide),if_neg (by omega),hg]
theorem dk2 {room:Int}{c:GCmd}{l:List GFam}{f:GFam}(hm:mayM c=true) (hk:c.kind=2) (hg:dGet c.family l=some f):dDo room c l=if f.revoked=true∨f.client≠c.client∨f.code=0 then(l,noA 3)
   else if f.code=2 then(dFall f l,noA 3)
   else if f.redirect≠c.redirect∨(f.challenge.size=0∧c.verifier.size≠0)∨(f.challenge.size≠0∧pkCheck f.challenge f.method c.verifier=false)then(l,noA 3)
   else(dWith {(issueM f f.scope c.refresh).1 with code:=2} l,(issueM f f.scope c.refresh).2):=by
 unfold dDo
 rw [if_neg (by rw [hm];decide),if_neg (by omega),hg]
 simp only
 rw [if_pos hk]
theorem dk3 {room:Int}{c:GCmd}{l:List GFam}{f:GFam}(hm:mayM c=true) (hk:c.kind=3) (hg:dGet c.family l=some f):dDo room c l=if f.revoked=true∨f.client≠c.client∨isM f 3 c.serial=false then(l,noA 3)
   else match f.tokens[(c.serial - 1).toNat]? with
   |none=>(l,noA 0)
   |some t=>
    if t.used=true then(dFall f l,noA 3)
    else if within c.scope f.scope=false then(l,noA 6)
    else if 6<f.tokens.length then(l,noA 7)
    else(dWith {(issueM f (if c.scope.length=0 then f.scope else c.scope) true).1 with tokens:=useM (issueM f (if c.scope.length=0 then f.scope else c.scope) true).1.tokens (c.serial - 1).toNat} l,(issueM f (if c.scope.length=0 then f.scope else c.scope) true).2):=by
 unfold dDo
 rw [if_neg (by rw [hm];decide),if_neg (by omega),hg]
 simp only
 rw [if_neg (by omega),if_pos hk]
 rfl
theorem dk5 {room:Int}{c:GCmd}{l:List GFam}{f:GFam}(hm:mayM c=true) (hk:c.kind=5) (hg:dGet c.family l=some f):dDo room c l=if f.revoked=false∧f.client=c.client∧isM f c.token c.serial=true then(dFall f l,⟨0,0,0,[],nilB,nilB,false,true⟩)
   else(l,⟨0,0,0,[],nilB,nilB,false,decide (f.client=c.client)&&f.revoked⟩):=by
 unfold dDo
 rw [if_neg (by rw [hm];decide),if_neg (by omega),hg]
 simp only
 rw [if_neg (by omega),if_neg (by omega),if_pos hk]
theorem dk6 {room:Int}{c:GCmd}{l:List GFam}{f:GFam}(hm:mayM c=true) (hk:c.kind=6) (hg:dGet c.family l=some f):dDo room c l=if f.revoked=true∨c.token=1∨isM f c.token c.serial=false then(l,noA 0)
   else match f.tokens[(c.serial - 1).toNat]? with
   |none=>(l,noA 0)
   |some t=>
    if t.used=true then(l,noA 0)
    else(dWith {f with leases:=leasesM c.edge f.leases} l,⟨0,0,0,t.scope,f.client,f.user,true,false⟩):=by
 unfold dDo
 rw [if_neg (by rw [hm];decide),if_neg (by omega),hg]
 simp only
 rw [if_neg (by omega),if_neg (by omega),if_neg (by omega),if_pos hk]
 rfl
theorem dk7 {room:Int}{c:GCmd}{l:List GFam}{f:GFam}(hm:mayM c=true) (hk:c.kind=7) (hg:dGet c.family l=some f):dDo room c l=if f.revoked=true then(woutM c.family l,noA 0)else(l,noA 0):=by
 unfold dDo
 rw [if_neg (by rw [hm];decide),if_neg (by omega),hg]
 simp only
 rw [if_neg (by omega),if_neg (by omega),if_neg (by omega),if_neg (by omega)]
theorem famT_use {w:World}{X:List Nat}{gt k:Nat}{x:FA}(h:FamT w X x) (ht:x.tA=some ⟨gt,0,none⟩) (hk:k<x.ts.length):
  FamT (w.setCell ⟨gt,k*3+2,none⟩ (.bool true)) X {x with f:={x.f with tokens:=useM x.f.tokens k},ts:=useT x.ts k}:=by
 have hF:Fr [gt] w (w.setCell ⟨gt,k*3+2,none⟩ (.bool true)):=(Fr.refl [gt] w).setCell (p:=⟨gt,k*3+2,none⟩) (.inl (by simp)) _
 have hrow:rowOf (.slice x.tA x.ts.length x.tc)= [gt]:=by rw [ht];rfl
 have hF2:Fr (X++rowOf (.slice x.tA x.ts.length x.tc)) w (w.setCell ⟨gt,k*3+2,none⟩ (.bool true)):=by
  rw [hrow]
  exact hF.mono (by simp+contextual)
 have hT:=h.toks
 rw [ht]at hT
 have hT2:=own_set (v:= .bool true) (j:=k*3+2) hT (by omega)
 have hcells:tokCells (useT x.ts k)=(tokCells x.ts).set (k*3+2) (.bool true):=by rw [tokCells_use,if_pos hk]
 refine⟨by rw [useT_tok,h.ts],?_,?_,?_,?_,fun t ht=> ?_⟩
 ·simp only [useT_length,hcells,ht]
  exact hT2
 ·simp only [useT_length]
  exact h.ft
 ·simp only [useT_length]
  exact h.scope.fr hF2
 ·simp only [useT_length]
  exact h.leases.fr hF2
 ·simp only [useT_length]
  obtain⟨t',h1,h2,h3,h4⟩:=useT_mem ht
  rw [h2,h4]
  exact(h.each t' h1).fr hF2
theorem use_each {l:List GTok}{i:Nat}(h:∀t∈l,t.scope.length≤1000):∀t∈useM l i,t.scope.length≤1000:=fun t ht=>by
 rcases mem_useM ht with ht | ⟨t',e1,rfl⟩
 ·exact h t ht
 ·exact h t' (List.mem_of_getElem? e1)
theorem issue_ans {w:World}{X:List Nat}{A:Option Addr}{f:GFam}{sl:List ByteArray}{r:Bool}(h:RdX w X 1 A sl.length (strCells sl)):RdX w X 1 A (issueM f sl r).2.scope.length (strCells (issueM f sl r).2.scope):=by
 rw [show(issueM f sl r).2.scope=sl from by unfold issueM;split<;>rfl]
 exact h
theorem fok_sc {f:GFam}(h:FamOk f):f.scope.length≤1000:=by have:=(setM_sizes h.set).1;omega
theorem issue_len {f:GFam}(h:FamOk f) {sl:List ByteArray}{r:Bool}:(issueM f sl r).1.tokens.length≤1000:=by
 have:=h.tokens
 unfold issueM
 split
 ·simp
  omega
 ·simp
  omega
theorem issue_sc {f:GFam}(h:FamOk f) {sl:List ByteArray}{r:Bool}:(issueM f sl r).1.scope.length≤1000:=by
 have:=fok_sc h
 unfold issueM
 split<;>exact this
theorem issue_le {f:GFam}(h:FamOk f) {sl:List ByteArray}{r:Bool}:(issueM f sl r).1.leases.length≤1000:=by
 have:=leases_len h.leases h.edges
 unfold issueM
 split
 ·show f.leases.length≤1000
  omega
 ·show f.leases.length≤1000
  omega
theorem issue_each {f:GFam}(h:FamOk f) {sl:List ByteArray}{r:Bool}(hs:sl.length≤1000):∀t∈(issueM f sl r).1.tokens,t.scope.length≤1000:=by
 have h0:∀t∈f.tokens,t.scope.length≤1000:=fun t ht=>by
  have:=(setM_sizes (h.each t ht).set).1
  omega
 have h1:=fok_sc h
 unfold issueM
 split
 ·intro t ht
  rcases List.mem_append.1 ht with ht |ht
  ·exact h0 t ht
  ·simp only [List.mem_cons,List.not_mem_nil,or_false]at ht
   rcases ht with rfl |rfl
   ·exact hs
   ·exact h1
 ·intro t ht
  rcases List.mem_append.1 ht with ht |ht
  ·exact h0 t ht
  ·simp only [List.mem_cons,List.not_mem_nil,or_false]at ht
   subst ht
   exact hs
theorem rdo_pre {W V:World}{g2 g4 g5:Nat}{cb c2 za:Array Value}(h4:Blk W g4 50 #[.slice none 0 0,.int .i64 0]) (h5:Blk W g5 33 za) (h2:Blk W g2 50 c2) (F:Fr [] W V) (hne:g4≠g5):
  Blk V g4 50 #[.slice none 0 0,.int .i64 0]∧Blk V g5 33 za∧Blk V g2 50 c2∧Blk (V.setRow g4 cb) g5 33 za∧Hid (∀cs:Array Value,Blk (V.setRow g4 cb) g5 33 za∧Blk ((V.setRow g4 cb).setRow g5 cs) g4 50 cb∧Blk ((V.setRow g4 cb).setRow g5 cs) g5 33 cs):=
 ⟨h4.fr F (by simp),h5.fr F (by simp),h2.fr F (by simp),(rdo_blks (cs:=#[]) (h4.fr F (by simp)) (h5.fr F (by simp)) hne).1,zh fun _=>rdo_blks (h4.fr F (by simp)) (h5.fr F (by simp)) hne⟩
theorem fam_new_short {w:World}{X:List Nat}{x:FA}{f:GFam}(hx:FamIn w X x) (hf:x.f=f) (h1:f.tokens.length≤1000) (h2:f.scope.length≤1000) (h3:f.leases.length≤1000) (h4:∀t∈f.tokens,t.scope.length≤1000):Short x:=by
 subst hf
 refine⟨h2,by rw [hx.len];exact h1,h3,fun t ht=>h4 _ ?_⟩
 rw [←hx.ts]
 exact List.mem_map_of_mem ht
theorem get_some {b:GBk}(ok:BkOk b) {s:ByteArray}{f:GFam}(h:dGet s (famsM b)=some f):FamOk f:=by
 rw [dGet_fams ok]at h
 exact(ok.2 _ _ h).2
theorem wpList_load_want {P:Program}{ops:Array Oper}{rest:List Oper}{o:Oper}{a:Act}{w:World}{Q:Exit→Act→World→Prop}(hw:Region.wanted o (yielded ops a.tmps)=true) (ty:TypeId) (x:Operand) (ho:o.op= .load ty x) {g off:Nat}(hx:a.eval x= .pointer (some ⟨g,off,none⟩)) {t:TypeId}{cs:Array Value}{ys:List Value}{d:TypeDesc}(hg:Blk w g t cs) (hs:Sub cs off ys)
  (hu:P.underlying ty=some d) (hd:(match d with | .struct _ | .array _ _=>true |_=>false)=true) (hi:(P.info? ty).map (·.size)=some ys.length)
  (h:wpList P ops Q rest (a.put o.dst (.agg ys.toArray)) w):wpList P ops Q (o::rest) a w:=
 wpList_step fun K hK=>by rw [if_pos hw];exact wp_load_at ty x ho hx hg hs hu hd hi (hK _ _ h)
set_option maxRecDepth 100000 in
set_option maxHeartbeats 16000000 in
theorem rdo_no (w:World) (X:List Nat) (A:Option Addr) (n c0:Nat) (room:Int) (l:List FA) (b:GBk) (c:GCmd) (cA:Option Addr) (ck:Nat) (h:RBk w X A n l b) (hc:CmdIn w c cA c.scope.length) (hcX:0<c.scope.length→Off X cA) (hm0:mayM c=false):
  Calls Tryz.prog 60 #[.agg #[.slice A n c0,.int .i64 room],.agg (cmdV c cA c.scope.length ck)] w (RDoPost w X room (dDo room c (l.map (·.f)))):=by
 have hh:=zh h
 have hch:=zh hc
 have hcXh:=zh hcX
 have hm:=zh hm0
 clear h hc hcX hm0
 have hzs:∃zs:Array Value,zs.size=8∧Hid (zs=(AA.mk (noA 0) none 0).cells):=⟨_,rfl,zh rfl⟩
 obtain⟨za,hza,hzah⟩:=hzs
 unfold cmdV
 go_enter Tryz.func60,Tryz.ntmps60
 go_upto_region 1 with(fail)
 refine wp_gen (fun W=>Blk W w.heap.size 50 #[.slice A n c0,.int .i64 room]∧Blk W (w.heap.size+1) 30 (cmdV c cA c.scope.length ck)∧Blk W (w.heap.size+1+1) 50 #[.slice none 0 0,.int .i64 0]∧Blk W (w.heap.size+1+1+1) 33 za∧Fr [] w W) ⟨?_,?_,?_,?_,?_⟩ ?_
 ·exact(((Blk.new _ _ _).alloc _).alloc _).alloc _
 ·refine Blk.alloc (Blk.alloc (Blk.new' _ _ ?_) _) _
  simp
 ·refine Blk.alloc (Blk.new' _ _ ?_) _
  simp
 ·rw [hzah.o]
  exact Blk.new' _ _ (by simp)
 ·exact((((Fr.refl _ _).alloc _).alloc _).alloc _).alloc _
 rintro W ⟨hP,hC,hR4,hR5,fW⟩
 obtain⟨g2,HG2⟩:∃z,Hid (w.heap.size=z):=⟨_,zh rfl⟩
 rw [HG2.o]at hP hC hR4 hR5⊢
 obtain⟨g3,HG3⟩:∃z,Hid (g2+1=z):=⟨_,zh rfl⟩
 rw [HG3.o]at hC hR4 hR5⊢
 obtain⟨g4,HG4⟩:∃z,Hid (g3+1=z):=⟨_,zh rfl⟩
 rw [HG4.o]at hR4 hR5⊢
 obtain⟨g5,HG5⟩:∃z,Hid (g4+1=z):=⟨_,zh rfl⟩
 rw [HG5.o]at hR5⊢
 have hws:Hid (w.heap.size≤g2∧w.heap.size≤g3∧w.heap.size≤g4∧w.heap.size≤g5∧g2<W.heap.size∧g3<W.heap.size∧g4<W.heap.size∧g5<W.heap.size∧g2≠g4∧g2≠g5∧g3≠g4∧g3≠g5∧g4≠g5):=by
  have:=HG2.o
  have:=HG3.o
  have:=HG4.o
  have:=HG5.o
  exact zh ⟨by omega,by omega,by omega,by omega,hP.lt,hC.lt,hR4.lt,hR5.lt,by omega,by omega,by omega,by omega,by omega⟩
 have hPh:=zh hP
 have hCh:=zh hC
 have hR4h:=zh hR4
 have hR5h:=zh hR5
 have fWh:=zh fW
 have hX1:∀g∈X++ [g4,g5],g∈X∨w.heap.size≤g:=fun g hg=>by
  rcases List.mem_append.1 hg with hg |hg
  ·exact .inl hg
  ·obtain⟨_,_,a3,a4,_⟩:=hws.o
   simp at hg
   exact .inr (by omega)
 have hX2:∀g∈X++ [g4,g5],g<W.heap.size:=fun g hg=>by
  rcases List.mem_append.1 hg with hg |hg
  ·exact Nat.lt_of_lt_of_le (hh.o.hX g hg) fW.size
  ·obtain⟨_,_,_,_,_,_,a3,a4,_⟩:=hws.o
   simp at hg
   omega
 have hX2h:=zh hX2
 have hLW:=zh (hh.o.hL.to fW.nil hX1)
 have hAW:RdX W (X++ [g4,g5]) 1 cA c.scope.length (strCells c.scope):=by
  have hd:RdX w X 1 cA c.scope.length (strCells c.scope):=⟨hch.o.hS,hcXh.o⟩
  exact hd.to (by decide) fW.nil hX1
 have hAWh:=zh hAW
 have hmay:=rmay17_t W c cA c.scope.length ck (hch.o.hS.fr fW (by simp [Off])) rfl hch.o.hl hch.o.hs hch.o.hf
 rw [hm.o]at hmay
 clear hP hR4 hR5 fW hX1 hX2 hAW
 go_wp2_with (refine wpList_load_at rfl 30 _ rfl rfl hC (sub_self _) uCmd rfl (by unfold cmdV;exact infoCmd) ?_;rw [Array.toArray_toList])
 refine Calls.mono (show Calls Tryz.prog 23 _ _ _ from hmay) ?_
 rintro e W2 ⟨rfl,F2⟩
 clear hmay hC
 have F2h:=zh F2
 have fw:=zh (fWh.o.trans F2)
 clear F2
 have hres:=zh (show dDo room c (l.map (·.f))=(l.map (·.f),noA 1) by unfold dDo;rw [if_pos hm.o])
 obtain⟨hR4v,hR5v,hPv,hbk1,hbkh⟩:=rdo_pre (cb:=#[.slice A n c0,.int .i64 room]) hR4h.o hR5h.o hPh.o F2h.o hws.o.2.2.2.2.2.2.2.2.2.2.2.2
 go_wp2_with (first
  | (refine wpList_load_at rfl 50 _ rfl rfl hPv (sub_self _) uRb rfl infoRbL ?_;rw [Array.toArray_toList])
  | (refine wpList_store_row rfl 50 _ _ rfl g4 _ rfl rfl 50 _ hR4v infoRb (by rfl) (by kernel_rfl) ?_)
  | (refine wpList_store_row rfl 33 _ _ rfl g5 _ rfl rfl 33 za hbk1 infoAns hza (by kernel_rfl) ?_))
 refine bodyPost_ret (v:= .tuple #[.agg #[.slice A n c0,.int .i64 room],.agg #[.int .i64 1,.int .i64 0,.int .i64 0,.slice none 0 0,.string ⟨#[]⟩,.string ⟨#[]⟩,.bool false,.bool false]]) (results_cc (p:=4) (q:=5) rfl _ _ g4 g5 50 33 _ _ _ _ rfl (hbkh.o _).2.1 uRb rfl infoRb rfl (hbkh.o _).2.2 uAns rfl infoAns) rfl ?_
 rw [hres.o]
 exact rdo_end (r:=(l.map (·.f),noA 1)) (hLW.o.fr F2h.o.nil) rfl (RdX.nil _ _ _ _) fw.o hws.o.2.2.1 hws.o.2.2.2.1 (ac:=0) rfl
end Go.Proofs.YtdeoinjjphdbmaaGreat
