/- Walks: the document's Get, Pending, is. Conditions: each theorem's own. -/
import Derived.Test.YtdeoinjjphdbmaaGreatHy
namespace Go.Sig
open Go.RowKit
def dGet (s:ByteArray) (l:List GFam):Option GFam:=l.find? fun f=>decide (f.id=s)
def dIns (f:GFam):List GFam→List GFam
 | []=> [f]
 |x::l=>if bl f.id x.id=true then f::x::l else x::dIns f l
def dWith (f:GFam) (l:List GFam):List GFam:=dIns f (woutM f.id l)
def isM (f:GFam) (kind serial:Int):Bool:=if kind=1 then decide (serial=0)&& !decide (f.code=0)else(tokM f kind serial).isSome
def leasesM (e:Int) (l:List Int):List Int:=((List.range 32).map (fun n:Nat=>Int.ofNat n)).filter fun i=>decide (i=e) ||l.any fun x=>decide (x=i)
def dFall (f:GFam) (l:List GFam):List GFam:=dWith {f with revoked:=true} l
def dDo (room:Int) (c:GCmd) (l:List GFam):List GFam×GAns:=
 if mayM c=false then(l,noA 1)
 else if c.kind=1∨c.kind=4 then
  if(dGet c.family l).isSome=true then(l,noA 1)
  else if room≤(l.length:Int)then(l,noA 7)
  else if c.kind=4 then
   (dWith (issueM ⟨c.family,c.client,nilB,c.scope,nilB,nilB,nilB,0,[],false,[]⟩ c.scope false).1 l,(issueM ⟨c.family,c.client,nilB,c.scope,nilB,nilB,nilB,0,[],false,[]⟩ c.scope false).2)
  else(dWith ⟨c.family,c.client,c.user,c.scope,c.redirect,c.challenge,c.method,1,[],false,[]⟩ l,⟨0,0,0,c.scope,nilB,nilB,false,false⟩)
 else match dGet c.family l with
 |none=>(l,noA (if c.kind=2∨c.kind=3 then 3 else 0))
 |some f=>
  if c.kind=2 then
   if f.revoked=true∨f.client≠c.client∨f.code=0 then(l,noA 3)
   else if f.code=2 then(dFall f l,noA 3)
   else if f.redirect≠c.redirect∨(f.challenge.size=0∧c.verifier.size≠0)∨(f.challenge.size≠0∧pkCheck f.challenge f.method c.verifier=false)then(l,noA 3)
   else(dWith {(issueM f f.scope c.refresh).1 with code:=2} l,(issueM f f.scope c.refresh).2)
  else if c.kind=3 then
   if f.revoked=true∨f.client≠c.client∨isM f 3 c.serial=false then(l,noA 3)
   else match f.tokens[(c.serial - 1).toNat]? with
   |none=>(l,noA 0)
   |some t=>
    if t.used=true then(dFall f l,noA 3)
    else if within c.scope f.scope=false then(l,noA 6)
    else if 6<f.tokens.length then(l,noA 7)
    else
     let sc:=if c.scope.length=0 then f.scope else c.scope
     (dWith {(issueM f sc true).1 with tokens:=useM (issueM f sc true).1.tokens (c.serial - 1).toNat} l,(issueM f sc true).2)
  else if c.kind=5 then
   if f.revoked=false∧f.client=c.client∧isM f c.token c.serial=true then(dFall f l,⟨0,0,0,[],nilB,nilB,false,true⟩)
   else(l,⟨0,0,0,[],nilB,nilB,false,decide (f.client=c.client)&&f.revoked⟩)
  else if c.kind=6 then
   if f.revoked=true∨c.token=1∨isM f c.token c.serial=false then(l,noA 0)
   else match f.tokens[(c.serial - 1).toNat]? with
   |none=>(l,noA 0)
   |some t=>
    if t.used=true then(l,noA 0)
    else(dWith {f with leases:=leasesM c.edge f.leases} l,⟨0,0,0,t.scope,f.client,f.user,true,false⟩)
  else if f.revoked=true then(woutM c.family l,noA 0)
  else(l,noA 0)
def dPend (l:List GFam):List ByteArray:=(l.filter fun f=>f.revoked).map (·.id)
def RisF (l:List GFam):Prop:=l.Pairwise fun a b=>bl a.id b.id=true
theorem risF_nodup {l:List GFam}(h:RisF l):l.Nodup:=h.imp fun h e=>by
 subst e
 rw [bl_irrefl]at h
 cases h
theorem risF_ext {l m:List GFam}(hl:RisF l) (hm:RisF m) (h:∀f,f∈l↔f∈m):l=m:=by
 refine List.Perm.eq_of_pairwise (le:=fun(a b:GFam)=>bl a.id b.id=true) ?_ hl hm ((List.perm_ext_iff_of_nodup (risF_nodup hl) (risF_nodup hm)).2 h)
 intro a b _ _ h1 h2
 rw [bl_asymm h1]at h2
 cases h2
theorem mem_dIns {f x:GFam}:∀{l:List GFam},x∈dIns f l↔x=f∨x∈l
 | []=>by simp [dIns]
 |y::l=>by
  unfold dIns
  split
  ·simp
  ·rw [List.mem_cons,mem_dIns,List.mem_cons]
   constructor
   ·rintro(h |h |h)
    ·exact .inr (.inl h)
    ·exact .inl h
    ·exact .inr (.inr h)
   ·rintro(h |h |h)
    ·exact .inr (.inl h)
    ·exact .inl h
    ·exact .inr (.inr h)
theorem dIns_rising {f:GFam}:∀{l:List GFam},RisF l→(∀x∈l,x.id≠f.id)→RisF (dIns f l)
 | [],_,_=>by simp [dIns,RisF]
 |x::l,h,hn=>by
  have h':=List.pairwise_cons.1 h
  unfold dIns
  split
  ·rename_i e
   refine List.pairwise_cons.2 ⟨fun z hz=> ?_,h⟩
   rcases List.mem_cons.1 hz with rfl |hz
   ·exact e
   ·exact bl_trans e (h'.1 z hz)
  ·rename_i e
   refine List.pairwise_cons.2 ⟨fun z hz=> ?_,dIns_rising h'.2 fun z hz=>hn z (List.mem_cons_of_mem _ hz)⟩
   rcases mem_dIns.1 hz with rfl |hz
   ·exact(bl_total (hn x List.mem_cons_self)).resolve_right e
   ·exact h'.1 z hz
theorem mem_woutM {s:ByteArray}{x:GFam}{l:List GFam}:x∈woutM s l↔x∈l∧x.id≠s:=by
 unfold woutM
 rw [List.mem_filter]
 simp
theorem mem_dWith {f x:GFam}{l:List GFam}:x∈dWith f l↔x=f∨(x∈l∧x.id≠f.id):=by
 unfold dWith
 rw [mem_dIns,mem_woutM]
theorem wout_rising {s:ByteArray}{l:List GFam}(h:RisF l):RisF (woutM s l):=List.Pairwise.filter _ h
theorem dWith_rising {f:GFam}{l:List GFam}(h:RisF l):RisF (dWith f l):=dIns_rising (wout_rising h) fun _ hx=>(mem_woutM.1 hx).2
theorem dGet_mem {s:ByteArray}{l:List GFam}{f:GFam}(h:dGet s l=some f):f∈l∧f.id=s:=by
 unfold dGet at h
 have h1:=List.find?_some h
 exact⟨List.mem_of_find?_eq_some h,by simpa using h1⟩
theorem leases_eq {e:Int}{l:List Int}(hl:l.Pairwise (·< ·)) (hr:∀x∈l,0≤x∧x<32) (he:0≤e∧e<32):leasesM e l=insI e l:=by
 have h2:=insI_rising (e:=e) hl
 have h1:(leasesM e l).Pairwise (·< ·):=by
  unfold leasesM
  refine List.Pairwise.filter _ (List.pairwise_map.2 ?_)
  exact List.pairwise_lt_range.imp fun h=>Int.ofNat_lt.2 h
 have n1:(leasesM e l).Nodup:=h1.imp fun h=>by omega
 have n2:(insI e l).Nodup:=h2.imp fun h=>by omega
 refine List.Perm.eq_of_pairwise (le:=fun(a b:Int)=>a<b) (fun a b _ _ _ _=>by omega) h1 h2 ((List.perm_ext_iff_of_nodup n1 n2).2 fun x=> ?_)
 rw [mem_insI]
 unfold leasesM
 rw [List.mem_filter,List.mem_map]
 simp only [Bool.or_eq_true,decide_eq_true_eq,List.any_eq_true]
 constructor
 ·rintro⟨_,h | ⟨y,hy,rfl⟩⟩
  ·exact .inl h
  ·exact .inr hy
 ·intro h
  have hx:0≤x∧x<32:=by
   rcases h with rfl |h
   ·exact he
   ·exact hr x h
  refine⟨⟨x.toNat,List.mem_range.2 (by omega),Int.toNat_of_nonneg hx.1⟩,?_⟩
  rcases h with h |h
  ·exact .inl h
  ·exact .inr ⟨x,h,rfl⟩
end Go.Sig
namespace Go.Proofs.YtdeoinjjphdbmaaGreat
open Go.RowKit Go.Sig
theorem mem_famsM {b:GBk}(hb:BkOk b) {f:GFam}:f∈famsM b↔aget f.id b=some f:=by
 unfold famsM
 rw [List.mem_map]
 constructor
 ·rintro⟨k,hk,e⟩
  obtain⟨g,hg⟩:=Option.isSome_iff_exists.1 (mem_idsM.1 hk)
  rw [hg,Option.getD_some]at e
  subst e
  rw [(hb.2 k g hg).1,hg]
 ·intro h
  exact⟨f.id,mem_idsM.2 (by rw [h];rfl),by rw [h];rfl⟩
theorem famsM_rising {b:GBk}(hb:BkOk b):RisF (famsM b):=by
 unfold famsM RisF
 rw [List.pairwise_map]
 have hr:RisN (idsM b):=by unfold idsM;exact sortN_rising _
 refine List.Pairwise.imp_of_mem ?_ hr
 intro k j hk hj h
 obtain⟨f,hf⟩:=Option.isSome_iff_exists.1 (mem_idsM.1 hk)
 obtain⟨g,hg⟩:=Option.isSome_iff_exists.1 (mem_idsM.1 hj)
 rw [hf,hg,Option.getD_some,Option.getD_some,(hb.2 _ _ hf).1,(hb.2 _ _ hg).1]
 exact h
theorem dGet_fams {b:GBk}(hb:BkOk b) (s:ByteArray):dGet s (famsM b)=aget s b:=by
 cases h:dGet s (famsM b)with
 |some f=>
  obtain⟨h1,rfl⟩:=dGet_mem h
  exact((mem_famsM hb).1 h1).symm
 |none=>
  cases h2:aget s b with
  |none=>rfl
  |some f=>
   have hi:=(hb.2 _ _ h2).1
   have hm:f∈famsM b:=(mem_famsM hb).2 (by rw [hi,h2])
   have:=List.find?_eq_none.1 h f hm
   simp [hi]at this
theorem fams_set {b:GBk}(hb:BkOk b) {f:GFam}{k:ByteArray}(hk:f.id=k) (hb':BkOk (aset k f b)):famsM (aset k f b)=dWith f (famsM b):=by
 subst hk
 refine risF_ext (famsM_rising hb') (dWith_rising (famsM_rising hb)) fun x=> ?_
 rw [mem_famsM hb',mem_dWith,mem_famsM hb]
 by_cases e:x.id=f.id
 ·rw [e,aget_aset_same]
  constructor
  ·intro h
   exact .inl (Option.some.inj h).symm
  ·rintro(rfl | ⟨_,h⟩)
   ·rfl
   ·exact absurd rfl h
 ·rw [aget_aset_other e]
  constructor
  ·intro h
   exact .inr ⟨h,e⟩
  ·rintro(rfl | ⟨h,_⟩)
   ·exact absurd rfl e
   ·exact h
theorem fams_del {b:GBk}{s:ByteArray}(hb:BkOk b) (hb':BkOk (adel s b)):famsM (adel s b)=woutM s (famsM b):=by
 refine risF_ext (famsM_rising hb') (wout_rising (famsM_rising hb)) fun x=> ?_
 rw [mem_famsM hb',mem_woutM,mem_famsM hb]
 by_cases e:x.id=s
 ·rw [e,aget_adel_same hb.1]
  simp
 ·rw [aget_adel_other e]
  simp [e]
theorem fams_fall {b:GBk}(hb:BkOk b) {f:GFam}{k:ByteArray}(h:aget k b=some f):famsM (fallM f b)=dFall f (famsM b):=
 fams_set hb rfl (fall_ok hb h)
theorem fams_same {b:GBk}(hb:BkOk b) {f:GFam}(h:aget f.id b=some f):famsM (aset f.id f b)=famsM b:=by
 have hb':=aset_ok hb (k:=f.id) rfl (hb.2 _ _ h).2
 refine risF_ext (famsM_rising hb') (famsM_rising hb) fun x=> ?_
 rw [mem_famsM hb',mem_famsM hb]
 by_cases e:x.id=f.id
 ·rw [e,aget_aset_same,h]
 ·rw [aget_aset_other e]
theorem issue_id (f:GFam) (sc:List ByteArray) (r:Bool):(issueM f sc r).1.id=f.id:=by unfold issueM;split<;>rfl
theorem d_begin {room:Int}{c:GCmd}{b:GBk}(hb:BkOk b) (h:MayOk c) (hk:c.kind=1∨c.kind=4):
  (if(dGet c.family (famsM b)).isSome=true then(famsM b,noA 1)
  else if room≤((famsM b).length:Int)then(famsM b,noA 7)
  else if c.kind=4 then
   (dWith (issueM ⟨c.family,c.client,nilB,c.scope,nilB,nilB,nilB,0,[],false,[]⟩ c.scope false).1 (famsM b),(issueM ⟨c.family,c.client,nilB,c.scope,nilB,nilB,nilB,0,[],false,[]⟩ c.scope false).2)
  else(dWith ⟨c.family,c.client,c.user,c.scope,c.redirect,c.challenge,c.method,1,[],false,[]⟩ (famsM b),⟨0,0,0,c.scope,nilB,nilB,false,false⟩))=(famsM (beginM room c b).1,(beginM room c b).2):=by
 have hd:=begin_ok (room:=room) hb h hk
 unfold beginM at hd⊢
 rw [dGet_fams hb,famsM_length b hb]
 split
 ·rfl
 ·rename_i h1
  rw [if_neg h1]at hd
  split
  ·rfl
  ·rename_i h2
   rw [if_neg h2]at hd
   split
   ·rename_i h4
    rw [if_pos h4]at hd
    have e:=fams_set hb (k:=c.family) rfl hd
    dsimp only at e⊢
    rw [e]
    obtain⟨e1,e2,e3,e4⟩:=rest4 h h4
    rw [e1,e2,e3,e4]
    rfl
   ·rename_i h4
    rw [if_neg h4]at hd
    have e:=fams_set hb (k:=c.family) rfl hd
    dsimp only at e⊢
    rw [e]
theorem d_redeem {c:GCmd}{b:GBk}{f:GFam}(hb:BkOk b) (hf:aget c.family b=some f):
  (if f.revoked=true∨f.client≠c.client∨f.code=0 then(famsM b,noA 3)
   else if f.code=2 then(dFall f (famsM b),noA 3)
   else if f.redirect≠c.redirect∨(f.challenge.size=0∧c.verifier.size≠0)∨(f.challenge.size≠0∧pkCheck f.challenge f.method c.verifier=false)then(famsM b,noA 3)
   else(dWith {(issueM f f.scope c.refresh).1 with code:=2} (famsM b),(issueM f f.scope c.refresh).2))=(famsM (redeemM c b).1,(redeemM c b).2):=by
 have hd:=redeem_ok (c:=c) hb
 unfold redeemM at hd⊢
 rw [hf]at hd⊢
 simp only at hd⊢
 split
 ·rfl
 ·rename_i h1
  rw [if_neg h1]at hd
  split
  ·rw [fams_fall hb hf]
  ·rename_i h2
   rw [if_neg h2]at hd
   split
   ·rfl
   ·rename_i h3
    rw [if_neg h3]at hd
    dsimp only at hd⊢
    have e:=fams_set hb (k:=f.id) (by exact issue_id _ _ _) hd
    rw [e]
    unfold issueM
    split<;>rfl
theorem useM_append {l m:List GTok}{i:Nat}(h:i<l.length):useM (l++m) i=useM l i++m:=by
 unfold useM
 apply List.ext_getElem?
 intro j
 rw [List.getElem?_modify]
 by_cases hj:j<l.length
 ·rw [List.getElem?_append_left hj,List.getElem?_append_left (by rw [List.length_modify];exact hj),List.getElem?_modify]
 ·rw [List.getElem?_append_right (by omega),List.getElem?_append_right (by rw [List.length_modify];omega),List.length_modify]
  simp [show i≠j by omega]
theorem d_refresh {c:GCmd}{b:GBk}{f:GFam}(hb:BkOk b) (h:MayOk c) (hf:aget c.family b=some f):
  (if f.revoked=true∨f.client≠c.client∨isM f 3 c.serial=false then(famsM b,noA 3)
   else match f.tokens[(c.serial - 1).toNat]? with
   |none=>(famsM b,noA 0)
   |some t=>
    if t.used=true then(dFall f (famsM b),noA 3)
    else if within c.scope f.scope=false then(famsM b,noA 6)
    else if 6<f.tokens.length then(famsM b,noA 7)
    else
     let sc:=if c.scope.length=0 then f.scope else c.scope
     (dWith {(issueM f sc true).1 with tokens:=useM (issueM f sc true).1.tokens (c.serial - 1).toNat} (famsM b),(issueM f sc true).2))=(famsM (refreshM c b).1,(refreshM c b).2):=by
 have hd:=refresh_ok (c:=c) hb h
 unfold refreshM at hd⊢
 rw [hf]at hd⊢
 simp only at hd⊢
 have e:isM f 3 c.serial=(tokM f 3 c.serial).isSome:=by unfold isM;rw [if_neg (by decide)]
 cases ht:tokM f 3 c.serial with
 |none=>
  rw [ht]at e
  rw [if_pos (.inr (.inr e))]
 |some t=>
  rw [ht]at e hd
  obtain⟨t1,t2,t3,t4⟩:=tokM_some ht
  rw [e,t3]
  simp only [Option.isSome_some,Bool.true_eq_false,or_false]at hd⊢
  split
  ·rfl
  ·rename_i h1
   rw [if_neg h1]at hd
   split
   ·rw [fams_fall hb hf]
   ·rename_i h2
    rw [if_neg h2]at hd
    split
    ·rfl
    ·rename_i h3
     rw [if_neg h3]at hd
     split
     ·rfl
     ·rename_i h4
      rw [if_neg h4]at hd
      dsimp only at hd⊢
      have e:=fams_set hb (k:=f.id) (by exact issue_id _ _ _) hd
      rw [e]
      unfold issueM
      simp only [if_true]
      have hl:(c.serial - 1).toNat<f.tokens.length:=by omega
      rw [useM_append hl]
      simp only [useM_length]
theorem tok_one {f:GFam}(hf:FamOk f) (n:Int):tokM f 1 n=none:=by
 cases h:tokM f 1 n with
 |none=>rfl
 |some t=>
  obtain⟨_,_,t3,t4⟩:=tokM_some h
  have:=(hf.each t (List.mem_of_getElem? t3)).kind
  omega
theorem d_revoke {c:GCmd}{b:GBk}{f:GFam}(hb:BkOk b) (hf:aget c.family b=some f):
  (if f.revoked=false∧f.client=c.client∧isM f c.token c.serial=true then(dFall f (famsM b),(⟨0,0,0,[],nilB,nilB,false,true⟩:GAns))
   else(famsM b,⟨0,0,0,[],nilB,nilB,false,decide (f.client=c.client)&&f.revoked⟩))=(famsM (revokeM c b).1,(revokeM c b).2):=by
 obtain⟨hi,ho⟩:=hb.2 _ _ hf
 have e:isM f c.token c.serial=true↔((tokM f c.token c.serial).isSome=true∨(c.token=1∧c.serial=0∧f.code≠0)):=by
  unfold isM
  split
  ·rename_i h
   rw [h,tok_one ho]
   simp
  ·rename_i h
   simp [h]
 unfold revokeM
 rw [hf]
 simp only
 by_cases hc:f.client=c.client
 ·rw [if_neg (show¬(f.client≠c.client)from fun h=>h hc)]
  by_cases hm:isM f c.token c.serial=true
  ·rw [if_pos (e.1 hm)]
   cases hr:f.revoked with
   |false=>
    rw [if_pos (show false=false∧f.client=c.client∧isM f c.token c.serial=true from⟨rfl,hc,hm⟩),fams_fall hb hf]
   |true=>
    rw [if_neg (by simp)]
    have hs:{f with revoked:=true}=f:=by cases f;simp only at hr;rw [hr]
    have:famsM (fallM f b)=famsM b:=by
     unfold fallM
     rw [hs]
     exact fams_same hb (by rw [hi];exact hf)
    simp [this,hc]
  ·rw [if_neg (show¬(f.revoked=false∧f.client=c.client∧isM f c.token c.serial=true)from fun h=>hm h.2.2),if_neg (fun h=>hm (e.2 h))]
   simp [hc]
 ·rw [if_neg (show¬(f.revoked=false∧f.client=c.client∧isM f c.token c.serial=true)from fun h=>hc h.2.1),if_pos (show f.client≠c.client from hc)]
  simp [hc,noA]
theorem d_look {c:GCmd}{b:GBk}{f:GFam}(hb:BkOk b) (h:MayOk c) (hf:aget c.family b=some f):
  (if f.revoked=true∨c.token=1∨isM f c.token c.serial=false then(famsM b,noA 0)
   else match f.tokens[(c.serial - 1).toNat]? with
   |none=>(famsM b,noA 0)
   |some t=>
    if t.used=true then(famsM b,noA 0)
    else(dWith {f with leases:=leasesM c.edge f.leases} (famsM b),⟨0,0,0,t.scope,f.client,f.user,true,false⟩))=(famsM (lookM c b).1,(lookM c b).2):=by
 obtain⟨hi,ho⟩:=hb.2 _ _ hf
 have hd:=look_ok (c:=c) hb h
 unfold lookM at hd⊢
 rw [hf]at hd⊢
 simp only at hd⊢
 cases ht:tokM f c.token c.serial with
 |none=>
  rw [if_pos]
  by_cases h1:c.token=1
  ·exact .inr (.inl h1)
  ·refine .inr (.inr ?_)
   unfold isM
   rw [if_neg h1,ht]
   rfl
 |some t=>
  rw [ht]at hd
  have h1:c.token≠1:=fun h1=>by
   rw [h1,tok_one ho]at ht
   cases ht
  have e:isM f c.token c.serial=true:=by
   unfold isM
   rw [if_neg h1,ht]
   rfl
  obtain⟨t1,t2,t3,t4⟩:=tokM_some ht
  rw [e,t3]
  simp only at hd⊢
  cases hr:f.revoked with
  |true=>rw [if_pos (.inl rfl),if_pos (.inl rfl)]
  |false=>
   rw [if_neg (by simp [h1])]
   rw [hr]at hd
   cases hu:t.used with
   |true=>simp
   |false=>
    rw [hu]at hd
    rw [if_neg (by simp)]at hd⊢
    rw [if_neg (by simp)]
    dsimp only at hd⊢
    have e:=fams_set hb (k:=f.id) (by rfl) hd
    rw [leases_eq ho.leases ho.edges h.edge,e]
theorem d_done {c:GCmd}{b:GBk}{f:GFam}(hb:BkOk b) (hf:aget c.family b=some f):
  (if f.revoked=true then(woutM c.family (famsM b),noA 0)else(famsM b,noA 0))=(famsM (doneM c b).1,(doneM c b).2):=by
 obtain⟨hi,ho⟩:=hb.2 _ _ hf
 have hd:=done_ok (c:=c) hb
 unfold doneM at hd⊢
 rw [hf]at hd⊢
 simp only at hd⊢
 split
 ·rename_i h
  rw [if_pos h]at hd
  have e:=fams_del hb (s:=f.id) hd
  dsimp only at e⊢
  rw [e,hi]
 ·rfl
theorem d_do {room:Int}{c:GCmd}{b:GBk}(hb:BkOk b):dDo room c (famsM b)=(famsM (doM room c b).1,(doM room c b).2):=by
 unfold dDo doM
 split
 ·rfl
 ·rename_i hm
  have h:=mayM_ok (c:=c) (by simpa using hm)
  split
  ·rename_i hk
   exact d_begin hb h hk
  ·rename_i hk
   rw [dGet_fams hb]
   cases hf:aget c.family b with
   |none=>
    simp only
    unfold redeemM refreshM revokeM lookM doneM
    rw [hf]
    simp only
    by_cases h2:c.kind=2
    ·rw [if_pos (.inl h2),if_pos h2]
    ·by_cases h3:c.kind=3
     ·rw [if_pos (.inr h3),if_neg h2,if_pos h3]
     ·rw [if_neg (by omega),if_neg h2,if_neg h3]
      (repeat' split)<;>rfl
   |some f=>
    simp only
    by_cases h2:c.kind=2
    ·rw [if_pos h2,if_pos h2]
     exact d_redeem hb hf
    ·rw [if_neg h2,if_neg h2]
     by_cases h3:c.kind=3
     ·rw [if_pos h3,if_pos h3]
      exact d_refresh hb h hf
     ·rw [if_neg h3,if_neg h3]
      by_cases h5:c.kind=5
      ·rw [if_pos h5,if_pos h5]
       exact d_revoke hb hf
      ·rw [if_neg h5,if_neg h5]
       by_cases h6:c.kind=6
       ·rw [if_pos h6,if_pos h6]
        exact d_look hb h hf
       ·rw [if_neg h6,if_neg h6]
        exact d_done hb hf
end Go.Proofs.YtdeoinjjphdbmaaGreat
namespace Go.Proofs.YtdeoinjjphdbmaaGreat
open Go.RowKit Go.Sig
def GetPost (w:World) (X:List Nat) (l:List GFam) (s:ByteArray) (e:Ending) (w':World):Prop:=
 ∃y:FA,e= .returned (.tuple #[y.val,.bool (dGet s l).isSome])∧y.f=(dGet s l).getD zeroF∧FamIn w' X y∧Fr [] w w'
theorem get_take {s:ByteArray}{l:List GFam}{i:Nat}(h:i<l.length) (hn:dGet s (l.take i)=none):(l[i].id=s→dGet s l=some l[i])∧(l[i].id≠s→dGet s (l.take (i+1))=none):=by
 unfold dGet at*
 refine⟨fun e=> ?_,fun e=> ?_⟩
 ·have hl:l=l.take i++l[i]::l.drop (i+1):=by rw [List.getElem_cons_drop,List.take_append_drop]
  conv=>lhs;rw [hl]
  rw [List.find?_append,hn,List.find?_cons_of_pos (by simpa using e)]
  rfl
 ·rw [List.take_succ_eq_append_getElem h,List.find?_append,hn]
  simp [e]
set_option maxRecDepth 100000 in
set_option maxHeartbeats 4000000 in
theorem rget_t (w:World) (X:List Nat) (A:Option Addr) (n c:Nat) (room:Int) (l:List FA) (s:ByteArray) (h:FamsIn w X A n l) (hmax:n≤1000000):
  Calls Tryz.prog 32 #[.agg #[.slice A n c,.int .i64 room],.string s] w (GetPost w X (l.map (·.f)) s):=by
 have hh:=zh h
 clear h
 have hzs:∃zs:Array Value,zs.size=11∧Hid (zs=zeroFA.cells):=⟨_,rfl,zh rfl⟩
 obtain⟨zs,hz,hzh⟩:=hzs
 go_enter Tryz.func32,Tryz.ntmps32
 go_upto_region 1 with(fail)
 refine wp_gen (fun W=>Blk W w.heap.size 50 #[.slice A n c,.int .i64 room]∧Blk W (w.heap.size+1) 39 zs∧Fr [] w W) ⟨(Blk.new _ _ _).alloc _,by rw [hzh.o];exact Blk.new' _ _ (by simp),((Fr.refl _ _).alloc _).alloc _⟩ ?_
 rintro W ⟨hP,hR,fW⟩
 obtain⟨gp,HGP⟩:∃z,Hid (w.heap.size=z):=⟨_,zh rfl⟩
 rw [HGP.o]at hP hR⊢
 obtain⟨gr,HGR⟩:∃z,Hid (gp+1=z):=⟨_,zh rfl⟩
 rw [HGR.o]at hR⊢
 have hgr:w.heap.size≤gr:=by have:=HGP.o;have:=HGR.o;omega
 have hPh:=zh hP
 have hRh:=zh hR
 have fWh:=zh fW
 have hrl:=hR.lt
 have e0:=hP.cell 0
 simp only [zG,zH]at e0
 have hpl:=hP.lt
 clear hP hR fW
 go_wp2_with fail
 go_loopg [6] (n+1) (fun gk s6 wr=>∃(i:Nat),s6= .int .i64 i∧i≤n∧n - i<gk∧dGet s ((l.map (·.f)).take i)=none∧W=wr)
 case atStart=>exact⟨0,rfl,by omega,by omega,rfl,rfl⟩
 case round=>
  obtain⟨i,rfl,hi,hk,hnone,rfl⟩:=hrel
  have hnoneh:=zh hnone
  clear hnone
  by_cases hlt:i<n
  ·have hlt':(i:Int)<n:=by omega
   have hlth:=zh hlt
   obtain⟨x,ba,oa,rfl,hxi,hxr⟩:=(hh.o.fr fWh.o.nil).row' hlt
   have hil:i<(l.map (·.f)).length:=by rw [List.length_map,hh.o.hn];exact hlt
   have hxe:(l.map (·.f))[i]'hil=x.f:=by
    rw [List.getElem_map]
    have h2:i<l.length:=by rw [hh.o.hn];exact hlt
    rw [List.getElem?_eq_getElem h2]at hxi
    rw [Option.some.inj hxi]
   have hgt:=zh (get_take hil hnoneh.o)
   rw [hxe]at hgt
   have hxm:=zh (hh.o.each x (List.mem_of_getElem? hxi))
   have x0:=hxr 0 (.string x.f.id) rfl
   rw [Nat.add_zero]at x0
   have hxrh:=zh hxr
   have htl:=toList_beq x.f.id s
   clear hxi hxr hil hxe hlt
   by_cases hne:x.f.id=s
   ·rw [decide_eq_true hne]at htl
    have hg:=zh (hgt.o.1 hne)
    have hxc:∀j v,x.cells[j]? =some v→W.cell? ⟨ba,oa+i*11+j,none⟩=some v:=fun j v hv=>hxrh.o j v (by rw [Array.getElem?_toList];exact hv)
    clear hne hgt
    go_wp2_with (first
     | (refine wpList_load_cells rfl 39 _ rfl rfl hxc uFam rfl (infoFamA _) ?_)
     | (refine wpList_store_row rfl 39 _ _ rfl gr x.cells rfl rfl 39 zs hRh.o (infoFamA x) (hz.trans (FA.size11 x).symm) (FA.all1 x) ?_))
    refine bodyPost_ret (v:= .tuple #[.agg x.cells,.bool true]) (results_ct (p:=4) (q:=5) rfl _ _ gr 39 x.cells (0,0) _ rfl (Blk.setRow hRh.o _) uFam rfl (infoFamA x) rfl) rfl ?_
    have F1:Fr [] w (W.setRow gr x.cells):=fWh.o.setRow (.inr hgr) _
    exact⟨x,by rw [hg.o];rfl,by rw [hg.o];rfl,hxm.o.fr F1.nil,F1⟩
   ·rw [decide_eq_false hne]at htl
    have hg:=zh (hgt.o.2 hne)
    clear hne hgt
    go_wp2_with fail
    go_roundg (n - i)
    case measure=>have:=hlth.o;omega
    case rel=>exact⟨i+1,by go_num,by have:=hlth.o;omega,by have:=hlth.o;omega,hg.o,rfl⟩
  ·have hge:¬(i:Int)<n:=by omega
   have hg:=zh (show dGet s (l.map (·.f))=none by
    have:=hnoneh.o
    rwa [List.take_of_length_le (by rw [List.length_map,hh.o.hn];omega)]at this)
   clear hlt hk
   go_wp2_with (refine wpList_store_row rfl 39 _ _ rfl gr _ rfl rfl 39 zs hRh.o infoFam hz (by kernel_rfl) ?_)
   refine bodyPost_ret (v:= .tuple #[.agg zeroFA.cells,.bool false]) (results_ct (p:=4) (q:=5) rfl _ _ gr 39 zeroFA.cells (0,0) _ rfl (Blk.setRow hRh.o _) uFam rfl (infoFamA zeroFA) rfl) rfl ?_
   exact⟨zeroFA,by rw [hg.o];rfl,by rw [hg.o];rfl,zero_in _ _,fWh.o.setRow (.inr hgr) _⟩
def StrsPost (w:World) (ss:List ByteArray) (e:Ending) (w':World):Prop:=∃A c,e= .returned (.slice A ss.length c)∧Own w' 9 1 (.slice A ss.length c) ss.length (strCells ss)∧(∀g∈rowOf (.slice A ss.length c),w.heap.size≤g)∧Fr [] w w'
theorem dPend_snoc (l:List GFam) (f:GFam):dPend (l++ [f])=dPend l++if f.revoked=true then [f.id]else []:=by
 unfold dPend
 rw [List.filter_append,List.map_append]
 congr 1
 by_cases h:f.revoked=true<;>simp [h]
set_option maxRecDepth 100000 in
set_option maxHeartbeats 4000000 in
theorem rpend_t (w:World) (A:Option Addr) (n c:Nat) (room:Int) (l:List FA) (h:FamsIn w [] A n l) (hmax:n≤1000000):
  Calls Tryz.prog 31 #[.agg #[.slice A n c,.int .i64 room]] w (StrsPost w (dPend (l.map (·.f)))):=by
 have hh:=zh h
 clear h
 go_enter Tryz.func31,Tryz.ntmps31
 go_upto_region 1 with(fail)
 refine wp_gen (fun W=>Blk W w.heap.size 50 #[.slice A n c,.int .i64 room]∧Fr [] w W) ⟨Blk.new _ _ _,(Fr.refl _ _).alloc _⟩ ?_
 rintro W ⟨hP,fW⟩
 obtain⟨gp,HGP⟩:∃z,Hid (w.heap.size=z):=⟨_,zh rfl⟩
 rw [HGP.o]at hP⊢
 have hPh:=zh hP
 have fWh:=zh fW
 clear hP fW
 go_wp2_with fail
 go_loopg [3,4] (n+1) (fun gk s3 s4 wr=>∃(i k d:Nat) (ss:List ByteArray) (B:Option Addr),s4= .int .i64 i∧s3= .slice B k d∧i≤n∧n - i<gk∧k≤i∧ss.length=k∧ss=dPend ((l.take i).map (·.f))∧Own wr 9 1 (.slice B k d) k (strCells ss)∧(∀g∈rowOf (.slice B k d),W.heap.size≤g)∧Fr [] W wr)
 case atStart=>exact⟨0,0,0,[],none,rfl,rfl,by omega,by omega,by omega,rfl,rfl,Own.nil _ _ _,by simp [rowOf,Value.ownBlock],Fr.refl _ _⟩
 case round=>
  obtain⟨i,k,d,ss,B,rfl,rfl,hi,hk,hki,hsl,hss,hO,hfr,hF⟩:=hrel
  have hFh:=zh hF
  have hOh:=zh hO
  have hfrh:=zh hfr
  have hssh:=zh hss
  have hslh:=zh hsl
  have hPw:=hPh.o.fr hF (by simp)
  have e0:=hPw.cell 0
  simp only [zG,zH]at e0
  have hpl:=hPw.lt
  clear hF hO hfr hss hsl hPw
  by_cases hlt:i<n
  ·have hlt':(i:Int)<n:=by omega
   have hlth:=zh hlt
   obtain⟨x,ba,oa,rfl,hxi,hxr⟩:=(hh.o.fr (fWh.o.trans hFh.o)).row' hlt
   have htk:=zh (show dPend ((l.take (i+1)).map (·.f))=ss++if x.f.revoked=true then [x.f.id]else [] by
    have hil:i<l.length:=by rw [hh.o.hn];exact hlt
    rw [List.getElem?_eq_getElem hil]at hxi
    obtain rfl:=Option.some.inj hxi
    rw [List.take_succ_eq_append_getElem hil,List.map_append,hssh.o]
    exact dPend_snoc _ _)
   have x0:=hxr 0 (.string x.f.id) rfl
   have x9:=hxr 9 (.bool x.f.revoked) rfl
   rw [Nat.add_zero]at x0
   clear hxi hxr hlt
   cases hrv:x.f.revoked with
   |false=>
    rw [hrv]at x9 htk
    have htk2:=zh (htk.o.trans (List.append_nil _))
    clear htk x0
    go_wp2_with fail
    go_roundg (n - i)
    case measure=>have:=hlth.o;omega
    case rel=>exact⟨i+1,k,d,ss,B,by go_num,rfl,by have:=hlth.o;omega,by have:=hlth.o;omega,by omega,hslh.o,htk2.o.symm,hOh.o,hfrh.o,hFh.o⟩
   |true=>
    rw [hrv]at x9 htk
    have htk2:Hid (dPend ((l.take (i+1)).map (·.f))=ss++ [x.f.id]):=zh htk.o
    clear htk hrv
    have hnew:∀(v:World) (s:ByteArray),Rd (v.alloc (.cells #[.string s] 9)) 1 (some ⟨v.heap.size,0,none⟩) 1 (strCells [s]):=fun v s=>by
     refine⟨rfl,fun _=>⟨_,0,rfl,fun j u hu=> ?_⟩⟩
     rw [(Blk.new v 9 #[.string s]).cell,Nat.zero_add,←Array.getElem?_toList]
     simpa [strCells]using hu
    go_wp2_with (refine wpList_own_append tStrs (hOh.o.fr ((Fr.refl [] _).alloc _) (by simp)) (hnew wr _) (strCells_one _) (by simp) (by unfold maxLen;omega) (by omega) rfl rfl rfl rfl (fun v2 w2 p1 p2 p3=> ?_);obtain⟨A3,c3,rfl,hA3⟩:=p1.form)
    go_roundg (n - i)
    case measure=>have:=hlth.o;omega
    case rel=>
     refine⟨i+1,k+1,c3,ss++ [x.f.id],A3,by go_num,rfl,by have:=hlth.o;omega,by have:=hlth.o;omega,by omega,by rw [List.length_append,hslh.o];rfl,htk2.o.symm,?_,?_,?_⟩
     ·have e:strCells (ss++ [x.f.id])=strCells ss++strCells [x.f.id]:=List.map_append
      rw [e]
      exact p1
     ·intro g hg
      rcases p3 g hg with e |e
      ·exact hfrh.o g e
      ·rw [e]
       have:=hFh.o.size
       simp
       omega
     ·exact(hFh.o.alloc _).andThen p2 (fun g hg=> .inr (hfrh.o g hg))
  ·have hin:i=n:=by omega
   have hge:¬(i:Int)<n:=by omega
   have hss2:=zh (show ss=dPend (l.map (·.f)) by rw [hssh.o,hin,←hh.o.hn,List.take_length])
   clear hlt hk
   go_wp2_with fail
   go_ret
   refine⟨B,d,by rw [←hss2.o,hslh.o];rfl,by rw [←hss2.o,hslh.o];exact hOh.o,?_,fWh.o.trans hFh.o⟩
   rw [←hss2.o,hslh.o]
   exact fun g hg=>Nat.le_trans fWh.o.size (hfrh.o g hg)
theorem tok_at {w:World}{A:Option Addr}{n i:Nat}{l:List TA}(h:Rd w 3 A n (tokCells l)) (hl:l.length=n) (hi:i<n):
  ∃t b o,A=some ⟨b,o,none⟩∧l[i]? =some t∧w.rangeAt b (o+i*3) t.cells:=by
 have hi':i<l.length:=by rw [hl];exact hi
 obtain⟨b,o,e,hc⟩:=h.2 (by omega)
 refine⟨l[i],b,o,e,List.getElem?_eq_getElem hi',fun j v hv=> ?_⟩
 obtain⟨a1,a2,a3⟩:=tokCells_at hi'
 rw [Nat.add_assoc]
 match j,hv with
 | 0,hv=>exact hc _ _ (by rw [Nat.add_zero,a1];exact hv)
 | 1,hv=>exact hc _ _ (by rw [a2];exact hv)
 | 2,hv=>exact hc _ _ (by rw [a3];exact hv)
theorem tok_num {f:GFam}{n:Int}{t:GTok}(h1:1≤n) (h2:n≤(f.tokens.length:Int)) (ht:f.tokens[(n - 1).toNat]? =some t) (k:Int):(tokM f k n).isSome=decide (t.kind=k):=by
 unfold tokM
 rw [if_neg (by omega),ht]
 simp only [Option.bind_some]
 by_cases e:t.kind=k
 ·rw [if_pos e,decide_eq_true e]
  rfl
 ·rw [if_neg e,decide_eq_false e]
  rfl
theorem tok_far {f:GFam}{n:Int}(h:n<1∨(f.tokens.length:Int)<n) (k:Int):(tokM f k n).isSome=false:=by
 unfold tokM
 rw [if_pos h]
 rfl
set_option maxRecDepth 100000 in
set_option maxHeartbeats 4000000 in
theorem ris_t (w:World) (x:FA) (hx:FamIn w [] x) (hs:Short x) (kind serial:Int) (h0:0≤serial) (hm:serial≤1099511627776):Calls Tryz.prog 90 #[x.val,.int .i64 kind,.int .i64 serial] w fun e w'=>e= .returned (.bool (isM x.f kind serial))∧Fr [] w w':=by
 have hxh:=zh hx
 have hst:=hs.toks
 have hlen:=zh hx.len
 clear hx hs
 unfold FA.val
 go_enter Tryz.func90,Tryz.ntmps90
 go_upto_region 1 with(fail)
 refine wp_gen (fun W=>Blk W w.heap.size 39 x.cells∧Fr [] w W) ⟨Blk.new _ _ _,(Fr.refl _ _).alloc _⟩ ?_
 rintro W ⟨hB,fW⟩
 obtain⟨gf,HGF⟩:∃z,Hid (w.heap.size=z):=⟨_,zh rfl⟩
 rw [HGF.o]at hB⊢
 obtain⟨c0,c1,c2,c3,c4,c5,c6,c7,c8,c9,c10,hgl⟩:=fam_cells hB
 have fWh:=zh fW
 clear c0 c1 c2 c3 c4 c5 c6 c9 c10 hB fW
 by_cases hk:kind=1
 ·have b1:(kind==1)=true:=by rw [beq_iff_eq];exact hk
  have hv:=zh (show isM x.f kind serial=(decide (serial=0)&& !decide (x.f.code=0)) by unfold isM;rw [if_pos hk])
  clear hk c8
  by_cases hz:serial=0
  ·have b2:(serial==0)=true:=by rw [beq_iff_eq];exact hz
   rw [decide_eq_true hz,Bool.true_and]at hv
   have b3:(x.f.code !=0)= !decide (x.f.code=0):=by
    rw [bne,Bool.beq_eq_decide_eq]
   generalize x.f.code=cd at c7 hv b3
   generalize(!decide (cd=0))=bb at b3 hv
   clear hz
   go_wp2_with fail
   go_ret
   exact⟨ret_eq hv.o.symm,fWh.o⟩
  ·have b2:(serial==0)=false:=by rw [beq_eq_false_iff_ne];exact hz
   rw [decide_eq_false hz,Bool.false_and]at hv
   clear hz
   go_wp2_with fail
   go_ret
   exact⟨ret_eq hv.o.symm,fWh.o⟩
 ·have b1:(kind==1)=false:=by rw [beq_eq_false_iff_ne];exact hk
  have hv:=zh (show isM x.f kind serial=(tokM x.f kind serial).isSome by unfold isM;rw [if_neg hk])
  clear hk c7
  obtain⟨tn,htn⟩:∃z,Hid (x.ts.length=z):=⟨_,zh rfl⟩
  rw [htn.o]at c8 hst hlen
  by_cases h1:1≤serial
  ·by_cases h2:serial≤tn
   ·have d1:decide (1≤serial)=true:=decide_eq_true h1
    have d2:decide (serial≤(tn:Int))=true:=decide_eq_true h2
    obtain⟨i,hi⟩:∃i:Nat,serial=i+1:=⟨(serial - 1).toNat,by omega⟩
    subst hi
    have hlt:i<tn:=by omega
    obtain⟨t,b0,o0,eA,hti,htr⟩:=tok_at (hxh.o.toks.1.fr fWh.o (by simp [Off])) rfl (show i<x.ts.length by rw [htn.o];exact hlt)
    have hft:x.f.tokens[((i:Int)+1 - 1).toNat]? =some t.tok:=by
     rw [←hxh.o.ts,List.getElem?_map,show((i:Int)+1 - 1).toNat=i by omega,hti]
     rfl
    have hv2:=zh (hv.o.trans (tok_num (by omega) (by rw [←hlen.o];omega) hft kind))
    have t0:=htr 0 (.int .i64 t.tok.kind) rfl
    rw [Nat.add_zero]at t0
    have hwr:IntKind.i64.wrap ((i:Int)+1 - 1)=i:=by
     rw [IntKind.wrap_i64];omega
    have b4:(t.tok.kind==kind)=decide (t.tok.kind=kind):=by rw [Bool.beq_eq_decide_eq]
    rw [eA]at c8
    generalize t.tok.kind=tk at t0 b4 hv2
    generalize decide (tk=kind)=bb at b4 hv2
    have hlt':(i:Int)<tn:=by omega
    clear hti htr hft hv eA
    go_wp2_with fail
    go_ret
    exact⟨ret_eq hv2.o.symm,fWh.o⟩
   ·have d1:decide (1≤serial)=true:=decide_eq_true h1
    have d2:decide (serial≤(tn:Int))=false:=decide_eq_false h2
    have hv2:=zh (hv.o.trans (tok_far (.inr (by rw [←hlen.o];omega)) kind))
    clear hv
    go_wp2_with fail
    go_ret
    exact⟨ret_eq hv2.o.symm,fWh.o⟩
  ·have d1:decide (1≤serial)=false:=decide_eq_false h1
   have hv2:=zh (hv.o.trans (tok_far (.inl (by omega)) kind))
   clear hv
   go_wp2_with fail
   go_ret
   exact⟨ret_eq hv2.o.symm,fWh.o⟩
end Go.Proofs.YtdeoinjjphdbmaaGreat
