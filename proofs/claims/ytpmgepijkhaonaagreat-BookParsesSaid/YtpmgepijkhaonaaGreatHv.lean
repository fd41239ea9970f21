/- How many families a book has: plain laws. Conditions: each theorem's own. -/
import Derived.Test.YtpmgepijkhaonaaGreatGr
namespace Go.Sig
open Go.RowKit
theorem aget_adel_same {κ ν:Type} [DecidableEq κ] {s:κ}:∀{M:List (κ×ν)},(M.map (·.1)).Nodup→aget s (adel s M)=none
 | [],_=>rfl
 |p::M,h=>by
  rw [List.map_cons,List.nodup_cons]at h;unfold adel;by_cases e:p.1=s
  ·rw [if_pos e];rw [e]at h;exact aget_none_iff.2 h.1
  ·rw [if_neg e,aget,if_neg e];exact aget_adel_same h.2
theorem aget_adel_other {κ ν:Type} [DecidableEq κ] {s k:κ}(hne:s≠k):∀{M:List (κ×ν)},aget s (adel k M)=aget s M
 | []=>rfl
 |p::M=>by
  unfold adel;by_cases e:p.1=k
  ·rw [if_pos e,aget,if_neg (by rw [e];exact fun h=>hne h.symm)]
  ·rw [if_neg e,aget,aget,aget_adel_other hne]
theorem do_other {room:Int}{c:GCmd}{b:GBk}{k:ByteArray}(hb:BkOk b) (h:c.family≠k∨mayM c=false):aget k (doM room c b).1=aget k b:=by
 unfold doM;split
 ·rfl
 ·rename_i hm;have hk:k≠c.family:=fun e=>by
   rcases h with h |h
   ·exact h e.symm
   ·exact hm h
  have hset:∀{f g:GFam},aget c.family b=some f→g.id=f.id→aget k (aset g.id g b)=aget k b:=fun{f g} e eg=>by rw [eg,(hb.2 _ _ e).1];exact aget_aset_other hk
  split
  ·unfold beginM;split
   ·rfl
   ·split
    ·rfl
    ·split
     ·exact aget_aset_other hk
     ·exact aget_aset_other hk
  ·split
   ·unfold redeemM;cases e:aget c.family b with
    |none=>rfl
    |some f=>
     have hid:=(hb.2 _ _ e).1;simp only;split
     ·rfl
     ·split
      ·unfold fallM;rw [hid];exact aget_aset_other hk
      ·split
       ·rfl
       ·simp only;rw [hid];exact aget_aset_other hk
   ·split
    ·unfold refreshM;cases e:aget c.family b with
     |none=>rfl
     |some f=>
      have hid:=(hb.2 _ _ e).1;simp only;cases tokM f 3 c.serial with
      |none=>rfl
      |some t=>
       simp only;split
       ·rfl
       ·split
        ·unfold fallM;rw [hid];exact aget_aset_other hk
        ·split
         ·rfl
         ·split
          ·rfl
          ·simp only;rw [hid];exact aget_aset_other hk
    ·split
     ·unfold revokeM;cases e:aget c.family b with
      |none=>rfl
      |some f=>
       have hid:=(hb.2 _ _ e).1;simp only;split
       ·rfl
       ·split
        ·unfold fallM;rw [hid];exact aget_aset_other hk
        ·rfl
     ·split
      ·unfold lookM;cases e:aget c.family b with
       |none=>rfl
       |some f=>
        have hid:=(hb.2 _ _ e).1;simp only;cases tokM f c.token c.serial with
        |none=>rfl
        |some t=>
         simp only;split
         ·rfl
         ·simp only;rw [hid];exact aget_aset_other hk
      ·unfold doneM;cases e:aget c.family b with
       |none=>rfl
       |some f=>
        have hid:=(hb.2 _ _ e).1;simp only;split
        ·simp only;rw [hid];exact aget_adel_other hk
        ·rfl
structure Keeps (f f':GFam):Prop where
 client:f'.client=f.client
 code:f.code=2→f'.code=2
 fall:f.revoked=true→f'.revoked=true
theorem Keeps.refl (f:GFam):Keeps f f:=⟨rfl,id,id⟩
theorem issue_keeps {f g:GFam}{sc:List ByteArray}{r:Bool}(h:Keeps f g):Keeps f (issueM g sc r).1:=by
 unfold issueM;split
 ·exact⟨h.client,h.code,h.fall⟩
 ·exact⟨h.client,h.code,h.fall⟩
theorem do_keeps {room:Int}{c:GCmd}{b:GBk}{f:GFam}(hb:BkOk b) (hk:c.kind≠7) (h:aget c.family b=some f):∃f',aget c.family (doM room c b).1=some f'∧Keeps f f':=by
 have hid:=(hb.2 _ _ h).1;have hset:∀{g:GFam},Keeps f g→∃f',aget c.family (aset f.id g b)=some f'∧Keeps f f':=fun{g} hg=>⟨g,by rw [hid,aget_aset_same],hg⟩
 have hfall:∃f',aget c.family (fallM f b)=some f'∧Keeps f f':=hset ⟨rfl,id,fun _=>rfl⟩;have hsame:∃f',aget c.family b=some f'∧Keeps f f':=⟨f,h,Keeps.refl f⟩
 unfold doM;split
 ·exact hsame
 ·rename_i hm;have ok:=mayM_ok (c:=c) (by simpa using hm);split
  ·unfold beginM;rw [h];exact hsame
  ·split
   ·unfold redeemM;rw [h];simp only;split
    ·exact hsame
    ·split
     ·exact hfall
     ·split
      ·exact hsame
      ·exact hset (issue_keeps ⟨rfl,fun _=>rfl,id⟩)
   ·split
    ·unfold refreshM;rw [h];simp only;cases tokM f 3 c.serial with
     |none=>exact hsame
     |some t=>
      simp only;split
      ·exact hsame
      ·split
       ·exact hfall
       ·split
        ·exact hsame
        ·split
         ·exact hsame
         ·exact hset (issue_keeps ⟨rfl,id,id⟩)
    ·split
     ·unfold revokeM;rw [h];simp only;split
      ·exact hsame
      ·split
       ·exact hfall
       ·exact hsame
     ·split
      ·unfold lookM;rw [h];simp only;cases tokM f c.token c.serial with
       |none=>exact hsame
       |some t=>
        simp only;split
        ·exact hsame
        ·exact hset ⟨rfl,id,id⟩
      ·exfalso;have:=ok.lo;have:=ok.hi;omega
theorem redeem_no {room:Int}{c:GCmd}{b:GBk}{f:GFam}(hb:BkOk b) (hm:mayM c=true) (hk:c.kind=2) (hf:aget c.family b=some f) (h2:f.code=2) (hc:f.client=c.client):
  (doM room c b).2.why=3∧∃f',aget c.family (doM room c b).1=some f'∧f'.revoked=true:=by
 have hid:=(hb.2 _ f hf).1;have e:doM room c b=redeemM c b:=by unfold doM;rw [if_neg (by simp [hm]),if_neg (by omega),if_pos hk]
 rw [e];unfold redeemM;rw [hf];simp only;by_cases hr:f.revoked=true
 ·rw [if_pos (.inl hr)];exact⟨rfl,f,hf,hr⟩
 ·rw [if_neg (by rintro(h |h |h);exact hr h;exact h hc;omega),if_pos h2];refine⟨rfl,{f with revoked:=true},?_,rfl⟩;unfold fallM;rw [hid,aget_aset_same]
theorem look_active {room:Int}{c:GCmd}{b:GBk}(hm:mayM c=true) (hk:c.kind=6) (ha:(doM room c b).2.active=true):∃f,aget c.family b=some f∧f.revoked=false:=by
 have e:doM room c b=lookM c b:=by unfold doM;rw [if_neg (by simp [hm]),if_neg (by omega),if_neg (by omega),if_neg (by omega),if_neg (by omega),if_pos hk]
 rw [e]at ha;unfold lookM at ha;cases hg:aget c.family b with
 |none=>rw [hg]at ha;simp [noA]at ha
 |some f=>
  rw [hg]at ha;simp only at ha;cases ht:tokM f c.token c.serial with
  |none=>rw [ht]at ha;simp [noA]at ha
  |some t=>
   rw [ht]at ha;simp only at ha;split at ha
   ·simp [noA]at ha
   ·rename_i h;exact⟨f,rfl,by
     cases hr:f.revoked with
     |false=>rfl
     |true=>exact absurd (.inl hr) h⟩
theorem refresh_yes {room:Int}{c:GCmd}{b:GBk}(hm:mayM c=true) (hk:c.kind=3) (hw:(doM room c b).2.why=0):∃f,aget c.family b=some f∧f.revoked=false:=by
 have e:doM room c b=refreshM c b:=by unfold doM;rw [if_neg (by simp [hm]),if_neg (by omega),if_neg (by omega),if_pos hk]
 rw [e]at hw;unfold refreshM at hw;cases hg:aget c.family b with
 |none=>rw [hg]at hw;simp [noA]at hw
 |some f=>
  rw [hg]at hw;simp only at hw;cases ht:tokM f 3 c.serial with
  |none=>rw [ht]at hw;simp [noA]at hw
  |some t=>
   rw [ht]at hw;simp only at hw;split at hw
   ·simp [noA]at hw
   ·rename_i h;exact⟨f,rfl,by
     cases hr:f.revoked with
     |false=>rfl
     |true=>exact absurd (.inl hr) h⟩
theorem done_stays {room:Int}{c:GCmd}{b:GBk}(hb:BkOk b) (hm:mayM c=true) (hk:c.kind=7) (h:(aget c.family (doM room c b).1).isSome=true):aget c.family (doM room c b).1=aget c.family b:=by
 have e:doM room c b=doneM c b:=by unfold doM;rw [if_neg (by simp [hm]),if_neg (by omega),if_neg (by omega),if_neg (by omega),if_neg (by omega),if_neg (by omega)]
 rw [e]at h⊢;unfold doneM at h⊢;cases hg:aget c.family b with
 |none=>rw [hg]at h;simp only [hg]at h;cases h
 |some f=>
  rw [hg]at h;have hid:=(hb.2 _ f hg).1;simp only at h⊢;split at h
  ·simp only [hid,aget_adel_same hb.1]at h;cases h
  ·rename_i hr;rw [if_neg hr];exact hg
structure OnceI (b:GBk) (id:ByteArray) (granted fallen:Bool) (client:ByteArray):Prop where
 granted:granted=true→∃f,aget id b=some f∧f.code=2∧f.client=client
 fallen:fallen=true→∃f,aget id b=some f∧f.revoked=true
theorem OnceI.new (id:ByteArray):OnceI [] id false false nilB:=⟨fun h=>(by cases h),fun h=>(by cases h)⟩
theorem OnceI.none (b:GBk) (id:ByteArray):OnceI b id false false nilB:=⟨fun h=>(by cases h),fun h=>(by cases h)⟩
section
variable {room:Int}{c:GCmd}{b:GBk}{id cl:ByteArray}{g fa:Bool}
theorem OnceI.other (h:OnceI b id g fa cl) (hb:BkOk b) (hc:c.family≠id∨mayM c=false):OnceI (doM room c b).1 id g fa cl:=by
 have e:=do_other (room:=room) hb hc;exact⟨fun hg=>by rw [e];exact h.granted hg,fun hg=>by rw [e];exact h.fallen hg⟩
theorem OnceI.keep (h:OnceI b c.family g fa cl) (hb:BkOk b) (hk:c.kind≠7):OnceI (doM room c b).1 c.family g fa cl:=by
 refine⟨fun hg=> ?_,fun hg=> ?_⟩
 ·obtain⟨f,h1,h2,h3⟩:=h.granted hg;obtain⟨f',e,K⟩:=do_keeps (room:=room) hb hk h1;exact⟨f',e,K.code h2,K.client.trans h3⟩
 ·obtain⟨f,h1,h2⟩:=h.fallen hg;obtain⟨f',e,K⟩:=do_keeps (room:=room) hb hk h1;exact⟨f',e,K.fall h2⟩
theorem OnceI.done (h:OnceI b c.family g fa cl) (hb:BkOk b) (hm:mayM c=true) (hk:c.kind=7) (hs:(aget c.family (doM room c b).1).isSome=true):OnceI (doM room c b).1 c.family g fa cl:=by
 have e:=done_stays (room:=room) hb hm hk hs;exact⟨fun hg=>by rw [e];exact h.granted hg,fun hg=>by rw [e];exact h.fallen hg⟩
theorem OnceI.no (h:OnceI b c.family g fa cl) (hb:BkOk b) (hm:mayM c=true) (hk:c.kind=2) (hg:g=true) (hc:c.client=cl):(doM room c b).2.why=3∧OnceI (doM room c b).1 c.family true true cl:=by
 obtain⟨f,h1,h2,h3⟩:=h.granted hg;obtain⟨e1,f',e2,e3⟩:=redeem_no (room:=room) hb hm hk h1 h2 (h3.trans hc.symm);obtain⟨f3,e4,K⟩:=do_keeps (room:=room) hb (by omega) h1;exact⟨e1,fun _=>⟨f3,e4,K.code h2,K.client.trans h3⟩,fun _=>⟨f',e2,e3⟩⟩
theorem OnceI.look (h:OnceI b c.family g fa cl) (hm:mayM c=true) (hk:c.kind=6) (hf:fa=true):(doM room c b).2.active=false:=by
 cases ha:(doM room c b).2.active with
 |false=>rfl
 |true=>obtain⟨f,e1,e2⟩:=look_active hm hk ha;obtain⟨f2,e3,e4⟩:=h.fallen hf;rw [e1]at e3;obtain rfl:=Option.some.inj e3;rw [e2]at e4;cases e4
theorem OnceI.refresh (h:OnceI b c.family g fa cl) (hm:mayM c=true) (hk:c.kind=3) (hf:fa=true):(doM room c b).2.why≠0:=by
 intro ha;obtain⟨f,e1,e2⟩:=refresh_yes hm hk ha;obtain⟨f2,e3,e4⟩:=h.fallen hf;rw [e1]at e3;obtain rfl:=Option.some.inj e3;rw [e2]at e4;cases e4
end
end Go.Sig
namespace Go.Sig
open Go.RowKit
section
variable {room:Int}{c:GCmd}{b:GBk}
theorem aset_len {f g:GFam}{k:ByteArray}(hb:BkOk b) (h:aget k b=some f):(aset f.id g b).length=b.length:=by
 have hid:=(hb.2 _ _ h).1;rw [hid,length_aset,if_pos];exact List.mem_map.2 ⟨_,mem_of_aget h,rfl⟩
theorem do_len (hb:BkOk b):(doM room c b).1.length≤b.length∨((c.kind=1∨c.kind=4)∧(doM room c b).1.length=b.length+1∧((b.length:Int)<room)):=by
 unfold doM;split
 ·exact .inl (Nat.le_refl _)
 ·split
  ·rename_i h1;unfold beginM;split
   ·exact .inl (Nat.le_refl _)
   ·rename_i h2;split
    ·exact .inl (Nat.le_refl _)
    ·rename_i h3;have hn:c.family∉b.map (·.1):=by
      rw [←aget_none_iff];cases h:aget c.family b with
      |none=>rfl
      |some f=>rw [h]at h2;exact absurd rfl h2
     right;refine⟨h1,?_,by omega⟩;split
     ·simp only;rw [length_aset,if_neg hn]
     ·simp only;rw [length_aset,if_neg hn]
  ·left;split
   ·unfold redeemM;cases hf:aget c.family b with
    |none=>exact Nat.le_refl _
    |some f=>
     simp only;split
     ·exact Nat.le_refl _
     ·split
      ·unfold fallM;exact Nat.le_of_eq (aset_len hb hf)
      ·split
       ·exact Nat.le_refl _
       ·exact Nat.le_of_eq (aset_len hb hf)
   ·split
    ·unfold refreshM;cases hf:aget c.family b with
     |none=>exact Nat.le_refl _
     |some f=>
      simp only;cases tokM f 3 c.serial with
      |none=>exact Nat.le_refl _
      |some t=>
       simp only;split
       ·exact Nat.le_refl _
       ·split
        ·unfold fallM;exact Nat.le_of_eq (aset_len hb hf)
        ·split
         ·exact Nat.le_refl _
         ·split
          ·exact Nat.le_refl _
          ·exact Nat.le_of_eq (aset_len hb hf)
    ·split
     ·unfold revokeM;cases hf:aget c.family b with
      |none=>exact Nat.le_refl _
      |some f=>
       simp only;split
       ·exact Nat.le_refl _
       ·split
        ·unfold fallM;exact Nat.le_of_eq (aset_len hb hf)
        ·exact Nat.le_refl _
     ·split
      ·unfold lookM;cases hf:aget c.family b with
       |none=>exact Nat.le_refl _
       |some f=>
        simp only;cases tokM f c.token c.serial with
        |none=>exact Nat.le_refl _
        |some t=>
         simp only;split
         ·exact Nat.le_refl _
         ·exact Nat.le_of_eq (aset_len hb hf)
      ·unfold doneM;cases hf:aget c.family b with
       |none=>exact Nat.le_refl _
       |some f=>
        simp only;split
        ·exact length_adel_le
        ·exact Nat.le_refl _
theorem do_room (hb:BkOk b) (h:(b.length:Int)≤room):(((doM room c b).1.length:Nat):Int)≤room:=by
 rcases do_len (room:=room) (c:=c) hb with h1 | ⟨_,h1,h2⟩<;>omega
end
end Go.Sig
