/- What stays true of a book's families whatever is done: plain laws. Conditions: each theorem's own. -/
import Derived.Test.YtpmgepijkhaonaaGreatSb
namespace Go.Sig
open Go.RowKit
def wordB (c:UInt8):Bool:= !(decide (c.toNat<33) ||decide (c.toNat=34) ||decide (c.toNat=92) ||decide (126<c.toNat))
def isWord (s:ByteArray):Bool:=s.data.toList.all wordB&&decide (1≤s.size)&&decide (s.size≤64)
def RisN (l:List ByteArray):Prop:=l.Pairwise fun a b=>bl a b=true
def insN (s:ByteArray):List ByteArray→List ByteArray
 | []=> [s]
 |x::l=>if bl s x=true then s::x::l else if s=x then x::l else x::insN s l
def setOf (l:List ByteArray):List ByteArray:=l.foldl (fun acc s=>if isWord s then insN s acc else acc) []
theorem mem_insN {s x:ByteArray}:∀{l:List ByteArray},x∈insN s l↔x=s∨x∈l
 | []=>by simp [insN]
 |y::l=>by
  unfold insN;split
  ·simp
  ·split
   ·rename_i e;subst e;simp
   ·rw [List.mem_cons,mem_insN,List.mem_cons];constructor
    ·rintro(h |h |h)
     ·exact .inr (.inl h)
     ·exact .inl h
     ·exact .inr (.inr h)
    ·rintro(h |h |h)
     ·exact .inr (.inl h)
     ·exact .inl h
     ·exact .inr (.inr h)
theorem insN_rising {s:ByteArray}:∀{l:List ByteArray},RisN l→RisN (insN s l)
 | [],_=>by simp [insN,RisN]
 |x::l,h=>by
  have h':=List.pairwise_cons.1 h;unfold insN;split
  ·rename_i e;refine List.pairwise_cons.2 ⟨fun z hz=> ?_,h⟩;rcases List.mem_cons.1 hz with rfl |hz
   ·exact e
   ·exact bl_trans e (h'.1 z hz)
  ·split
   ·exact h
   ·rename_i e1 e2;refine List.pairwise_cons.2 ⟨fun z hz=> ?_,insN_rising h'.2⟩;rcases mem_insN.1 hz with rfl |hz
    ·exact(bl_total e2).resolve_left e1
    ·exact h'.1 z hz
theorem setOf_foldl_mem {x:ByteArray}:∀(l acc:List ByteArray),x∈l.foldl (fun acc s=>if isWord s then insN s acc else acc) acc↔x∈acc∨(x∈l∧isWord x=true)
 | [],acc=>by simp
 |s::l,acc=>by
  rw [List.foldl_cons,setOf_foldl_mem l];by_cases h:isWord s=true
  ·rw [if_pos h,mem_insN,List.mem_cons];constructor
   ·rintro((rfl |h1) | ⟨h1,h2⟩)
    ·exact .inr ⟨.inl rfl,h⟩
    ·exact .inl h1
    ·exact .inr ⟨.inr h1,h2⟩
   ·rintro(h1 | ⟨rfl |h1,h2⟩)
    ·exact .inl (.inr h1)
    ·exact .inl (.inl rfl)
    ·exact .inr ⟨h1,h2⟩
  ·rw [if_neg h,List.mem_cons];constructor
   ·rintro(h1 | ⟨h1,h2⟩)
    ·exact .inl h1
    ·exact .inr ⟨.inr h1,h2⟩
   ·rintro(h1 | ⟨rfl |h1,h2⟩)
    ·exact .inl h1
    ·exact absurd h2 h
    ·exact .inr ⟨h1,h2⟩
theorem mem_setOf {x:ByteArray}{l:List ByteArray}:x∈setOf l↔x∈l∧isWord x=true:=by
 unfold setOf;rw [setOf_foldl_mem];simp
theorem setOf_foldl_rising:∀(l acc:List ByteArray),RisN acc→RisN (l.foldl (fun acc s=>if isWord s then insN s acc else acc) acc)
 | [],acc,h=>h
 |s::l,acc,h=>by
  rw [List.foldl_cons];refine setOf_foldl_rising l _ ?_;split
  ·exact insN_rising h
  ·exact h
theorem setOf_rising (l:List ByteArray):RisN (setOf l):=setOf_foldl_rising l [] List.Pairwise.nil
theorem risN_nodup {l:List ByteArray}(h:RisN l):l.Nodup:=h.imp fun h e=>by
 subst e;rw [bl_irrefl]at h;cases h
theorem setOf_perm {l ks:List ByteArray}(hn:ks.Nodup) (h:∀s,s∈ks↔s∈l∧isWord s=true):ks.Perm (setOf l):=
 (List.perm_ext_iff_of_nodup hn (risN_nodup (setOf_rising l))).2 fun s=>by rw [h,mem_setOf]
def within (a b:List ByteArray):Bool:=a.all fun s=> !isWord s ||b.any fun x=>decide (x=s)
def printLen (l:List ByteArray):Nat:=((setOf l).map fun s=>s.size).sum+((setOf l).length - 1)
def setM (l:List ByteArray):Bool:=decide (l.length≤32)&&decide (setOf l=l)&&decide (printLen l≤128)
def signB (c:UInt8):Bool:=decide (97≤c.toNat∧c.toNat≤122) ||decide (65≤c.toNat∧c.toNat≤90) ||decide (48≤c.toNat∧c.toNat≤57) ||decide (c.toNat=45) ||decide (c.toNat=95)
def idM (s:ByteArray):Bool:=s.data.toList.all signB&&decide (1≤s.size)&&decide (s.size≤32)
def verB (c:UInt8):Bool:=decide (97≤c.toNat∧c.toNat≤122) ||decide (65≤c.toNat∧c.toNat≤90) ||decide (48≤c.toNat∧c.toNat≤57) || [45,46,95,126].contains c
def verM (s:ByteArray):Bool:=s.data.toList.all verB&&decide (43≤s.size)&&decide (s.size≤128)
def textsM (l:List ByteArray):Bool:=l.all fun s=>decide (s.size≤128)
def webS:List UInt8:= [65,66,67,68,69,70,71,72,73,74,75,76,77,78,79,80,81,82,83,84,85,86,87,88,89,90,97,98,99,100,101,102,103,104,105,106,107,108,109,110,111,112,113,114,115,116,117,118,119,120,121,122,48,49,50,51,52,53,54,55,56,57,45,95]
def worthM (c:UInt8):Option Nat:=webS.findIdx? (fun x=>x==c)
def unsixGo:List UInt8→Nat→Nat→List UInt8→Option (List UInt8)
 | [],held,_,out=>if held=0 then some out else none
 |c::cs,held,bits,out=>match worthM c with
  |none=>none
  |some v=>if 8≤bits+6 then unsixGo cs ((held*64+v)%2^(bits+6 - 8)) (bits+6 - 8) (out++ [UInt8.ofNat ((held*64+v) / 2^(bits+6 - 8))])else unsixGo cs (held*64+v) (bits+6) out
def unwebM (s:List UInt8):Option (List UInt8):=if s.length%4=1 then none else unsixGo s 0 0 []
def sixByte (held bits:Nat) (x:UInt8):List UInt8×Nat×Nat:=
 let h:=held*256+x.toNat
 if bits=4 then([webS.getD (h / 64) 0,webS.getD (h%64) 0],0,0)else([webS.getD (h / 2^(bits+2)) 0],h%2^(bits+2),bits+2)
def sixGo:List UInt8→Nat→Nat→List UInt8→List UInt8
 | [],held,bits,out=>if bits=0 then out else out++ [webS.getD (held*2^(6 - bits)) 0]
 |x::xs,held,bits,out=>sixGo xs (sixByte held bits x).2.1 (sixByte held bits x).2.2 (out++(sixByte held bits x).1)
def webM (b:List UInt8):List UInt8:=sixGo b 0 0 []
def sPlain:ByteArray:=⟨#[112,108,97,105,110]⟩
def sS256:ByteArray:=⟨#[83,50,53,54]⟩
def pkMay (ch me:ByteArray):Bool:=if me=sPlain then verM ch else if me=sS256 then(unwebM ch.data.toList).any fun b=>decide (b.length=32)else false
def pkCheck (ch me ver:ByteArray):Bool:=if me=sPlain then verM ver&&decide (ver=ch)else if me=sS256 then verM ver&&decide (webM (sha ver.data.toList)=ch.data.toList)else false
def shownM (ch me:ByteArray):Bool:=if ch.size=0 then decide (me.size=0)else pkMay ch me
end Go.Sig
namespace Go.Sig
open Go.RowKit
structure GTok where
 kind:Int
 scope:List ByteArray
 used:Bool
structure GFam where
 id:ByteArray
 client:ByteArray
 user:ByteArray
 scope:List ByteArray
 redirect:ByteArray
 challenge:ByteArray
 method:ByteArray
 code:Int
 tokens:List GTok
 revoked:Bool
 leases:List Int
structure GCmd where
 kind:Int
 family:ByteArray
 serial:Int
 token:Int
 client:ByteArray
 user:ByteArray
 scope:List ByteArray
 redirect:ByteArray
 challenge:ByteArray
 method:ByteArray
 verifier:ByteArray
 refresh:Bool
 edge:Int
structure GAns where
 why:Int
 access:Int
 refresh:Int
 scope:List ByteArray
 client:ByteArray
 user:ByteArray
 active:Bool
 wait:Bool
def nilB:ByteArray:=⟨#[]⟩
def noA (w:Int):GAns:=⟨w,0,0,[],nilB,nilB,false,false⟩
def restM (c:GCmd):GCmd:=
 if c.kind=1 then⟨1,c.family,0,0,c.client,c.user,[],c.redirect,c.challenge,c.method,nilB,false,0⟩
 else if c.kind=2 then⟨2,c.family,0,0,c.client,nilB,[],c.redirect,nilB,nilB,c.verifier,c.refresh,0⟩
 else if c.kind=3 then⟨3,c.family,c.serial,0,c.client,nilB,[],nilB,nilB,nilB,nilB,false,0⟩
 else if c.kind=4 then⟨4,c.family,0,0,c.client,nilB,[],nilB,nilB,nilB,nilB,false,0⟩
 else if c.kind=5 then⟨5,c.family,c.serial,c.token,c.client,nilB,[],nilB,nilB,nilB,nilB,false,0⟩
 else if c.kind=6 then⟨6,c.family,c.serial,c.token,nilB,nilB,[],nilB,nilB,nilB,nilB,false,c.edge⟩
 else⟨7,c.family,0,0,nilB,nilB,[],nilB,nilB,nilB,nilB,false,0⟩
def restEq (r c:GCmd):Bool:=
 decide (r.serial=c.serial)&&decide (r.token=c.token)&&decide (r.client=c.client)&&decide (r.user=c.user)&&decide (r.redirect=c.redirect)&&decide (r.challenge=c.challenge)&&
 decide (r.method=c.method)&&decide (r.verifier=c.verifier)&&decide (r.refresh=c.refresh)&&decide (r.edge=c.edge)
def mayM (c:GCmd):Bool:=
 decide (1≤c.kind∧c.kind≤7)&&
 (!(!(decide (c.kind=1) ||decide (c.kind=3) ||decide (c.kind=4))&&decide (0<c.scope.length))&&setM c.scope&&idM c.family&&textsM [c.client,c.user,c.redirect,c.challenge,c.method,c.verifier])&&
 restEq (restM c) c&&
 !(decide (c.kind≤5)&&decide (c.client.size=0) ||decide (c.serial<0) ||decide (1099511627776<c.serial) ||decide (c.edge<0) ||decide (32≤c.edge))&&
 !((decide (c.kind=5) ||decide (c.kind=6))&&(decide (c.token<1) ||decide (3<c.token)))&&
 shownM c.challenge c.method
def issueM (f:GFam) (sc:List ByteArray) (refresh:Bool):GFam×GAns:=
 if refresh then
  ({f with tokens:=f.tokens++ [⟨2,sc,false⟩,⟨3,f.scope,false⟩]},⟨0,(f.tokens.length:Int)+1,(f.tokens.length:Int)+2,sc,nilB,nilB,false,false⟩)
 else({f with tokens:=f.tokens++ [⟨2,sc,false⟩]},⟨0,(f.tokens.length:Int)+1,0,sc,nilB,nilB,false,false⟩)
def tokM (f:GFam) (kind serial:Int):Option GTok:=
 if serial<1∨(f.tokens.length:Int)<serial then none else(f.tokens[(serial - 1).toNat]?).bind fun t=>if t.kind=kind then some t else none
def insI (e:Int):List Int→List Int
 | []=> [e]
 |x::l=>if e<x then e::x::l else if e=x then x::l else x::insI e l
abbrev GBk:=List (ByteArray×GFam)
def fallM (f:GFam) (b:GBk):GBk:=aset f.id {f with revoked:=true} b
def beginM (room:Int) (c:GCmd) (b:GBk):GBk×GAns:=
 if(aget c.family b).isSome then(b,noA 1)
 else if room≤(b.length:Int)then(b,noA 7)
 else if c.kind=4 then
  (aset c.family ⟨c.family,c.client,c.user,c.scope,c.redirect,c.challenge,c.method,0,[⟨2,c.scope,false⟩],false,[]⟩ b,⟨0,1,0,c.scope,nilB,nilB,false,false⟩)
 else(aset c.family ⟨c.family,c.client,c.user,c.scope,c.redirect,c.challenge,c.method,1,[],false,[]⟩ b,⟨0,0,0,c.scope,nilB,nilB,false,false⟩)
def redeemM (c:GCmd) (b:GBk):GBk×GAns:=
 match aget c.family b with
 |none=>(b,noA 3)
 |some f=>
  if f.revoked=true∨f.client≠c.client∨f.code=0 then(b,noA 3)
  else if f.code=2 then(fallM f b,noA 3)
  else if f.redirect≠c.redirect∨(f.challenge.size=0∧c.verifier.size≠0)∨(f.challenge.size≠0∧pkCheck f.challenge f.method c.verifier=false)then(b,noA 3)
  else(aset f.id (issueM {f with code:=2} f.scope c.refresh).1 b,(issueM {f with code:=2} f.scope c.refresh).2)
def useM (l:List GTok) (i:Nat):List GTok:=l.modify i fun t=>{t with used:=true}
def refreshM (c:GCmd) (b:GBk):GBk×GAns:=
 match aget c.family b with
 |none=>(b,noA 3)
 |some f=>
  match tokM f 3 c.serial with
  |none=>(b,noA 3)
  |some t=>
   if f.revoked=true∨f.client≠c.client then(b,noA 3)
   else if t.used=true then(fallM f b,noA 3)
   else if within c.scope f.scope=false then(b,noA 6)
   else if 6<f.tokens.length then(b,noA 7)
   else
    let g:={f with tokens:=useM f.tokens (c.serial - 1).toNat}
    let sc:=if c.scope.length=0 then f.scope else c.scope
    (aset f.id (issueM g sc true).1 b,(issueM g sc true).2)
def revokeM (c:GCmd) (b:GBk):GBk×GAns:=
 match aget c.family b with
 |none=>(b,noA 0)
 |some f=>
  if f.client≠c.client then(b,noA 0)
  else if(tokM f c.token c.serial).isSome=true∨(c.token=1∧c.serial=0∧f.code≠0)then(fallM f b,⟨0,0,0,[],nilB,nilB,false,true⟩)
  else(b,⟨0,0,0,[],nilB,nilB,false,f.revoked⟩)
def lookM (c:GCmd) (b:GBk):GBk×GAns:=
 match aget c.family b with
 |none=>(b,noA 0)
 |some f=>
  match tokM f c.token c.serial with
  |none=>(b,noA 0)
  |some t=>
   if f.revoked=true∨t.used=true then(b,noA 0)
   else(aset f.id {f with leases:=insI c.edge f.leases} b,⟨0,0,0,t.scope,f.client,f.user,true,false⟩)
def doneM (c:GCmd) (b:GBk):GBk×GAns:=
 match aget c.family b with
 |none=>(b,noA 0)
 |some f=>if f.revoked=true then(adel f.id b,noA 0)else(b,noA 0)
def doM (room:Int) (c:GCmd) (b:GBk):GBk×GAns:=
 if mayM c=false then(b,noA 1)
 else if c.kind=1∨c.kind=4 then beginM room c b
 else if c.kind=2 then redeemM c b
 else if c.kind=3 then refreshM c b
 else if c.kind=5 then revokeM c b
 else if c.kind=6 then lookM c b
 else doneM c b
end Go.Sig
namespace Go.Sig
open Go.RowKit
structure TokOk (f:GFam) (t:GTok):Prop where
 kind:t.kind=2∨t.kind=3
 set:setM t.scope=true
 within:within t.scope f.scope=true
 refresh:t.kind=3→t.scope=f.scope
 access:t.kind=2→t.used=false
structure FamOk (f:GFam):Prop where
 id:idM f.id=true
 client:f.client.size≠0
 texts:textsM [f.client,f.user,f.redirect,f.challenge,f.method]=true
 set:setM f.scope=true
 code:f.code=0∨f.code=1∨f.code=2
 none:f.code=0→f.user.size=0∧f.redirect.size=0∧f.challenge.size=0∧f.method.size=0
 shown:shownM f.challenge f.method=true
 tokens:f.tokens.length≤8
 many:f.tokens= []↔f.code=1
 each:∀t∈f.tokens,TokOk f t
 leases:f.leases.Pairwise (·< ·)
 edges:∀e∈f.leases,0≤e∧e<32
def BkOk (b:GBk):Prop:=(b.map (·.1)).Nodup∧∀k f,aget k b=some f→f.id=k∧FamOk f
theorem within_self (l:List ByteArray):within l l=true:=by
 unfold within;rw [List.all_eq_true];intro s hs;rw [Bool.or_eq_true];exact .inr (List.any_eq_true.2 ⟨s,hs,by simp⟩)
theorem mem_insI {e x:Int}:∀{l:List Int},x∈insI e l↔x=e∨x∈l
 | []=>by simp [insI]
 |y::l=>by
  unfold insI;split
  ·simp
  ·split
   ·rename_i h;subst h;simp
   ·rw [List.mem_cons,mem_insI,List.mem_cons];constructor
    ·rintro(h |h |h)
     ·exact .inr (.inl h)
     ·exact .inl h
     ·exact .inr (.inr h)
    ·rintro(h |h |h)
     ·exact .inr (.inl h)
     ·exact .inl h
     ·exact .inr (.inr h)
theorem insI_rising {e:Int}:∀{l:List Int},l.Pairwise (·< ·)→(insI e l).Pairwise (·< ·)
 | [],_=>by simp [insI]
 |x::l,h=>by
  have h':=List.pairwise_cons.1 h;unfold insI;split
  ·rename_i e;refine List.pairwise_cons.2 ⟨fun z hz=> ?_,h⟩;rcases List.mem_cons.1 hz with rfl |hz
   ·exact e
   ·exact Int.lt_trans e (h'.1 z hz)
  ·split
   ·exact h
   ·rename_i e1 e2;refine List.pairwise_cons.2 ⟨fun z hz=> ?_,insI_rising h'.2⟩;rcases mem_insI.1 hz with rfl |hz
    ·omega
    ·exact h'.1 z hz
structure MayOk (c:GCmd):Prop where
 lo:1≤c.kind
 hi:c.kind≤7
 set:setM c.scope=true
 id:idM c.family=true
 texts:textsM [c.client,c.user,c.redirect,c.challenge,c.method,c.verifier]=true
 rest:restEq (restM c) c=true
 client:c.kind≤5→c.client.size≠0
 serial:0≤c.serial∧c.serial≤1099511627776
 edge:0≤c.edge∧c.edge<32
 token:c.kind=5∨c.kind=6→1≤c.token∧c.token≤3
 shown:shownM c.challenge c.method=true
 noscope:c.kind≠1→c.kind≠3→c.kind≠4→c.scope= []
theorem mayM_ok {c:GCmd}(h:mayM c=true):MayOk c:=by
 unfold mayM at h;simp only [Bool.and_eq_true,decide_eq_true_eq,Bool.not_eq_true',Bool.or_eq_false_iff,Bool.and_eq_false_iff,decide_eq_false_iff_not,Bool.not_eq_false',Bool.or_eq_true]at h;obtain⟨⟨⟨⟨⟨⟨h1,h2⟩,⟨⟨h3,h4⟩,h5⟩,h6⟩,h7⟩,⟨⟨⟨⟨h8,h9⟩,h10⟩,h11⟩,h12⟩⟩,h13⟩,h14⟩:=h;refine⟨h1,h2,h4,h5,h6,h7,fun hk=>by omega,⟨by omega,by omega⟩,⟨by omega,by omega⟩,fun hk=> ?_,h14,fun a1 a2 a3=> ?_⟩
 ·rcases h13 with h | ⟨ha,hb⟩
  ·omega
  ·omega
 ·rcases h3 with h |h
  ·omega
  ·exact List.eq_nil_of_length_eq_zero (by omega)
theorem rest4 {c:GCmd}(h:MayOk c) (hk:c.kind=4):c.user=nilB∧c.redirect=nilB∧c.challenge=nilB∧c.method=nilB:=by
 have hr:=h.rest;unfold restEq restM at hr;rw [if_neg (by omega),if_neg (by omega),if_neg (by omega),if_pos hk]at hr;simp only [Bool.and_eq_true,decide_eq_true_eq]at hr;obtain⟨⟨⟨⟨⟨⟨⟨⟨⟨_,_⟩,_⟩,h4⟩,h5⟩,h6⟩,h7⟩,_⟩,_⟩,_⟩:=hr;exact⟨h4.symm,h5.symm,h6.symm,h7.symm⟩
theorem aset_ok {b:GBk}{k:ByteArray}{f:GFam}(hb:BkOk b) (hid:f.id=k) (hf:FamOk f):BkOk (aset k f b):=by
 refine⟨nodup_aset hb.1,fun j g hg=> ?_⟩;by_cases e:j=k
 ·subst e;rw [aget_aset_same]at hg;obtain rfl:=Option.some.inj hg;exact⟨hid,hf⟩
 ·rw [aget_aset_other e]at hg;exact hb.2 j g hg
theorem mem_useM {l:List GTok}{i:Nat}{t:GTok}(h:t∈useM l i):t∈l∨∃t',l[i]? =some t'∧t={t' with used:=true}:=by
 obtain⟨j,hj,rfl⟩:=List.mem_iff_getElem.1 h;unfold useM at hj⊢;rw [List.length_modify]at hj;rw [List.getElem_modify];split
 ·rename_i e;subst e;exact .inr ⟨l[i],List.getElem?_eq_getElem hj,rfl⟩
 ·exact .inl (List.getElem_mem hj)
theorem useM_length {l:List GTok}{i:Nat}:(useM l i).length=l.length:=List.length_modify _ _ _
theorem tokM_some {f:GFam}{k n:Int}{t:GTok}(h:tokM f k n=some t):1≤n∧n≤f.tokens.length∧f.tokens[(n - 1).toNat]? =some t∧t.kind=k:=by
 unfold tokM at h;split at h
 ·cases h
 ·rename_i hn;cases e:f.tokens[(n - 1).toNat]? with
  |none=>rw [e]at h;cases h
  |some t'=>
   rw [e]at h;simp only [Option.bind_some]at h;split at h
   ·obtain rfl:=Option.some.inj h;exact⟨by omega,by omega,rfl,by assumption⟩
   ·cases h
theorem issue_ok {f:GFam}{sc:List ByteArray}{r:Bool}(hf:FamOk f) (hn:f.code≠1) (hs:setM sc=true) (hw:within sc f.scope=true) (h6:f.tokens.length≤6):FamOk (issueM f sc r).1:=by
 have t2:TokOk f ⟨2,sc,false⟩:=⟨.inl rfl,hs,hw,fun h=>(by cases h),fun _=>rfl⟩
 have t3:TokOk f ⟨3,f.scope,false⟩:=⟨.inr rfl,hf.set,within_self _,fun _=>rfl,fun h=>(by cases h)⟩
 unfold issueM;cases r with
 |true=>
  refine⟨hf.id,hf.client,hf.texts,hf.set,hf.code,hf.none,hf.shown,(by simp;omega),⟨fun h=>by simp at h,fun h=>absurd h hn⟩,fun t ht=> ?_,hf.leases,hf.edges⟩;simp only [if_true]at ht;rcases List.mem_append.1 ht with h |h
  ·exact⟨(hf.each t h).kind,(hf.each t h).set,(hf.each t h).within,(hf.each t h).refresh,(hf.each t h).access⟩
  ·simp only [List.mem_cons,List.not_mem_nil,or_false]at h;rcases h with rfl |rfl
   ·exact⟨t2.kind,t2.set,t2.within,t2.refresh,t2.access⟩
   ·exact⟨t3.kind,t3.set,t3.within,t3.refresh,t3.access⟩
 |false=>
  refine⟨hf.id,hf.client,hf.texts,hf.set,hf.code,hf.none,hf.shown,(by simp;omega),⟨fun h=>by simp at h,fun h=>absurd h hn⟩,fun t ht=> ?_,hf.leases,hf.edges⟩;simp only [Bool.false_eq_true,if_false]at ht;rcases List.mem_append.1 ht with h |h
  ·exact⟨(hf.each t h).kind,(hf.each t h).set,(hf.each t h).within,(hf.each t h).refresh,(hf.each t h).access⟩
  ·simp only [List.mem_cons,List.not_mem_nil,or_false]at h;subst h;exact⟨t2.kind,t2.set,t2.within,t2.refresh,t2.access⟩
theorem fall_ok {f:GFam}{b:GBk}{k:ByteArray}(hb:BkOk b) (hk:aget k b=some f):BkOk (fallM f b):=by
 obtain⟨hid,hf⟩:=hb.2 k f hk;exact aset_ok hb rfl ⟨hf.id,hf.client,hf.texts,hf.set,hf.code,hf.none,hf.shown,hf.tokens,hf.many,fun t ht=>⟨(hf.each t ht).kind,(hf.each t ht).set,(hf.each t ht).within,(hf.each t ht).refresh,(hf.each t ht).access⟩,hf.leases,hf.edges⟩
theorem adel_ok {b:GBk}{k:ByteArray}(hb:BkOk b):BkOk (adel k b):=by
 refine⟨nodup_adel hb.1,fun j g hg=> ?_⟩;have hm:=mem_adel (mem_of_aget hg);exact hb.2 j g (aget_of_mem hb.1 hm)
theorem textsM_mem {l:List ByteArray}(h:textsM l=true) {s:ByteArray}(hs:s∈l):s.size≤128:=by
 unfold textsM at h;simpa using List.all_eq_true.1 h s hs
theorem texts5 {c:GCmd}(h:MayOk c):textsM [c.client,c.user,c.redirect,c.challenge,c.method]=true:=by
 have:=h.texts;unfold textsM at*
 simp only [List.all_cons,List.all_nil,Bool.and_true,Bool.and_eq_true]at*;exact⟨this.1,this.2.1,this.2.2.1,this.2.2.2.1,this.2.2.2.2.1⟩
theorem begin_ok {room:Int}{c:GCmd}{b:GBk}(hb:BkOk b) (h:MayOk c) (hk:c.kind=1∨c.kind=4):BkOk (beginM room c b).1:=by
 unfold beginM;split
 ·exact hb
 ·split
  ·exact hb
  ·split
   ·rename_i h4;obtain⟨e1,e2,e3,e4⟩:=rest4 h h4;refine aset_ok hb rfl ⟨h.id,h.client (by omega),texts5 h,h.set,.inl rfl,fun _=>by simp only [e1,e2,e3,e4];decide,h.shown,(by simp),⟨fun h=>(by cases h),fun h=>(by cases h)⟩,fun t ht=> ?_,List.Pairwise.nil,fun e he=>(by cases he)⟩;simp only [List.mem_cons,List.not_mem_nil,or_false]at ht;subst ht;exact⟨.inl rfl,h.set,within_self _,fun h=>(by cases h),fun _=>rfl⟩
   ·exact aset_ok hb rfl ⟨h.id,h.client (by omega),texts5 h,h.set,.inr (.inl rfl),fun h=>(by cases h),h.shown,(by simp),⟨fun _=>rfl,fun _=>rfl⟩,fun t ht=>(by cases ht),List.Pairwise.nil,fun e he=>(by cases he)⟩
theorem redeem_ok {c:GCmd}{b:GBk}(hb:BkOk b):BkOk (redeemM c b).1:=by
 unfold redeemM;cases e:aget c.family b with
 |none=>exact hb
 |some f=>
  obtain⟨hid,hf⟩:=hb.2 _ f e;simp only;split
  ·exact hb
  ·split
   ·exact fall_ok hb e
   ·split
    ·exact hb
    ·rename_i h1 h2 _;have hc:f.code=1:=by rcases hf.code with h |h |h<;>simp_all
     have ht:f.tokens= []:=hf.many.2 hc;refine aset_ok hb ?_ ?_
     ·unfold issueM;split<;>rfl
     ·unfold issueM;have t2:TokOk f ⟨2,f.scope,false⟩:=⟨.inl rfl,hf.set,within_self _,fun h=>(by cases h),fun _=>rfl⟩
      have t3:TokOk f ⟨3,f.scope,false⟩:=⟨.inr rfl,hf.set,within_self _,fun _=>rfl,fun h=>(by cases h)⟩
      cases c.refresh with
      |true=>
       refine⟨hf.id,hf.client,hf.texts,hf.set,.inr (.inr rfl),fun h=>(by cases h),hf.shown,(by simp [ht]),⟨fun h=>by simp at h,fun h=>(by cases h)⟩,fun t htt=> ?_,hf.leases,hf.edges⟩;simp only [if_true,ht,List.nil_append,List.mem_cons,List.not_mem_nil,or_false]at htt;rcases htt with rfl |rfl
       ·exact⟨t2.kind,t2.set,t2.within,t2.refresh,t2.access⟩
       ·exact⟨t3.kind,t3.set,t3.within,t3.refresh,t3.access⟩
      |false=>refine⟨hf.id,hf.client,hf.texts,hf.set,.inr (.inr rfl),fun h=>(by cases h),hf.shown,(by simp [ht]),⟨fun h=>by simp at h,fun h=>(by cases h)⟩,fun t htt=> ?_,hf.leases,hf.edges⟩;simp only [Bool.false_eq_true,if_false,ht,List.nil_append,List.mem_cons,List.not_mem_nil,or_false]at htt;subst htt;exact⟨t2.kind,t2.set,t2.within,t2.refresh,t2.access⟩
theorem use_ok {f:GFam}{n:Int}{t:GTok}(hf:FamOk f) (ht:tokM f 3 n=some t):FamOk {f with tokens:=useM f.tokens (n - 1).toNat}:=by
 obtain⟨h1,h2,h3,h4⟩:=tokM_some ht;refine⟨hf.id,hf.client,hf.texts,hf.set,hf.code,hf.none,hf.shown,by rw [useM_length];exact hf.tokens,⟨fun h=>hf.many.1 (List.eq_nil_of_length_eq_zero (by rw [←useM_length (l:=f.tokens) (i:=(n - 1).toNat)];simp only at h;rw [h];rfl)),fun h=> ?_⟩,fun s hs=> ?_,hf.leases,hf.edges⟩
 ·have e:=hf.many.2 h;simp only;rw [e];simp [useM]
 ·rcases mem_useM hs with hs | ⟨t',e1,e2⟩
  ·exact⟨(hf.each s hs).kind,(hf.each s hs).set,(hf.each s hs).within,(hf.each s hs).refresh,(hf.each s hs).access⟩
  ·rw [h3]at e1;obtain rfl:=Option.some.inj e1;have hm:t∈f.tokens:=List.mem_of_getElem? h3;subst e2;exact⟨(hf.each t hm).kind,(hf.each t hm).set,(hf.each t hm).within,(hf.each t hm).refresh,fun h=>absurd h (by simp only [h4];decide)⟩
theorem refresh_ok {c:GCmd}{b:GBk}(hb:BkOk b) (h:MayOk c):BkOk (refreshM c b).1:=by
 unfold refreshM;cases e:aget c.family b with
 |none=>exact hb
 |some f=>
  obtain⟨hid,hf⟩:=hb.2 _ f e;simp only;cases ht:tokM f 3 c.serial with
  |none=>exact hb
  |some t=>
   simp only;split
   ·exact hb
   ·split
    ·exact fall_ok hb e
    ·split
     ·exact hb
     ·split
      ·exact hb
      ·rename_i _ _ hw h6;have hne:f.code≠1:=fun hc=>by
        have:=hf.many.2 hc;obtain⟨a1,a2,_,_⟩:=tokM_some ht;rw [this]at a2;simp at a2;omega
       refine aset_ok hb ?_ ?_
       ·unfold issueM;rfl
       ·refine issue_ok (use_ok hf ht) hne ?_ ?_ (by simp only;rw [useM_length];omega)
        ·split
         ·exact hf.set
         ·exact h.set
        ·simp only;split
         ·exact within_self _
         ·simpa using hw
theorem revoke_ok {c:GCmd}{b:GBk}(hb:BkOk b):BkOk (revokeM c b).1:=by
 unfold revokeM;cases e:aget c.family b with
 |none=>exact hb
 |some f=>
  simp only;split
  ·exact hb
  ·split
   ·exact fall_ok hb e
   ·exact hb
theorem look_ok {c:GCmd}{b:GBk}(hb:BkOk b) (h:MayOk c):BkOk (lookM c b).1:=by
 unfold lookM;cases e:aget c.family b with
 |none=>exact hb
 |some f=>
  obtain⟨hid,hf⟩:=hb.2 _ f e;simp only;cases ht:tokM f c.token c.serial with
  |none=>exact hb
  |some t=>
   simp only;split
   ·exact hb
   ·refine aset_ok hb rfl ⟨hf.id,hf.client,hf.texts,hf.set,hf.code,hf.none,hf.shown,hf.tokens,hf.many,fun t ht=>⟨(hf.each t ht).kind,(hf.each t ht).set,(hf.each t ht).within,(hf.each t ht).refresh,(hf.each t ht).access⟩,insI_rising hf.leases,fun x hx=> ?_⟩;rcases mem_insI.1 hx with rfl |hx
    ·exact h.edge
    ·exact hf.edges x hx
theorem done_ok {c:GCmd}{b:GBk}(hb:BkOk b):BkOk (doneM c b).1:=by
 unfold doneM;cases e:aget c.family b with
 |none=>exact hb
 |some f=>
  simp only;split
  ·exact adel_ok hb
  ·exact hb
theorem doM_ok {room:Int}{c:GCmd}{b:GBk}(hb:BkOk b):BkOk (doM room c b).1:=by
 unfold doM;split
 ·exact hb
 ·rename_i hm;have h:=mayM_ok (c:=c) (by simpa using hm);split
  ·exact begin_ok hb h (by assumption)
  ·split
   ·exact redeem_ok hb
   ·split
    ·exact refresh_ok hb h
    ·split
     ·exact revoke_ok hb
     ·split
      ·exact look_ok hb h
      ·exact done_ok hb
end Go.Sig
