/- Forms, clients, tokens and plans, as plain functions. Conditions: none. -/
import Derived.Test.YtopfcgpeaaehgaaGreatDoorGr
import Derived.Lib.ItoaNum
import Derived.Lib.AtoiAll
namespace Go.Sig
open Go.RowKit
abbrev Prs:=List (ByteArray×ByteArray)
def bA (l:List UInt8):ByteArray:=⟨l.toArray⟩
def fget:Prs→ByteArray→ByteArray×Nat
 | [],_=>(nilB,0)
 |p::l,k=>if p.1=k then(p.2,(fget l k).2+1)else fget l k
def hexV (c:UInt8):Option Nat:=
 if 48≤c.toNat∧c.toNat≤57 then some (c.toNat - 48)else if 65≤c.toNat∧c.toNat≤70 then some (c.toNat - 55)else if 97≤c.toNat∧c.toNat≤102 then some (c.toNat - 87)else none
def unqL:List UInt8→Option (List UInt8)
 | []=>some []
 |c::r=>if c.toNat<33∨126<c.toNat then none
  else if c.toNat=37 then match r with
   |h::l::r'=>match hexV h,hexV l with
    |some a,some b=>(unqL r').map (UInt8.ofNat (16*a+b):: ·)
    |_,_=>none
   |_=>none
  else(unqL r).map ((if c.toNat=43 then 32 else c):: ·)
def cutL (c:UInt8):List UInt8→List UInt8×List UInt8×Bool
 | []=>([],[],false)
 |x::r=>if x=c then([],r,true)else(x::(cutL c r).1,(cutL c r).2.1,(cutL c r).2.2)
def pcs:List UInt8→List UInt8→List (List UInt8)
 | [],cur=>if cur= []then []else [cur]
 |c::r,cur=>if c=38 then(if cur= []then pcs r []else cur::pcs r [])else pcs r (cur++ [c])
def pairF (p:List UInt8):Option (ByteArray×ByteArray):=
 match unqL (cutL 61 p).1,unqL (cutL 61 p).2.1 with
 |some a,some b=>some (bA a,bA b)
 |_,_=>none
def parseGo:List (List UInt8)→Prs→Prs×Int
 | [],acc=>(acc,0)
 |p::ps,acc=>if acc.length=64 then([],2)else match pairF p with
  |none=>([],3)
  |some x=>parseGo ps (acc++ [x])
def parseF (s:ByteArray):Prs×Int:=if 16384<s.size then([],2)else parseGo (pcs s.data.toList []) []
structure GCli where
 id:ByteArray
 secret:ByteArray
 pub:Bool
 reds:List ByteArray
 scopes:List ByteArray
 grants:List ByteArray
def prnB (c:UInt8):Bool:=decide (33≤c.toNat)&&decide (c.toNat≤126)
def printedM (s:ByteArray) (most:Nat):Bool:=s.data.toList.all prnB&&decide (1≤s.size)&&decide (s.size≤most)
def gAuth:ByteArray:=⟨#[97,117,116,104,111,114,105,122,97,116,105,111,110,95,99,111,100,101]⟩
def gCred:ByteArray:=⟨#[99,108,105,101,110,116,95,99,114,101,100,101,110,116,105,97,108,115]⟩
def gRefr:ByteArray:=⟨#[114,101,102,114,101,115,104,95,116,111,107,101,110]⟩
def redsM:List ByteArray→Bool:=fun l=>l.all (fun u=>printedM u 128&& !u.data.toList.contains 35)&&decide l.Nodup
def grantsM (pub:Bool) (l:List ByteArray):Bool:=l.all (fun g=>(decide (g=gAuth) ||decide (g=gCred) ||decide (g=gRefr))&& !(pub&&decide (g=gCred)))&&decide (l.Pairwise fun a b=>bl a b=true)
def cliOk (c:GCli):Bool:=
 printedM c.id 64&&decide (c.reds.length≤4)&&decide (c.scopes.length≤32)&&decide (c.grants.length≤3)&&
 (c.pub==decide (c.secret.size=0))&&(c.pub ||printedM c.secret 128)&&redsM c.reds&&grantsM c.pub c.grants&&decide (setOf c.scopes=c.scopes)&&decide (printLen c.scopes≤128)
def rollOk (l:List GCli):Bool:=l.all cliOk&&decide (l.map (·.id)).Nodup&&decide (l.length≤64)
def cfind (l:List GCli) (id:ByteArray):Option GCli:=l.find? fun c=>decide (c.id=id)
def basS:List UInt8:= [65,66,67,68,69,70,71,72,73,74,75,76,77,78,79,80,81,82,83,84,85,86,87,88,89,90,97,98,99,100,101,102,103,104,105,106,107,108,109,110,111,112,113,114,115,116,117,118,119,120,121,122,48,49,50,51,52,53,54,55,56,57,43,47]
def worthS (S:List UInt8) (c:UInt8):Option Nat:=S.findIdx? (fun x=>x==c)
def unsixS (S:List UInt8):List UInt8→Nat→Nat→List UInt8→Option (List UInt8)
 | [],held,_,out=>if held=0 then some out else none
 |c::cs,held,bits,out=>match worthS S c with
  |none=>none
  |some v=>if 8≤bits+6 then unsixS S cs ((held*64+v)%2^(bits+6 - 8)) (bits+6 - 8) (out++ [UInt8.ofNat ((held*64+v) / 2^(bits+6 - 8))])else unsixS S cs (held*64+v) (bits+6) out
def unsixM (S:List UInt8) (s:List UInt8):Option (List UInt8):=if s.length%4=1 then none else unsixS S s 0 0 []
def stripN (s:List UInt8):Nat:=if s[s.length - 1]? =some 61 then(if s[s.length - 2]? =some 61 then s.length - 2 else s.length - 1)else s.length
def unbasM (s:List UInt8):Option (List UInt8):=if s.length%4≠0 then none else unsixM basS (s.take (stripN s))
def sBasic:List UInt8:= [66,97,115,105,99,32]
def hdrM (h:ByteArray):Option (ByteArray×ByteArray):=
 if h.data.toList.take 6=sBasic then match unbasM (h.data.toList.drop 6)with
  |none=>none
  |some b=>match (cutL 58 b).2.2,unqL (cutL 58 b).1,unqL (cutL 58 b).2.1 with
   |true,some x,some y=>some (bA x,bA y)
   |_,_,_=>none
 else none
def nCid:ByteArray:=⟨#[99,108,105,101,110,116,95,105,100]⟩
def nCsec:ByteArray:=⟨#[99,108,105,101,110,116,95,115,101,99,114,101,116]⟩
def authM (l:List GCli) (h:ByteArray) (form:Prs):ByteArray×Int:=
 if 1<(fget form nCid).2∨1<(fget form nCsec).2∨(h.size≠0∧0<(fget form nCsec).2)then(nilB,1)
 else if h.size≠0 then match hdrM h with
  |none=>(nilB,2)
  |some (x,y)=>match cfind l x with
   |none=>(nilB,2)
   |some c=>if c.pub=true∨c.secret≠y then(nilB,2)else if 0<(fget form nCid).2∧(fget form nCid).1≠x then(nilB,1)else(x,0)
 else match cfind l (fget form nCid).1 with
  |none=>(nilB,2)
  |some c=>if(fget form nCid).2=0∨c.pub≠decide ((fget form nCsec).2=0)∨c.secret≠(fget form nCsec).1 then(nilB,2)else((fget form nCid).1,0)
def mayG (l:List GCli) (id g:ByteArray):Bool:=match cfind l id with
 |none=>false
 |some c=>c.grants.any fun x=>decide (x=g)
def wordsL:List UInt8→List UInt8→List (List UInt8)
 | [],cur=> [cur]
 |c::r,cur=>if c=32 then cur::wordsL r []else wordsL r (cur++ [c])
def scpM (s:ByteArray):Option (List ByteArray):=
 if 16384<s.size then none else if s.size=0 then some []else
  let ws:=(wordsL s.data.toList []).map bA
  if ws.all isWord=true then(if(setOf ws).length≤32 then some (setOf ws)else none)else none
def scopeR (l:List GCli) (id:ByteArray) (asked:List ByteArray):Option (List ByteArray):=match cfind l id with
 |none=>none
 |some c=>if within (setOf asked) c.scopes=false then none else if(setOf asked).length=0 then some c.scopes else some (setOf asked)
structure GTk where
 kind:Int
 family:ByteArray
 serial:Nat
def tkOk (t:GTk):Bool:=decide (1≤t.kind∧t.kind≤3)&&idM t.family&&decide (t.serial≤1099511627776)
def kindB (k:Int):UInt8:=if k=1 then 99 else if k=2 then 97 else 114
def headL (t:GTk):List UInt8:= [kindB t.kind,46]++t.family.data.toList++ [46]++Lib.decDigits t.serial++ [46]
def macKey (k:List UInt8):List UInt8:=(if 64<k.length then sha k else k)++List.replicate (64 - (if 64<k.length then sha k else k).length) 0
def mac (k m:List UInt8):List UInt8:=sha ((macKey k).map (·^^^0x5c)++sha ((macKey k).map (·^^^0x36)++m))
def tagL (secret h:List UInt8):List UInt8:=webM ((mac secret h).take 12)
def makeL (secret:List UInt8) (t:GTk):List UInt8:=headL t++tagL secret (headL t)
def numL (l:List UInt8):Option Nat:=match Lib.atoiAll l with
 | .ok v=>if 0≤v∧v≤1099511627776∧Lib.decDigits v.toNat=l then some v.toNat else none
 |_=>none
def kindL (l:List UInt8):Int:=if l= [99]then 1 else if l= [97]then 2 else if l= [114]then 3 else 0
def peekM (s:List UInt8):Option GTk:=
 let a:=cutL 46 s
 let b:=cutL 46 a.2.1
 let c:=cutL 46 b.2.1
 if a.2.2=true∧b.2.2=true∧c.2.2=true then match numL c.1 with
  |none=>none
  |some n=>if tkOk ⟨kindL a.1,bA b.1,n⟩=true∧c.2.1.length=16∧c.2.1.all signB=true then some ⟨kindL a.1,bA b.1,n⟩else none
 else none
def openM (secret s:List UInt8):Option GTk:=match peekM s with
 |none=>none
 |some t=>if makeL secret t=s then some t else none
structure GReq where
 path:ByteArray
 header:ByteArray
 body:ByteArray
 user:ByteArray
def nRuri:ByteArray:=⟨#[114,101,100,105,114,101,99,116,95,117,114,105]⟩
def nScope:ByteArray:=⟨#[115,99,111,112,101]⟩
def nGrant:ByteArray:=⟨#[103,114,97,110,116,95,116,121,112,101]⟩
def nCode:ByteArray:=⟨#[99,111,100,101]⟩
def nVer:ByteArray:=⟨#[99,111,100,101,95,118,101,114,105,102,105,101,114]⟩
def nRefr:ByteArray:=⟨#[114,101,102,114,101,115,104,95,116,111,107,101,110]⟩
def nTok:ByteArray:=⟨#[116,111,107,101,110]⟩
def nHint:ByteArray:=⟨#[116,111,107,101,110,95,116,121,112,101,95,104,105,110,116]⟩
def pAuthz:ByteArray:=⟨#[47,97,117,116,104,111,114,105,122,101]⟩
def pToken:ByteArray:=⟨#[47,116,111,107,101,110]⟩
def pRevoke:ByteArray:=⟨#[47,114,101,118,111,107,101]⟩
def pIntro:ByteArray:=⟨#[47,105,110,116,114,111,115,112,101,99,116]⟩
def gNone:GCmd:=⟨0,nilB,0,0,nilB,nilB,[],nilB,nilB,nilB,nilB,false,0⟩
def fg (form:Prs) (n:ByteArray):ByteArray:=(fget form n).1
def givenM (l:List GCli) (id:ByteArray) (form:Prs):Option (List ByteArray):=match scpM (fg form nScope)with
 |none=>none
 |some a=>scopeR l id a
def tokenM (l:List GCli) (secret:List UInt8) (family header:ByteArray) (form:Prs):GCmd×Int:=
 if(authM l header form).2≠0 then(gNone,(authM l header form).2)
 else if(fg form nGrant).size=0 then(gNone,1)
 else if fg form nGrant≠gAuth∧fg form nGrant≠gCred∧fg form nGrant≠gRefr then(gNone,5)
 else if mayG l (authM l header form).1 (fg form nGrant)=false then(gNone,4)
 else if fg form nGrant=gAuth then
  if(fg form nCode).size=0 then(gNone,1)else match openM secret (fg form nCode).data.toList with
   |none=>(gNone,3)
   |some t=>if t.kind≠1∨t.serial≠0∨128<(fg form nRuri).size∨128<(fg form nVer).size then(gNone,3)
    else(⟨2,t.family,0,0,(authM l header form).1,nilB,[],fg form nRuri,nilB,nilB,fg form nVer,mayG l (authM l header form).1 gRefr,0⟩,0)
 else if fg form nGrant=gRefr then
  if(fg form nRefr).size=0 then(gNone,1)else match openM secret (fg form nRefr).data.toList with
   |none=>(gNone,3)
   |some t=>if t.kind≠3 then(gNone,3)else match scpM (fg form nScope)with
    |none=>(gNone,6)
    |some s=>if 128<printLen s then(gNone,6)
     else(⟨3,t.family,t.serial,0,(authM l header form).1,nilB,s,nilB,nilB,nilB,nilB,false,0⟩,0)
 else match givenM l (authM l header form).1 form with
  |none=>(gNone,6)
  |some s=>(⟨4,family,0,0,(authM l header form).1,nilB,s,nilB,nilB,nilB,nilB,false,0⟩,0)
def showM (l:List GCli) (secret:List UInt8) (header:ByteArray) (form:Prs) (f:ByteArray→GTk→GCmd):GCmd×Int:=
 if(authM l header form).2≠0 then(gNone,(authM l header form).2)
 else if(fg form nTok).size=0 then(gNone,1)
 else match openM secret (fg form nTok).data.toList with
  |none=>(gNone,0)
  |some t=>(f (authM l header form).1 t,0)
end Go.Sig
