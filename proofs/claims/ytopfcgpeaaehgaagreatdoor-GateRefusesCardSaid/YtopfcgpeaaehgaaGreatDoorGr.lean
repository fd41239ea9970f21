/- What stays true of a book's families whatever is done: plain laws. Conditions: each theorem's own. -/
import Derived.Test.YtopfcgpeaaehgaaGreatDoorSb
namespace Go.Sig
open Go.RowKit
def wordB (c:UInt8):Bool:= !(decide (c.toNat<33) ||decide (c.toNat=34) ||decide (c.toNat=92) ||decide (126<c.toNat))
def isWord (s:ByteArray):Bool:=s.data.toList.all wordB&&decide (1≤s.size)&&decide (s.size≤64)
def RisN (l:List ByteArray):Prop:=l.Pairwise fun a b=>bl a b=true
def insN (s:ByteArray):List ByteArray→List ByteArray
 | []=> [s]
 |x::l=>if bl s x=true then s::x::l else if s=x then x::l else x::insN s l
def setOf (l:List ByteArray):List ByteArray:=l.foldl (fun acc s=>if isWord s then insN s acc else acc) []
theorem mem_insN {s x:ByteArray}:∀{l:List ByteArray},x∈insN s l↔x=s∨x∈l
 | []=>by simp [insN]
 |y::l=>by
  unfold insN;split
  ·simp
  ·split
   ·rename_i e;subst e;simp
   ·rw [List.mem_cons,mem_insN,List.mem_cons];constructor
    ·rintro(h |h |h)
     ·exact .inr (.inl h)
     ·exact .inl h
     ·exact .inr (.inr h)
    ·rintro(h |h |h)
     ·exact .inr (.inl h)
     ·exact .inl h
     ·exact .inr (.inr h)
theorem insN_rising {s:ByteArray}:∀{l:List ByteArray},RisN l→RisN (insN s l)
 | [],_=>by simp [insN,RisN]
 |x::l,h=>by
  have h':=List.pairwise_cons.1 h;unfold insN;split
  ·rename_i e;refine List.pairwise_cons.2 ⟨fun z hz=> ?_,h⟩;rcases List.mem_cons.1 hz with rfl |hz
   ·exact e
   ·exact bl_trans e (h'.1 z hz)
  ·split
   ·exact h
   ·rename_i e1 e2;refine List.pairwise_cons.2 ⟨fun z hz=> ?_,insN_rising h'.2⟩;rcases mem_insN.1 hz with rfl |hz
    ·exact(bl_total e2).resolve_left e1
    ·exact h'.1 z hz
theorem setOf_foldl_mem {x:ByteArray}:∀(l acc:List ByteArray),x∈l.foldl (fun acc s=>if isWord s then insN s acc else acc) acc↔x∈acc∨(x∈l∧isWord x=true)
 | [],acc=>by simp
 |s::l,acc=>by
  rw [List.foldl_cons,setOf_foldl_mem l];by_cases h:isWord s=true
  ·rw [if_pos h,mem_insN,List.mem_cons];constructor
   ·rintro((rfl |h1) | ⟨h1,h2⟩)
    ·exact .inr ⟨.inl rfl,h⟩
    ·exact .inl h1
    ·exact .inr ⟨.inr h1,h2⟩
   ·rintro(h1 | ⟨rfl |h1,h2⟩)
    ·exact .inl (.inr h1)
    ·exact .inl (.inl rfl)
    ·exact .inr ⟨h1,h2⟩
  ·rw [if_neg h,List.mem_cons];constructor
   ·rintro(h1 | ⟨h1,h2⟩)
    ·exact .inl h1
    ·exact .inr ⟨.inr h1,h2⟩
   ·rintro(h1 | ⟨rfl |h1,h2⟩)
    ·exact .inl h1
    ·exact absurd h2 h
    ·exact .inr ⟨h1,h2⟩
theorem mem_setOf {x:ByteArray}{l:List ByteArray}:x∈setOf l↔x∈l∧isWord x=true:=by
 unfold setOf;rw [setOf_foldl_mem];simp
theorem setOf_foldl_rising:∀(l acc:List ByteArray),RisN acc→RisN (l.foldl (fun acc s=>if isWord s then insN s acc else acc) acc)
 | [],acc,h=>h
 |s::l,acc,h=>by
  rw [List.foldl_cons];refine setOf_foldl_rising l _ ?_;split
  ·exact insN_rising h
  ·exact h
theorem setOf_rising (l:List ByteArray):RisN (setOf l):=setOf_foldl_rising l [] List.Pairwise.nil
theorem risN_nodup {l:List ByteArray}(h:RisN l):l.Nodup:=h.imp fun h e=>by
 subst e;rw [bl_irrefl]at h;cases h
theorem setOf_perm {l ks:List ByteArray}(hn:ks.Nodup) (h:∀s,s∈ks↔s∈l∧isWord s=true):ks.Perm (setOf l):=
 (List.perm_ext_iff_of_nodup hn (risN_nodup (setOf_rising l))).2 fun s=>by rw [h,mem_setOf]
def within (a b:List ByteArray):Bool:=a.all fun s=> !isWord s ||b.any fun x=>decide (x=s)
def printLen (l:List ByteArray):Nat:=((setOf l).map fun s=>s.size).sum+((setOf l).length - 1)
def signB (c:UInt8):Bool:=decide (97≤c.toNat∧c.toNat≤122) ||decide (65≤c.toNat∧c.toNat≤90) ||decide (48≤c.toNat∧c.toNat≤57) ||decide (c.toNat=45) ||decide (c.toNat=95)
def idM (s:ByteArray):Bool:=s.data.toList.all signB&&decide (1≤s.size)&&decide (s.size≤32)
def webS:List UInt8:= [65,66,67,68,69,70,71,72,73,74,75,76,77,78,79,80,81,82,83,84,85,86,87,88,89,90,97,98,99,100,101,102,103,104,105,106,107,108,109,110,111,112,113,114,115,116,117,118,119,120,121,122,48,49,50,51,52,53,54,55,56,57,45,95]
def sixByte (held bits:Nat) (x:UInt8):List UInt8×Nat×Nat:=
 let h:=held*256+x.toNat
 if bits=4 then([webS.getD (h / 64) 0,webS.getD (h%64) 0],0,0)else([webS.getD (h / 2^(bits+2)) 0],h%2^(bits+2),bits+2)
def sixGo:List UInt8→Nat→Nat→List UInt8→List UInt8
 | [],held,bits,out=>if bits=0 then out else out++ [webS.getD (held*2^(6 - bits)) 0]
 |x::xs,held,bits,out=>sixGo xs (sixByte held bits x).2.1 (sixByte held bits x).2.2 (out++(sixByte held bits x).1)
def webM (b:List UInt8):List UInt8:=sixGo b 0 0 []
end Go.Sig
namespace Go.Sig
open Go.RowKit
structure GTok where
 kind:Int
 scope:List ByteArray
 used:Bool
structure GFam where
 id:ByteArray
 client:ByteArray
 user:ByteArray
 scope:List ByteArray
 redirect:ByteArray
 challenge:ByteArray
 method:ByteArray
 code:Int
 tokens:List GTok
 revoked:Bool
 leases:List Int
structure GCmd where
 kind:Int
 family:ByteArray
 serial:Int
 token:Int
 client:ByteArray
 user:ByteArray
 scope:List ByteArray
 redirect:ByteArray
 challenge:ByteArray
 method:ByteArray
 verifier:ByteArray
 refresh:Bool
 edge:Int
structure GAns where
 why:Int
 access:Int
 refresh:Int
 scope:List ByteArray
 client:ByteArray
 user:ByteArray
 active:Bool
 wait:Bool
def nilB:ByteArray:=⟨#[]⟩
abbrev GBk:=List (ByteArray×GFam)
end Go.Sig
namespace Go.Sig
open Go.RowKit
end Go.Sig
