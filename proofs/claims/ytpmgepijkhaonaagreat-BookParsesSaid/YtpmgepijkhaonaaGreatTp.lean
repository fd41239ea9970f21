/- Tables of pairs as lists rising by names, and the digests of their parts: plain laws. Conditions: none. -/
import Derived.Test.YtpmgepijkhaonaaGreatSb
namespace Go.Sig
open Go.RowKit
abbrev Pr:=ByteArray×ByteArray
def nib (d:List UInt8) (k:Nat):Nat:=(d.getD (k / 2) 0).toNat / 2^(4 - k%2*4)%16
def pathOf (s:ByteArray):List UInt8:=sha s.data.toList
def be4 (n:Nat):List UInt8:= [UInt8.ofNat (n / 16777216),UInt8.ofNat (n / 65536),UInt8.ofNat (n / 256),UInt8.ofNat n]
def szd (s:ByteArray):List UInt8:=be4 s.size++s.data.toList
def kid (f:Nat) (l:List Pr) (k:Nat):List Pr:=l.filter fun y=>decide (nib (pathOf y.1) (63 - f)=k)
def leaf1 (y:Pr):List UInt8:=sha (0::(szd y.1++y.2.data.toList))
def leafN (l:List Pr):List UInt8:=sha (2::l.flatMap fun y=>szd y.1++szd y.2)
def byLen {α:Sort _}(l:List Pr) (z:α) (o:Pr→α) (r:α):α:=match l with
 | []=>z
 | [y]=>o y
 |_=>r
def dig:Nat→List Pr→List UInt8
 | 0,l=>byLen l (List.replicate 32 0) leaf1 (leafN l)
 |f+1,l=>byLen l (List.replicate 32 0) leaf1 (sha (1::(List.range 16).flatMap fun k=>dig f (kid f l k)))
theorem dig_nil (f:Nat):dig f []=List.replicate 32 0:=by cases f<;>rfl
theorem dig_one (f:Nat) (y:Pr):dig f [y]=leaf1 y:=by cases f<;>rfl
theorem byLen_length (l:List Pr) (r:List UInt8) (h:r.length=32):(byLen l (List.replicate 32 0) leaf1 r).length=32:=by
 unfold byLen;split
 ·rfl
 ·rfl
 ·exact h
theorem dig_length:∀(f:Nat) (l:List Pr),(dig f l).length=32
 | 0,l=>byLen_length l _ rfl
 |_f+1,l=>byLen_length l _ rfl
theorem byLen_two {α:Sort _}{l:List Pr}(h:2≤l.length) (z:α) (o:Pr→α) (r:α):byLen l z o r=r:=by
 match l,h with
 |_::_::_,_=>rfl
def put (x:Pr):List Pr→List Pr
 | []=> [x]
 |y::l=>if x.1=y.1 then x::l else if bl x.1 y.1 then x::y::l else y::put x l
def del (k:ByteArray) (l:List Pr):List Pr:=l.filter fun y=> !decide (y.1=k)
def Rising (l:List Pr):Prop:=l.Pairwise fun a b=>bl a.1 b.1=true
theorem put_lt {x:Pr}:∀{l:List Pr},(∀z∈l,bl x.1 z.1=true)→put x l=x::l
 | [],_=>rfl
 |y::l,h=>by
  have h1:=h y List.mem_cons_self;have h2:x.1≠y.1:=fun e=>by rw [e,bl_irrefl]at h1;cases h1
  simp [put,h1,h2]
theorem mem_put {x z:Pr}:∀{l:List Pr},z∈put x l→z=x∨z∈l
 | [],h=>by simp [put]at h;exact .inl h
 |y::l,h=>by
  unfold put at h;split at h
  ·rcases List.mem_cons.1 h with h |h
   ·exact .inl h
   ·exact .inr (List.mem_cons_of_mem _ h)
  ·split at h
   ·rcases List.mem_cons.1 h with h |h
    ·exact .inl h
    ·exact .inr h
   ·rcases List.mem_cons.1 h with h |h
    ·exact .inr (h▸List.mem_cons_self)
    ·exact(mem_put h).imp id (List.mem_cons_of_mem _)
theorem put_rising {x:Pr}:∀{l:List Pr},Rising l→Rising (put x l)
 | [],_=>by simp [put,Rising]
 |y::l,h=>by
  have h':=List.pairwise_cons.1 h;unfold put;split
  ·rename_i e;exact List.pairwise_cons.2 ⟨fun z hz=>by rw [e];exact h'.1 z hz,h'.2⟩
  ·split
   ·rename_i e1 e2;exact List.pairwise_cons.2 ⟨fun z hz=>by
     rcases List.mem_cons.1 hz with hz |hz
     ·rw [hz];exact e2
     ·exact bl_trans e2 (h'.1 z hz),h⟩
   ·rename_i e1 e2;refine List.pairwise_cons.2 ⟨fun z hz=> ?_,put_rising h'.2⟩;rcases mem_put hz with hz |hz
    ·rw [hz];exact(bl_total e1).resolve_left e2
    ·exact h'.1 z hz
theorem del_rising {k:ByteArray}{l:List Pr}(h:Rising l):Rising (del k l):=h.filter _
theorem kid_rising {f k:Nat}{l:List Pr}(h:Rising l):Rising (kid f l k):=h.filter _
theorem put_filter {x:Pr}{q:Pr→Bool}(hq:∀a b:Pr,a.1=b.1→q a=q b):∀{l:List Pr},Rising l→(put x l).filter q=if q x then put x (l.filter q)else l.filter q
 | [],_=>by cases h:q x<;>simp [put,h]
 |y::l,hr=>by
  have h':=List.pairwise_cons.1 hr;by_cases e1:x.1=y.1
  ·have hxy:=hq x y e1;have e2:put x (y::l)=x::l:=by simp [put,e1]
   rw [e2];cases h:q x with
   |true=>rw [h]at hxy;simp [h,←hxy,put,e1]
   |false=>rw [h]at hxy;simp [h,←hxy]
  ·by_cases e2:bl x.1 y.1=true
   ·have e3:put x (y::l)=x::y::l:=by simp [put,e1,e2]
    rw [e3];cases h:q x with
    |true=>
     simp only [List.filter_cons,h,if_true];rw [←List.filter_cons,put_lt];intro z hz;rcases List.mem_cons.1 (List.mem_filter.1 hz).1 with hz |hz
     ·rw [hz];exact e2
     ·exact bl_trans e2 (h'.1 z hz)
    |false=>simp [h]
   ·have e3:put x (y::l)=y::put x l:=by simp [put,e1,e2]
    rw [e3,List.filter_cons,put_filter hq h'.2,List.filter_cons];cases hy:q y<;>cases h:q x<;>simp [put,e1,e2]
theorem del_filter {k:ByteArray}{q:Pr→Bool}(l:List Pr):(del k l).filter q=del k (l.filter q):=by
 unfold del;rw [List.filter_filter,List.filter_filter];congr 1;funext a;exact Bool.and_comm _ _
theorem kid_put {f k:Nat}{x:Pr}{l:List Pr}(h:Rising l):kid f (put x l) k=if nib (pathOf x.1) (63 - f)=k then put x (kid f l k)else kid f l k:=by
 unfold kid;rw [put_filter (fun a b e=>by rw [e]) h];simp
theorem kid_del {f k:Nat}{s:ByteArray}{l:List Pr}:kid f (del s l) k=if nib (pathOf s) (63 - f)=k then del s (kid f l k)else kid f l k:=by
 unfold kid;rw [del_filter];split
 ·rfl
 ·rename_i h;unfold del;rw [List.filter_eq_self];intro a ha;have:=(List.mem_filter.1 ha).2;simp only [decide_eq_true_eq]at this;simp only [Bool.not_eq_true',decide_eq_false_iff_not];rintro rfl;exact h this
theorem nib_lt (d:List UInt8) (k:Nat):nib d k<16:=Nat.mod_lt _ (by decide)
theorem kid_sum (f:Nat) (l:List Pr):∀n,((List.range n).map fun k=>(kid f l k).length).sum=(l.filter fun y=>decide (nib (pathOf y.1) (63 - f)<n)).length
 | 0=>by rw [List.filter_eq_nil_iff.2 (by intro a _;simp)];rfl
 |n+1=>by
  rw [List.range_succ,List.map_append,List.sum_append,kid_sum f l n];simp only [List.map_cons,List.map_nil,List.sum_cons,List.sum_nil,Nat.add_zero];unfold kid;induction l with
  |nil=>rfl
  |cons y l ih=>
   simp only [List.filter_cons];by_cases h1:nib (pathOf y.1) (63 - f)<n
   ·have h2:¬nib (pathOf y.1) (63 - f)=n:=by omega
    have h3:nib (pathOf y.1) (63 - f)<n+1:=by omega
    simp only [h1,h2,h3,decide_true,decide_false,if_true,List.length_cons,Bool.false_eq_true,if_false];omega
   ·by_cases h2:nib (pathOf y.1) (63 - f)=n
    ·have h3:nib (pathOf y.1) (63 - f)<n+1:=by omega
     simp only [h2,decide_true,decide_false,if_true,List.length_cons,Bool.false_eq_true,if_false,Nat.lt_irrefl,Nat.lt_succ_self];omega
    ·have h3:¬nib (pathOf y.1) (63 - f)<n+1:=by omega
     simp only [h1,h2,h3,decide_false,Bool.false_eq_true,if_false];exact ih
theorem kid_sum16 (f:Nat) (l:List Pr):((List.range 16).map fun k=>(kid f l k).length).sum=l.length:=by
 rw [kid_sum,List.filter_eq_self.2];intro a _;simpa using nib_lt _ _
theorem kid_length_le (f:Nat) (l:List Pr) (k:Nat):(kid f l k).length≤l.length:=List.length_filter_le _ _
theorem aget_kid {f:Nat}{s:ByteArray}{l:List Pr}:aget s (kid f l (nib (pathOf s) (63 - f)))=aget s l:=by
 unfold kid;induction l with
 |nil=>rfl
 |cons y l ih=>
  obtain⟨a,v⟩:=y;by_cases h:a=s
  ·subst h;simp [aget]
  ·rw [List.filter_cons];split
   ·simp [aget,h,ih]
   ·simp [aget,h,ih]
theorem put_length_le (x:Pr):∀l:List Pr,(put x l).length≤l.length+1
 | []=>by simp [put]
 |y::l=>by
  have:=put_length_le x l;unfold put;split
  ·simp
  ·split
   ·simp
   ·simp;omega
theorem rising_nodup {l:List Pr}(h:Rising l):(l.map (·.1)).Nodup:=by
 rw [List.nodup_iff_pairwise_ne,List.pairwise_map];refine h.imp fun{a b} hab e=> ?_;rw [e,bl_irrefl]at hab;cases hab
theorem put_length {x:Pr}:∀{l:List Pr},Rising l→(put x l).length=if(aget x.1 l).isSome then l.length else l.length+1
 | [],_=>rfl
 | (a,v)::l,h=>by
  have h':=List.pairwise_cons.1 h;by_cases e1:x.1=a
  ·simp [put,e1,aget]
  ·by_cases e2:bl x.1 a=true
   ·have hno:aget x.1 l=none:=by
     rw [aget_none_iff];intro hm;obtain⟨z,hz,hzx⟩:=List.mem_map.1 hm;have:=bl_trans e2 (h'.1 z hz);rw [hzx,bl_irrefl]at this;cases this
    simp [put,e1,e2,aget,Ne.symm e1,hno]
   ·have e3:put x ((a,v)::l)=(a,v)::put x l:=by simp [put,e1,e2]
    have e4:aget x.1 ((a,v)::l)=aget x.1 l:=by simp [aget,Ne.symm e1]
    rw [e3,e4,List.length_cons,put_length h'.2,List.length_cons];split<;>rfl
theorem aget_put_same {x:Pr}:∀{l:List Pr},aget x.1 (put x l)=some x.2
 | []=>by simp [put,aget]
 | (a,v)::l=>by
  by_cases e1:x.1=a
  ·simp [put,e1,aget]
  ·by_cases e2:bl x.1 a=true
   ·simp [put,e1,e2,aget]
   ·simp [put,e1,e2,aget,Ne.symm e1,aget_put_same (l:=l)]
theorem aget_put_other {x:Pr}{s:ByteArray}(hs:s≠x.1):∀{l:List Pr},aget s (put x l)=aget s l
 | []=>by simp [put,aget,Ne.symm hs]
 | (a,v)::l=>by
  by_cases e1:x.1=a
  ·subst e1;simp [put,aget,Ne.symm hs]
  ·by_cases e2:bl x.1 a=true
   ·simp [put,e1,e2,aget,Ne.symm hs]
   ·simp [put,e1,e2,aget,aget_put_other hs (l:=l)]
theorem aget_del_same {s:ByteArray}(l:List Pr):aget s (del s l)=none:=by
 rw [aget_none_iff];intro hm;obtain⟨z,hz,hzx⟩:=List.mem_map.1 hm;have:=(List.mem_filter.1 hz).2;simp [hzx]at this
theorem aget_del_other {s k:ByteArray}(h:s≠k) (l:List Pr):aget s (del k l)=aget s l:=by
 unfold del;induction l with
 |nil=>rfl
 |cons y l ih=>
  obtain⟨a,v⟩:=y;by_cases h1:a=k
  ·subst h1;simp [aget,ih,Ne.symm h]
  ·simp [h1,aget,ih]
theorem rising_ext {l m:List Pr}(hl:Rising l) (hm:Rising m) (hp:l.Perm m):l=m:=by
 refine List.Perm.eq_of_pairwise (le:=fun(a b:Pr)=>bl a.1 b.1=true) ?_ hl hm hp;intro a b _ _ h1 h2;have:=bl_trans h1 h2;rw [bl_irrefl]at this;cases this
theorem put_perm {x:Pr}:∀{l:List Pr},Rising l→(put x l).Perm (del x.1 l++ [x])
 | [],_=>by simp [put,del]
 |y::l,h=>by
  have h':=List.pairwise_cons.1 h;by_cases e1:x.1=y.1
  ·have e2:put x (y::l)=x::l:=by simp [put,e1]
   have e3:del x.1 (y::l)=l:=by unfold del;rw [List.filter_cons,if_neg (by simp [e1]),List.filter_eq_self];intro z hz;have:=h'.1 z hz;simp only [Bool.not_eq_true',decide_eq_false_iff_not];intro e;rw [e,e1,bl_irrefl]at this;cases this
   rw [e2,e3];exact(List.perm_append_singleton x l).symm
  ·have e3:del x.1 (y::l)=y::del x.1 l:=by
    unfold del;rw [List.filter_cons,if_pos (by simpa using Ne.symm e1)]
   rw [e3];by_cases e2:bl x.1 y.1=true
   ·have e4:put x (y::l)=x::y::l:=by simp [put,e1,e2]
    have e5:del x.1 l=l:=by unfold del;rw [List.filter_eq_self];intro z hz;have:=bl_trans e2 (h'.1 z hz);simp only [Bool.not_eq_true',decide_eq_false_iff_not];intro e;rw [e,bl_irrefl]at this;cases this
    rw [e4,e5];exact(List.perm_append_singleton x (y::l)).symm
   ·have e4:put x (y::l)=y::put x l:=by simp [put,e1,e2]
    rw [e4];exact(put_perm h'.2).cons y
end Go.Sig
namespace Go.Sig
open Go.RowKit
end Go.Sig
