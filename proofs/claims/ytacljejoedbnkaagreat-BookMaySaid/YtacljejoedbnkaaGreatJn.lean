/- Which commands may be, field by field: plain laws. Conditions: each theorem's own. -/
import Derived.Test.YtacljejoedbnkaaGreatGr
namespace Go.Sig
open Go.RowKit
theorem nil_size {s:ByteArray}:nilB=s↔s.size=0:=by
 obtain⟨⟨l⟩⟩:=s;constructor
 ·intro h;rw [←h];rfl
 ·intro h;have:l= []:=List.eq_nil_of_length_eq_zero h;subst this;rfl
structure MayR (c:GCmd):Prop where
 lo:1≤c.kind
 hi:c.kind≤7
 id:idM c.family=true
 texts:textsM [c.client,c.user,c.redirect,c.challenge,c.method,c.verifier]=true
 set:setM c.scope=true
 nocl:5<c.kind→c.client.size=0
 client:c.kind≤5→c.client.size≠0
 user:c.kind≠1→c.user.size=0
 chal:c.kind≠1→c.challenge.size=0
 meth:c.kind≠1→c.method.size=0
 redir:2<c.kind→c.redirect.size=0
 ver:c.kind≠2→c.verifier.size=0
 refresh:c.kind≠2→c.refresh=false
 scope:c.kind≠1→c.kind≠3→c.kind≠4→c.scope.length=0
 noserial:c.kind≠3→c.kind≠5→c.kind≠6→c.serial=0
 noedge:c.kind≠6→c.edge=0
 notoken:c.kind≠5→c.kind≠6→c.token=0
 token:c.kind=5∨c.kind=6→1≤c.token∧c.token≤3
 serial:0≤c.serial∧c.serial≤1099511627776
 edge:0≤c.edge∧c.edge<32
 shown:shownM c.challenge c.method=true
theorem rest_kinds {c:GCmd}(lo:1≤c.kind) (hi:c.kind≤7):restEq (restM c) c=true↔
  (5<c.kind→c.client.size=0)∧(c.kind≠1→c.user.size=0)∧(c.kind≠1→c.challenge.size=0)∧(c.kind≠1→c.method.size=0)∧(2<c.kind→c.redirect.size=0)∧(c.kind≠2→c.verifier.size=0)∧(c.kind≠2→c.refresh=false)∧
  (c.kind≠3→c.kind≠5→c.kind≠6→c.serial=0)∧(c.kind≠6→c.edge=0)∧(c.kind≠5→c.kind≠6→c.token=0):=by
 have hk:c.kind=1∨c.kind=2∨c.kind=3∨c.kind=4∨c.kind=5∨c.kind=6∨c.kind=7:=by omega
 unfold restEq restM;have e1:(0=c.serial)=(c.serial=0):=propext eq_comm;have e2:(0=c.token)=(c.token=0):=propext eq_comm;have e3:(0=c.edge)=(c.edge=0):=propext eq_comm;have e4:(false=c.refresh)=(c.refresh=false):=propext eq_comm;rcases hk with h |h |h |h |h |h |h<;>simp only [h]<;>simp (config:={decide:=true}) only [Bool.and_eq_true,decide_eq_true_eq,nil_size,e1,e2,e3,e4,if_true,if_false,false_implies,true_implies,and_true,true_and]<;>constructor<;>rintro⟨⟩<;>simp_all
theorem mayM_iff {c:GCmd}:mayM c=true↔MayR c:=by
 constructor
 ·intro h;have ok:=mayM_ok h;obtain⟨r1,r2,r3,r4,r5,r6,r7,r8,r9,r10⟩:=(rest_kinds ok.lo ok.hi).1 ok.rest;exact⟨ok.lo,ok.hi,ok.id,ok.texts,ok.set,r1,ok.client,r2,r3,r4,r5,r6,r7,fun a b d=>by rw [ok.noscope a b d];rfl,r8,r9,r10,ok.token,ok.serial,ok.edge,ok.shown⟩
 ·intro r;have hr:=(rest_kinds r.lo r.hi).2 ⟨r.nocl,r.user,r.chal,r.meth,r.redir,r.ver,r.refresh,r.noserial,r.noedge,r.notoken⟩;unfold mayM;rw [r.set,r.id,r.texts,hr,r.shown,decide_eq_true (show 1≤c.kind∧c.kind≤7 from⟨r.lo,r.hi⟩),decide_eq_false (show¬c.serial<0 by have:=r.serial;omega),decide_eq_false (show¬1099511627776<c.serial by have:=r.serial;omega),decide_eq_false (show¬c.edge<0 by have:=r.edge;omega),decide_eq_false (show¬32≤c.edge by have:=r.edge;omega)];have h1:(!(decide (c.kind=1) ||decide (c.kind=3) ||decide (c.kind=4))&&decide (0<c.scope.length))=false:=by
   rw [Bool.and_eq_false_iff,Bool.not_eq_false',Bool.or_eq_true,Bool.or_eq_true,decide_eq_true_eq,decide_eq_true_eq,decide_eq_true_eq,decide_eq_false_iff_not];by_cases a:c.kind=1
   ·exact .inl (.inl (.inl a))
   ·by_cases b:c.kind=3
    ·exact .inl (.inl (.inr b))
    ·by_cases d:c.kind=4
     ·exact .inl (.inr d)
     ·right;have:=r.scope a b d;omega
  have h2:(decide (c.kind≤5)&&decide (c.client.size=0))=false:=by
   rw [Bool.and_eq_false_iff,decide_eq_false_iff_not,decide_eq_false_iff_not];by_cases a:c.kind≤5
   ·exact .inr (r.client a)
   ·exact .inl a
  have h3:((decide (c.kind=5) ||decide (c.kind=6))&&(decide (c.token<1) ||decide (3<c.token)))=false:=by
   rw [Bool.and_eq_false_iff,Bool.or_eq_false_iff,Bool.or_eq_false_iff,decide_eq_false_iff_not,decide_eq_false_iff_not,decide_eq_false_iff_not,decide_eq_false_iff_not];by_cases a:c.kind=5∨c.kind=6
   ·right;have:=r.token a;exact⟨by omega,by omega⟩
   ·exact .inl ⟨fun h=>a (.inl h),fun h=>a (.inr h)⟩
  rw [h1,h2,h3];rfl
theorem mayM_no {c:GCmd}(h:¬MayR c):mayM c=false:=by
 rw [←Bool.not_eq_true];exact fun e=>h (mayM_iff.1 e)
end Go.Sig
