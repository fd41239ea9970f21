/- Walks of the library's functions at pairs: comparing, finding, striking, copying. Conditions: each theorem's own. -/
import Derived.Test.YtpmgepijkhaonaaGreatSg
import Derived.Test.YtpmgepijkhaonaaGreatTp
import Derived.Deep.MidRow
import Derived.Laws.IdiomStrings
import Derived.Deep.RegionHeldLaw
import Derived.Lib.Bytealg
import Derived.Lib.Walk
import Derived.Lib.Strings
import Derived.Lib.Slices
import Derived.Sort.Statements
import Derived.Shelf.Abstract
namespace Go.Proofs.YtpmgepijkhaonaaGreat.T
open Go.RowKit Go.Sig
def pairCells (l:List Pr):List Value:=l.flatMap fun y=> [.string y.1,.string y.2]
def nodeCells (D:List UInt8) (s k:Value) (n:Nat):Array Value:=(D.map bv++ [s,k,.int .i64 n]).toArray
def nilP:Value:= .pointer none
def LeafAt (w:World) (X:List Nat) (D:List UInt8) (l:List Pr) (p:Value):Prop:=
 ∃g A c,p= .pointer (some ⟨g,0,none⟩)∧g∉X∧Blk w g 230 (nodeCells D (.slice A l.length c) nilP l.length)∧Rd w 2 A l.length (pairCells l)∧l.length≤c∧(0<l.length→Off X A)
def BranchAt (w:World) (X:List Nat) (D:List UInt8) (n:Nat) (ps:List Value) (p:Value):Prop:=
 ∃g k,p= .pointer (some ⟨g,0,none⟩)∧g∉X∧k∉X∧Blk w g 230 (nodeCells D (.slice none 0 0) (.pointer (some ⟨k,0,none⟩)) n)∧Blk w k 232 ps.toArray∧ps.length=16
def NodeAt (w:World) (X:List Nat):Nat→List Pr→Value→Prop
 | 0,l,p=>byLen l (p=nilP) (fun y=>LeafAt w X (leaf1 y) [y] p) (LeafAt w X (leafN l) l p)
 |f+1,l,p=>byLen l (p=nilP) (fun y=>LeafAt w X (leaf1 y) [y] p) (∃ps,BranchAt w X (dig (f+1) l) l.length ps p∧∀i,i<16→NodeAt w X f (kid f l i) (ps.getD i undef))
theorem node_nil {w:World}{X:List Nat}{f:Nat}{p:Value}:NodeAt w X f [] p↔p=nilP:=by cases f<;>exact Iff.rfl
theorem node_one {w:World}{X:List Nat}{f:Nat}{y:Pr}{p:Value}:NodeAt w X f [y] p↔LeafAt w X (leaf1 y) [y] p:=by cases f<;>exact Iff.rfl
theorem node_leaf {w:World}{X:List Nat}{l:List Pr}{p:Value}(h:2≤l.length):NodeAt w X 0 l p↔LeafAt w X (leafN l) l p:=by
 unfold NodeAt;rw [byLen_two h]
theorem node_branch {w:World}{X:List Nat}{f:Nat}{l:List Pr}{p:Value}(h:2≤l.length):
  NodeAt w X (f+1) l p↔∃ps,BranchAt w X (dig (f+1) l) l.length ps p∧∀i,i<16→NodeAt w X f (kid f l i) (ps.getD i undef):=by
 show byLen l _ _ _↔_;rw [byLen_two h]
structure Apart (w w':World) (X Y S:List Nat):Prop where
 fr:Fr S w w'
 writes:∀s,s∈S→s∈X∨w.heap.size≤s
 grows:∀y,y∈Y→y∈X∨w.heap.size≤y
section
variable {w w':World}{X Y S:List Nat}
theorem Apart.not (h:Apart w w' X Y S) {g:Nat}(hg:g∉X) (hl:g<w.heap.size):g∉S∧g∉Y:=
 ⟨fun hs=>(h.writes g hs).elim hg (by omega),fun hs=>(h.grows g hs).elim hg (by omega)⟩
theorem LeafAt.go (h:Apart w w' X Y S) {D:List UInt8}{l:List Pr}{p:Value}(hL:LeafAt w X D l p):LeafAt w' Y D l p:=by
 obtain⟨g,A,c,rfl,hg,hB,hR,hc,hA⟩:=hL;have h1:=h.not hg hB.lt;have hoff:0<l.length→Off S A∧Off Y A:=fun h0=>⟨fun ad e=>(h.not (hA h0 ad e) (Rd.lt hR (by decide) h0 ad e)).1,fun ad e=>(h.not (hA h0 ad e) (Rd.lt hR (by decide) h0 ad e)).2⟩
 exact⟨g,A,c,rfl,h1.2,hB.fr h.fr h1.1,Rd.fr hR h.fr fun h0=>(hoff h0).1,hc,fun h0=>(hoff h0).2⟩
theorem NodeAt.go (h:Apart w w' X Y S):∀{f:Nat}{l:List Pr}{p:Value},NodeAt w X f l p→NodeAt w' Y f l p
 |f,[],p,hN=>by rw [node_nil]at hN⊢;exact hN
 |f,[y],p,hN=>by rw [node_one]at hN⊢;exact hN.go h
 | 0,y::z::l,p,hN=>by rw [node_leaf (by simp)]at hN⊢;exact hN.go h
 |f+1,y::z::l,p,hN=>by rw [node_branch (by simp)]at hN⊢;obtain⟨ps,⟨g,k,rfl,hg,hk,hB,hK,hl⟩,hkids⟩:=hN;have h1:=h.not hg hB.lt;have h2:=h.not hk hK.lt;exact⟨ps,⟨g,k,rfl,h1.2,h2.2,hB.fr h.fr h1.1,hK.fr h.fr h2.1,hl⟩,fun i hi=>(hkids i hi).go h⟩
theorem NodeAt.fr {f:Nat}{l:List Pr}{p:Value}(hN:NodeAt w X f l p) (hf:Fr S w w') (hS:∀s,s∈S→s∈X∨w.heap.size≤s):NodeAt w' X f l p:=hN.go ⟨hf,hS,fun _y hy=> .inl hy⟩
theorem NodeAt.fr0 {f:Nat}{l:List Pr}{p:Value}(hN:NodeAt w X f l p) (hf:Fr [] w w'):NodeAt w' X f l p:=hN.fr hf (by simp)
end
theorem nodeCells_size {D:List UInt8}{s k:Value}{n:Nat}(h:D.length=32):(nodeCells D s k n).size=35:=by simp [nodeCells,h]
theorem nodeCells_dig {D:List UInt8}{s k:Value}{n:Nat}:Sub (nodeCells D s k n) 0 (D.map bv):=by
 intro j v hv;have hj:=(List.getElem?_eq_some_iff.1 hv).1;rw [Nat.zero_add];simp only [nodeCells,zG];rw [List.getElem?_append_left hj];exact hv
theorem nodeCells_at {D:List UInt8}{s k:Value}{n:Nat}(h:D.length=32):(nodeCells D s k n)[32]? =some s∧(nodeCells D s k n)[33]? =some k∧(nodeCells D s k n)[34]? =some (.int .i64 n):=by
 have hm:(D.map bv).length=32:=by rw [List.length_map,h]
 refine⟨?_,?_,?_⟩<;>simp only [nodeCells,zG]<;>rw [List.getElem?_append_right (by omega),hm]<;>rfl
theorem sha_len (l:List UInt8):(sha l).length=32:=rfl
set_option maxRecDepth 100000 in
theorem nib_eq (b:UInt8) (k:Nat):bits .and .i64 (wrap64 ((b.toNat:Int) / 2^(4 - k%2*4))) 15=((b.toNat / 2^(4 - k%2*4)%16:Nat):Int):=by
 have hm:k%2=0∨k%2=1:=by omega
 have hb:=b.toNat_lt;have key:∀n:Nat,n<256→bits .and .i64 (wrap64 (n:Int)) 15=((n%16:Nat):Int):=by decide+kernel
 rcases hm with h |h<;>rw [h]
 ·have:=key (b.toNat / 16) (by omega);simpa using this
 ·have:=key b.toNat (by omega);simpa using this
set_option maxRecDepth 100000 in
theorem at_t (w:World) (d:List UInt8) (k:Nat) (hd:d.length=32) (hk:k<64):
  Calls Tryz.prog 164 #[.agg (digCells d),.int .i64 k] w fun e w'=>e= .returned (.int .i64 (nib d k))∧Fr [] w w':=by
 have hsz:=digCells_size hd;go_enter Tryz.func164,Tryz.ntmps164;go_upto_region 1 with(fail)
 refine wp_gen (fun W=>Blk W w.heap.size 192 (digCells d)∧Fr [] w W) ⟨Blk.new _ _ _,(Fr.refl _ _).alloc _⟩ ?_;rintro W ⟨hB,fW⟩;have hc:W.cell? ⟨w.heap.size,k / 2,none⟩=some (.int .u8 ((d.getD (k / 2) 0).toNat:Int)):=by rw [hB.cell];unfold digCells;rw [zG,List.getElem?_map,List.getElem?_eq_getElem (show k / 2<d.length by omega)];simp [List.getD,List.getElem?_eq_getElem (show k / 2<d.length by omega),bv]
 have e1:((k:Int) / 2).toNat=k / 2:=by omega
 have e2:(k:Int).tdiv 2=(k:Int) / 2:=Int.tdiv_eq_ediv_of_nonneg (by omega);have e3:(k:Int).tmod 2=(k:Int)%2:=Int.tmod_eq_emod_of_nonneg (by omega);have b1:(k:Int) / 2<32:=by omega
 have b0:0≤(k:Int) / 2:=by omega
 have p0:(0:Int)≤4 - (k:Int)%2*4:=by omega
 have p1:(4 - (k:Int)%2*4).toNat=4 - k%2*4:=by omega
 have hn:=zh (nib_eq (d.getD (k / 2) 0) k);go_wp2;go_ret;exact⟨ret_int hn.o,fW⟩
theorem nsum_t (w:World) (X:List Nat) (f:Nat) (l:List Pr) (p:Value) (hN:NodeAt w X f l p):
  Calls Tryz.prog 139 #[p] w fun e w'=>e= .returned (.agg (digCells (dig f l)))∧Fr [] w w':=by
 have hlen:=dig_length f l;have hcase:p=nilP∧l= []∨∃g s k n,p= .pointer (some ⟨g,0,none⟩)∧Blk w g 230 (nodeCells (dig f l) s k n):=by
  match f,l,hN with
  |f,[],hN=>exact .inl ⟨node_nil.1 hN,rfl⟩
  |f,[y],hN=>obtain⟨g,A,c,hp,_,hB,_⟩:=node_one.1 hN;exact .inr ⟨g,_,_,_,hp,by rw [dig_one];exact hB⟩
  | 0,y::z::l,hN=>obtain⟨g,A,c,hp,_,hB,_⟩:=(node_leaf (by simp)).1 hN;exact .inr ⟨g,_,_,_,hp,hB⟩
  |f+1,y::z::l,hN=>obtain⟨ps,⟨g,k,hp,_,_,hB,_⟩,_⟩:=(node_branch (by simp)).1 hN;exact .inr ⟨g,_,_,_,hp,hB⟩
 clear hN;rcases hcase with⟨rfl,rfl⟩ | ⟨g,s,k,n,rfl,hB⟩
 ·unfold nilP;rw [dig_nil]at hlen⊢;obtain⟨D,HDD⟩:∃x,Hid (List.replicate 32 (0:UInt8)=x):=⟨_,zh rfl⟩
  rw [HDD.o]at hlen⊢;go_enter Tryz.func139,Tryz.ntmps139;go_upto_region 1 with(fail)
  refine wp_gen (fun W=>(∃zs,Blk W w.heap.size 74 zs∧zs.size=32)∧Fr [] w W) ⟨⟨_,Blk.new _ _ _,rfl⟩,(Fr.refl _ _).alloc _⟩ ?_;rintro W ⟨⟨zs,hD,hz⟩,fW⟩;obtain⟨gd,HGD⟩:∃x,Hid (w.heap.size=x):=⟨_,zh rfl⟩
  rw [HGD.o]at hD⊢;go_wp2_with (first
   | (refine wpList_build_k rfl 74 _ rfl (cells:=digCells (List.replicate 32 0)) ?_ ?_;(focus kernel_rfl);rw [HDD.o])
   |refine wpList_store_row rfl 74 _ _ rfl gd (digCells D) rfl rfl 74 zs hD (infoDigA hlen) (by rw [hz,digCells_size hlen]) (digCells_one D) ?_)
  exact bodyPost_ret (v:= .agg (digCells D)) (results_cell_row rfl _ _ gd 74 (digCells D) (0,0) _ rfl (Blk.setRow hD _) uDig rfl (infoDigA hlen)) rfl ⟨rfl,fW.setRow (.inr (by have:=HGD.o;omega)) _⟩
 ·obtain⟨D,HDD⟩:∃x,Hid (dig f l=x):=⟨_,zh rfl⟩
  rw [HDD.o]at hlen hB⊢;go_enter Tryz.func139,Tryz.ntmps139;go_upto_region 1 with(fail)
  refine wp_gen (fun W=>(∃zs,Blk W w.heap.size 74 zs∧zs.size=32)∧Fr [] w W) ⟨⟨_,Blk.new _ _ _,rfl⟩,(Fr.refl _ _).alloc _⟩ ?_;rintro W ⟨⟨zs,hD,hz⟩,fW⟩;have hBW:=hB.fr fW (by simp);obtain⟨gd,HGD⟩:∃x,Hid (w.heap.size=x):=⟨_,zh rfl⟩
  rw [HGD.o]at hD⊢;go_wp2_with (first
   |refine wpList_load_at rfl 74 _ rfl rfl hBW nodeCells_dig uDig rfl (infoDigL hlen) ?_
   |refine wpList_store_row rfl 74 _ _ rfl gd (digCells D) rfl rfl 74 zs hD (infoDigA hlen) (by rw [hz,digCells_size hlen]) (digCells_one D) ?_)
  exact bodyPost_ret (v:= .agg (digCells D)) (results_cell_row rfl _ _ gd 74 (digCells D) (0,0) _ rfl (Blk.setRow hD _) uDig rfl (infoDigA hlen)) rfl ⟨rfl,fW.setRow (.inr (by have:=HGD.o;omega)) _⟩
theorem run_append_str {P:Program}{w:World}{t u ty e:TypeId}{i:TypeInfo}{z:Value}(ht:P.underlying t=some (.slice e)) (hu:P.underlying u=some .string) (hi:P.info? e=some i) (hz:i.zero=some z)
  (h1:i.size=1) (_hzs:z.cells.size=1) (hb:i.bytes=1) {g n:Nat}{cur:Array Value}(hB:Blk w g e cur) (hn:cur.size=n) (s:ByteArray) (hmax:n+s.size≤1000000000):
  ∃A c w',(Builtin.append_ #[t,u] ty #[.slice (some ⟨g,0,none⟩) n n,.string s]).run P w= .ok (.slice A (n+s.size) c) w'∧Rd w' 1 A (n+s.size) (cur.toList++s.data.toList.map bv)∧n+s.size≤c∧
   (∀ad,A=some ad→ad.block=g∨w.heap.size≤ad.block)∧Fr [] w w':=by
 have hcells:∀j v,cur.toList[j]? =some v→w.cell? ((⟨g,0,none⟩:Addr).add j)=some v:=fun j v hv=>by rw [Addr.add_lit,Nat.zero_add,hB.cell,←Array.getElem?_toList];exact hv
 have hds:s.data.toList.length=s.size:=by rw [Array.length_toList];rfl
 by_cases h0:s.size=0
 ·have hd:s.data.toList= []:=List.eq_nil_of_length_eq_zero (by rw [hds,h0]);refine⟨some ⟨g,0,none⟩,n,w,?_,?_,by omega,fun ad e=>by cases e;exact .inl rfl,Fr.refl _ _⟩
  ·have hx:s.data.extract 0 0=#[]:=by simp
   simp [Builtin.append_,run_underlying ht,run_underlying hu,sizeOf,typeInfo,hi,Builtin.lenOf,Builtin.firstCells,h0,storeCells]
  ·rw [hd,h0];refine⟨by simp [hn],fun _=>⟨g,0,rfl,fun j v hv=> ?_⟩⟩;rw [Nat.zero_add,hB.cell,←Array.getElem?_toList];simpa using hv
 ·have hn':¬(n+s.size≤n):=by omega
  have h63':¬(9223372036854775807<((n:Int)+(s.size:Int))):=by omega
  have hfit:=growslice_fits (need:=n+s.size) (old:=n) (bytes:=1) (by omega) (by omega);have h48':¬(281474976710656<Builtin.nextslicecap (n+s.size) n*i.bytes):=by rw [hb];omega
  have hld:=run_loadCells_list (P:=P) w.drew ⟨g,0,none⟩ cur.toList (by simpa using hcells);rw [show cur.toList.length=n*i.size by simp [h1,hn]]at hld;have hx:(Array.map (fun b:UInt8=>Value.int IntKind.u8 (b.toNat:Int)) s.data).extract 0 s.size=Array.map (fun b:UInt8=>Value.int IntKind.u8 (b.toNat:Int)) s.data:=by
   have hs:s.size=(Array.map (fun b:UInt8=>Value.int IntKind.u8 (b.toNat:Int)) s.data).size:=by rw [Array.size_map];rfl
   rw [hs,Array.extract_size]
  refine⟨some ⟨w.heap.size,0,none⟩,grownCap w (n+s.size) n e,w.drew.alloc (.cells (cur++s.data.map bv++Builtin.zeroCells z.cells (grownCap w (n+s.size) n e - (n+s.size))) e),?_,?_,grownCap_ge _ _ _ _,fun ad e=>by cases e;exact .inr (Nat.le_refl _),((Fr.refl _ _).drew).alloc _⟩
  ·simp [Builtin.append_,run_underlying ht,run_underlying hu,sizeOf,typeInfo,zeroValue,hi,hz,Builtin.lenOf,hn',h63',h48',Question.forced,hld,newRow,grownCap,Builtin.firstCells];rw [hx];rfl
  ·refine⟨by simp [hn,hds],fun _=>⟨w.heap.size,0,rfl,fun j v hv=> ?_⟩⟩;rw [Nat.zero_add];refine((Blk.new w.drew e _).cell j).trans ?_;rw [←Array.getElem?_toList];have hj:=(List.getElem?_eq_some_iff.1 hv).1;simp only [Array.toList_append,Array.toList_map];rw [List.getElem?_append_left hj];exact hv
theorem wpList_append_str {P:Program}{w:World}{ops:Array Oper}{rest:List Oper}{op:Oper}{a:Act}{Q:Exit→Act→World→Prop}{t u e:TypeId}{i:TypeInfo}{z:Value}(ht:P.underlying t=some (.slice e)) (hu:P.underlying u=some .string) (hi:P.info? e=some i) (hz:i.zero=some z)
  (h1:i.size=1) (hzs:z.cells.size=1) (hb:i.bytes=1) {g n:Nat}{cur:Array Value}(hB:Blk w g e cur) (hn:cur.size=n) (str:ByteArray) (hmax:n+str.size≤1000000000)
  (hgd:op.guard=none) {s x:Operand}(ho:op.op= .call {callee:= .builtin .append,args:=#[s,x],argTypes:=#[t,u]}) (hs:a.eval s= .slice (some ⟨g,0,none⟩) n n) (hx:a.eval x= .string str)
  (hK:∀A c w',Rd w' 1 A (n+str.size) (cur.toList++str.data.toList.map bv)→n+str.size≤c→(∀ad,A=some ad→ad.block=g∨w.heap.size≤ad.block)→Fr [] w w'→wpList P ops Q rest (a.put op.dst (.slice A (n+str.size) c)) w'):wpList P ops Q (op::rest) a w:=by
 refine wpList_plain hgd fun K' hK'=> ?_;obtain⟨A,c,w',hrun,r1,r2,r3,r4⟩:=run_append_str (P:=P) (ty:=op.type) ht hu hi hz h1 hzs hb hB hn str hmax;unfold Oper.wp;simp [execOp,ho,resolve,invoke,builtin,hs,hx,hrun,Result.andThen];exact hK' _ _ (hK A c w' r1 r2 r3 r4)
theorem infoU8:(Tryz.prog.info? 5).map (fun i=>(i.zero,i.size,i.bytes))=some (some (.int .u8 0),1,1):=by kernel_rfl
theorem tStr:Tryz.prog.underlying 9=some .string:=by kernel_rfl
theorem be4_cells (n:Nat) (h:n≤1000000):(be4 n).map bv= [.int .u8 ((n:Int) / 16777216),.int .u8 ((n:Int) / 65536),.int .u8 ((n:Int) / 256%256),.int .u8 ((n:Int)%256)]:=by
 simp only [be4,List.map_cons,List.map_nil,bv,UInt8.toNat_ofNat'];have e1:((n / 16777216%2^8:Nat):Int)=(n:Int) / 16777216:=by omega
 have e2:((n / 65536%2^8:Nat):Int)=(n:Int) / 65536:=by omega
 have e3:((n / 256%2^8:Nat):Int)=(n:Int) / 256%256:=by omega
 have e4:((n%2^8:Nat):Int)=(n:Int)%256:=by omega
 rw [e1,e2,e3,e4]
set_option maxRecDepth 100000 in
theorem sized_t (w:World) (s:ByteArray) (hs:s.size≤1000000):
  Calls Tryz.prog 208 #[.string s] w fun e w'=>∃A c,e= .returned (.slice A (4+s.size) c)∧Byts w' A (4+s.size) (szd s)∧4+s.size≤c∧(∀ad,A=some ad→w.heap.size≤ad.block)∧Fr [] w w':=by
 obtain⟨i,hi,hz,h1,hb⟩:=info_parts infoU8;have hbc:=zh (be4_cells s.size hs);go_enter Tryz.func208,Tryz.ntmps208;have hB:=Blk.new w 5 #[.int .u8 ((s.size:Int) / 16777216),.int .u8 ((s.size:Int) / 65536),.int .u8 ((s.size:Int) / 256%256),.int .u8 ((s.size:Int)%256)];go_wp2_with (refine wpList_append_str tBytes tStr hi hz h1 rfl hb hB rfl s (by simp;omega) rfl rfl rfl rfl ?_;intro A c w' hR hc hA hF)
 go_ret;refine⟨A,c,rfl,?_,hc,fun ad e=> ?_,((Fr.refl _ _).alloc _).trans hF⟩
 ·unfold Byts szd;rw [List.map_append,hbc.o];exact hR
 ·rcases hA ad e with h |h
  ·rw [h];exact Nat.le_refl _
  ·simp at h;omega
end Go.Proofs.YtpmgepijkhaonaaGreat.T
namespace Go.Proofs.YtpmgepijkhaonaaGreat.T
open Go.RowKit Go.Sig
theorem byts_alloc {w:World}{A:Option Addr}{n:Nat}{l:List UInt8}{o:Obj}(h:Byts w A n l):Byts (w.alloc o) A n l:=Rd.fr h ((Fr.refl [] w).alloc o) (by simp [Off])
theorem byts_fr0 {w w':World}{A:Option Addr}{n:Nat}{l:List UInt8}(hf:Fr [] w w') (h:Byts w A n l):Byts w' A n l:=Rd.fr h hf (by simp [Off])
theorem pairCells_length (l:List Pr):(pairCells l).length=l.length*2:=by
 induction l with
 |nil=>rfl
 |cons y l ih=>simp [pairCells]at ih⊢;omega
theorem pairCells_at:∀{l:List Pr}{i:Nat}(h:i<l.length),(pairCells l)[i*2]? =some (.string l[i].1)∧(pairCells l)[i*2+1]? =some (.string l[i].2)
 |y::l,0,h=>⟨rfl,rfl⟩
 |y::l,i+1,h=>by have:=pairCells_at (l:=l) (i:=i) (by simpa using h);rw [show(i+1)*2=i*2+2 by omega];exact this
theorem pairCells_append (l m:List Pr):pairCells (l++m)=pairCells l++pairCells m:=List.flatMap_append
theorem pairCells_one (l:List Pr):∀u∈pairCells l,u.oneCell'=true:=by
 intro u hu;obtain⟨y,_,hy⟩:=List.mem_flatMap.1 hu;simp at hy;rcases hy with rfl |rfl<;>rfl
def Small (l:List Pr):Prop:=(∀y∈l,y.1.size≤100000∧y.2.size≤100000)∧l.length≤10000
theorem szd_length (s:ByteArray):(szd s).length=4+s.size:=by
 unfold szd;rw [List.length_append,Array.length_toList];rfl
def zeroDig:List UInt8:=List.replicate 32 0
theorem laid_dig {D E:List UInt8}(hD:D.length=32) (hE:E.length=32) (s k:Value) (n:Nat):laid (nodeCells D s k n) 0 (digCells E).toList=nodeCells E s k n:=by
 unfold laid nodeCells digCells;have e:(E.map bv).length=32:=by rw [List.length_map,hE]
 have e2:(D.map bv).length=32:=by rw [List.length_map,hD]
 simp only [List.take_zero,List.nil_append,Nat.zero_add];rw [e,List.drop_append_of_le_length (by omega),List.drop_of_length_le (by omega)];simp
theorem digCells_one' (l:List UInt8):∀v∈(digCells l).toList,v.oneCell'=true:=by
 simp only [digCells];exact bv_one l
theorem cell_al {w:World}{a:Addr}{v:Value}{o:Obj}(h:w.cell? a=some v):(w.alloc o).cell? a=some v:=((Fr.refl [] w).alloc o).cell (block_lt_of_cell h) (by simp) |>.trans h
theorem cell_dr {w:World}{a:Addr}{v:Value}(h:w.cell? a=some v):w.drew.cell? a=some v:=h
theorem cell_fr {w w':World}{a:Addr}{v:Value}(hf:Fr [] w w') (h:w.cell? a=some v):w'.cell? a=some v:=(hf.cell (block_lt_of_cell h) (by simp)).trans h
theorem there_fr {S:List Nat}{w w':World}{g n:Nat}(hf:Fr S w w') (hg:g∉S) (h:w.there g 0 n):w'.there g 0 n:=by
 intro j hj;have h1:=h j hj;obtain⟨v,hv⟩:=Option.isSome_iff_exists.1 h1.1;have hb:=block_lt_of_cell hv;have e:=hf.block g hb hg;refine⟨?_,?_⟩
 ·rw [hf.cell hb hg];exact h1.1
 ·have:=h1.2;simp only [World.frozen?]at this⊢;rw [e];exact this
theorem there_fr0 {w w':World}{g n:Nat}(hf:Fr [] w w') (h:w.there g 0 n):w'.there g 0 n:=there_fr hf (by simp) h
theorem there_al {w:World}{g n:Nat}{o:Obj}(h:w.there g 0 n):(w.alloc o).there g 0 n:=there_fr0 ((Fr.refl [] w).alloc o) h
theorem there_dr {w:World}{g n:Nat}(h:w.there g 0 n):w.drew.there g 0 n:=h
theorem there_blk {w:World}{g n:Nat}{t:TypeId}{cs:Array Value}(h:Blk w g t cs) (hn:n≤cs.size):w.there g 0 n:=fun j hj=>⟨by rw [h.cell,Nat.zero_add,Array.getElem?_eq_getElem (by omega)];rfl,h.frozen _⟩
theorem setCells_blk {g:Nat}{t:TypeId}:∀(vs:List Value) (o:Nat) (w:World) (cs:Array Value),Blk w g t cs→o+vs.length≤cs.size→Blk (w.setCells g o vs) g t (laid cs o vs)
 | [],o,w,cs,h,_=>by
  have e:laid cs o []=cs:=by simp [laid]
  rw [e];exact h
 |v::vs,o,w,cs,h,hl=>by
  simp only [List.length_cons]at hl;have:=setCells_blk vs (o+1) (w.setCell ⟨g,o,none⟩ v) (cs.setIfInBounds o v) (h.set o v) (by simp;omega);have e:laid (cs.setIfInBounds o v) (o+1) vs=laid cs o (v::vs):=by
   apply Array.ext_getElem?;intro k;rw [laid_get (by simp;omega),laid_get (by simp;omega)];simp only [List.length_cons,Array.getElem?_setIfInBounds];by_cases hk:k=o
   ·subst hk;rw [if_neg (by omega),if_pos rfl,if_pos (by omega),if_pos (by omega),Nat.sub_self];rfl
   ·by_cases hk2:o≤k∧k<o+(vs.length+1)
    ·rw [if_pos (by omega),if_pos hk2,show k - o=(k - (o+1))+1 by omega];rfl
    ·rw [if_neg (by omega),if_neg hk2,if_neg (by omega)]
  rw [e]at this;exact this
theorem setCells_fr {g:Nat}:∀(vs:List Value) (o:Nat) (w:World),Fr [g] w (w.setCells g o vs)
 | [],o,w=>Fr.refl _ _
 |v::vs,o,w=>((Fr.refl [g] w).setCell (p:=⟨g,o,none⟩) (by simp) v).trans (setCells_fr vs (o+1) _)
def convC (s:ByteArray) (w:World):Nat:=grownCap w s.size 0 5
def convW (s:ByteArray) (w:World):World:=w.drew.alloc (.cells (bytesRow s (convC s w)) 5 ((bytesRow s (convC s w)).size,(bytesRow s (convC s w)).size+1))
theorem conv_run (s:ByteArray) (w:World):(convert 9 42 (.string s)).run Tryz.prog w= .ok (.slice (some ⟨w.heap.size,0,none⟩) s.size (convC s w)) (convW s w):=
 run_bytes_of_string w 9 42 5 s tStr tBytes (by kernel_rfl)
theorem convC_ge (s:ByteArray) (w:World):s.size≤convC s w:=grownCap_ge _ _ _ _
@[simp] theorem convW_size (s:ByteArray) (w:World):(convW s w).heap.size=w.heap.size+1:=by simp [convW]
theorem convW_fr (s:ByteArray) (w:World):Fr [] w (convW s w):=((Fr.refl [] w).drew).alloc _
theorem byts_dr {w:World}{A:Option Addr}{n:Nat}{l:List UInt8}(h:Byts w A n l):Byts w.drew A n l:=h
theorem byts_cvn {s:ByteArray}{w:World}{g:Nat}(hg:g=w.heap.size):Byts (convW s w) (some ⟨g,0,none⟩) s.size s.data.toList:=by
 subst hg;have hds:s.data.toList.length=s.size:=by rw [Array.length_toList];rfl
 refine⟨by rw [List.length_map,hds,Nat.mul_one],fun _=>⟨w.heap.size,0,rfl,fun j v hv=> ?_⟩⟩;have hj:j<s.data.size:=by have:=(List.getElem?_eq_some_iff.1 hv).1;simpa using this
 have e:(convW s w).heap[w.heap.size]? =some (.cells (bytesRow s (convC s w)) 5 ((bytesRow s (convC s w)).size,(bytesRow s (convC s w)).size+1)):=heap_alloc_new w.drew _;rw [Nat.zero_add];have e2:=cell_of_row (convW s w) w.heap.size j _ _ _ e;rw [e2,bytesRow_at s _ j hj,←hv,List.getElem?_map,Array.getElem?_toList,Array.getElem?_eq_getElem hj];rfl
theorem byts_bs {w:World}{g:Nat}{b:UInt8}{t:TypeId}(hg:g=w.heap.size):Byts (w.alloc (.cells #[.int .u8 (b.toNat:Int)] t)) (some ⟨g,0,none⟩) 1 [b]:=by
 subst hg;exact byts_new (Blk.new _ _ _) rfl rfl
theorem byts_bs0 {w:World}{g:Nat}{t:TypeId}(hg:g=w.heap.size):Byts (w.alloc (.cells #[.int .u8 0] t)) (some ⟨g,0,none⟩) 1 [0]:=byts_bs (b:=0) hg
theorem cell_sc {w:World}{b o:Nat}{v:Value}{g p:Nat}{vs:List Value}(hne:b≠g) (h:w.cell? ⟨b,o,none⟩=some v):(w.setCells g p vs).cell? ⟨b,o,none⟩=some v:=((setCells_fr vs p w).cell (block_lt_of_cell h) (by simpa using hne)).trans h
theorem parts3 {w:World}{g:Nat}{t:TypeId}{a b c:Value}(hg:g=w.heap.size):Rd (w.alloc (.cells #[a,b,c] t)) 1 (some ⟨g,0,none⟩) 3 [a,b,c]:=by
 subst hg;refine⟨rfl,fun _=>⟨_,0,rfl,fun j v hv=> ?_⟩⟩;rw [Nat.zero_add,(Blk.new w t #[a,b,c]).cell];simpa using hv
theorem all3_t {w:World}{g n1 c1 n2 c2 n3 c3:Nat}{A1 A2 A3:Option Addr}{l1 l2 l3 D:List UInt8}{t:TypeId}(hg:g=w.heap.size) (h1:Byts w A1 n1 l1) (h2:Byts w A2 n2 l2) (h3:Byts w A3 n3 l3)
  (k1:n1≤c1) (k2:n2≤c2) (k3:n3≤c3) (hmax:n1+n2+n3≤1000000000) (hD:sha (l1++l2++l3)=D):
  Calls Tryz.prog 172 #[.slice (some ⟨g,0,none⟩) 3 3] (w.alloc (.cells #[.slice A1 n1 c1,.slice A2 n2 c2,.slice A3 n3 c3] t)) fun e w'=>e= .returned (.agg (D.map bv).toArray)∧Fr [] (w.alloc (.cells #[.slice A1 n1 c1,.slice A2 n2 c2,.slice A3 n3 c3] t)) w':=by
 have e:List.flatMap (fun(x:Part)=>x.2) [((A1,n1,c1),l1),((A2,n2,c2),l2),((A3,n3,c3),l3)]=l1++l2++l3:=by simp
 have q1:=Byts.length h1;have q2:=Byts.length h2;have q3:=Byts.length h3;have:=all_t (w.alloc (.cells #[.slice A1 n1 c1,.slice A2 n2 c2,.slice A3 n3 c3] t)) (some ⟨g,0,none⟩) 3 3 [((A1,n1,c1),l1),((A2,n2,c2),l2),((A3,n3,c3),l3)] (by decide) (parts3 hg) (fun p hp=>by
  simp only [List.mem_cons,List.not_mem_nil,or_false]at hp;rcases hp with rfl |rfl |rfl
  ·exact⟨byts_alloc h1,k1⟩
  ·exact⟨byts_alloc h2,k2⟩
  ·exact⟨byts_alloc h3,k3⟩) (by rw [e];simp only [List.length_append];omega)
 rw [e,hD]at this;exact this
theorem conv_any (s:ByteArray):∃(cW:World→World) (cC:World→Nat),(∀w,(convert 9 42 (.string s)).run Tryz.prog w= .ok (.slice (some ⟨w.heap.size,0,none⟩) s.size (cC w)) (cW w))∧(∀w,Fr [] w (cW w))∧
  (∀w g,g=w.heap.size→Byts (cW w) (some ⟨g,0,none⟩) s.size s.data.toList)∧(∀w,(cW w).heap.size=w.heap.size+1)∧(∀w,s.size≤cC w):=
 ⟨convW s,convC s,conv_run s,convW_fr s,fun _ _ h=>byts_cvn h,convW_size s,convC_ge s⟩
set_option maxRecDepth 100000 in
set_option maxHeartbeats 1000000 in
theorem laid1_t (w:World) (X:List Nat) (A:Option Addr) (c:Nat) (y:Pr) (hR:Rd w 2 A 1 (pairCells [y])) (hc:1≤c) (hX:∀x∈X,x<w.heap.size) (hA:Off X A) (hs:Small [y]):
  Calls Tryz.prog 165 #[.slice A 1 c] w fun e w'=>∃p,e= .returned p∧LeafAt w' X (leaf1 y) [y] p∧Fr [] w w':=by
 obtain⟨b,o,rfl,hcell⟩:=hR.2 (by decide);have hname:=hcell 0 (.string y.1) rfl;have hval:=hcell 1 (.string y.2) rfl;have hbl:b<w.heap.size:=block_lt_of_cell hname;have hs1:=(hs.1 y (by simp)).1;have hs2:=(hs.1 y (by simp)).2;go_enter Tryz.func165,Tryz.ntmps165;go_upto_region 4 with(fail)
 refine wp_gen (fun W=>Blk W w.heap.size 230 (nodeCells zeroDig (.slice (some ⟨b,o,none⟩) 1 c) nilP 1)∧Fr [] w W) ⟨Blk.new _ _ _,(Fr.refl _ _).alloc _⟩ ?_;rintro W ⟨hB,fW⟩;have hRW:=Rd.fr hR fW (by simp [Off]);have cn:W.cell? ⟨b,o,none⟩=some (.string y.1):=(fW.cell (p:=⟨b,o,none⟩) hbl (by simp)).trans hname;have cv:W.cell? ⟨b,o+1,none⟩=some (.string y.2):=(fW.cell (p:=⟨b,o+1,none⟩) hbl (by simp)).trans hval;obtain⟨g,HG⟩:∃x,Hid (w.heap.size=x):=⟨_,zh rfl⟩
 rw [HG.o]at hB hbl⊢;clear hname hval hcell;have hgl:=hB.lt;go_upto_region 5 with(fail)
 have th:W.there g 0 32:=there_blk hB (by rw [nodeCells_size rfl];decide);obtain⟨cW,cC,hcv,hcF,hcB,hcS,hcc⟩:=conv_any y.2;have hu:=uDig;have hlen:=sha_length ([0]++szd y.1++y.2.data.toList);have hsha:=zh (show leaf1 y=sha ([0]++szd y.1++y.2.data.toList)from rfl);have hsz:=fun W'=>sized_t W' y.1 (by omega);obtain⟨D,HDD⟩:∃x,Hid (sha ([0]++szd y.1++y.2.data.toList)=x):=⟨_,zh rfl⟩
 rw [HDD.o]at hlen hsha;obtain⟨L2,HL2⟩:∃x,Hid (szd y.1=x):=⟨_,zh rfl⟩
 obtain⟨L3,HL3⟩:∃x,Hid (y.2.data.toList=x):=⟨_,zh rfl⟩
 obtain⟨N1,HN1⟩:∃x,Hid (4+y.1.size=x):=⟨_,zh rfl⟩
 have hN1:N1≤200000:=by have:=HN1.o;omega
 rw [HL2.o,HN1.o]at hsz;rw [HL3.o]at hcB;have HD2:=HDD.o;rw [HL2.o,HL3.o]at HD2;have HD3:=zh HD2;have hszh:=zh hsz;have hcBh:=zh hcB;have hcFh:=zh hcF;have hcch:=zh hcc;clear HD2 HDD hsz hcB hcF hcc;have hbg:b≠g:=by omega
 have hi:=infoDigL hlen;have h1:=bv_one D;have hl32:(D.map bv).length=32:=by rw [List.length_map,hlen]
 go_region_held_law (fun w'=>w'.cell? ⟨b,o,none⟩=some (.string y.1)∧w'.cell? ⟨b,o+1,none⟩=some (.string y.2)∧w'.there g 0 32) ((refine⟨?_,?_,?_⟩<;>with_reducible (repeat (first |exact cn |exact cv |exact th |refine cell_sc hbg ?_ |refine World.there_setCells ?_ _ _ _ |exact k1 |exact k2 |exact k3 |exact k4 |exact k5 |exact k6 |apply cell_al |apply cell_dr |refine cell_fr (hcFh.o _) ?_ |apply there_al |apply there_dr |refine there_fr0 (hcFh.o _) ?_))))
  (first
    | (try go_simp
       go_at_call 208;refine(hszh.o _).mono ?_;rintro e w' ⟨A1,c1,rfl,hb1,hc1,hA1,F1⟩
       have G1:Fr [] W w':=Fr.trans (by with_reducible repeat (first |exact Fr.refl _ _ |apply Fr.alloc |refine Fr.trans ?_ (hcFh.o _) |apply Fr.drew)) F1;have k1:=cell_fr G1 cn;have k2:=cell_fr G1 cv;have k3:=there_fr0 G1 th;dsimp only)
    | (try go_simp
       go_at_call 172
       refine(all3_t (D:=D) (l1:= [0]) (l2:=L2) (l3:=L3) (by simp [hcS]) ?_ ?_ ?_ (Nat.le_refl _) hc1 (hcch.o _) (by omega) HD3.o).mono ?_
       ·with_reducible repeat (first |exact byts_bs0 (by simp [hcS]) |apply byts_alloc |refine byts_fr0 (hcFh.o _) ?_ |apply byts_dr |refine byts_fr0 F1 ?_)
       ·with_reducible repeat (first |exact hb1 |apply byts_alloc |refine byts_fr0 (hcFh.o _) ?_ |apply byts_dr |refine byts_fr0 F1 ?_)
       ·with_reducible repeat (first |exact hcBh.o _ _ (by simp) |apply byts_alloc |refine byts_fr0 (hcFh.o _) ?_ |apply byts_dr |refine byts_fr0 F1 ?_)
       rintro e w'' ⟨rfl,F2⟩;have G2:Fr [] W w'':=Fr.trans (by with_reducible repeat (first |exact G1 |exact Fr.refl _ _ |apply Fr.alloc |refine Fr.trans ?_ (hcFh.o _) |apply Fr.drew)) F2;have k4:=cell_fr G2 cn;have k5:=cell_fr G2 cv;have k6:=there_fr0 G2 th;dsimp only))
 all_goals
  go_wp2;go_ret;refine⟨_,rfl,⟨g,some ⟨b,o,none⟩,c,rfl,fun hx=>by have:=hX g hx;have:=HG.o;omega,?_,Rd.fr hRW (G2.nil.trans (setCells_fr _ _ _)) (fun _ ad e=>by cases e;simpa using hbg),hc,fun _=>hA⟩,(fW.trans G2).andThen (setCells_fr _ _ _) (fun x hx=> .inr (by have:=HG.o;simp at hx;omega))⟩;have hfin:=setCells_blk (D.map bv) 0 w'' _ (hB.fr G2 (by simp)) (by rw [nodeCells_size rfl,hl32];decide);have hl:=laid_dig (D:=zeroDig) (E:=D) rfl hlen (.slice (some ⟨b,o,none⟩) 1 c) nilP 1;rw [show(digCells D).toList=D.map bv from rfl]at hl;rw [hl]at hfin;rw [hsha.o];exact hfin
end Go.Proofs.YtpmgepijkhaonaaGreat.T
namespace Go.Proofs.YtpmgepijkhaonaaGreat.T
open Go.RowKit Go.Sig
def cmpB (a b:ByteArray):Int:=Lib.compareBytes a.data.toList b.data.toList
set_option maxHeartbeats 1000000 in
set_option maxRecDepth 100000 in
theorem bytealg_t (a b:ByteArray) (w:World):Calls Tryz.prog 259 #[.string a,.string b] w fun e w'=>e= .returned (.int .i64 (cmpB a b))∧w'=w:=by
 go_enter Tryz.func259,Tryz.ntmps259;go_wp2;rw [run_callFunc_extern Tryz.func289 (by kernel_rfl) (by kernel_rfl) (by kernel_rfl) (e:=Extern.BytealgCompare.compare) (by kernel_rfl),Lib.run_compareString];simp only [Result.andThen];rw [Oper.upon_value];go_wp2;go_ret;exact⟨rfl,rfl⟩
theorem compare_t (a b:ByteArray) (w:World):Calls Tryz.prog 214 #[.string a,.string b] w fun e w'=>e= .returned (.int .i64 (cmpB a b))∧w'=w:=by
 go_enter Tryz.func214,Tryz.ntmps214;go_wp2_with (go_at_call 259;refine(bytealg_t _ _ _).mono ?_;rintro e w' ⟨rfl,rfl⟩)
 go_ret;exact⟨rfl,rfl⟩
theorem byName_t (x y:Pr) (w:World):Calls Tryz.prog 171 #[.agg #[.string x.1,.string x.2],.agg #[.string y.1,.string y.2]] w fun e w'=>e= .returned (.int .i64 (cmpB x.1 y.1))∧∃o1 o2,w'=(w.alloc o1).alloc o2:=by
 go_enter Tryz.func171,Tryz.ntmps171;go_wp2_with (go_at_call 214;refine(compare_t _ _ _).mono ?_;rintro e w' ⟨rfl,rfl⟩)
 go_ret;exact⟨rfl,_,_,rfl⟩
theorem cmp_less:∀(l m:List UInt8),decide (Lib.compareBytes l m<0)=Op.bytesLess l m
 | [],[]=>rfl
 | [],_::_=>rfl
 |_::_,[]=>rfl
 |a::l,b::m=>by
  unfold Lib.compareBytes Op.bytesLess;by_cases h1:a<b
  ·simp [h1]
  ·by_cases h2:b<a
   ·have:a≠b:=fun e=>by rw [e]at h2;exact absurd h2 (UInt8.lt_irrefl _)
    simp [h1,h2,this]
   ·have:a=b:=UInt8.le_antisymm (UInt8.not_lt.1 h2) (UInt8.not_lt.1 h1);subst this;simp [h1,cmp_less l m]
theorem cmpB_lt (a b:ByteArray):decide (cmpB a b<0)=bl a b:=by
 unfold cmpB bl;rw [cmp_less,Lib.toList_data,Lib.toList_data]
theorem with1_t (w:World) (y:Pr) (gx:Nat) (k:ByteArray) (hx:w.cell? ⟨gx,0,none⟩=some (.string k)):
  Calls Tryz.prog 169 #[.agg #[.string y.1,.string y.2],.pointer (some ⟨gx,0,none⟩)] w fun e w'=>e= .returned (.bool (decide (y.1=k)))∧Fr [] w w':=by
 have hx2:=fun o=>cell_al (o:=o) hx;have hgl:=block_lt_of_cell hx;have hd:=zh (toList_beq y.1 k);go_enter Tryz.func169,Tryz.ntmps169;go_wp2;go_ret;exact⟨ret_bool hd.o,(Fr.refl _ _).alloc _⟩
theorem without1_t (w:World) (y:Pr) (gx:Nat) (k:ByteArray) (hx:w.cell? ⟨gx,0,none⟩=some (.string k)):
  Calls Tryz.prog 267 #[.agg #[.string y.1,.string y.2],.pointer (some ⟨gx,0,none⟩)] w fun e w'=>e= .returned (.bool (decide (y.1=k)))∧Fr [] w w':=by
 have hx2:=fun o=>cell_al (o:=o) hx;have hgl:=block_lt_of_cell hx;have hd:=zh (toList_beq y.1 k);go_enter Tryz.func267,Tryz.ntmps267;go_wp2;go_ret;exact⟨ret_bool hd.o,(Fr.refl _ _).alloc _⟩
def PredK (f gx:Nat) (k:ByteArray):Prop:=∀(W:World) (y:Pr),W.cell? ⟨gx,0,none⟩=some (.string k)→
  Calls Tryz.prog f #[.agg #[.string y.1,.string y.2],.pointer (some ⟨gx,0,none⟩)] W fun e w'=>e= .returned (.bool (decide (y.1=k)))∧Fr [] W w'
theorem with1_p (gx:Nat) (k:ByteArray):PredK 169 gx k:=fun W y h=>with1_t W y gx k h
theorem without1_p (gx:Nat) (k:ByteArray):PredK 267 gx k:=fun W y h=>without1_t W y gx k h
set_option maxRecDepth 100000 in
set_option maxHeartbeats 1000000 in
theorem idx_t (w:World) (f gx:Nat) (k:ByteArray) (hf:PredK f gx k) (eg:∀args w,(callFunc f args).run Tryz.prog w= .ok (.enter f args) w) (hx:w.cell? ⟨gx,0,none⟩=some (.string k)) (A:Option Addr) (n c:Nat) (l:List Pr) (hR:Rd w 2 A n (pairCells l)) (hn:l.length=n) (hmax:n≤1048576):
  Calls Tryz.prog 212 #[.slice A n c,.func (.func f) #[] #[.pointer (some ⟨gx,0,none⟩)]] w fun e w'=>Fr [] w w'∧((e= .returned (.int .i64 (-1))∧∀y∈l,y.1≠k)∨∃i,∃h:i<l.length,e= .returned (.int .i64 i)∧l[i].1=k∧∀y∈l.take i,y.1≠k):=by
 go_enter Tryz.func212,Tryz.ntmps212;go_wp2_with fail
 go_loopg [5,8] (n+1) (fun gk s5 s8 wr=>∃(i:Nat),s8= .int .i64 i∧i≤n∧n - i<gk∧(∀y∈l.take i,y.1≠k)∧Fr [] w wr)
 case atStart=>exact⟨0,rfl,by omega,by omega,fun y hy=>by simp at hy,Fr.refl _ _⟩
 case round=>
  obtain⟨i,rfl,hi,hk,hpre,hF⟩:=hrel;by_cases hlt:i<n
  ·have hlt':(i:Int)<n:=by omega
   have hlth:=zh hlt;have hi':i<l.length:=by omega
   have hRr:=Rd.fr hR hF (by simp [Off]);obtain⟨b,o,rfl,hcell⟩:=hRr.2 (by omega);have hp:=pairCells_at hi';have cn:=hcell _ _ hp.1;have cv:=hcell _ _ hp.2;rw [←Nat.add_assoc]at cv;have hcall:=hf wr l[i] (cell_fr hF hx);have hpreh:=zh hpre;have htk:=zh (List.take_succ_eq_append_getElem hi');clear hcell hp hRr hpre;obtain⟨y,hy⟩:∃x,Hid (l[i]=x):=⟨_,zh rfl⟩
   rw [hy.o]at cn cv hcall htk;obtain⟨y1,y2⟩:=y;simp only at cn cv hcall;by_cases hyk:y1=k
   ·rw [show decide (y1=k)=true by simpa using hyk]at hcall;have hyh:=zh hyk;clear hyk;go_wp2_with (go_at_fn f;refine hcall.mono ?_;rintro e w' ⟨rfl,F2⟩)
    go_ret;refine⟨hF.trans F2,.inr ⟨i,hi',rfl,?_,hpreh.o⟩⟩;rw [hy.o];exact hyh.o
   ·rw [show decide (y1=k)=false by simpa using hyk]at hcall;go_wp2_with (go_at_fn f;refine hcall.mono ?_;rintro e w' ⟨rfl,F2⟩)
    go_roundg (n - i)
    case measure=>omega
    case rel=>
     refine⟨i+1,by go_num,by have:=hlth.o;omega,by have:=hlth.o;omega,?_,hF.trans F2⟩;rw [htk.o];intro z hz;rcases List.mem_append.1 hz with h |h
     ·exact hpreh.o z h
     ·simp at h;rw [h];exact hyk
  ·have hin:i=n:=by omega
   have hge:¬(i:Int)<n:=by omega
   have hpreh:=zh hpre;clear hpre;go_wp2;go_ret;refine⟨hF,.inl ⟨rfl,?_⟩⟩;rintro y1 y2 hy;exact hpreh.o (y1,y2) (by rw [List.take_of_length_le (by omega)];exact hy)
theorem tPairs:SliceTy Tryz.prog 196 191 2 32 (.agg #[.string ⟨#[]⟩,.string ⟨#[]⟩]):=⟨by kernel_rfl,by kernel_rfl,rfl,by decide⟩
theorem del_all {k:ByteArray}{l:List Pr}(h:∀y∈l,y.1≠k):del k l=l:=by
 unfold del;rw [List.filter_eq_self];intro y hy;simpa using h y hy
theorem del_take {k:ByteArray}{l:List Pr}{j:Nat}(h:j<l.length):del k (l.take (j+1))=del k (l.take j)++(if l[j].1=k then []else [l[j]]):=by
 unfold del;rw [List.take_succ_eq_append_getElem h,List.filter_append];by_cases e:l[j].1=k<;>simp [e]
theorem run_clear_rows {P:Program}{t e ty:TypeId}{i:TypeInfo}{z:Value}(w:World) (ht:P.underlying t=some (.slice e)) (hi:P.info? e=some i) (hz:i.zero=some z) (h1:∀v∈z.cells.toList,v.oneCell'=true)
  {g o n c:Nat}{t':TypeId}{cur:Array Value}(hB:Blk w g t' cur) (hn:0<n) (hfit:o+n*z.cells.size≤cur.size):
  (Builtin.clear_ #[t] ty #[.slice (some ⟨g,o,none⟩) n c]).run P w= .ok (.tuple #[]) (w.setRow g (laid cur o (Builtin.zeroCells z.cells n).toList)):=by
 obtain⟨m,rfl⟩:∃m,n=m+1:=⟨n - 1,by omega⟩
 have hsz:=size_zeroCells z.cells (m+1);have hst:=run_storeCells_at (P:=P) g o t' (Builtin.zeroCells z.cells (m+1)).toList 0 cur w hB (by rw [Array.length_toList,hsz];omega) (fun v hv=>by
  simp only [Builtin.zeroCells,Array.toList_map,List.mem_map]at hv;obtain⟨q,hq,rfl⟩:=hv;simp at hq;have hp:0<z.cells.size:=by
   rcases Nat.eq_zero_or_pos z.cells.size with h0 |h0
   ·rw [h0]at hq;omega
   ·exact h0
  have hlt:q%z.cells.size<z.cells.size:=Nat.mod_lt _ hp;rw [getElem!_pos z.cells _ hlt];exact h1 _ (by simp))
 simp [Builtin.clear_,run_underlying ht,zeroValue,typeInfo,hi,hz,hst,Result.andThen];unfold laid;rw [Array.length_toList]
theorem clone_t (w:World) (ad:Addr) (n c:Nat) (xs:List Value) (h:Rd w 2 (some ad) n xs) (h1:∀u∈xs,u.oneCell'=true) (hn:n≤1048576):
  Calls Tryz.prog 168 #[.slice (some ad) n c] w fun e w'=>∃v,e= .returned v∧Own w' 191 2 v n xs∧Fr [] w w'∧(∀g∈rowOf v,w.heap.size≤g):=by
 have hq:=fun w=>Lib.run_eql_slice_nil (P:=Tryz.prog) w 196 191 (some ad) n c 0 0 tPairs.ty;go_enter Tryz.func168,Tryz.ntmps168;have hown:Own (w.alloc (.cells #[] 191)) 191 2 (.slice (some ⟨w.heap.size,0,none⟩) 0 0) 0 []:=Own.made w #[] 191 2 0 0 (by omega) (by decide) rfl;have hr:Rd (w.alloc (.cells #[] 191)) 2 (some ad) n xs:=h.fr ((Fr.refl [] w).alloc _) (fun _ _ _=>by simp);go_wp2_with (refine wpList_own_append tPairs hown hr h1 (by simp) (by unfold maxLen;omega) (by omega) rfl rfl rfl rfl (fun v' w2 h1 h2 h3=> ?_))
 go_ret;refine⟨_,rfl,by simpa using h1,?_,?_⟩
 ·exact((Fr.refl [] w).alloc _).andThen h2 (by simp [rowOf,Value.ownBlock])
 ·intro g hg;have:=h3 g (by simpa using hg);simp [rowOf,Value.ownBlock]at this;omega
set_option maxRecDepth 100000 in
set_option maxHeartbeats 2000000 in
theorem delf_t (w:World) (f gx:Nat) (k:ByteArray) (hf:PredK f gx k) (eg:∀args w,(callFunc f args).run Tryz.prog w= .ok (.enter f args) w) (hx:w.cell? ⟨gx,0,none⟩=some (.string k)) (v:Value) (n:Nat) (l:List Pr) (hO:Own w 191 2 v n (pairCells l)) (hn:l.length=n) (hmax:n≤1048576) (hxv:gx∉rowOf v):
  Calls Tryz.prog 167 #[v,.func (.func f) #[] #[.pointer (some ⟨gx,0,none⟩)]] w fun e w'=>∃v',e= .returned v'∧Own w' 191 2 v' (del k l).length (pairCells (del k l))∧rowOf v'=rowOf v∧Fr (rowOf v) w w':=by
 obtain⟨A,c,rfl,hA⟩:=hO.form;have hR:=hO.rd;have hidx:=idx_t w f gx k hf eg hx A n c l hR hn hmax;go_enter Tryz.func167,Tryz.ntmps167;go_wp2_with fail
 refine hidx.mono ?_;rintro e W ⟨fW,hcase⟩;rcases hcase with⟨rfl,hall⟩ | ⟨i0,hi0,rfl,hk0,hbef⟩
 ·have hallh:=zh hall;clear hall hidx;go_wp2;go_ret;rw [del_all hallh.o];exact⟨_,rfl,by rw [hn];exact hO.fr fW (by simp),rfl,fW.nil⟩
 ·have hlt0:i0<n:=by omega
  rcases hO.2 with⟨hv,h0⟩ | ⟨g,cap,cur,hv,hbs,hh,hnc,hcm,hcs,htk⟩
  ·omega
  injection hv with hv1 _ hv3
  subst hv1 hv3;have hB:Blk W g 191 cur:=Blk.fr (show Blk w g 191 cur from hh) fW (by simp);have hgx:gx≠g:=by simpa [rowOf,Value.ownBlock]using hxv
  have hxW:=cell_fr fW hx;have hcl:∀m,m<2*n→cur[m]? =(pairCells l)[m]? :=fun m hm=>by rw [←htk,List.getElem?_take_of_lt (by omega),Array.getElem?_toList]
  have hclh:=zh hcl;have hd0:del k (l.take (i0+1))=l.take i0:=by rw [del_take hi0,if_pos hk0,List.append_nil];exact del_all hbef
  have hd0h:=zh hd0;have hl0:(l.take i0).length=i0:=by rw [List.length_take];omega
  clear hidx hcl hd0 hbef hk0 hR htk hO hA;have hne1:((i0:Int)== -1)=false:=beq_eq_false_iff_ne.2 (by omega);go_wp2_with fail
  go_loopg [5,6,7] (n+1) (fun gk s5 s6 s7 wr=>∃(i j:Nat) (cu:Array Value),s5= .int .i64 i∧s6= .int .i64 j∧j≤n∧n - j<gk∧i<j∧i=(del k (l.take j)).length∧Blk wr g 191 cu∧cu.size=c*2∧Sub cu 0 (pairCells (del k (l.take j)))∧(∀m,2*j≤m→m<2*n→cu[m]? =(pairCells l)[m]?)∧Fr [g] W wr)
  case atStart=>
   refine⟨i0,i0+1,cur,rfl,by go_num,by omega,by omega,by omega,by rw [hd0h.o,hl0],hB,hcs,?_,fun m _ hm=>hclh.o m hm,Fr.refl _ _⟩;rw [hd0h.o];intro m u hu;have hm:=(List.getElem?_eq_some_iff.1 hu).1;rw [pairCells_length,hl0]at hm;rw [Nat.zero_add,hclh.o m (by omega),←hu];have e:pairCells l=pairCells (l.take i0)++pairCells (l.drop i0):=by rw [←pairCells_append,List.take_append_drop]
   rw [e,List.getElem?_append_left (by rw [pairCells_length,hl0];omega)]
  case round=>
   clear hB;obtain⟨i,j,cu,rfl,rfl,hj,hk,hij,hil,hB,hsz,hsub,hhi,hF⟩:=hrel;have hilh:=zh hil;have hsubh:=zh hsub;have hhih:=zh hhi;have hgl:=hB.lt;have hfz:=fun m=>hB.frozen m;clear hil hsub hhi;by_cases hlt:j<n
   ·have hlt':(j:Int)<n:=by omega
    have hlth:=zh hlt;have hj':j<l.length:=by omega
    have hp:=pairCells_at hj';have cn:=((hB.cell (j*2)).trans (hhih.o _ (by omega) (by omega))).trans hp.1;have cv:=((hB.cell (j*2+1)).trans (hhih.o _ (by omega) (by omega))).trans hp.2;have hdt:=zh (del_take (k:=k) hj');have hpl:=zh hp;clear hp;obtain⟨y,hy⟩:∃x,Hid (l[j]=x):=⟨_,zh rfl⟩
    rw [hy.o]at cn cv hdt hpl;obtain⟨y1,y2⟩:=y;simp only at cn cv hdt hpl;have ci:wr.cell? ⟨g,i*2,none⟩=some cu[i*2]:=by rw [hB.cell];exact Array.getElem?_eq_getElem (by omega)
    have ci1:wr.cell? ⟨g,i*2+1,none⟩=some cu[i*2+1]:=by rw [hB.cell];exact Array.getElem?_eq_getElem (by omega)
    go_upto_region 8 with(fail)
    refine wp_gen (fun W3=>Blk W3 wr.heap.size 191 #[.string y1,.string y2]∧Fr [] wr W3) ⟨Blk.new _ _ _,(Fr.refl _ _).alloc _⟩ ?_;rintro W3 ⟨hBp,F3⟩;have hcall:=hf W3 (y1,y2) (cell_fr F3 ((hF.cell (p:=⟨gx,0,none⟩) (block_lt_of_cell hxW) (by simpa using hgx)).trans hxW));simp only at hcall;obtain⟨gp,HGP⟩:∃x,Hid (wr.heap.size=x):=⟨_,zh rfl⟩
    rw [HGP.o]at hBp hgl⊢;have d1:=(hBp.cell 0)
    have d2:=(hBp.cell 1)
    simp only [zG,zH,zI]at d1 d2;have hB3:=hB.fr F3 (by simp);clear cn cv ci ci1 hfz;by_cases hyk:y1=k
    ·have hyh:=zh hyk;rw [show decide (y1=k)=true by simpa using hyk]at hcall;clear hyk;go_wp2_with (go_at_fn f;refine hcall.mono ?_;rintro e w' ⟨rfl,F4⟩)
     go_roundg (n - j)
     case measure=>omega
     case rel=>
      refine⟨i,j+1,cu,rfl,by go_num,by have:=hlth.o;omega,by have:=hlth.o;omega,by omega,?_,hB3.fr F4 (by simp),hsz,?_,fun m h1 h2=>hhih.o m (by omega) h2,hF.trans (F3.nil.trans F4.nil)⟩
      ·rw [hdt.o,if_pos hyh.o,List.append_nil];exact hilh.o
      ·rw [hdt.o,if_pos hyh.o,List.append_nil];exact hsubh.o
    ·have hyh:=zh hyk;rw [show decide (y1=k)=false by simpa using hyk]at hcall;clear hyk;go_upto_region 9 with(go_at_fn f;refine hcall.mono ?_;rintro e w' ⟨rfl,F4⟩)
     refine wp_gen (fun W4=>Blk W4 gp 191 #[.string y1,.string y2]∧Blk W4 g 191 cu∧Fr [] W3 W4) ⟨hBp.fr F4 (by simp),hB3.fr F4 (by simp),F4⟩ ?_;rintro W4 ⟨hBp4,hB4,F34⟩;have e1:=(hBp4.cell 0)
     have e2:=(hBp4.cell 1)
     simp only [zG,zH,zI]at e1 e2;have ci:W4.cell? ⟨g,i*2,none⟩=some cu[i*2]:=by rw [hB4.cell];exact Array.getElem?_eq_getElem (by omega)
     have ci1:W4.cell? ⟨g,i*2+1,none⟩=some cu[i*2+1]:=by rw [hB4.cell];exact Array.getElem?_eq_getElem (by omega)
     have hfz:=fun m=>hB4.frozen m;have hg4:=hB4.lt;have hiln:(i:Int)<n:=by have:=hlth.o;omega
     clear d1 d2 hBp hB3 hcall F4;go_wp2_with fail
     go_roundg (n - j)
     case measure=>omega
     case rel=>
      refine⟨i+1,j+1,_,by go_num,by go_num,by have:=hlth.o;omega,by have:=hlth.o;omega,by omega,?_,(hB4.set (i*2) (.string y1)).set (i*2+1) (.string y2),by simpa using hsz,?_,fun m h1 h2=> ?_,hF.trans ((F3.nil.trans F34.nil).trans (((Fr.refl [g] W4).setCell (by simp) _).setCell (by simp) _))⟩
      ·rw [hdt.o,if_neg hyh.o,List.length_append,←hilh.o];rfl
      ·rw [hdt.o,if_neg hyh.o,pairCells_append];intro m u hu;have hpl2:(pairCells (del k (l.take j))).length=i*2:=by rw [pairCells_length,←hilh.o]
       rw [Nat.zero_add,Array.getElem?_setIfInBounds,Array.getElem?_setIfInBounds];by_cases h1:m<i*2
       ·rw [if_neg (by omega),if_neg (by omega)];rw [List.getElem?_append_left (by omega)]at hu;have:=hsubh.o m u hu;rwa [Nat.zero_add]at this
       ·rw [List.getElem?_append_right (by omega),hpl2]at hu;have hm:m - i*2=0∨m - i*2=1:=by
         have:=(List.getElem?_eq_some_iff.1 hu).1;simp [pairCells]at this;omega
        rcases hm with hm |hm
        ·rw [hm]at hu;rw [if_neg (by omega),if_pos (by omega),if_pos (by have:=hlth.o;omega),←hu];rfl
        ·rw [hm]at hu;rw [if_pos (by omega),if_pos (by simp;have:=hlth.o;omega),←hu];rfl
      ·rw [Array.getElem?_setIfInBounds,if_neg (by omega),Array.getElem?_setIfInBounds,if_neg (by omega)];exact hhih.o m (by omega) h2
   ·have hjn:j=n:=by omega
    subst hjn;obtain⟨fi,hfi,hfz2,hfs,hfb⟩:=info_parts tPairs.info;have hci:¬c=i:=by omega
    have hclr:∀ty,(Builtin.clear_ #[196] ty #[.slice (some ⟨g,i*2,none⟩) (j - i) (c - i)]).run Tryz.prog wr= .ok (.tuple #[]) (wr.setRow g (laid cu (i*2) (Builtin.zeroCells (Value.agg #[.string ⟨#[]⟩,.string ⟨#[]⟩]).cells (j - i)).toList)):=
     fun ty=>run_clear_rows (ty:=ty) wr tPairs.ty hfi hfz2 (by intro v hv;simp [Value.cells]at hv;rcases hv with rfl |rfl<;>rfl) hB (by omega) (by show i*2+(j - i)*2≤cu.size;omega)
    have hge:¬(j:Int)<j:=by omega
    have hij':(i:Int)≤j:=by omega
    have hic':(i:Int)≤c:=by omega
    have hzl:(Builtin.zeroCells (Value.agg #[.string ⟨#[]⟩,.string ⟨#[]⟩]).cells (j - i)).toList.length=(j - i)*2:=by rw [Array.length_toList,size_zeroCells];rfl
    obtain⟨zs,hzs⟩:∃x,Hid ((Builtin.zeroCells (Value.agg #[.string ⟨#[]⟩,.string ⟨#[]⟩]).cells (j - i)).toList=x):=⟨_,zh rfl⟩
    rw [hzs.o]at hclr hzl;clear hlt hk;go_wp2;go_ret;have hsb:=hsubh.o;have hil:=hilh.o;rw [List.take_of_length_le (by omega)]at hsb hil;have hfit:i*2+zs.length≤cu.size:=by omega
    refine⟨_,rfl,?_,by simp [rowOf,Value.ownBlock],?_⟩
    ·rw [←hil];refine⟨by rw [pairCells_length,←hil],.inr ⟨g,c,_,rfl,Nat.zero_le _,Blk.setRow hB _,by omega,hcm,by rw [laid_size hfit];exact hsz,?_⟩⟩;apply List.ext_getElem?;intro m;by_cases hm:m<i*2
     ·rw [List.getElem?_take_of_lt hm,Array.getElem?_toList,laid_far hfit (.inl hm)];have hlt2:m<(pairCells (del k l)).length:=by rw [pairCells_length,←hil];exact hm
      have:=hsb m _ (List.getElem?_eq_getElem hlt2);rw [Nat.zero_add]at this;rw [this,List.getElem?_eq_getElem hlt2]
     ·rw [List.getElem?_eq_none (by rw [List.length_take];omega),List.getElem?_eq_none (by rw [pairCells_length,←hil];omega)]
    ·have:rowOf (.slice (some ⟨g,0,none⟩) j c)= [g]:=rfl;rw [this];exact(fW.nil.trans hF).setRow (.inl (by simp)) _
end Go.Proofs.YtpmgepijkhaonaaGreat.T
