/- The keys of a map, sorted: the library's contracts in plain words. Conditions: each theorem's own. -/
import Derived.Test.YtacljejoedbnkaaGreatLx
import Derived.Test.YtacljejoedbnkaaGreatMy
import Derived.Maps.Own
namespace Go.Proofs.YtacljejoedbnkaaGreat
open Go.RowKit Go.Sig Go.Maps Go.Sort Go.Shelf
theorem foldr_ins {H:Type}:∀L:List (Lit×DataW H),(L.foldr DataW.insert []).Perm L
 | []=> .refl _
 |x::L=>by rw [List.foldr_cons];exact(WideShapes.insert_perm x _).trans ((foldr_ins L).cons x)
def vint:Value→Int
 | .int _ a=>a
 |_=>0
theorem map_owns {P:Program}{kt:TypeId}{ν:Type}{ev:ν→Value}{w:World}{b:Nat}{l:List (Int×ν)}(hk:P.underlying kt=some (.int .i64)) (h:Go.Sig.IsMap w b (Value.int .i64) ev l) (hwf:∀p∈l,(Lit.int .i64 p.1).wf=true) (hmax:l.length≤maxLen):
  ∃D:DataW Unit,w.ownsMap P kt (fun _=>some (.nil,[])) b l.length D∧Maps.size D=l.length∧(intKeys D).Perm (l.map (·.1)):=by
 obtain⟨es,clock,hb,hke,hv,hp,hc,hn⟩:=h;have hlen:es.toList.length=l.length:=by have:=congrArg List.length hke;simpa using this
 have hkey:∀x∈es.toList,∃p∈l,x.key= .int .i64 p.1:=fun x hx=>by have h1:x.key∈es.toList.map (·.key):=List.mem_map.2 ⟨x,hx,rfl⟩;rw [hke]at h1;obtain⟨p,hp,e⟩:=List.mem_map.1 h1;exact⟨p,hp,e.symm⟩
 have hrd:∀x∈es.toList,WideElems.rd (H:=Unit) P kt (fun _=>some (.nil,[])) x=some (.int .i64 (vint x.key),.nil):=fun x hx=>by obtain⟨p,hp,e⟩:=hkey x hx;unfold WideElems.rd;rw [e,keyOf_int_mk hk (hwf p hp)];rfl
 have hks:(es.toList.map (·.key)).Nodup:=by
  rw [hke];have:(l.map fun p=>Value.int .i64 p.1)=(l.map (·.1)).map (Value.int .i64):=by rw [List.map_map];rfl
  rw [this];exact List.pairwise_map.2 (hn.imp fun h e=>h (by injection e))
 refine⟨.map ((es.toList.map (WideElems.rg (H:=Unit) P kt fun _=>some (.nil,[]))).foldr DataW.insert []),⟨es,clock,hb,⟨by rw [←Array.length_toList,hlen];exact hmax,⟨hc,hp.imp (fun h=>by omega),hks⟩,fun x hx=>⟨_,hrd x hx⟩⟩,by rw [←Array.length_toList,hlen];exact Nat.le_refl _,rfl⟩,?_,?_⟩
 ·rw [Maps.size_eq,(foldr_ins _).length_eq,List.length_map,hlen]
 ·show(((es.toList.map (WideElems.rg (H:=Unit) P kt fun _=>some (.nil,[]))).foldr DataW.insert []).map fun p=>Go.intOf p.1).Perm _;refine((foldr_ins _).map _).trans ?_;have e1:(es.toList.map (WideElems.rg (H:=Unit) P kt fun _=>some (.nil,[]))).map (fun p=>Go.intOf p.1)=(es.toList.map (·.key)).map vint:=by
   rw [List.map_map,List.map_map];refine List.map_congr_left fun x hx=> ?_;show Go.intOf (WideElems.rg (H:=Unit) P kt (fun _=>some (.nil,[])) x).1=vint x.key;unfold WideElems.rg;rw [hrd x hx];rfl
  rw [e1,hke,List.map_map];exact List.Perm.refl _
theorem sortsE (m:Nat):AnyZI.SortsIn Tryz.prog Tryz.sortedE_ren Fence.wide m:=
 ⟨fun blk off cap ss W hH hblk hsz=>callsIn_wide.2 (AnyM.slices_Sort_int Tryz.sortE blk off cap ss W hH hblk hsz),
  fun p cap W=>callsIn_wide.2 (AnyM.slices_Sort_int_none Tryz.sortE p cap W)⟩
theorem keysE_t (mb:Option Nat) (W:World):Calls Tryz.prog 77 #[.map mb] W fun e w'=>e= .returned (.func (.func 156) #[] #[.pointer (some ⟨W.heap.size,0,none⟩)])∧w'=W.alloc (.cells #[.map mb] 124):=
 (callsIn_wide (n:=5)).1 (AnyZI.keys_in Tryz.keysE Fence.wide 5 trivial rfl mb W)
set_option maxRecDepth 100000 in
set_option maxHeartbeats 1000000 in
theorem sortedE_t {ν:Type}{ev:ν→Value}(w:World) (me:Nat) (l:List (Int×ν)) (h:Go.Sig.IsMap w me (Value.int .i64) ev l) (hwf:∀p∈l,(Lit.int .i64 p.1).wf=true) (hmax:l.length≤1000000):
  Calls Tryz.prog 76 #[.func (.func 156) #[] #[.pointer (some ⟨w.heap.size,0,none⟩)]] (w.alloc (.cells #[.map (some me)] 124)) fun e w'=>
   ∃(A:Option Addr) (c:Nat),e= .returned (.slice A l.length c)∧Own w' 3 1 (.slice A l.length c) l.length (intCells ((l.map (·.1)).mergeSort fun a b=>decide (a≤b)))∧From w.heap.size A∧Fr [] w w':=by
 have hml:=h.lt;obtain⟨D,hD,hs,hp⟩:=map_owns (P:=Tryz.prog) (kt:=3) (by kernel_rfl) h hwf (Nat.le_trans hmax (by decide));have hown:(w.alloc (.cells #[.map (some me)] 124)).ownsMap Tryz.prog 3 (fun _=>some (DataW.nil,[])) me l.length D:=by obtain⟨es,clock,hb,Ft,hs,hD⟩:=hD;exact⟨es,clock,(Below.heap_alloc _ _ me hml).trans hb,Ft,hs,hD⟩
 have hseq:SeqGives Fence.wide 2 Tryz.prog 156 #[.pointer (some ⟨w.heap.size,0,none⟩)] encZ (fun ss=>ss.Perm (intKeys D)) (Maps.size D) (w.alloc (.cells #[.map (some me)] 124)):=
  AnyZI.keys_gives (ρ:=Tryz.keysE_ren) {Tryz.keysE with} Fence.wide _ trivial rfl (by omega) w.heap.size me l.length D _ (by simp) (by simp) hown
 have cS:=AnyZI.sorted_in Tryz.sortedE Fence.wide 5 trivial trivial trivial trivial rfl (by omega) (sortsE _) (enters_of Tryz.func155 (by kernel_rfl) rfl) 156 #[.pointer (some ⟨w.heap.size,0,none⟩)] trivial (enters_of Tryz.func156 (by kernel_rfl) rfl) _ _ (by rw [hs];exact Nat.le_trans hmax (by decide)) (by rw [hs];omega) _ hseq;change Go.CallsIn _ _ Tryz.prog 76 _ _ _ at cS;refine((callsIn_wide).1 cS).mono ?_;rintro e w' ⟨v,ss,rfl,hS,hrow,hnil,hb⟩;have hlen:ss.length=l.length:=by rw [hS.length_eq,hp.length_eq,List.length_map]
 have hperm:=mergeSort_of_perm_i (hS.trans hp);rw [hlen,hperm]at hrow;obtain⟨A,c,rfl,hO,hF⟩:=own_of_row hrow;refine⟨A,c,rfl,hO,fun ad e=> ?_,?_⟩
 ·have:=hF ad e;rw [World.size_alloc]at this;omega
 ·exact(Fr.refl [] w).alloc _ |>.trans (Fr.of_below hb)
end Go.Proofs.YtacljejoedbnkaaGreat
