/- Walks of the hash that takes bytes bit by bit. Conditions: each theorem's own. -/
import Derived.Test.YtpmgepijkhaonaaGreatSf
namespace Go.Proofs.YtpmgepijkhaonaaGreat
open Go.RowKit Go.Sig
theorem hnew_t (w:World):Calls Tryz.prog 209 #[] w fun e w'=>e= .returned (.pointer (some ⟨w'.heap.size - 1,0,none⟩))∧Fr [] w w'∧w.heap.size≤w'.heap.size - 1∧StIn w' (w'.heap.size - 1) 320 []:=by
 go_enter Tryz.func209,Tryz.ntmps209;go_wp2_with fail
 refine(begun_t w).mono ?_;rintro _ W1 ⟨rfl,F1⟩;have e73:initCells.size=73:=rfl;have eF:Array.foldl (fun cs (x:Value×Nat)=>cs.setIfInBounds x.snd x.fst) Tryz.zeroCells320 initCells.zipIdx 0 73=initCells:=by kernel_rfl
 go_wp2;go_ret;refine⟨by simp,F1.alloc _,by simpa using F1.size,?_⟩;have e:(W1.alloc (.cells initCells 320)).heap.size - 1=W1.heap.size:=by simp
 rw [e];exact⟨initCells,Blk.new _ _ _,st_init⟩
theorem hwrite_t (w:World) (g:Nat) (bs l:List UInt8) (A:Option Addr) (n c:Nat) (hS:StIn w g 320 bs) (hb:Byts w A n l) (hA:0<n→Off [g] A) (hc:n≤c) (hmax:bs.length+n≤4611686018427387904):
  Calls Tryz.prog 210 #[.pointer (some ⟨g,0,none⟩),.slice A n c] w fun e w'=>e= .returned (.tuple #[])∧Fr [g] w w'∧StIn w' g 320 (bs++l):=by
 go_enter Tryz.func210,Tryz.ntmps210;go_wp2_with fail
 refine(write_t w g 320 bs l A n c hS hb hA hc hmax).mono ?_;rintro _ w2 ⟨rfl,F2,S2⟩;go_wp2;go_end0;exact⟨rfl,F2,S2⟩
theorem hsum_t (w:World) (g:Nat) (bs:List UInt8) (hS:StIn w g 320 bs) (hmax:bs.length≤150000000000000):
  Calls Tryz.prog 211 #[.pointer (some ⟨g,0,none⟩)] w fun e w'=>e= .returned (.agg (digCells (sha bs)))∧Fr [] w w':=by
 obtain⟨cs,hB,hO⟩:=hS;go_enter Tryz.func211,Tryz.ntmps211;go_upto_region 1 with(fail)
 refine wp_gen (fun W=>(∃zs,Blk W w.heap.size 74 zs∧zs.size=32)∧Fr [] w W) ⟨⟨_,Blk.new _ _ _,rfl⟩,(Fr.refl _ _).alloc _⟩ ?_;rintro W ⟨⟨zs,hD,hz⟩,fW⟩;have hBW:=hB.fr fW (by simp);have hgl:=hB.lt;obtain⟨gd,HGD⟩:∃x,Hid (w.heap.size=x):=⟨_,zh rfl⟩
 rw [HGD.o]at hD hgl⊢;go_wp2_with (first | (refine wpList_load_at rfl 289 _ rfl rfl hBW (sub_self cs) uState rfl (infoStateL hO.1) ?_;rw [Array.toArray_toList]) |fail)
 refine(sum_t W bs cs hO hmax).mono ?_;rintro _ w5 ⟨rfl,F5⟩;have hD5:=hD.fr F5 (by simp);have hlen:=sha_length bs;obtain⟨D,HDD⟩:∃x,Hid (sha bs=x):=⟨_,zh rfl⟩
 rw [HDD.o]at hlen⊢;go_wp2_with (refine wpList_store_row rfl 74 _ _ rfl gd (digCells D) rfl rfl 74 zs hD5 (infoDigA hlen) (by rw [hz,digCells_size hlen]) (digCells_one D) ?_)
 exact bodyPost_ret (v:= .agg (digCells D)) (results_cell_row rfl _ _ gd 74 (digCells D) (0,0) _ rfl (Blk.setRow hD5 _) uDig rfl (infoDigA hlen)) rfl ⟨by rw [HDD.o],(fW.trans F5).setRow (.inr (by have:=HGD.o;omega)) _⟩
end Go.Proofs.YtpmgepijkhaonaaGreat
