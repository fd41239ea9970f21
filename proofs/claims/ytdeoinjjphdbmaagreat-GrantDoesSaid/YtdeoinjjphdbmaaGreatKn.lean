/- Walk: whatever is done, all answers and families. Conditions: each theorem's own. -/
import Derived.Test.YtdeoinjjphdbmaaGreatKm
namespace Go.Proofs.YtdeoinjjphdbmaaGreat
open Go.RowKit Go.Sig
theorem pend_eq {b:GBk}(hb:BkOk b):dPend (famsM b)=pendM b:=by
 unfold dPend pendM famsM
 rw [List.filter_map,List.map_map]
 have h1:(idsM b).filter ((fun f:GFam=>f.revoked)∘fun k=>(aget k b).getD zeroF)=(idsM b).filter fun s=>revM b s:=rfl
 rw [h1]
 have h2:∀s∈(idsM b).filter (fun s=>revM b s),((fun f:GFam=>f.id)∘fun k=>(aget k b).getD zeroF) s=id s:=fun s hs=>by
  obtain⟨f,hf⟩:=Option.isSome_iff_exists.1 (mem_idsM.1 (List.mem_filter.1 hs).1)
  simp only [Function.comp,hf,Option.getD_some,id]
  exact(hb.2 s f hf).1
 rw [List.map_congr_left h2,List.map_id]
theorem pendM_le (b:GBk):(pendM b).length≤b.length:=Nat.le_trans (List.length_filter_le _ _) (idsM_len b)
set_option maxRecDepth 100000 in
set_option maxHeartbeats 8000000 in
theorem gdoes_t (w:World) (n:Int) (A:Option Addr) (m k:Nat) (l:List CA) (id:ByteArray) (h:CmdsIn w A m l):Calls Tryz.prog 8 #[.int .i64 n,.slice A m k,.string id] w fun e w'=>e= .returned (.bool true)∧Fr [] w w':=by
 have hrun:=grun_t w n A m k l h
 clear h
 go_enter Tryz.func8,Tryz.ntmps8
 go_wp2_with fail
 refine Calls.mono (show Calls Tryz.prog 27 _ _ _ from hrun) ?_
 rintro e W1 ⟨p,mb,c',b,A',l',rfl,hB,hR,hb60,hmw,hpw,F1⟩
 clear hrun
 obtain⟨rm,hrm⟩:∃z,Hid (roomM n=z):=⟨_,zh rfl⟩
 rw [hrm.o]at hB⊢
 go_upto_region 2 with(refine wpList_store_row rfl 50 _ _ rfl W1.heap.size _ rfl rfl 50 _ (Blk.new _ _ _) infoRb (by rfl) (by kernel_rfl) ?_)
 refine wp_gen (fun V=>Blk V W1.heap.size 50 #[.slice A' l'.length c',.int .i64 rm]∧Fr [] W1 V) ⟨Blk.setRow (Blk.new _ _ _) _,((Fr.refl [] W1).alloc _).setRow (.inr (Nat.le_refl _)) _⟩ ?_
 rintro WB ⟨h8,F2⟩
 obtain⟨g8,HG8⟩:∃z,Hid (W1.heap.size=z):=⟨_,zh rfl⟩
 rw [HG8.o]at h8⊢
 have hBk:=zh (hB.fr0 F2)
 have hL:=zh ((hR.hL.fr F2.nil).mono (Y:= []) (by simp))
 have hm:=zh hR.hb
 have ok:=zh hR.ok
 have FB:=zh (F1.trans F2)
 have hll:l'.length=b.length:=by
  have h1:=congrArg List.length hR.hb
  rwa [List.length_map,famsM_length _ hR.ok]at h1
 have hllh:=zh hll
 obtain⟨nn,hnn⟩:∃z,Hid (l'.length=z):=⟨_,zh rfl⟩
 rw [hnn.o]at h8
 have hn60:nn≤60:=by have:=hnn.o;omega
 have h8h:=zh h8
 have hne:(rm !=rm)=false:=by simp
 have hSall:=zh (show∀V:World,Fr [] WB V→Blk V g8 50 #[.slice A' nn c',.int .i64 rm]∧V.cell? ⟨g8,0,none⟩=some (.slice A' nn c')from fun V hV=>⟨h8h.o.fr hV (by simp),(h8h.o.fr hV (by simp)).cell 0⟩)
 clear hB hR F1 F2 h8 hll hb60
 go_upto_region 2 with(fail)
 have fy0:Fr [] WB (World.drew WB):=(Fr.refl [] WB).drew
 refine wp_region_z (fun w'=>Blk w' g8 50 #[.slice A' nn c',.int .i64 rm]∧w'.cell? ⟨g8,0,none⟩=some (.slice A' nn c')) [] (by kernel_rfl) (hSall.o _ (Fr.refl _ _).drew) ?_
 intro hHeld
 refine wpZ_one (i:=0) (by kernel_rfl) rfl (fun K hK=> ?_)
 go_simp
 refine Calls.mono (show Calls Tryz.prog 17 _ _ _ from known_t (World.drew WB)) ?_
 rintro e Y1 ⟨rfl,G1⟩
 have fy1:Fr [] WB Y1:=fy0.trans G1
 try dsimp only
 refine hK.out _ _ (hSall.o _ fy1) (fun hHeld=> ?_)
 clear hK K
 try simp only [zA,zB,zC,Act.put,zD,zE,zF]
 refine wpZ_tk (i:=1) (v:= ?_) hHeld ?_ ?_
 rotate_left
 ·(intro w hSw;go_simp<;>with_reducible rfl)
 try simp only [zA,zB,zC,Act.put,zD,zE,zF]
 refine wpZ_tk (i:=2) (v:= ?_) hHeld ?_ ?_
 rotate_left
 ·(intro w hSw;go_simp<;>with_reducible rfl)
 try simp only [zA,zB,zC,Act.put,zD,zE,zF]
 refine wpZ_tk (i:=3) (v:= ?_) hHeld ?_ ?_
 rotate_left
 ·(intro w hSw;go_simp<;>with_reducible rfl)
 try simp only [zA,zB,zC,Act.put,zD,zE,zF]
 refine wpZ_tk (i:=4) (v:= ?_) hHeld ?_ ?_
 rotate_left
 ·(intro w hSw;go_simp<;>with_reducible rfl)
 try simp only [zA,zB,zC,Act.put,zD,zE,zF]
 refine wpZ_tk (i:=5) (v:= ?_) hHeld ?_ ?_
 rotate_left
 ·(intro w hSw;go_simp<;>with_reducible rfl)
 try simp only [zA,zB,zC,Act.put,zD,zE,zF]
 refine wpZ_tk (i:=6) (v:= ?_) hHeld ?_ ?_
 rotate_left
 ·(intro w hSw;go_simp<;>with_reducible rfl)
 try simp only [zA,zB,zC,Act.put,zD,zE,zF]
 refine wpZ_tk (i:=7) (v:= ?_) hHeld ?_ ?_
 rotate_left
 ·(intro w hSw;go_simp<;>with_reducible rfl)
 try simp only [zA,zB,zC,Act.put,zD,zE,zF]
 refine wpZ_tk (i:=9) (v:= ?_) hHeld ?_ ?_
 rotate_left
 ·(intro w hSw;go_simp<;>with_reducible rfl)
 try simp only [zA,zB,zC,Act.put,zD,zE,zF]
 refine wpZ_one (i:=8) (by kernel_rfl) rfl (fun K hK=> ?_)
 go_simp
 refine Calls.mono (show Calls Tryz.prog 28 _ _ _ from groom_t Y1 p mb rm [mb] b (hBk.o.fr0 fy1)) ?_
 rintro e Y2 ⟨rfl,hY2⟩
 have fy2:Fr [] WB Y2:=hY2▸fy1
 try dsimp only
 refine hK.out _ _ (hSall.o _ fy2) (fun hHeld=> ?_)
 clear hK K
 try simp only [zA,zB,zC,Act.put,zD,zE,zF]
 refine wpZ_one (i:=10) (by kernel_rfl) rfl (fun K hK=> ?_)
 go_simp
 refine Calls.mono (show Calls Tryz.prog 13 _ _ _ from(by have r:=roomL_t Y2 n;rwa [hrm.o]at r)) ?_
 rintro e Y3 ⟨rfl,hY3⟩
 have fy3:Fr [] WB Y3:=hY3▸fy2
 try dsimp only
 refine hK.out _ _ (hSall.o _ fy3) (fun hHeld=> ?_)
 clear hK K
 try simp only [zA,zB,zC,Act.put,zD,zE,zF]
 refine wpZ_tk (i:=11) (v:= ?_) hHeld ?_ ?_
 rotate_left
 ·(intro w hSw;go_simp<;>with_reducible rfl)
 try simp only [zA,zB,zC,Act.put,zD,zE,zF]
 refine wpZ_tk (i:=12) (v:= ?_) hHeld ?_ ?_
 rotate_left
 ·(intro w hSw;go_simp<;>with_reducible rfl)
 try simp only [zA,zB,zC,Act.put,zD,zE,zF]
 refine wpZ_tk (i:=13) (v:= ?_) hHeld ?_ ?_
 rotate_left
 ·(intro w hSw;go_simp<;>with_reducible rfl)
 try simp only [zA,zB,zC,Act.put,zD,zE,zF]
 refine wpZ_tk (i:=14) (v:= ?_) hHeld ?_ ?_
 rotate_left
 ·(intro w hSw;go_simp<;>with_reducible rfl)
 try simp only [zA,zB,zC,Act.put,zD,zE,zF]
 refine wpZ_tk (i:=16) (v:= ?_) hHeld ?_ ?_
 rotate_left
 ·(intro w hSw;go_simp<;>with_reducible rfl)
 try simp only [zA,zB,zC,Act.put,zD,zE,zF]
 refine wpZ_tk (i:=17) (v:= ?_) hHeld ?_ ?_
 rotate_left
 ·(intro w hSw;go_simp<;>with_reducible rfl)
 try simp only [zA,zB,zC,Act.put,zD,zE,zF]
 refine wpZ_one (i:=15) (by kernel_rfl) rfl (fun K hK=> ?_)
 go_simp
 refine Calls.mono (show Calls Tryz.prog 19 _ _ _ from fams_t Y3 p mb rm [mb] b (hBk.o.fr0 fy3) (by have:=hnn.o;have:=hllh.o;omega)) ?_
 rintro e Y4 ⟨la,Aa,ca,rfl,ha1,ha2,G4⟩
 have fy4:Fr [] WB Y4:=fy3.trans G4
 have hlan:la.length=nn:=by
  have h1:=congrArg List.length ha1
  rw [List.length_map,famsM_length _ ok.o]at h1
  have:=hnn.o
  have:=hllh.o
  omega
 have hla:=zh (show FamsIn Y4 [] Aa nn la by have:=ha2.read (X:= []) ok.o ha1 (by simp);rwa [hlan]at this)
 have hlm:=zh (ha1.trans hm.o.symm)
 rw [hlan]
 clear ha1 ha2 hlan
 try dsimp only
 refine hK.out _ _ (hSall.o _ fy4) (fun hHeld=> ?_)
 clear hK K
 try simp only [zA,zB,zC,Act.put,zD,zE,zF]
 refine wpZ_one (i:=18) (by kernel_rfl) rfl (fun K hK=> ?_)
 go_simp
 refine Calls.mono (show Calls Tryz.prog 22 _ _ _ from rall_t Y4 Aa A' nn ca c' la l' hla.o (by have:=hL.o.fr fy4;rwa [hnn.o]at this) hlm.o (by omega)) ?_
 rintro e Y5 ⟨rfl,G5⟩
 have fy5:Fr [] WB Y5:=fy4.trans G5
 try dsimp only
 refine hK.out _ _ (hSall.o _ fy5) (fun hHeld=> ?_)
 clear hK K
 try simp only [zA,zB,zC,Act.put,zD,zE,zF]
 refine wpZ_tk (i:=19) (v:= ?_) hHeld ?_ ?_
 rotate_left
 ·(intro w hSw;go_simp<;>with_reducible rfl)
 try simp only [zA,zB,zC,Act.put,zD,zE,zF]
 refine wpZ_tk (i:=20) (v:= ?_) hHeld ?_ ?_
 rotate_left
 ·(intro w hSw;go_simp<;>with_reducible rfl)
 try simp only [zA,zB,zC,Act.put,zD,zE,zF]
 refine wpZ_tk (i:=21) (v:= ?_) hHeld ?_ ?_
 rotate_left
 ·(intro w hSw;go_simp<;>with_reducible rfl)
 try simp only [zA,zB,zC,Act.put,zD,zE,zF]
 refine wpZ_tk (i:=22) (v:= ?_) hHeld ?_ ?_
 rotate_left
 ·(intro w hSw;go_simp<;>with_reducible rfl)
 try simp only [zA,zB,zC,Act.put,zD,zE,zF]
 refine wpZ_take (i:=24) rfl (by kernel_rfl) (by kernel_rfl) (by kernel_rfl) (by kernel_rfl) (fun _ _ _ h=>h) (yieldsIf_load_mid (by kernel_rfl) 50 _ rfl g8 0 rfl ([.slice A' nn c',.int .i64 rm]) _ (fun w h=>range_cells h.1) uRb rfl (by kernel_rfl)) hHeld ?_
 try simp only [zA,zB,zC,Act.put,zD,zE,zF]
 refine wpZ_one (i:=23) (by kernel_rfl) rfl (fun K hK=> ?_)
 go_simp
 refine Calls.mono (show Calls Tryz.prog 30 _ _ _ from pend_t Y5 p mb rm [mb] b (hBk.o.fr0 fy5) (by have:=hnn.o;have:=hllh.o;omega)) ?_
 rintro e Y6 ⟨v,rfl,hv,G6,hvr⟩
 have fy6:Fr [] WB Y6:=fy5.trans G6
 obtain⟨Av,cv,rfl,hAv⟩:=hv.form
 have hvh:=zh hv.rd
 clear hv hvr hAv
 try dsimp only
 refine hK.out _ _ (hSall.o _ fy6) (fun hHeld=> ?_)
 clear hK K
 try simp only [zA,zB,zC,Act.put,zD,zE,zF]
 refine wpZ_one (i:=25) (by kernel_rfl) rfl (fun K hK=> ?_)
 go_simp
 refine Calls.mono (show Calls Tryz.prog 31 _ _ _ from rpend_t Y6 A' nn c' rm l' (by have:=hL.o.fr fy6;rwa [hnn.o]at this) (by omega)) ?_
 rintro e Y7 ⟨Ap,cp,rfl,hp1,hp2,G7⟩
 have fy7:Fr [] WB Y7:=fy6.trans G7
 rw [hm.o,pend_eq ok.o]at hp1⊢
 have hvh:=zh (hvh.o.fr G7 (by simp [Off]))
 have hph:=zh hp1.rd
 clear hp1 hp2
 try dsimp only
 refine hK.out _ _ (hSall.o _ fy7) (fun hHeld=> ?_)
 clear hK K
 try simp only [zA,zB,zC,Act.put,zD,zE,zF]
 refine wpZ_one (i:=26) (by kernel_rfl) rfl (fun K hK=> ?_)
 go_simp
 refine Calls.mono (show Calls Tryz.prog 29 _ _ _ from rsames_t Y7 Av Ap (pendM b).length cv cp (pendM b) hvh.o rfl hph.o (by have:=pendM_le b;have:=hnn.o;have:=hllh.o;omega)) ?_
 rintro e Y8 ⟨rfl,G8⟩
 have fy8:Fr [] WB Y8:=fy7.trans G8
 try dsimp only
 refine hK.out _ _ (hSall.o _ fy8) (fun hHeld=> ?_)
 clear hK K
 try simp only [zA,zB,zC,Act.put,zD,zE,zF]
 refine wpZ_tk (i:=27) (v:= ?_) hHeld ?_ ?_
 rotate_left
 ·(intro w hSw;go_simp<;>with_reducible rfl)
 try simp only [zA,zB,zC,Act.put,zD,zE,zF]
 refine wpZ_tk (i:=28) (v:= ?_) hHeld ?_ ?_
 rotate_left
 ·(intro w hSw;go_simp<;>with_reducible rfl)
 try simp only [zA,zB,zC,Act.put,zD,zE,zF]
 refine wpZ_done (by kernel_rfl) ?_ _
 go_upto_region 4 with(fail)
 refine wp_gen (fun V=>Fr [] WB V) fy8 ?_
 clear hHeld
 rintro V FV
 have FVh:=zh FV
 have hfam:=family_t V p mb rm [mb] b id (hBk.o.fr0 FV)
 clear FV
 obtain⟨is,his⟩:∃z,Hid ((aget id b).isSome=z):=⟨_,zh rfl⟩
 go_wp2_with fail
 refine Calls.mono (show Calls Tryz.prog 16 _ _ _ from hfam) ?_
 rintro e V2 ⟨y,rfl,hy,hyw,G2⟩
 rw [his.o]
 clear hfam
 unfold FA.val
 go_upto_region 5 with(refine wpList_store_row rfl 39 _ _ rfl V2.heap.size y.cells rfl rfl 39 _ (Blk.new _ _ _) (infoFamA y) (by rw [FA.size11];rfl) (FA.all1 y) ?_)
 refine wp_gen (fun W=>Blk W V2.heap.size 39 y.cells∧Fr [] V2 W) ⟨Blk.setRow (Blk.new _ _ _) _,((Fr.refl [] V2).alloc _).setRow (.inr (Nat.le_refl _)) _⟩ ?_
 rintro V3 ⟨hB10,G3⟩
 obtain⟨g10,HG10⟩:∃z,Hid (V2.heap.size=z):=⟨_,zh rfl⟩
 rw [HG10.o]at hB10⊢
 have F3:=zh (FVh.o.trans (G2.trans G3))
 have hyin:=zh (((hyw.fam (X:= []) (by simp))).fr G3)
 have hyh:=zh hy
 have hB10h:=zh hB10
 have h83:=h8h.o.fr F3.o (by simp)
 have hget:=rget_t V3 [] A' nn c' rm l' id (by have:=hL.o.fr F3.o;rwa [hnn.o]at this) (by omega)
 rw [hm.o]at hget
 unfold GetPost at hget
 rw [dGet_fams ok.o,his.o]at hget
 clear hyw hy G2 G3 hB10
 go_wp2_with (refine wpList_load_at rfl 50 _ rfl rfl h83 (sub_self _) uRb rfl infoRbL ?_;rw [Array.toArray_toList])
 refine Calls.mono (show Calls Tryz.prog 32 _ _ _ from hget) ?_
 rintro e V4 ⟨z,rfl,hz,hzin,G4⟩
 unfold FA.val
 clear hget h83
 go_upto_region 6 with(refine wpList_store_row rfl 39 _ _ rfl V4.heap.size z.cells rfl rfl 39 _ (Blk.new _ _ _) (infoFamA z) (by rw [FA.size11];rfl) (FA.all1 z) ?_)
 refine wp_gen (fun W=>Blk W V4.heap.size 39 z.cells∧Fr [] V4 W) ⟨Blk.setRow (Blk.new _ _ _) _,((Fr.refl [] V4).alloc _).setRow (.inr (Nat.le_refl _)) _⟩ ?_
 rintro V5 ⟨hB12,G5⟩
 obtain⟨g12,HG12⟩:∃z,Hid (V4.heap.size=z):=⟨_,zh rfl⟩
 rw [HG12.o]at hB12⊢
 have F5:=zh (FB.o.trans (F3.o.trans (G4.trans G5)))
 have hB105:=hB10h.o.fr (G4.trans G5) (by simp)
 have hsame:=rsame_t V5 y z (hyin.o.fr (G4.trans G5)) (hzin.fr G5) (by rw [hyh.o,hz]) (fam_short3 hyh.o ok.o hyin.o)
 have hise:(is==is)=true:=by simp
 clear hz hzin G4 G5
 go_wp2_with (first
  | (refine wpList_load_want (by rfl) 39 _ rfl rfl hB105 (sub_self _) uFam rfl (infoFamL _) ?_;rw [Array.toArray_toList])
  | (refine wpList_load_want (by rfl) 39 _ rfl rfl hB12 (sub_self _) uFam rfl (infoFamL _) ?_;rw [Array.toArray_toList])
  | (go_at_call 18;refine Calls.mono (show Calls Tryz.prog 18 _ _ _ from hsame) ?_;rintro e V6 ⟨rfl,G6⟩))
 go_ret
 exact⟨rfl,F5.o.trans G6⟩
end Go.Proofs.YtdeoinjjphdbmaaGreat
