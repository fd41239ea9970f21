/- Walks of the trie: a node without a name. Conditions: each theorem's own. -/
import Derived.Test.YtpmgepijkhaonaaGreatTh
namespace Go.Proofs.YtpmgepijkhaonaaGreat.T
open Go.RowKit Go.Sig
theorem kid_one (f:Nat) (y:Pr) (i:Nat):kid f [y] i=if nib (pathOf y.1) (63 - f)=i then [y]else []:=by
 unfold kid;by_cases h:nib (pathOf y.1) (63 - f)=i<;>simp [h]
set_option maxRecDepth 100000 in
set_option maxHeartbeats 4000000 in
theorem with_split (x y:Pr) (hxy:y.1≠x.1) (_hsx:x.1.size≤100000∧x.2.size≤100000) (f:Nat) (hf64:f<64) (IH:WithOk x f) (w:World) (X:List Nat) (p:Value) (hN:NodeAt w X (f+1) [y] p) (hs:Small [y]) (hX:∀g∈X,g<w.heap.size):
  Calls Tryz.prog 117 #[p,xV x,.agg ((pathOf x.1).map bv).toArray,.int .i64 (64 - (f+1:Nat):Int)] w fun e w'=>∃p',e= .returned p'∧NodeAt w' X (f+1) (put x [y]) p'∧Fr [] w w':=by
 have hr:Rising [y]:=by simp [Rising]
 have hL:=node_one.1 hN;obtain⟨gq,A,c,rfl,hgq,hBq,hR,hc,hA⟩:=hL;obtain⟨b,o,rfl,hcell⟩:=hR.2 (by simp);have hcn:=hcell 0 (.string y.1) rfl;rw [Nat.add_zero]at hcn;have hbl:b<w.heap.size:=block_lt_of_cell hcn;have c32:=(hBq.cell 32).trans (nodeCells_at (sha_len _)).1;have c33:=(hBq.cell 33).trans (nodeCells_at (sha_len _)).2.1;have hql:=hBq.lt;unfold nilP at c33;rw [show([y]:List Pr).length=1 from rfl]at c32;have hplen:(pathOf x.1).length=32:=rfl;have hnlt:=nib_lt (pathOf x.1) (63 - f);have holen:(pathOf y.1).length=32:=rfl;have hnlo:=nib_lt (pathOf y.1) (63 - f);have hko:=fun i=>kid_one f y i;obtain⟨D,HD⟩:∃z,Hid (pathOf x.1=z):=⟨_,zh rfl⟩
 obtain⟨E,HE⟩:∃z,Hid (pathOf y.1=z):=⟨_,zh rfl⟩
 have hdep:(64 - ((f+1:Nat):Int))=((63 - f:Nat):Int):=by omega
 rw [hdep];rw [HE.o]at holen hnlo hko;rw [HD.o]at hplen hnlt⊢;obtain⟨dp,HDP⟩:∃z,Hid (63 - f=z):=⟨_,zh rfl⟩
 have hdp:dp<64:=by have:=HDP.o;omega
 have hdpi:(dp:Int)<64:=by omega
 rw [HDP.o]at hnlt hnlo hko⊢;have hkoh:=zh hko;have hd1:(y.1.toList==x.1.toList)=false:=by rw [toList_beq];simpa using hxy
 have hys:=(hs.1 y (by simp)).1;clear hko hcell;unfold xV;go_enter Tryz.func117,Tryz.ntmps117;go_upto_region 1 with(fail)
 refine wp_gen (fun W=>Blk W w.heap.size 191 #[.string x.1,.string x.2]∧Blk W (w.heap.size+1) 192 (digCells D)∧Fr [] w W) ⟨(Blk.new _ _ _).alloc _,Blk.new' _ _ (by simp),((Fr.refl _ _).alloc _).alloc _⟩ ?_;rintro W ⟨hBx,hBp,fW⟩;obtain⟨gx,HGX⟩:∃z,Hid (w.heap.size=z):=⟨_,zh rfl⟩
 rw [HGX.o]at hBx hBp hbl hql⊢;obtain⟨gp,HGP⟩:∃z,Hid (gx+1=z):=⟨_,zh rfl⟩
 rw [HGP.o]at hBp⊢;have c32W:=cell_fr fW c32;have c33W:=cell_fr fW c33;have hcnW:=cell_fr fW hcn;have hx1:=hBx.cell 0;have hx2:=hBx.cell 1;simp only [zG,zH,zI]at hx1 hx2;clear c32 c33 hcn;go_upto_region 8 with(fail)
 go_quiet (fail)
 go_upto_region 9 with(fail)
 refine wp_gen (fun W1=>Fr [] W W1) ((Fr.refl _ _).drewN _) ?_;rintro W1 FW1;have f1:=fW.trans FW1;have hBx1:=hBx.fr FW1 (by simp);have hBp1:=hBp.fr FW1 (by simp);have c32V:=cell_fr FW1 c32W;have hcnV:=cell_fr FW1 hcnW;obtain⟨cW,cC,hcv,hcF,hcB,hcS,hcc⟩:=conv_any y.1;have hcFh:=zh (hcF W1);have hcBh:=zh (hcB W1 W1.heap.size rfl);have hcch:=zh (hcc W1);have hgpl1:=hBp1.lt;clear hBx hBp c32W c33W hcnW hx1 hx2 FW1 fW hcF hcB hcc;have hEq:sha y.1.data.toList=E:=HE.o;have hEqh:=zh hEq;clear hEq;go_wp2_with fail
 refine(sum1_t (cW W1) _ _ _ _ hcBh.o hcch.o (by omega)).mono ?_;rintro e W2 ⟨rfl,F2⟩;rw [hEqh.o];have F12:=hcFh.o.trans F2;have hBx2:=hBx1.fr F12 (by simp);have hBp2:=hBp1.fr F12 (by simp);have hgpl2:=hBp2.lt;have hgW2:w.heap.size≤W2.heap.size:=(f1.trans F12).size;clear hBx1 hBp1 hcFh hcBh hcch F2 c32V hcnV hcv hcS;go_upto_region 10 with(refine wpList_store_row rfl 192 _ _ rfl W2.heap.size (digCells E) rfl rfl 192 _ (Blk.new W2 192 _) (by rw [digCells_size holen];kernel_rfl) (by rw [digCells_size holen];rfl) (digCells_one E) ?_)
 refine wp_gen (fun W3=>Blk W3 W2.heap.size 192 (digCells E)∧Fr [] W2 W3) ⟨Blk.setRow (Blk.new W2 192 _) _,((Fr.refl _ _).alloc _).setRow (.inr (Nat.le_refl _)) _⟩ ?_;rintro W3 ⟨hBe,F3⟩;have hBx3:=hBx2.fr F3 (by simp);have hBp3:=hBp2.fr F3 (by simp);have f3:=(f1.trans F12).trans F3;obtain⟨ge,HGE⟩:∃z,Hid (W2.heap.size=z):=⟨_,zh rfl⟩
 rw [HGE.o]at hBe hgpl2⊢;have hgel:=hBe.lt;clear hBx2 hBp2 F12 F3 f1;go_upto_region 11 with(fail)
 refine wp_gen (fun W4=>Blk W4 W3.heap.size 232 (List.replicate 16 nilP).toArray∧Fr [] W3 W4) ⟨Blk.new _ _ _,(Fr.refl _ _).alloc _⟩ ?_;rintro W4 ⟨hK4,F4⟩;have hBx4:=hBx3.fr F4 (by simp);have hBp4:=hBp3.fr F4 (by simp);have hBe4:=hBe.fr F4 (by simp);have f4:=f3.trans F4;have hgk0:w.heap.size≤W3.heap.size:=f3.size;obtain⟨gK,HGK⟩:∃z,Hid (W3.heap.size=z):=⟨_,zh rfl⟩
 rw [HGK.o]at hK4 hgel hgk0⊢;have hgxp:gx<gp:=by have:=HGP.o;omega
 have hgpK:gp<gK:=by omega
 clear hBx3 hBp3 hBe F4 f3;go_wp2_with (refine wpList_load_at rfl 192 _ rfl rfl hBe4 (digCells_sub E) uPath rfl (infoPathL holen) ?_)
 refine(at_t W4 E dp holen hdp).mono ?_;rintro e W5 ⟨rfl,F5⟩;have hK5:=hK4.fr F5 (by simp);have hBx5:=hBx4.fr F5 (by simp);have hBp5:=hBp4.fr F5 (by simp);have f5:=f4.trans F5;obtain⟨qo,HQO⟩:∃z,Hid (nib E dp=z):=⟨_,zh rfl⟩
 rw [HQO.o]at hnlo⊢;have hqo16:(qo:Int)<16:=by omega
 have hco:W5.cell? ⟨gK,qo,none⟩=some nilP:=by rw [hK5.cell,zG,List.getElem?_replicate,if_pos hnlo]
 have hzo:=hK5.frozen qo;have hgK5:=hK5.lt;unfold nilP at hco;clear hBx4 hBp4 hBe4 hK4 F5 f4;go_upto_region 12 with(fail)
 refine wp_gen (fun W6=>Blk W6 gK 232 ((List.replicate 16 nilP).set qo (.pointer (some ⟨gq,0,none⟩))).toArray∧Fr [gK] W5 W6) ⟨?_,(Fr.refl _ _).setCell (p:=⟨gK,qo,none⟩) (.inl (by simp)) _⟩ ?_
 ·have:=hK5.set qo (.pointer (some ⟨gq,0,none⟩));rwa [zD]at this
 rintro W6 ⟨hK6,F6⟩;have hBx6:=hBx5.fr F6 (by simp;omega);have hBp6:=hBp5.fr F6 (by simp;omega);have f6:Fr [] w W6:=f5.andThen F6 (fun z hz=> .inr (by simp at hz;omega));clear hK5 hBx5 hBp5 hco hzo F6 f5;obtain⟨ps,HPS⟩:∃z,Hid ((List.replicate 16 nilP).set qo (.pointer (some ⟨gq,0,none⟩))=z):=⟨_,zh rfl⟩
 have hps:ps.length=16:=by rw [←HPS.o];simp
 rw [HPS.o]at hK6;have hN6:NodeAt w X f [y] (.pointer (some ⟨gq,0,none⟩)):=node_one.2 (node_one.1 hN);have hgp6:=hBp6.lt;go_upto_region 13 with(first
  | (refine wpList_load_at rfl 192 _ rfl rfl hBp6 (digCells_sub D) uPath rfl (infoPathL hplen) ?_)
  | (go_at_call 164;refine(at_t _ D dp hplen hdp).mono ?_;rintro e W2 ⟨rfl,F2⟩))
 refine wp_gen (fun W2=>Blk W2 gK 232 ps.toArray∧Blk W2 gx 191 #[.string x.1,.string x.2]∧Blk W2 gp 192 (digCells D)∧Fr [] W6 W2) ⟨hK6.fr F2 (by simp),hBx6.fr F2 (by simp),hBp6.fr F2 (by simp),F2⟩ ?_;clear F2;rintro W2 ⟨hK2,hBx2,hBp2,F2⟩;have f2:=f6.trans F2;have hx1:=hBx2.cell 0;have hx2:=hBx2.cell 1;simp only [zG,zH,zI]at hx1 hx2;obtain⟨q,HQ⟩:∃z,Hid (nib D dp=z):=⟨_,zh rfl⟩
 rw [HQ.o]at hnlt⊢;have hck:W2.cell? ⟨gK,q,none⟩=some (ps.getD q undef):=by rw [hK2.cell,zG];exact getD_some (by omega)
 have hkids2:∀i,i<16→NodeAt W2 (gK::X) f (kid f [y] i) (ps.getD i undef):=fun i hi=>by
  rw [hkoh.o i,HQO.o,←HPS.o,setKid (by simpa using hnlo)];by_cases e:qo=i
  ·rw [if_pos e,if_pos e];exact hN6.go ⟨f2,by simp,fun z hz=>(List.mem_cons.1 hz).elim (fun e=> .inr (by rw [e];exact hgk0)) .inl⟩
  ·rw [if_neg e,if_neg e,node_nil];rw [List.getD_eq_getElem?_getD,List.getElem?_replicate,if_pos hi];rfl
 have hNq:=hkids2 q hnlt;have hq16:(q:Int)<16:=by omega
 have IHD:=IH W2.drew (gK::X) (kid f [y] q) (ps.getD q undef) (hNq.fr0 (Fr.refl [] W2).drew) (kid_rising hr) (small_kid hs) (by have:=kid_length_le f [y] q;simp at this;omega) (fun g hg=>(List.mem_cons.1 hg).elim (fun e=>by rw [e];exact hK2.lt) (fun hg=>Nat.lt_of_lt_of_le (hX g hg) f2.size));rw [HD.o,show(64 - (f:Int))=(dp:Int)+1 by have:=HDP.o;omega]at IHD;unfold xV at IHD;obtain⟨pq,HPQ⟩:∃z,Hid (ps.getD q undef=z):=⟨_,zh rfl⟩
 rw [HPQ.o]at hck hNq IHD;have hxK:gx≠gK:=by omega
 have hpK:gp≠gK:=by omega
 have IHDh:=zh IHD;have hkids2h:=zh hkids2;have IHh:=zh IH;have hNqh:=zh hNq;clear IHD hkids2 IH hNq hN hN6 hK6 hBx6 hBp6;refine wp_region_held_drew (S:=fun w'=>w'.cell? ⟨gx,0,none⟩=some (.string x.1)∧w'.cell? ⟨gx,1,none⟩=some (.string x.2)∧w'.rangeAt gp 0 (D.map bv)) (by kernel_rfl) ⟨hx1,hx2,range_blk hBp2⟩ ?_;intro hHeld;refine wpAnyH_take (i:=0) (v:= ?_) rfl (by kernel_rfl) (by kernel_rfl) (by kernel_rfl) (fun _ _ _ h=>h) (Or.inl ⟨by rfl,?_⟩) hHeld ?_;rotate_left
 ·(intro w hSw;go_simp<;>with_reducible rfl)
 try simp only [Act.put,zD]
 refine wpAnyH_take (i:=1) (v:= ?_) rfl (by kernel_rfl) (by kernel_rfl) (by kernel_rfl) (fun _ _ _ h=>h) (Or.inl ⟨by rfl,?_⟩) hHeld ?_;rotate_left
 ·(intro w hSw;go_simp<;>with_reducible rfl)
 try simp only [Act.put]
 refine wpAnyH_take (i:=2) (v:= ?_) rfl (by kernel_rfl) (by kernel_rfl) (by kernel_rfl) (fun _ _ _ h=>h) (Or.inl ⟨by rfl,?_⟩) hHeld ?_;rotate_left
 ·(intro w hSw;go_simp<;>with_reducible rfl)
 try simp only [Act.put]
 refine wpAnyH_take (i:=4) (v:= ?_) rfl (by kernel_rfl) (by kernel_rfl) (by kernel_rfl) (fun _ _ _ h=>h) (Or.inl ⟨by rfl,?_⟩) hHeld ?_;rotate_left
 ·(intro w hSw;go_simp<;>with_reducible rfl)
 try simp only [Act.put]
 refine wpAnyH_take (i:=5) rfl (by kernel_rfl) (by kernel_rfl) (by kernel_rfl) (fun _ _ _ h=>h) (yieldsIf_load_mid (by rfl) 192 _ rfl gp 0 rfl (D.map bv) _ (fun w h=>h.2.2) uPath rfl (infoPathL hplen)) hHeld ?_;try simp only [Act.put]
 refine wpAnyH_take (i:=6) (v:= ?_) rfl (by kernel_rfl) (by kernel_rfl) (by kernel_rfl) (fun _ _ _ h=>h) (Or.inl ⟨by rfl,?_⟩) hHeld ?_;rotate_left
 ·(intro w hSw;go_simp<;>with_reducible rfl)
 try simp only [Act.put]
 refine wpAnyH_take (i:=7) (v:= ?_) rfl (by kernel_rfl) (by kernel_rfl) (by kernel_rfl) (fun _ _ _ h=>h) (Or.inl ⟨by rfl,?_⟩) hHeld ?_;rotate_left
 ·(intro w hSw;go_simp<;>with_reducible rfl)
 try simp only [Act.put]
 refine wpAnyH_ready (rs:= [3]) (by kernel_rfl) (by simp) ?_;refine AllReadyH.cons rfl (fun K hK=> ?_) AllReadyH.nil;go_simp;refine hK.out _ _ hHeld (fun hHeld=> ?_);clear hK K;try simp only [Act.put,zD,zE,zF]
 refine wpAnyH_ready (rs:= [8]) (by kernel_rfl) (by simp) ?_;refine AllReadyH.cons rfl (fun K hK=> ?_) AllReadyH.nil;go_simp;go_wp2_with fail
 rw [show IntKind.i64.wrap ((dp:Int)+1)=(dp:Int)+1 by rw [IntKind.wrap_i64];omega];refine IHDh.o.mono ?_;rintro e W3 ⟨p3,rfl,hN3,F3⟩;have F3':Fr [] W2 W3:=F3.of_drew;have hK3:=hK2.fr F3' (by simp);have hck3:W3.cell? ⟨gK,q,none⟩=some pq:=cell_fr F3' hck;have hz3:=hK3.frozen q;have hgK3:=hK3.lt;obtain⟨A3,rfl⟩:=node_ptr hN3;dsimp only;refine hK.out _ _ ⟨cell_fr F3' hx1,cell_fr F3' hx2,range_fr0 F3' (range_blk hBp2)⟩ (fun hHeld=> ?_);clear hK K IHDh;try simp only [Act.put,zD,zE,zF]
 refine wpAnyH_take (i:=9) (v:= ?_) rfl (by kernel_rfl) (by kernel_rfl) (by kernel_rfl) (fun _ _ _ h=>h) (Or.inl ⟨by rfl,?_⟩) hHeld ?_;rotate_left
 ·(intro w hSw;go_simp<;>with_reducible rfl)
 try simp only [Act.put,zD]
 refine wpAnyH_ready (rs:= [10]) (by kernel_rfl) (by simp) ?_;refine AllReadyH.cons rfl (fun K hK=> ?_) AllReadyH.nil;go_simp;refine hK.out _ _ ⟨cell_st hxK (cell_fr F3' hx1),cell_st hxK (cell_fr F3' hx2),range_st hpK (range_fr0 F3' (range_blk hBp2))⟩ (fun hHeld=> ?_);clear hK K;refine wpAnyH_done (by kernel_rfl) ?_ _;clear hx1 hx2 hBx2 hBp2 hHeld;go_upto_region 14 with(fail)
 refine wp_gen (fun W4=>Blk W4 gK 232 (ps.set q (.pointer A3)).toArray∧Fr [gK] W3 W4) ⟨?_,(Fr.refl _ _).setCell (p:=⟨gK,q,none⟩) (.inl (by simp)) _⟩ ?_
 ·have:=hK3.set q (.pointer A3);rwa [zD]at this
 rintro W4 ⟨hK4,F4⟩;have f4:Fr [] w W4:=(f2.trans F3').andThen F4 (fun z hz=> .inr (by simp at hz;omega));have hps4:(ps.set q (.pointer A3)).length=16:=by rw [List.length_set,hps]
 have hk4:∀i,i<16→NodeAt W4 (gK::X) f (kid f (put x [y]) i) ((ps.set q (.pointer A3)).getD i undef):=by
  have hq:q=nib (pathOf x.1) (63 - f):=by rw [HD.o,HDP.o,HQ.o]
  have hgo:∀{lz:List Pr}{z:Value},NodeAt W3 (gK::X) f lz z→NodeAt W4 (gK::X) f lz z:=fun h=>h.fr F4 (fun s hs=> .inl (by simp at hs;simp [hs]));rw [hq]at hN3⊢;exact kids_put hps hr (fun i hi=>hgo ((hkids2h.o i hi).fr0 F3')) (hgo hN3)
 have hpl:(put x [y]).length≤10000:=by have:=put_length_le x [y];simp at this;omega
 have hbr:=branch_t W4 (gK::X) f (put x [y]) (ps.set q (.pointer A3)) hps4 hk4 (fun g hg=>(List.mem_cons.1 hg).elim (fun e=>by rw [e];exact hK4.lt) (fun hg=>Nat.lt_of_lt_of_le (hX g hg) f4.size)) hpl;have h16:(Tryz.prog.info? 232).map (·.size)=some (ps.set q (.pointer A3)).toArray.toList.length:=by rw [Array.length_toList,List.size_toArray,hps4];kernel_rfl
 clear hkids2h hk4 hN3 hNqh;go_wp2_with (first | (refine wpList_load_at rfl 232 _ rfl rfl hK4 (sub_self _) tKidsU rfl h16 ?_;rw [Array.toArray_toList]) | (go_at_call 166;refine hbr.mono ?_;rintro e W5 ⟨p5,rfl,hN5,F5⟩))
 go_ret;exact⟨_,rfl,hN5.go ⟨Fr.refl [] _,by simp,fun y hy=> .inl (List.mem_cons_of_mem _ hy)⟩,f4.trans F5⟩
theorem with_t (x:Pr) (hsx:x.1.size≤100000∧x.2.size≤100000):∀f,f≤64→WithOk x f
 | 0,_=>fun w X l p hN hr hs hl hX=>by
  match l,hN with
  | [],hN=>rw [node_nil.1 hN];exact with_nil x hsx 0 w X _ hX
  | [y],hN=>exact with_leaf x hsx 0 (by omega) w X [y] p _ (node_one.1 hN) rfl (by simp) (.inr rfl) hr hs hl hX
  |y::z::l,hN=>exact with_leaf x hsx 0 (by omega) w X _ p _ ((node_leaf (by simp)).1 hN) rfl (by simp) (.inr rfl) hr hs hl hX
 |f+1,hf=>fun w X l p hN hr hs hl hX=>by
  have IH:=with_t x hsx f (by omega);match l,hN with
  | [],hN=>rw [node_nil.1 hN];exact with_nil x hsx (f+1) w X _ hX
  | [y],hN=>
   by_cases e:y.1=x.1
   ·exact with_leaf x hsx (f+1) hf w X [y] p _ (node_one.1 hN) rfl (by simp) (.inl ⟨y,rfl,e⟩) hr hs hl hX
   ·exact with_split x y e hsx f (by omega) IH w X p hN hs hX
  |y::z::l,hN=>exact with_branch x f (by omega) IH w X _ p hN (by simp) hr hs hl hX
end Go.Proofs.YtpmgepijkhaonaaGreat.T
namespace Go.Proofs.YtpmgepijkhaonaaGreat.T
open Go.RowKit Go.Sig
theorem del_length_le (s:ByteArray) (l:List Pr):(del s l).length≤l.length:=List.length_filter_le _ _
def WithoutOk (s:ByteArray) (f:Nat):Prop:=∀(w:World) (X:List Nat) (l:List Pr) (p:Value),NodeAt w X f l p→Rising l→Small l→l.length≤10000→(∀g∈X,g<w.heap.size)→
  Calls Tryz.prog 232 #[p,.string s,.agg ((pathOf s).map bv).toArray,.int .i64 (64 - f:Int)] w fun e w'=>∃p',e= .returned p'∧NodeAt w' X f (del s l) p'∧Fr [] w w'
theorem kids_del {w:World}{X:List Nat}{f:Nat}{s:ByteArray}{l:List Pr}{ps:List Value}{v:Value}(hps:ps.length=16) (hk:∀i,i<16→NodeAt w X f (kid f l i) (ps.getD i undef))
  (hv:NodeAt w X f (del s (kid f l (nib (pathOf s) (63 - f)))) v):∀i,i<16→NodeAt w X f (kid f (del s l) i) ((ps.set (nib (pathOf s) (63 - f)) v).getD i undef):=fun i hi=>by
 rw [setKid (by rw [hps];exact nib_lt _ _),kid_del];by_cases e:nib (pathOf s) (63 - f)=i
 ·rw [if_pos e,if_pos e,←e];exact hv
 ·rw [if_neg e,if_neg e];exact hk i hi
theorem without_nil (s:ByteArray) (f:Nat) (w:World) (X:List Nat) (d:Int):
  Calls Tryz.prog 232 #[nilP,.string s,.agg ((pathOf s).map bv).toArray,.int .i64 d] w fun e w'=>∃p',e= .returned p'∧NodeAt w' X f (del s []) p'∧Fr [] w w':=by
 obtain⟨D,HD⟩:∃z,Hid (pathOf s=z):=⟨_,zh rfl⟩
 rw [HD.o];unfold nilP;go_enter Tryz.func232,Tryz.ntmps232;go_wp2;go_ret;exact⟨_,rfl,node_nil.2 rfl,((Fr.refl _ _).alloc _).alloc _⟩
set_option maxRecDepth 100000 in
set_option maxHeartbeats 4000000 in
theorem without_branch (s:ByteArray) (f:Nat) (hf64:f<64) (IH:WithoutOk s f) (w:World) (X:List Nat) (l:List Pr) (p:Value) (hN:NodeAt w X (f+1) l p) (h2:2≤l.length) (hr:Rising l) (hsm:Small l) (hl:l.length≤10000) (hX:∀g∈X,g<w.heap.size):
  Calls Tryz.prog 232 #[p,.string s,.agg ((pathOf s).map bv).toArray,.int .i64 (64 - (f+1:Nat):Int)] w fun e w'=>∃p',e= .returned p'∧NodeAt w' X (f+1) (del s l) p'∧Fr [] w w':=by
 obtain⟨ps,⟨gq,kq,rfl,hgq,hkq,hBq,hKq,hps⟩,hkids⟩:=(node_branch h2).1 hN;have hplen:(pathOf s).length=32:=rfl;have hnlt:=nib_lt (pathOf s) (63 - f);obtain⟨D,HD⟩:∃z,Hid (pathOf s=z):=⟨_,zh rfl⟩
 have hdep:(64 - ((f+1:Nat):Int))=((63 - f:Nat):Int):=by omega
 rw [hdep];rw [HD.o]at hplen hnlt⊢;obtain⟨dp,HDP⟩:∃z,Hid (63 - f=z):=⟨_,zh rfl⟩
 have hdp:dp<64:=by have:=HDP.o;omega
 rw [HDP.o]at hnlt⊢;have c33:=(hBq.cell 33).trans (nodeCells_at (dig_length _ _)).2.1;have hql:=hBq.lt;have hkl:=hKq.lt;go_enter Tryz.func232,Tryz.ntmps232;go_upto_region 1 with(fail)
 refine wp_gen (fun W=>Blk W w.heap.size 9 #[.string s]∧Blk W (w.heap.size+1) 192 (digCells D)∧Fr [] w W) ⟨(Blk.new _ _ _).alloc _,Blk.new' _ _ (by simp),((Fr.refl _ _).alloc _).alloc _⟩ ?_;rintro W ⟨hBx,hBp,fW⟩;obtain⟨gx,HGX⟩:∃z,Hid (w.heap.size=z):=⟨_,zh rfl⟩
 rw [HGX.o]at hBx hBp⊢;obtain⟨gp,HGP⟩:∃z,Hid (gx+1=z):=⟨_,zh rfl⟩
 rw [HGP.o]at hBp⊢;have c33W:=cell_fr fW c33;have hKqW:=hKq.fr fW (by simp);clear c33;have hone:∀v∈ps,v.oneCell'=true:=by intro v hv;obtain⟨i,hi,rfl⟩:=List.mem_iff_getElem.1 hv;have:=node_form (hkids i (by omega));simpa [List.getD,List.getElem?_eq_getElem hi]using this
 have hone2:ps.toArray.all (·.oneCell')=true:=by rw [List.all_toArray,List.all_eq_true];exact hone
 go_upto_region 5 with(first
  | (refine wpList_load_at rfl 232 _ rfl rfl hKqW (sub_self _) tKidsU rfl (infoKids hps) ?_)
  | (refine wpList_store_row rfl 232 _ _ rfl W.heap.size ps.toArray rfl rfl 232 _ (Blk.new W 232 _) (infoKidsA hps) (by simp [hps]) hone2 ?_))
 refine wp_gen (fun W1=>Blk W1 W.heap.size 232 ps.toArray∧Blk W1 gx 9 #[.string s]∧Blk W1 gp 192 (digCells D)∧Fr [] W W1) ⟨Blk.setRow (Blk.new W 232 _) _,(hBx.alloc _).farRow (by have:=hBx.lt;omega) _,(hBp.alloc _).farRow (by have:=hBp.lt;omega) _,((Fr.refl _ _).alloc _).setRow (.inr (Nat.le_refl _)) _⟩ ?_;rintro W1 ⟨hK1,hBx1,hBp1,F1⟩;have f1:=fW.trans F1;have hgk0:w.heap.size≤W.heap.size:=fW.size;obtain⟨gK,HGK⟩:∃z,Hid (W.heap.size=z):=⟨_,zh rfl⟩
 rw [HGK.o]at hK1 hgk0⊢;have hgpK:gp<gK:=by have:=hBp.lt;have:=HGK.o;omega
 have hgxp:gx<gp:=by have:=HGP.o;omega
 clear hBx hBp fW F1 hKqW c33W;go_upto_region 6 with(first
  | (refine wpList_load_at rfl 192 _ rfl rfl hBp1 (digCells_sub D) uPath rfl (infoPathL hplen) ?_)
  | (go_at_call 164;refine(at_t _ D dp hplen hdp).mono ?_;rintro e W2 ⟨rfl,F2⟩))
 refine wp_gen (fun W2=>Blk W2 gK 232 ps.toArray∧Blk W2 gx 9 #[.string s]∧Blk W2 gp 192 (digCells D)∧Fr [] W1 W2) ⟨hK1.fr F2 (by simp),hBx1.fr F2 (by simp),hBp1.fr F2 (by simp),F2⟩ ?_;clear F2;rintro W2 ⟨hK2,hBx2,hBp2,F2⟩;have f2:=f1.trans F2;have hx1:=hBx2.cell 0;simp only [zG,zH]at hx1;obtain⟨q,HQ⟩:∃z,Hid (nib D dp=z):=⟨_,zh rfl⟩
 rw [HQ.o]at hnlt⊢;have hck:W2.cell? ⟨gK,q,none⟩=some (ps.getD q undef):=by rw [hK2.cell,zG];exact getD_some (by omega)
 have hkids2:∀i,i<16→NodeAt W2 (gK::X) f (kid f l i) (ps.getD i undef):=fun i hi=>(hkids i hi).go ⟨f2,by simp,fun y hy=>(List.mem_cons.1 hy).elim (fun e=> .inr (by rw [e];exact hgk0)) .inl⟩;have hNq:=hkids2 q hnlt;have hq16:(q:Int)<16:=by omega
 have hform:=node_form hNq;have IHD:=IH W2.drew (gK::X) (kid f l q) (ps.getD q undef) (hNq.fr0 (Fr.refl [] W2).drew) (kid_rising hr) (small_kid hsm) (by have:=kid_length_le f l q;omega) (fun g hg=>(List.mem_cons.1 hg).elim (fun e=>by rw [e];exact hK2.lt) (fun hg=>Nat.lt_of_lt_of_le (hX g hg) f2.size));rw [HD.o,show(64 - (f:Int))=(dp:Int)+1 by have:=HDP.o;omega]at IHD;obtain⟨pq,HPQ⟩:∃z,Hid (ps.getD q undef=z):=⟨_,zh rfl⟩
 rw [HPQ.o]at hck hNq IHD;have hxK:gx≠gK:=by omega
 have hpK:gp≠gK:=by omega
 have IHDh:=zh IHD;have hkids2h:=zh hkids2;have hkidsh:=zh hkids;have IHh:=zh IH;have hNqh:=zh hNq;clear IHD hkids2 hkids IH hNq;refine wp_region_held_drew (S:=fun w'=>w'.cell? ⟨gx,0,none⟩=some (.string s)∧w'.rangeAt gp 0 (D.map bv)) (by kernel_rfl) ⟨hx1,range_blk hBp2⟩ ?_;intro hHeld;refine wpAnyH_take (i:=0) (v:= ?_) rfl (by kernel_rfl) (by kernel_rfl) (by kernel_rfl) (fun _ _ _ h=>h) (Or.inl ⟨by rfl,?_⟩) hHeld ?_;rotate_left
 ·(intro w hSw;go_simp<;>with_reducible rfl)
 try simp only [Act.put,zD]
 refine wpAnyH_take (i:=1) (v:= ?_) rfl (by kernel_rfl) (by kernel_rfl) (by kernel_rfl) (fun _ _ _ h=>h) (Or.inl ⟨by rfl,?_⟩) hHeld ?_;rotate_left
 ·(intro w hSw;go_simp<;>with_reducible rfl)
 try simp only [Act.put]
 refine wpAnyH_take (i:=2) (v:= ?_) rfl (by kernel_rfl) (by kernel_rfl) (by kernel_rfl) (fun _ _ _ h=>h) (Or.inl ⟨by rfl,?_⟩) hHeld ?_;rotate_left
 ·(intro w hSw;go_simp<;>with_reducible rfl)
 try simp only [Act.put]
 refine wpAnyH_take (i:=4) (v:= ?_) rfl (by kernel_rfl) (by kernel_rfl) (by kernel_rfl) (fun _ _ _ h=>h) (Or.inl ⟨by rfl,?_⟩) hHeld ?_;rotate_left
 ·(intro w hSw;go_simp<;>with_reducible rfl)
 try simp only [Act.put]
 refine wpAnyH_take (i:=5) rfl (by kernel_rfl) (by kernel_rfl) (by kernel_rfl) (fun _ _ _ h=>h) (yieldsIf_load_mid (by rfl) 192 _ rfl gp 0 rfl (D.map bv) _ (fun w h=>h.2) uPath rfl (infoPathL hplen)) hHeld ?_;try simp only [Act.put]
 refine wpAnyH_take (i:=6) (v:= ?_) rfl (by kernel_rfl) (by kernel_rfl) (by kernel_rfl) (fun _ _ _ h=>h) (Or.inl ⟨by rfl,?_⟩) hHeld ?_;rotate_left
 ·(intro w hSw;go_simp<;>with_reducible rfl)
 try simp only [Act.put]
 refine wpAnyH_take (i:=7) (v:= ?_) rfl (by kernel_rfl) (by kernel_rfl) (by kernel_rfl) (fun _ _ _ h=>h) (Or.inl ⟨by rfl,?_⟩) hHeld ?_;rotate_left
 ·(intro w hSw;go_simp<;>with_reducible rfl)
 try simp only [Act.put]
 refine wpAnyH_ready (rs:= [3]) (by kernel_rfl) (by simp) ?_;refine AllReadyH.cons rfl (fun K hK=> ?_) AllReadyH.nil;go_simp;refine hK.out _ _ hHeld (fun hHeld=> ?_);clear hK K;try simp only [Act.put,zD,zE,zF]
 refine wpAnyH_ready (rs:= [8]) (by kernel_rfl) (by simp) ?_;refine AllReadyH.cons rfl (fun K hK=> ?_) AllReadyH.nil;go_simp;go_wp2_with fail
 rw [show IntKind.i64.wrap ((dp:Int)+1)=(dp:Int)+1 by rw [IntKind.wrap_i64];omega];refine IHDh.o.mono ?_;rintro e W3 ⟨p3,rfl,hN3,F3⟩;have F3':Fr [] W2 W3:=F3.of_drew;have hK3:=hK2.fr F3' (by simp);have hck3:W3.cell? ⟨gK,q,none⟩=some pq:=cell_fr F3' hck;have hz3:=hK3.frozen q;have hgK3:=hK3.lt;obtain⟨A3,rfl⟩:=node_ptr hN3;dsimp only;refine hK.out _ _ ⟨cell_fr F3' hx1,range_fr0 F3' (range_blk hBp2)⟩ (fun hHeld=> ?_);clear hK K IHDh;try simp only [Act.put,zD,zE,zF]
 refine wpAnyH_take (i:=9) (v:= ?_) rfl (by kernel_rfl) (by kernel_rfl) (by kernel_rfl) (fun _ _ _ h=>h) (Or.inl ⟨by rfl,?_⟩) hHeld ?_;rotate_left
 ·(intro w hSw;go_simp<;>with_reducible rfl)
 try simp only [Act.put,zD]
 refine wpAnyH_ready (rs:= [10]) (by kernel_rfl) (by simp) ?_;refine AllReadyH.cons rfl (fun K hK=> ?_) AllReadyH.nil;go_simp;refine hK.out _ _ ⟨cell_st hxK (cell_fr F3' hx1),range_st hpK (range_fr0 F3' (range_blk hBp2))⟩ (fun hHeld=> ?_);clear hK K;refine wpAnyH_done (by kernel_rfl) ?_ _;clear hx1 hBx2 hBp2 hBx1 hBp1 hHeld;go_upto_region 7 with(fail)
 refine wp_gen (fun W4=>Blk W4 gK 232 (ps.set q (.pointer A3)).toArray∧Fr [gK] W3 W4) ⟨?_,(Fr.refl _ _).setCell (p:=⟨gK,q,none⟩) (.inl (by simp)) _⟩ ?_
 ·have:=hK3.set q (.pointer A3);rwa [zD]at this
 rintro W4 ⟨hK4,F4⟩;have f4:Fr [] w W4:=(f2.trans F3').andThen F4 (fun z hz=> .inr (by simp at hz;omega));have hps4:(ps.set q (.pointer A3)).length=16:=by rw [List.length_set,hps]
 have hk4:∀i,i<16→NodeAt W4 (gK::X) f (kid f (del s l) i) ((ps.set q (.pointer A3)).getD i undef):=by
  have hq:q=nib (pathOf s) (63 - f):=by rw [HD.o,HDP.o,HQ.o]
  have hgo:∀{lz:List Pr}{z:Value},NodeAt W3 (gK::X) f lz z→NodeAt W4 (gK::X) f lz z:=fun h=>h.fr F4 (fun z hz=> .inl (by simp at hz;simp [hz]));rw [hq]at hN3⊢;exact kids_del hps (fun i hi=>hgo ((hkids2h.o i hi).fr0 F3')) (hgo hN3)
 have hpl:(del s l).length≤10000:=by have:=del_length_le s l;omega
 have hbr:=branch_t W4 (gK::X) f (del s l) (ps.set q (.pointer A3)) hps4 hk4 (fun g hg=>(List.mem_cons.1 hg).elim (fun e=>by rw [e];exact hK4.lt) (fun hg=>Nat.lt_of_lt_of_le (hX g hg) f4.size)) hpl;have h16:(Tryz.prog.info? 232).map (·.size)=some (ps.set q (.pointer A3)).toArray.toList.length:=by rw [Array.length_toList,List.size_toArray,hps4];kernel_rfl
 clear hkidsh hkids2h hk4 hN3 hNqh;go_wp2_with (first | (refine wpList_load_at rfl 232 _ rfl rfl hK4 (sub_self _) tKidsU rfl h16 ?_;rw [Array.toArray_toList]) | (go_at_call 166;refine hbr.mono ?_;rintro e W5 ⟨p5,rfl,hN5,F5⟩))
 go_ret;exact⟨_,rfl,hN5.go ⟨Fr.refl [] _,by simp,fun y hy=> .inl (List.mem_cons_of_mem _ hy)⟩,f4.trans F5⟩
set_option maxRecDepth 100000 in
set_option maxHeartbeats 4000000 in
theorem without_leaf (s:ByteArray) (f:Nat) (hf64:f≤64) (w:World) (X:List Nat) (l:List Pr) (p:Value) (D0:List UInt8) (hL:LeafAt w X D0 l p) (hD0:D0.length=32) (h0:l≠ []) (hcase:(∃y,l= [y])∨f=0) (_hr:Rising l) (hsm:Small l) (hl:l.length≤10000) (hX:∀g∈X,g<w.heap.size):
  Calls Tryz.prog 232 #[p,.string s,.agg ((pathOf s).map bv).toArray,.int .i64 (64 - f:Int)] w fun e w'=>∃p',e= .returned p'∧NodeAt w' X f (del s l) p'∧Fr [] w w':=by
 obtain⟨g,A,c,rfl,hg,hB,hR,hc,hA⟩:=hL;have hn0:0<l.length:=List.length_pos_iff.2 h0;obtain⟨n,hn⟩:∃n,l.length=n:=⟨_,rfl⟩
 rw [hn]at hB hR hc hA hn0 hl;obtain⟨b,o,rfl,hcell⟩:=hR.2 hn0;have c32:=(hB.cell 32).trans (nodeCells_at hD0).1;have c33:=(hB.cell 33).trans (nodeCells_at hD0).2.1;have hgl:=hB.lt;unfold nilP at c33;obtain⟨D,HD⟩:∃z,Hid (pathOf s=z):=⟨_,zh rfl⟩
 have hdep:(64 - (f:Int))=((64 - f:Nat):Int):=by omega
 rw [hdep,HD.o];obtain⟨dp,HDP⟩:∃z,Hid (64 - f=z):=⟨_,zh rfl⟩
 rw [HDP.o];go_enter Tryz.func232,Tryz.ntmps232;go_upto_region 1 with(fail)
 refine wp_gen (fun W=>Blk W w.heap.size 9 #[.string s]∧Fr [] w W) ⟨(Blk.new _ _ _).alloc _,((Fr.refl _ _).alloc _).alloc _⟩ ?_;rintro W ⟨hBx,fW⟩;have hx1:=hBx.cell 0;simp only [zG,zH]at hx1;have c32W:=cell_fr fW c32;have c33W:=cell_fr fW c33;have hRW:=Rd.fr hR fW (by simp [Off]);obtain⟨gx,HGX⟩:∃z,Hid (w.heap.size=z):=⟨_,zh rfl⟩
 rw [HGX.o]at hx1 hBx hgl⊢;have hcaseh:=zh hcase;clear c32 c33 hcell hR hcase;have hbp:(0:Int)<n:=by omega
 go_upto_region 8 with(fail)
 have f1:=fW;have hR1:=hRW;have hgxl:=hBx.lt;have hX1:∀z∈X,z<gx:=fun z hz=>by rw [←HGX.o];exact hX z hz
 clear hRW c33W hx1 fW;have hclone:=clone_t W ⟨b,o,none⟩ n c (pairCells l) hR1 (pairCells_one l) (by omega);go_wp2_with fail
 refine hclone.mono ?_;rintro e W2 ⟨v2,rfl,hO2,F2,hrow2⟩;have hBx2:=hBx.fr F2 (by simp);have hxc:W2.cell? ⟨gx,0,none⟩=some (.string s):=by rw [hBx2.cell];rfl
 have eg:∀args w,(callFunc 267 args).run Tryz.prog w= .ok (.enter 267 args) w:=enters_of Tryz.func267 (by kernel_rfl) rfl;have hdel:=delf_t W2 267 gx s (without1_p gx s) eg hxc v2 n l hO2 hn (by omega) (fun hm=>by have:=hrow2 gx hm;omega);clear hclone hR1 eg hxc c32W;go_wp2_with fail
 refine hdel.mono ?_;rintro e W3 ⟨v3,rfl,hO3,hrow3,F3⟩;have F13:Fr [] W W3:=(F2.nil.trans F3).mono' (fun z hz=> .inr (hrow2 z hz));obtain⟨A5,c5,rfl,hA5⟩:=hO3.form;have hdl:=del_length_le s l;have hsm2:Small (del s l):=⟨fun z hz=>hsm.1 z (List.mem_filter.1 hz).1,by omega⟩
 have hlaid:=laid_t W3 X f A5 _ c5 (del s l) hO3.rd rfl (fun h2=>by
  rcases hcaseh.o with⟨z,hz⟩ |hz
  ·exfalso;rw [hz]at h2 hdl;simp only [List.length_cons,List.length_nil]at hdl;omega
  ·exact hz) (own_cap hO3) (fun z hz=>by have:=hX1 z hz;have:=F13.size;omega) (fun _ ad e hz=>by
  have h1:=hrow2 ad.block (by rw [←hrow3];simp [rowOf,Value.ownBlock,e]);have h2:=hX1 _ hz;omega) hsm2
 clear hdel hO3 hO2 F2 F3;go_wp2_with (go_at_call 165;refine hlaid.mono ?_;rintro e W6 ⟨p6,rfl,hN6,F6⟩)
 go_ret;exact⟨_,rfl,hN6,f1.trans (F13.trans F6)⟩
theorem without_t (s:ByteArray):∀f,f≤64→WithoutOk s f
 | 0,_=>fun w X l p hN hr hs hl hX=>by
  match l,hN with
  | [],hN=>rw [node_nil.1 hN];exact without_nil s 0 w X _
  | [y],hN=>exact without_leaf s 0 (by omega) w X [y] p _ (node_one.1 hN) rfl (by simp) (.inr rfl) hr hs hl hX
  |y::z::l,hN=>exact without_leaf s 0 (by omega) w X _ p _ ((node_leaf (by simp)).1 hN) rfl (by simp) (.inr rfl) hr hs hl hX
 |f+1,hf=>fun w X l p hN hr hs hl hX=>by
  have IH:=without_t s f (by omega);match l,hN with
  | [],hN=>rw [node_nil.1 hN];exact without_nil s (f+1) w X _
  | [y],hN=>exact without_leaf s (f+1) hf w X [y] p _ (node_one.1 hN) rfl (by simp) (.inl ⟨y,rfl⟩) hr hs hl hX
  |y::z::l,hN=>exact without_branch s f (by omega) IH w X _ p hN (by simp) hr hs hl hX
end Go.Proofs.YtpmgepijkhaonaaGreat.T
