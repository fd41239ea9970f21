/- Walks of forms: a text as pairs. Conditions: each theorem's own. -/
import Derived.Test.YtopfcgpeaaehgaaGreatDoorAg
namespace Go.Proofs.YtopfcgpeaaehgaaGreatDoor
open Go.RowKit Go.Sig
attribute [local go_sem] Oper.semAt_some
def FParsePost (w:World) (r:Prs×Int) (e:Ending) (w':World):Prop:=
 ∃A c,e= .returned (.tuple #[.slice A r.1.length c,.int .i64 r.2])∧Sig.Own w' 56 2 (.slice A r.1.length c) r.1.length (prCells r.1)∧(∀g,g∈rowOf (.slice A r.1.length c)→w.heap.size≤g)∧Fr [] w w'
theorem tPrs:SliceTy Tryz.prog 51 56 2 32 (.agg #[.string ⟨#[]⟩,.string ⟨#[]⟩]):=⟨by kernel_rfl,by kernel_rfl,rfl,by decide⟩
theorem rd_pr (y:ByteArray×ByteArray) {w:World}{g:Nat}{t:TypeId}(h:Blk w g t #[.string y.1,.string y.2]):Rd w 2 (some ⟨g,0,none⟩) 1 (prCells [y]):=by
 refine⟨rfl,fun _=>⟨g,0,rfl,fun j u hu=> ?_⟩⟩;rw [h.cell,Nat.zero_add];simpa [prCells]using hu
theorem parseGo_cons (p:List UInt8) (ps:List (List UInt8)) (acc:Prs):parseGo (p::ps) acc=if acc.length=64 then([],2)else match pairF p with
  |none=>([],3)
  |some x=>parseGo ps (acc++ [x]):=rfl
def PaIn (w:World) (B:Nat) (pre:List (List UInt8)) (W:World):Prop:=
 ∃(acc:Prs) (A:Option Addr) (c:Nat),Blk W (B+2) 51 #[.slice A acc.length c]∧Sig.Own W 56 2 (.slice A acc.length c) acc.length (prCells acc)∧(∀g∈rowOf (.slice A acc.length c),B+6≤g)∧
  Blk W B 51 #[.slice none 0 0]∧Blk W (B+1) 30 #[.int .i64 0]∧Fr [] w W∧acc.length≤64∧∀rest,parseGo (pre++rest) []=parseGo rest acc
def PaBad (w:World) (B:Nat) (c:Code) (pre:List (List UInt8)) (W:World):Prop:=
 c= .ret∧∃er:Int,Blk W B 51 #[.slice none 0 0]∧Blk W (B+1) 30 #[.int .i64 er]∧Fr [] w W∧∀rest,parseGo (pre++rest) []=([],er)
set_option maxRecDepth 100000 in
set_option maxHeartbeats 4000000 in
theorem fparse_t (w:World) (s:ByteArray) (hs:s.size≤140737488351232):Calls Tryz.prog 30 #[.string s] w (FParsePost w (parseF s)):=by
 by_cases hbig:16384<s.size
 ·have hb':(16384:Int)<s.size:=by omega
  have e:parseF s=([],2):=by unfold parseF;rw [if_pos hbig]
  rw [e];clear e hbig;go_enter Tryz.func30,Tryz.ntmps30;go_upto_region 2 with(fail)
  refine wp_gen (fun W=>Blk W w.heap.size 51 #[.slice none 0 0]∧Blk W (w.heap.size+1) 30 #[.int .i64 0]∧Fr [] w W) ⟨(Blk.new _ _ _).alloc _,Blk.new' _ _ (by simp),((Fr.refl _ _).alloc _).alloc _⟩ ?_;rintro W ⟨b0,b1,fW⟩;obtain⟨B,hB⟩:∃z,Hid (w.heap.size=z):=⟨_,zh rfl⟩
  rw [hB.o]at b0 b1⊢;have e0:=b0.cell 0;have e1:=b1.cell 0;have z0:=b0.frozen 0;have z1:=b1.frozen 0;simp only [zG,zH]at e0 e1;have b0h:=zh b0;have b1h:=zh b1;clear b0 b1;go_wp2_with fail
  have F4:Fr [B,B+1] W ((W.setCell ⟨B,0,none⟩ (.slice none 0 0)).setCell ⟨B+1,0,none⟩ (.int .i64 2)):=((Fr.refl _ _).setCell (.inl (by simp)) _).setCell (.inl (by simp)) _;have c0:Blk ((W.setCell ⟨B,0,none⟩ (.slice none 0 0)).setCell ⟨B+1,0,none⟩ (.int .i64 2)) B 51 #[.slice none 0 0]:=by have:=(b0h.o.set 0 (.slice none 0 0)).far (p:=⟨B+1,0,none⟩) (by simp) (.int .i64 2);simpa using this
  have c1:Blk ((W.setCell ⟨B,0,none⟩ (.slice none 0 0)).setCell ⟨B+1,0,none⟩ (.int .i64 2)) (B+1) 30 #[.int .i64 2]:=by have:=(b1h.o.far (p:=⟨B,0,none⟩) (by simp) (.slice none 0 0)).set 0 (.int .i64 2);simpa using this
  have d0:=c0.cell 0;have d1:=c1.cell 0;simp only [zG,zH]at d0 d1;refine bodyPost_ret (v:= .tuple #[.slice none 0 0,.int .i64 2]) (by simp [results,Tryz.results30,go_sem,d0,d1]) rfl ?_;exact⟨none,0,rfl,Sig.Own.nil _ _ _,by simp [rowOf,Value.ownBlock],fW.andThen F4 (fun g hg=> .inr (by have:=hB.o;simp at hg;omega))⟩
 ·have hb':¬(16384:Int)<s.size:=by omega
  have hres:=zh (show parseF s=parseGo (pcs s.data.toList []) [] by unfold parseF;rw [if_neg hbig]);refine(callsIn_wide (n:=6)).1 ?_;refine callsIn_of_wp_marks Tryz.func30 rfl trivial ?_ rfl;simp only [Tryz.ntmps30,List.size_toArray,List.length_cons,List.length_nil,Nat.reduceAdd,Nat.reduceSub,Array.replicate_succ,Array.replicate_zero,List.push_toArray,List.append_toArray,List.nil_append,List.cons_append]
  gi_wp2_with (refine wide_call2 (pieces_t _ s) ?_;rintro e w' ⟨rfl,rfl⟩)
  refine wpIn_gen (fun W=>Blk W w.heap.size 51 #[.slice none 0 0]∧Blk W (w.heap.size+1) 30 #[.int .i64 0]∧Blk W (w.heap.size+2) 51 #[.slice none 0 0]∧Blk W (w.heap.size+3) 9 #[.string s]∧Fr [] w W∧W.heap.size=w.heap.size+4) ?_ ?_
  ·exact⟨(((Blk.new _ _ _).alloc _).alloc _).alloc _,((Blk.new' _ _ (by simp)).alloc _).alloc _,(Blk.new' _ _ (by simp)).alloc _,Blk.new' _ _ (by simp),((((Fr.refl _ _).alloc _).alloc _).alloc _).alloc _,by simp⟩
  rintro W0 ⟨bR,bE,bL,bS,fW,hsz⟩;obtain⟨B,hB⟩:∃z,Hid (w.heap.size=z):=⟨_,zh rfl⟩
  simp only [Nat.add_assoc,Nat.reduceAdd];rw [hB.o]at bR bE bL bS hsz⊢;have sz:s.data.toList.length=s.size:=by rw [Array.length_toList];rfl
  refine wpIn_rangeFunc_ch rfl (by decide) (gf:=114) (lb:=#[.pointer (some ⟨B+3,0,none⟩)]) rfl trivial (enters_of Tryz.func114 (by kernel_rfl) rfl) (enc:=fun x:List UInt8=> .string (bA x)) (Ch:= [B+3]) (S:=fun xs=>xs=pcs s.data.toList []) (Sp:=fun pre=>∃rest,pre++rest=pcs s.data.toList []) (Ok:=fun x=>x.length≤s.data.toList.length)
   (fun b hb=>by simp at hb;omega) (fun l J Jx W hF hJ hY h0=>piecesA_in _ l (B+3) s.data.toList J Jx hJ hY W (by omega) (by rw [bA_lst];exact bS.fr hF (by simp)) h0) rfl
   (PaIn w B) (PaBad w B) ?hI ?hIx ?h0
   (fun x:List UInt8=>{tmps:=#[.string s,undef,.pointer (some ⟨B,0,none⟩),.pointer (some ⟨B+1,0,none⟩),.pointer (some ⟨B+2,0,none⟩),.string (bA x),undef,undef,undef,undef,undef,undef,undef,.string s,.int .i64 s.size,.bool false,.string s,.func (.func 114) #[] #[.pointer (some ⟨B+3,0,none⟩)],.string (bA x),undef,undef,undef,undef,undef,undef,undef,undef,undef,undef,undef,undef,undef,undef,undef,undef,undef,undef,undef,undef,undef,undef,undef,undef,undef,undef,undef,undef,undef,undef,undef,undef],defers:= []})
   ?assign ?body ?done ?stop
  case hI=>rintro pre A' B' ⟨acc,A,c,b2,hO,hR,b0,b1,hF,hl,hp⟩ hf;rw [hsz]at hf;exact⟨acc,A,c,b2.fr hf (by simp),hO.fr hf (fun g hg hx=>by have:=hR g hg;simp at hx;omega),hR,b0.fr hf (by simp;omega),b1.fr hf (by simp),hF.andThen hf (fun g hg=> .inr (by have:=hB.o;simp at hg;omega)),hl,hp⟩
  case hIx=>rintro c pre A' B' ⟨hc,er,b0,b1,hF,hp⟩ hf;rw [hsz]at hf;exact⟨hc,er,b0.fr hf (by simp;omega),b1.fr hf (by simp),hF.andThen hf (fun g hg=> .inr (by have:=hB.o;simp at hg;omega)),hp⟩
  case h0=>exact⟨[],none,0,bL,Sig.Own.nil _ _ _,by simp [rowOf,Value.ownBlock],bR,bE,fW,by simp,fun rest=>rfl⟩
  case assign=>
   intro l x W K hK
   gi_wp2
   exact hK
  case body=>
   rintro l pre x W ⟨acc,A,c,b2,hO,hR,b0,b1,hF,hl,hp⟩ hx hWs;rw [hsz]at hWs;rw [sz]at hx;have e2:=b2.cell 0;have e0:=b0.cell 0;have e1:=b1.cell 0;have z0:=b0.frozen 0;have z1:=b1.frozen 0;simp only [zG,zH]at e0 e1 e2;have b2h:=zh b2;have b1h:=zh b1;have b0h:=zh b0;have hOh:=zh hO;have hRh:=zh hR;have hFh:=zh hF;have hph:=zh hp;have hkept:Hid (∀W',Fr [B,B+1] W W'→∀b∈ [W0.heap.size,W0.heap.size+1,B+3],W'.heap[b]? =W.heap[b]?):=zh fun W' hf b hb=>hf.block b (by rw [hsz]at hb;simp at hb;omega) (by rw [hsz]at hb;simp at hb⊢;omega);have hbadF:Hid (∀W',Fr [B,B+1] W W'→Fr [] w W'):=zh fun W' hf=>hFh.o.andThen hf (fun g hg=> .inr (by have:=hB.o;simp at hg;omega));clear b0 b1 b2 hO hR hF hp;obtain⟨n2,hn2⟩:∃z,Hid (acc.length=z):=⟨_,zh rfl⟩
   rw [hn2.o]at e2 b2h hOh hRh hl;by_cases h64:n2=64
   ·have t0:((n2:Int)==64)=true:=by rw [beq_iff_eq];omega
    have h64h:=zh h64;clear h64
    gi_wp2
    have F2:Fr [B,B+1] W ((W.setCell ⟨B,0,none⟩ (.slice none 0 0)).setCell ⟨B+1,0,none⟩ (.int .i64 2)):=((Fr.refl _ _).setCell (.inl (by simp)) _).setCell (.inl (by simp)) _;refine⟨hkept.o _ F2,rfl,2,by have:=(b0h.o.set 0 (.slice none 0 0)).far (p:=⟨B+1,0,none⟩) (by simp) (.int .i64 2);simpa using this,by have:=(b1h.o.far (p:=⟨B,0,none⟩) (by simp) (.slice none 0 0)).set 0 (.int .i64 2);simpa using this,hbadF.o _ F2,fun rest=> ?_⟩;rw [List.append_assoc,hph.o,List.singleton_append,parseGo_cons,if_pos (by rw [hn2.o];exact h64h.o)]
   ·have t0:((n2:Int)==64)=false:=by rw [beq_eq_false_iff_ne];omega
    have h64h:=zh h64;clear h64;have hc:=cut_t W (bA x) 61 (by show x.toArray.size≤_;simp;omega);unfold CutPost at hc;rw [lst_bA]at hc;have hcl:=cutL_len (c:=61) x;obtain⟨⟨a,b,f⟩,hcut⟩:∃z,Hid (cutL 61 x=z):=⟨_,zh rfl⟩
    rw [hcut.o]at hc hcl;simp only at hc hcl;have hal:a.length≤16384:=by omega
    have hbl:b.length≤16384:=by omega
    clear hcl z0 z1 e0 e1;cases hA:unqL a with
    |none=>cases hBv:unqL b with
     |none=>
      have HU1:∀W',Calls Tryz.prog 78 #[.string (bA a)] W' fun e w'=>e= .returned (.tuple #[.string ⟨#[]⟩,.int .i64 3])∧Fr [] W' w':=fun W'=>by have:=unq_t W' (bA a) (by show a.toArray.size≤_;simp;omega);rw [lst_bA,hA]at this;exact this
      have HU2:∀W',Calls Tryz.prog 78 #[.string (bA b)] W' fun e w'=>e= .returned (.tuple #[.string ⟨#[]⟩,.int .i64 3])∧Fr [] W' w':=fun W'=>by have:=unq_t W' (bA b) (by show b.toArray.size≤_;simp;omega);rw [lst_bA,hBv]at this;exact this
      have hpairh:=zh (show pairF x=none by unfold pairF;rw [hcut.o];simp only [hA,hBv]);clear hA hBv
      gi_wp2_with (first
       | (refine round_call2 hc ?_;clear hc;rintro e W1 ⟨rfl,f1⟩;have hu1:=HU1 W1;have g1:=zh f1;clear f1)
       | (refine round_call2 hu1 ?_;clear hu1;rintro e W2 ⟨rfl,f2⟩;have hu2:=HU2 W2;have g2:=zh (g1.o.trans f2);clear f2)
       | (refine round_call2 hu2 ?_;clear hu2;rintro e W3 ⟨rfl,f3⟩;have g3:=zh (g2.o.trans f3);have e0:=(b0h.o.fr g3.o (by simp)).cell 0;have e1:=(b1h.o.fr g3.o (by simp)).cell 0;have e2:=(b2h.o.fr g3.o (by simp)).cell 0;have z0:=(b0h.o.fr g3.o (by simp)).frozen 0;have z1:=(b1h.o.fr g3.o (by simp)).frozen 0;have hO3:=zh (hOh.o.fr g3.o (by simp));simp only [zG,zH]at e0 e1 e2;clear f3))
      have F2:Fr [B,B+1] W ((W3.setCell ⟨B,0,none⟩ (.slice none 0 0)).setCell ⟨B+1,0,none⟩ (.int .i64 3)):=(g3.o.nil.setCell (.inl (by simp)) _).setCell (.inl (by simp)) _;refine⟨hkept.o _ F2,rfl,3,by have:=((b0h.o.fr g3.o (by simp)).set 0 (.slice none 0 0)).far (p:=⟨B+1,0,none⟩) (by simp) (.int .i64 3);simpa using this,by have:=((b1h.o.fr g3.o (by simp)).far (p:=⟨B,0,none⟩) (by simp) (.slice none 0 0)).set 0 (.int .i64 3);simpa using this,hbadF.o _ F2,fun rest=> ?_⟩;rw [List.append_assoc,hph.o,List.singleton_append,parseGo_cons,if_neg (by rw [hn2.o];exact h64h.o),hpairh.o]
     |some vb=>
      have HU1:∀W',Calls Tryz.prog 78 #[.string (bA a)] W' fun e w'=>e= .returned (.tuple #[.string ⟨#[]⟩,.int .i64 3])∧Fr [] W' w':=fun W'=>by have:=unq_t W' (bA a) (by show a.toArray.size≤_;simp;omega);rw [lst_bA,hA]at this;exact this
      have HU2:∀W',Calls Tryz.prog 78 #[.string (bA b)] W' fun e w'=>e= .returned (.tuple #[.string (bA vb),.int .i64 0])∧Fr [] W' w':=fun W'=>by have:=unq_t W' (bA b) (by show b.toArray.size≤_;simp;omega);rw [lst_bA,hBv]at this;exact this
      have hpairh:=zh (show pairF x=none by unfold pairF;rw [hcut.o];simp only [hA,hBv]);clear hA hBv
      gi_wp2_with (first
       | (refine round_call2 hc ?_;clear hc;rintro e W1 ⟨rfl,f1⟩;have hu1:=HU1 W1;have g1:=zh f1;clear f1)
       | (refine round_call2 hu1 ?_;clear hu1;rintro e W2 ⟨rfl,f2⟩;have hu2:=HU2 W2;have g2:=zh (g1.o.trans f2);clear f2)
       | (refine round_call2 hu2 ?_;clear hu2;rintro e W3 ⟨rfl,f3⟩;have g3:=zh (g2.o.trans f3);have e0:=(b0h.o.fr g3.o (by simp)).cell 0;have e1:=(b1h.o.fr g3.o (by simp)).cell 0;have e2:=(b2h.o.fr g3.o (by simp)).cell 0;have z0:=(b0h.o.fr g3.o (by simp)).frozen 0;have z1:=(b1h.o.fr g3.o (by simp)).frozen 0;have hO3:=zh (hOh.o.fr g3.o (by simp));simp only [zG,zH]at e0 e1 e2;clear f3))
      have F2:Fr [B,B+1] W ((W3.setCell ⟨B,0,none⟩ (.slice none 0 0)).setCell ⟨B+1,0,none⟩ (.int .i64 3)):=(g3.o.nil.setCell (.inl (by simp)) _).setCell (.inl (by simp)) _;refine⟨hkept.o _ F2,rfl,3,by have:=((b0h.o.fr g3.o (by simp)).set 0 (.slice none 0 0)).far (p:=⟨B+1,0,none⟩) (by simp) (.int .i64 3);simpa using this,by have:=((b1h.o.fr g3.o (by simp)).far (p:=⟨B,0,none⟩) (by simp) (.slice none 0 0)).set 0 (.int .i64 3);simpa using this,hbadF.o _ F2,fun rest=> ?_⟩;rw [List.append_assoc,hph.o,List.singleton_append,parseGo_cons,if_neg (by rw [hn2.o];exact h64h.o),hpairh.o]
    |some na=>cases hBv:unqL b with
     |none=>
      have HU1:∀W',Calls Tryz.prog 78 #[.string (bA a)] W' fun e w'=>e= .returned (.tuple #[.string (bA na),.int .i64 0])∧Fr [] W' w':=fun W'=>by have:=unq_t W' (bA a) (by show a.toArray.size≤_;simp;omega);rw [lst_bA,hA]at this;exact this
      have HU2:∀W',Calls Tryz.prog 78 #[.string (bA b)] W' fun e w'=>e= .returned (.tuple #[.string ⟨#[]⟩,.int .i64 3])∧Fr [] W' w':=fun W'=>by have:=unq_t W' (bA b) (by show b.toArray.size≤_;simp;omega);rw [lst_bA,hBv]at this;exact this
      have hpairh:=zh (show pairF x=none by unfold pairF;rw [hcut.o];simp only [hA,hBv]);clear hA hBv
      gi_wp2_with (first
       | (refine round_call2 hc ?_;clear hc;rintro e W1 ⟨rfl,f1⟩;have hu1:=HU1 W1;have g1:=zh f1;clear f1)
       | (refine round_call2 hu1 ?_;clear hu1;rintro e W2 ⟨rfl,f2⟩;have hu2:=HU2 W2;have g2:=zh (g1.o.trans f2);clear f2)
       | (refine round_call2 hu2 ?_;clear hu2;rintro e W3 ⟨rfl,f3⟩;have g3:=zh (g2.o.trans f3);have e0:=(b0h.o.fr g3.o (by simp)).cell 0;have e1:=(b1h.o.fr g3.o (by simp)).cell 0;have e2:=(b2h.o.fr g3.o (by simp)).cell 0;have z0:=(b0h.o.fr g3.o (by simp)).frozen 0;have z1:=(b1h.o.fr g3.o (by simp)).frozen 0;have hO3:=zh (hOh.o.fr g3.o (by simp));simp only [zG,zH]at e0 e1 e2;clear f3))
      have F2:Fr [B,B+1] W ((W3.setCell ⟨B,0,none⟩ (.slice none 0 0)).setCell ⟨B+1,0,none⟩ (.int .i64 3)):=(g3.o.nil.setCell (.inl (by simp)) _).setCell (.inl (by simp)) _;refine⟨hkept.o _ F2,rfl,3,by have:=((b0h.o.fr g3.o (by simp)).set 0 (.slice none 0 0)).far (p:=⟨B+1,0,none⟩) (by simp) (.int .i64 3);simpa using this,by have:=((b1h.o.fr g3.o (by simp)).far (p:=⟨B,0,none⟩) (by simp) (.slice none 0 0)).set 0 (.int .i64 3);simpa using this,hbadF.o _ F2,fun rest=> ?_⟩;rw [List.append_assoc,hph.o,List.singleton_append,parseGo_cons,if_neg (by rw [hn2.o];exact h64h.o),hpairh.o]
     |some vb=>
      have HU1:∀W',Calls Tryz.prog 78 #[.string (bA a)] W' fun e w'=>e= .returned (.tuple #[.string (bA na),.int .i64 0])∧Fr [] W' w':=fun W'=>by have:=unq_t W' (bA a) (by show a.toArray.size≤_;simp;omega);rw [lst_bA,hA]at this;exact this
      have HU2:∀W',Calls Tryz.prog 78 #[.string (bA b)] W' fun e w'=>e= .returned (.tuple #[.string (bA vb),.int .i64 0])∧Fr [] W' w':=fun W'=>by have:=unq_t W' (bA b) (by show b.toArray.size≤_;simp;omega);rw [lst_bA,hBv]at this;exact this
      have hpairh:=zh (show pairF x=some (bA na,bA vb) by unfold pairF;rw [hcut.o];simp only [hA,hBv]);clear hA hBv
      gi_wp2_with (first
       | (refine round_call2 hc ?_;clear hc;rintro e W1 ⟨rfl,f1⟩;have hu1:=HU1 W1;have g1:=zh f1;clear f1)
       | (refine round_call2 hu1 ?_;clear hu1;rintro e W2 ⟨rfl,f2⟩;have hu2:=HU2 W2;have g2:=zh (g1.o.trans f2);clear f2)
       | (refine round_call2 hu2 ?_;clear hu2;rintro e W3 ⟨rfl,f3⟩;have g3:=zh (g2.o.trans f3);have e0:=(b0h.o.fr g3.o (by simp)).cell 0;have e1:=(b1h.o.fr g3.o (by simp)).cell 0;have e2:=(b2h.o.fr g3.o (by simp)).cell 0;have z0:=(b0h.o.fr g3.o (by simp)).frozen 0;have z1:=(b1h.o.fr g3.o (by simp)).frozen 0;have hO3:=zh (hOh.o.fr g3.o (by simp));simp only [zG,zH]at e0 e1 e2;clear f3)
       | (refine wpListIn_own_append tPrs (hO3.o.fr ((Fr.refl [] _).alloc _) (by simp)) (rd_pr (bA na,bA vb) (Blk.new _ _ _)) (prCells_one _) (by simp) (by unfold maxLen;omega) (by omega) rfl rfl rfl rfl (fun v2 w2 p1 p2 p3=> ?_);obtain⟨A3,c3,rfl,hA3⟩:=p1.form;have b2w:=zh ((((b2h.o.fr g3.o (by simp)).alloc _)).fr p2 (fun hg=>by have:=hRh.o _ hg;omega));have e2w:=b2w.o.cell 0;have z2w:=b2w.o.frozen 0;simp only [zG,zH]at e2w))
      have F5:Fr ((B+2)::rowOf (.slice A n2 c)) W (w2.setCell ⟨B+2,0,none⟩ (.slice A3 (n2+1) c3)):=((g3.o.nil.alloc _).trans (p2.mono fun i hi=>List.mem_cons_of_mem _ hi)).setCell (.inl (by simp)) _;have hsz3:=g3.o.size;have hrow3:∀g∈rowOf (.slice A3 (n2+1) c3),B+6≤g:=fun g hg=>(p3 g hg).elim (hRh.o g) (fun h=>by rw [h,World.size_alloc];omega);refine⟨fun b hb=>F5.block b (by rw [hsz]at hb;simp at hb;omega) (fun hg=> ?_),acc++ [(bA na,bA vb)],A3,c3,?_,?_,?_,?_,?_,?_,?_,fun rest=> ?_⟩
      ·rw [hsz]at hb;rcases List.mem_cons.1 hg with h |h
       ·simp at hb;omega
       ·have:=hRh.o b h;simp at hb;omega
      ·have:=b2w.o.set 0 (.slice A3 (n2+1) c3);rw [List.length_append,hn2.o,List.length_singleton];simpa using this
      ·rw [List.length_append,hn2.o,List.length_singleton,prCells_append];exact p1.fr ((Fr.refl [B+2] _).setCell (.inl (by simp)) _) (fun g hg hx=>by have:=hrow3 g hg;simp at hx;omega)
      ·rw [List.length_append,hn2.o,List.length_singleton];exact hrow3
      ·exact b0h.o.fr F5 (fun hg=>by exact(List.mem_cons.1 hg).elim (fun h=>by omega) (fun h=>by have:=hRh.o _ h;omega))
      ·exact b1h.o.fr F5 (fun hg=>by exact(List.mem_cons.1 hg).elim (fun h=>by omega) (fun h=>by have:=hRh.o _ h;omega))
      ·exact hFh.o.andThen F5 (fun g hg=> .inr (by have:=hB.o;exact(List.mem_cons.1 hg).elim (fun h=>by omega) (fun h=>by have:=hRh.o _ h;omega)))
      ·rw [List.length_append,hn2.o,List.length_singleton];have:=h64h.o;omega
      ·rw [List.append_assoc,hph.o,List.singleton_append,parseGo_cons,if_neg (by rw [hn2.o];exact h64h.o),hpairh.o]
  case done=>
   rintro xs W rfl ⟨acc,A,c,b2,hO,hR,b0,b1,hF,hl,hp⟩ hK;have hfin:=hp [];rw [List.append_nil]at hfin;have hrs:Hid (parseF s=(acc,0)):=zh (by rw [hres.o,hfin];rfl);have e2:=b2.cell 0;have e0:=b0.cell 0;have e1:=b1.cell 0;have z0:=b0.frozen 0;have z1:=b1.frozen 0;simp only [zG,zH]at e0 e1 e2;have b0h:=zh b0;have b1h:=zh b1;have hOh:=zh hO;have hKh:=zh hK;clear b0 b1 b2 hO hK hp hfin
   gi_wp2
   have F4:Fr [B,B+1] W ((W.setCell ⟨B,0,none⟩ (.slice A acc.length c)).setCell ⟨B+1,0,none⟩ (.int .i64 0)):=((Fr.refl _ _).setCell (.inl (by simp)) _).setCell (.inl (by simp)) _;have c0:Blk ((W.setCell ⟨B,0,none⟩ (.slice A acc.length c)).setCell ⟨B+1,0,none⟩ (.int .i64 0)) B 51 #[.slice A acc.length c]:=by have:=(b0h.o.set 0 (.slice A acc.length c)).far (p:=⟨B+1,0,none⟩) (by simp) (.int .i64 0);simpa using this
   have c1:Blk ((W.setCell ⟨B,0,none⟩ (.slice A acc.length c)).setCell ⟨B+1,0,none⟩ (.int .i64 0)) (B+1) 30 #[.int .i64 0]:=by have:=(b1h.o.far (p:=⟨B,0,none⟩) (by simp) (.slice A acc.length c)).set 0 (.int .i64 0);simpa using this
   have hWs:=lt_of_heap hKh.o;have hK4:=(F4.block W0.heap.size hWs (by rw [hsz];simp)).trans hKh.o;generalize((W.setCell ⟨B,0,none⟩ (.slice A acc.length c)).setCell ⟨B+1,0,none⟩ (.int .i64 0))=W4 at F4 c0 c1 hK4⊢;have F5:Fr [B,B+1,W0.heap.size] W (W4.putObj W0.heap.size (.deferred none)):=(F4.mono (by simp)).putObj (.inl (by simp)) _;have F45:Fr [W0.heap.size] W4 (W4.putObj W0.heap.size (.deferred none)):=(Fr.refl _ _).putObj (.inl (by simp)) _;refine⟨by simp,.inl ⟨_,_,rfl,run_takeDeferred hK4,?_⟩⟩;have d0:=(c0.fr F45 (by rw [hsz];simp)).cell 0;have d1:=(c1.fr F45 (by rw [hsz];simp)).cell 0;simp only [zG,zH]at d0 d1;refine⟨.tuple #[.slice A acc.length c,.int .i64 0],by simp [results,Tryz.results30,go_sem,d0,d1],?_⟩;rw [hrs.o];refine⟨A,c,rfl,hOh.o.fr F5 (fun g hg hx=>by have:=hR g hg;rw [hsz]at hx;simp at hx;omega),fun g hg=>by have:=hR g hg;have:=hB.o;omega,hF.andThen F5 (fun g hg=> .inr (by have:=hB.o;rw [hsz]at hg;simp at hg;omega))⟩
  case stop=>
   rintro c pre W ⟨rest,hrest⟩ ⟨rfl,er,b0,b1,hF,hp⟩ hK;have hrs:Hid (parseF s=([],er)):=zh (by rw [hres.o,←hrest,hp]);have hWs:=lt_of_heap hK
   gi_wp2
   have F45:Fr [W0.heap.size] W (W.putObj W0.heap.size (.deferred none)):=(Fr.refl _ _).putObj (.inl (by simp)) _;refine⟨by simp,.inl ⟨_,_,rfl,run_takeDeferred hK,?_⟩⟩;have d0:=(b0.fr F45 (by rw [hsz];simp)).cell 0;have d1:=(b1.fr F45 (by rw [hsz];simp)).cell 0;simp only [zG,zH]at d0 d1;refine⟨.tuple #[.slice none 0 0,.int .i64 er],by simp [results,Tryz.results30,go_sem,d0,d1],?_⟩;rw [hrs.o];exact⟨none,0,rfl,Sig.Own.nil _ _ _,by simp [rowOf,Value.ownBlock],hF.andThen F45 (fun g hg=> .inr (by have:=hB.o;simp at hg;omega))⟩
end Go.Proofs.YtopfcgpeaaehgaaGreatDoor
