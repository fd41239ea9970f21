/- Walks: tag and Make of a token. Conditions: each theorem's own. -/
import Derived.Test.YtopfcgpeaaehgaaGreatDoorAu
namespace Go.Proofs.YtopfcgpeaaehgaaGreatDoor
open Go.RowKit Go.Sig
theorem byts_pre {w:World}{g:Nat}{t:TypeId}{l:List UInt8}(k:Nat) (h:Blk w g t (digCells l)) (hl:l.length=32) (hk:k≤32):Byts w (some ⟨g,0,none⟩) k (l.take k):=
 ⟨by rw [List.length_map,List.length_take,hl];omega,fun _=>⟨g,0,rfl,fun j u hu=>by
  rw [Nat.zero_add,h.cell];unfold digCells;rw [zG];rw [List.getElem?_map]at hu⊢;have hj:j<k:=by
   rcases Nat.lt_or_ge j k with h1 |h1
   ·exact h1
   ·rw [List.getElem?_eq_none (by rw [List.length_take];omega)]at hu;cases hu
  rwa [List.getElem?_take_of_lt hj]at hu⟩⟩
set_option maxRecDepth 100000 in
set_option maxHeartbeats 400000 in
theorem tag_t (w:World) (A:Option Addr) (n c:Nat) (key:List UInt8) (hk:Byts w A n key) (hc:n≤c) (hmax:n≤140737488351232) (s:ByteArray) (hs:s.size≤1000000):
  Calls Tryz.prog 97 #[.slice A n c,.string s] w fun e w'=>e= .returned (.string (bA (tagL key s.data.toList)))∧Fr [] w w':=by
 obtain⟨cW,cC,hcc,hcF,hcB,hcS,hcG⟩:=conv_any s;have hkh:=zh hk;have hsl:s.data.toList.length=s.size:=by simp only [Array.length_toList];rfl
 have hmac:∀V g,Fr [] (cW w) V→Blk V g 23 #[.slice (some ⟨w.heap.size,0,none⟩) s.size (cC w)]→Calls Tryz.prog 132 #[.slice A n c,.slice (some ⟨g,0,none⟩) 1 1] V fun e w'=>e= .returned (.agg (digCells (mac key s.data.toList)))∧Fr [] V w':=fun V g hF hB=>
  mac_t V A n c key (hkh.o.fr ((hcF w).trans hF) (fun _=>off_nil _)) hc hmax g ((some ⟨w.heap.size,0,none⟩,s.size,cC w),s.data.toList) (by rw [hB.cell];rfl) ⟨Rd.fr (hcB w w.heap.size rfl) hF (fun _=>off_nil _),hcG w⟩ (by rw [hsl];exact hs)
 have hF0:=zh (hcF w);have hml:(mac key s.data.toList).length=32:=by unfold mac;exact sha_length _
 have htag:Hid (tagL key s.data.toList=webM ((mac key s.data.toList).take 12)):=zh (by unfold tagL;rfl);obtain⟨D,HD⟩:∃z,Hid (mac key s.data.toList=z):=⟨_,zh rfl⟩
 rw [HD.o]at hmac hml htag;have hpos:=webM_pos (l:=D.take 12) (by rw [List.length_take];omega);clear hk hcB hcF hcG hsl;have htag2:Hid (bA (tagL key s.data.toList)=⟨(webM (D.take 12)).toArray⟩):=zh (by rw [htag.o];rfl);obtain⟨T,HT⟩:∃z,Hid (bA (tagL key s.data.toList)=z):=⟨_,zh rfl⟩
 rw [HT.o]at htag2⊢;clear htag HT;go_enter Tryz.func97,Tryz.ntmps97;go_upto_region 2 with(first
  | (go_at_call 132;refine(hmac _ _ ((Fr.refl _ _).alloc _) (Blk.new' _ _ (by simp [hcS]))).mono ?_;clear hmac;rintro e W1 ⟨rfl,F1⟩;have hF1:=zh (hF0.o.trans (((Fr.refl _ _).alloc _).trans F1));clear F1)
  | (refine wpList_store_row rfl 184 _ _ rfl W1.heap.size (digCells D) rfl rfl 184 _ (Blk.new W1 184 _) (infoDigA hml) (by rw [digCells_size hml];rfl) (digCells_one D) ?_))
 refine wp_gen (fun W2=>Blk W2 W1.heap.size 184 (digCells D)∧Fr [] W1 W2) ⟨Blk.setRow (Blk.new W1 184 _) _,((Fr.refl _ _).alloc _).setRow (.inr (Nat.le_refl _)) _⟩ ?_;rintro W2 ⟨hB2,F2⟩;obtain⟨gd,HGD⟩:∃z,Hid (W1.heap.size=z):=⟨_,zh rfl⟩
 rw [HGD.o]at hB2⊢;have hweb:=web_t W2 _ 12 32 (D.take 12) (byts_pre 12 hB2 hml (by decide)) (by decide) hpos;have f2:=zh (hF1.o.trans F2);have hgl:=hB2.lt;clear F2 hB2;go_wp2_with (go_at_call 133;refine hweb.mono ?_;rintro e W3 ⟨rfl,F3⟩)
 go_ret;exact⟨by rw [htag2.o];rfl,f2.o.trans F3⟩
theorem headS_head (t:GTk):headS (kindB t.kind) t.family t.serial=bA (headL t):=by
 have h:(headS (kindB t.kind) t.family t.serial).data.toList=headL t:=by unfold headS headL itoaB;simp only [ByteArray.data_append,Array.toList_append,Lib.itoa_nonneg];simp
 rw [←h];rfl
theorem tk_le {t:GTk}(h:tkOk t=true):1≤t.kind∧t.kind≤3∧t.family.size≤32∧t.serial≤1099511627776:=by
 unfold tkOk idM at h;simp only [Bool.and_eq_true,decide_eq_true_eq]at h;omega
def TabP (w:World):Prop:=Lib.TabIs Tryz.prog w "internal/strconv.uint64pow10" .u64 Lib.pow10Tab
theorem TabP.fr {w w':World}(h:TabP w) (hF:Fr [] w w'):TabP w':=tab_fr h hF
theorem head_t (w:World) (t:GTk) (ht:tkOk t=true) (htab:TabP w):Calls Tryz.prog 96 #[.agg #[.int .i64 t.kind,.string t.family,.int .i64 t.serial]] w fun e w'=>e= .returned (.string (bA (headL t)))∧Fr [] w w':=by
 obtain⟨h1,h2,h3,h4⟩:=tk_le ht;rw [←headS_head];obtain⟨k,f,n⟩:=t;simp only at h1 h2 h3 h4⊢;have hk:k=1∨k=2∨k=3:=by omega
 rcases hk with rfl |rfl |rfl
 ·exact head1_t w f n (by omega) (by omega) (by omega) htab
 ·exact head2_t w f n (by omega) (by omega) (by omega) htab
 ·exact head3_t w f n (by omega) (by omega) (by omega) htab
theorem headL_len {t:GTk}(h:tkOk t=true):(bA (headL t)).size≤1100:=by
 obtain⟨h1,h2,h3,h4⟩:=tk_le h;have hi:=itoaB_size (t.serial:Int) (by omega) (by omega);rw [←headS_head];have hc:(ByteArray.mk #[kindB t.kind]).size=1:=rfl;have hd:(ByteArray.mk #[46]).size=1:=rfl;unfold headS;simp only [ByteArray.size_append];omega
theorem tagL_len (k h:List UInt8):(tagL k h).length≤25:=by
 unfold tagL webM;have:=sixGo_le ((mac k h).take 12) 0 0 [];have h2:((mac k h).take 12).length≤12:=by rw [List.length_take];omega
 simp only [List.length_nil]at this;omega
theorem bA_app (a b:List UInt8):bA (a++b)=bA a++bA b:=by
 have h:(bA a++bA b).data.toList=a++b:=by rw [ByteArray.data_append,Array.toList_append];rfl
 generalize bA a++bA b=x at h⊢;obtain⟨x⟩:=x;simp only at h;rw [←h];rfl
def MakePost (w:World) (secret:List UInt8) (t:GTk) (e:Ending) (w':World):Prop:=e= .returned (.tuple #[.string (bA (makeL secret t)),.int .i64 0])∧Fr [] w w'
theorem uTk:Tryz.prog.underlying 47=some (.struct (Tryz.prog.fieldsOf 47)):=by kernel_rfl
def tkCells (t:GTk):Array Value:=#[.int .i64 t.kind,.string t.family,.int .i64 t.serial]
theorem infoTk (t:GTk):(Tryz.prog.info? 47).map (·.size)=some (tkCells t).size:=by kernel_rfl
theorem infoTkL (t:GTk):(Tryz.prog.info? 47).map (·.size)=some (tkCells t).toList.length:=by kernel_rfl
theorem tk_one (t:GTk):(tkCells t).all (·.oneCell')=true:=by simp [tkCells,Value.oneCell']
set_option maxRecDepth 100000 in
set_option maxHeartbeats 1000000 in
theorem make_t (w:World) (A:Option Addr) (n c:Nat) (key:List UInt8) (hk:Byts w A n key) (hc:n≤c) (hmax:n≤140737488351232) (t:GTk) (ht:tkOk t=true) (htab:TabP w):
  Calls Tryz.prog 47 #[.slice A n c,.agg (tkCells t)] w (MakePost w key t):=by
 have hkh:=zh hk;have hr:=fun V=>sright_t V t.kind t.serial t.family (by have:=tk_le ht;omega);rw [rightT_tk,ht]at hr;have hh:=fun V (hF:Fr [] w V)=>head_t V t ht (htab.fr hF);have hlen:=headL_len ht;have htg:=fun V (hF:Fr [] w V)=>tag_t V A n c key (hkh.o.fr hF (fun _=>off_nil _)) hc hmax (bA (headL t)) (by omega);have hbl:(bA (headL t)).data.toList=headL t:=rfl;rw [hbl]at htg;have hsum:∀V,(Op.stringOp .add (bA (headL t)) (bA (tagL key (headL t)))).run Tryz.prog V= .ok (.string (bA (headL t)++bA (tagL key (headL t)))) V:=fun V=>run_string_add_sum (P:=Tryz.prog) V _ _ (by
  have:=tagL_len key (headL t);rw [bA_size (tagL key (headL t))];omega)
 have hfin:Hid (bA (makeL key t)=bA (headL t)++bA (tagL key (headL t))):=zh (by unfold makeL;exact bA_app _ _);unfold MakePost;obtain⟨M,HM⟩:∃z,Hid (bA (makeL key t)=z):=⟨_,zh rfl⟩
 rw [HM.o]at hfin⊢;clear HM;obtain⟨T,HT⟩:∃z,Hid (bA (tagL key (headL t))=z):=⟨_,zh rfl⟩
 obtain⟨H,HH⟩:∃z,Hid (bA (headL t)=z):=⟨_,zh rfl⟩
 rw [HT.o,HH.o]at hfin hsum;rw [HT.o,HH.o]at htg;rw [HH.o]at hh;clear HT HH hlen hbl hk htab ht;unfold tkCells;go_enter Tryz.func47,Tryz.ntmps47;go_upto_region 1 with(fail)
 refine wp_gen (fun W=>Blk W w.heap.size 47 (tkCells t)∧Fr [] w W) ⟨Blk.new _ _ _,(Fr.refl _ _).alloc _⟩ ?_;rintro W ⟨hB,fW⟩;obtain⟨g,HG⟩:∃z,Hid (w.heap.size=z):=⟨_,zh rfl⟩
 rw [HG.o]at hB⊢;have hBh:=zh hB;have fWh:=zh fW;clear fW;go_upto_region 3 with(first
  | (refine wpList_load_at rfl 47 _ rfl rfl hB (sub_self _) uTk rfl (infoTkL _) ?_;rw [Array.toArray_toList];unfold tkCells)
  | (go_at_call 31;refine(hr _).mono ?_;clear hr hB;rintro e W1 ⟨rfl,F1⟩;have hB1:=hBh.o.fr F1 (by simp);have hF1:=zh (fWh.o.trans F1);clear F1))
 go_upto_region 4 with(first
  | (refine wpList_load_at rfl 47 _ rfl rfl hB1 (sub_self _) uTk rfl (infoTkL _) ?_;rw [Array.toArray_toList];unfold tkCells)
  | (go_at_call 96;refine(hh W1 hF1.o).mono ?_;clear hh hB1;rintro e W2 ⟨rfl,F2⟩;have hF2:=zh (hF1.o.trans F2);clear F2))
 go_wp2_with (go_at_call 97;refine(htg W2 hF2.o).mono ?_;clear htg;rintro e W3 ⟨rfl,F3⟩;have hF3:=zh (hF2.o.trans F3);have hs3:=hsum W3;clear F3)
 go_ret2;exact⟨by rw [hfin.o];rfl,hF3.o⟩
end Go.Proofs.YtopfcgpeaaehgaaGreatDoor
