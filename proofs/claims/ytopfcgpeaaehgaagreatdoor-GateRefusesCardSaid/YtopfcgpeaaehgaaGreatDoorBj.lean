/- What the rows of the gate list of the libraries' variables, and a world that lays it. Conditions: each theorem's own. -/
import Derived.Test.YtopfcgpeaaehgaaGreatDoorCards
import Derived.Test.YtopfcgpeaaehgaaGreatDoorTie
import Derived.Test.YtopfcgpeaaehgaaGreatDoorBa
import Derived.WalkKit
import Derived.ProofKit
import Derived.OpenShut
import Derived.Deep.DeepHandedRow
import Derived.Deep.DeepWitnessRowRef
import Derived.Deep.DeepLaidRun
import Derived.Lib.LaidTab
import Derived.Stop.LaidErr
import Derived.Shelf.Vars
namespace Go.Proofs.YtopfcgpeaaehgaaGreatDoor
open Go.ChangeShapes Go.WideShapes Go.ChangeAt Go.RowKit Go.Sig
theorem glOwn:ownKnob Tryz.prog.godebug=none:=by kernel_rfl
theorem glRow (u:TypeId) (h:Tryz.prog.typeName? 3 u=some "*errors.errorString"):u=255:=by
 have e: "*"++ "errors.errorString"= "*errors.errorString":=by decide
 exact typeName_ptr_named (nm:= "errors.errorString") (by rw [e];kernel_rfl) (by kernel_rfl) (by decide) u (by rw [e];exact h)
theorem glob_of {W:World}(h:laidMetH Tryz.prog Rows.gateRefusesRow.laid W) (hsh:W.ShapedOpen Tryz.prog):Glob W:=by
 have hL:laidMet Tryz.prog Rows.gateRefusesRow.laid W:=h;refine⟨?_,?_,?_,?_⟩
 ·exact cell_of_shapedOpen_int (P:=Tryz.prog) (g:=0) (t:=3) (zero:=#[.int .i64 0]) hsh (of_decide_eq_true (by kernel_rfl)) (by kernel_rfl) rfl (by kernel_rfl) (by kernel_rfl) (by kernel_rfl)
 ·obtain⟨a1,s1,hv1,-⟩:=laid_sentinel (g:=1) hL.tail.tail.tail.tail.tail (by kernel_rfl) (by kernel_rfl) Tryz.underlying147 glRow Tryz.underlying255 Tryz.underlying257 rfl rfl Tryz.underlying9 (by kernel_rfl) (by kernel_rfl);exact⟨_,by simpa using World.var?_cell (g:=1) (by kernel_rfl) hv1 0,.inr ⟨_,_,rfl⟩⟩
 ·obtain⟨a1,s1,hv1,-⟩:=laid_sentinel (g:=2) hL.tail.tail.tail.tail (by kernel_rfl) (by kernel_rfl) Tryz.underlying147 glRow Tryz.underlying255 Tryz.underlying257 rfl rfl Tryz.underlying9 (by kernel_rfl) (by kernel_rfl);exact⟨_,by simpa using World.var?_cell (g:=2) (by kernel_rfl) hv1 0,.inr ⟨_,_,rfl⟩⟩
 ·have h2:=hL.tail.tail;exact Lib.tabIs_of_head (rest:=_) (g:=3) (by kernel_rfl) (by kernel_rfl) (t:=276) (e:=57) (n:=20) (by kernel_rfl) (by kernel_rfl) (by kernel_rfl) (by kernel_rfl) h2
def glTab:DataW Unit→List Value
 | .agg l=>l.map fun | .lit (.int k z)=> .int k z |_=> .int .u8 0
 |_=> []
def glTab2:DataW Unit→List Value
 | .agg l=>l.flatMap glTab
 |_=> []
noncomputable def glLow:Nat:=(World.holding Tryz.prog default ⟨#[],#[],[]⟩).heap.size
noncomputable def glWorld (os:Os):World:=
 let w0:=World.holding Tryz.prog os ⟨#[.cells #[.string ⟨#[118,97,108,117,101,32,111,117,116,32,111,102,32,114,97,110,103,101]⟩] 257,.cells #[.string ⟨#[105,110,118,97,108,105,100,32,115,121,110,116,97,120]⟩] 257],#[],[]⟩
 let put (h:Array Obj) (g:Nat) (cs:Array Value):Array Obj:=h.modify g fun
  | .cells _ t frozen=> .cells cs t frozen
  |o=>o
 let h1:=put w0.heap 1 #[.iface 255 (.pointer (some ⟨glLow+1,0,none⟩))]
 let h2:=put h1 2 #[.iface 255 (.pointer (some ⟨glLow,0,none⟩))]
 let h3:=put h2 3 (Lib.pow10Tab.map fun z=>Value.int .u64 z).toArray
 let h4:=put h3 4 (glTab Rows.laid_unicode_utf8_first).toArray
 let h5:=put h4 5 (glTab2 (Rows.laid_unicode_utf8_acceptRanges (H:=Unit))).toArray
 let h6:=put h5 6 (glTab (Rows.laid_math_bits_deBruijn32tab (H:=Unit))).toArray
 let h7:=put h6 7 (glTab (Rows.laid_math_bits_deBruijn64tab (H:=Unit))).toArray
 {w0 with heap:=h7}
theorem gl_met (os:Os) (args:Array Value):laidMet Tryz.prog Rows.gateRefusesRow.laid ((glWorld os).forCall (fun _ _=>0) ⟨#[],args,[]⟩).memory:=
 laidMet_of_run3 8 (by kernel_rfl) (by kernel_rfl) (by kernel_rfl)
end Go.Proofs.YtopfcgpeaaehgaaGreatDoor
