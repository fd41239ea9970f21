/-
  No cell of these rows narrows 'for every input' (looked for: loops, veiled, ifaces, maps, wideKeys, modest, calm, conditions, laid).
  DERIVED. THE GIVEN ROWS OF THIS SEAT. 4 by the template 'for every input the law returns true; each argument reads behind the call as it read before'; 0 by the template 'total and deterministic' (their statements: YtpmgepijkhaonaaGreatTotals.lean).
  GIVEN WITH THE SEED: the statements are not yours to turn. If you find one false, say at which input.
  Laid BY PROGRAM, IN A SANDBOX (cutbox-rows.mjs): the forced cells as the released guide's own fill.sh prints them over the translation 9738d0bf6adba180… (all of the seat's roots in one cut). By AI agents, Wed Nov 11 2026. No macro, syntax, notation, axiom, sorry.
-/
import Derived.Test.YtpmgepijkhaonaaGreatChecked
import GoSem.Claim
import GoSem.ClaimJoined
import GoSem.ClaimMapViews
import Derived.JoinedTies
import Derived.KernelRfl
namespace Go.Proofs.YtpmgepijkhaonaaGreat
/- THE CELL 'sum', in the pinned program and in every row, IS THE sha256 OF THE DUMP (.gsa) THAT YtpmgepijkhaonaaGreatProg.lean LOADS. Nothing in Lean hashes anything: it is a label: what it is worth is what the hold of that sum in a sandbox is worth. -/
noncomputable def Tryz.pinned : Pinned := { name := "ytpmgepijkhaonaagreat", sum := "9738d0bf6adba1808bcb907f604d80370c85accc64a546f07742bff8680a61fc", checked := Tryz.checked }
namespace Rows
def none {H : Type} : Left H := { results := [], args := [] }

/-- 'signetlaw18.BookTexts': WHATEVER THE INPUT: true; the input reads as it did. -/
def bookTextsSpec : ChangeSpec := { name := "bookTexts", fn := fun _ => fun
  | [d] => { results := [.lit (.bool true)], args := [d] }
  | _ => none }
def bookTextsRow : OpenClaim := { program := "ytpmgepijkhaonaagreat", sum := "9738d0bf6adba1808bcb907f604d80370c85accc64a546f07742bff8680a61fc", func := "signet/signetlaw18.BookTexts", spec := "bookTexts", inPlace := ["internal/bytealg.abigen_runtime_cmpstring", "internal/abi.NoEscape", "internal/bytealg.MakeNoZero", "internal/bytealg.IndexByteString", "slices.overlaps[int]"], unfollowed := true, recurses := true, apart := false }
def BookTextsSaid : Prop := bookTextsRow.holds Tryz.pinned (OpenSpec.ofChange bookTextsSpec)

/-- ITS FALSE NEIGHBOUR: 'it returns false'. Refute it at one input. -/
def bookTextsWrong : ChangeSpec := { name := "bookTexts", fn := fun _ => fun
  | [d] => { results := [.lit (.bool false)], args := [d] }
  | _ => none }
def BookTextsWrongFalsely : Prop := bookTextsRow.holds Tryz.pinned (OpenSpec.ofChange bookTextsWrong)

/-- 'signetlaw18.BookParses': WHATEVER THE INPUT: true; the input reads as it did. -/
def bookParsesSpec : ChangeSpec := { name := "bookParses", fn := fun _ => fun
  | [d] => { results := [.lit (.bool true)], args := [d] }
  | _ => none }
def bookParsesRow : OpenClaim := { program := "ytpmgepijkhaonaagreat", sum := "9738d0bf6adba1808bcb907f604d80370c85accc64a546f07742bff8680a61fc", func := "signet/signetlaw18.BookParses", spec := "bookParses", inPlace := ["internal/bytealg.abigen_runtime_cmpstring", "internal/abi.NoEscape", "internal/bytealg.MakeNoZero", "internal/bytealg.IndexByteString", "slices.overlaps[int]"], unfollowed := true, recurses := true, apart := false }
def BookParsesSaid : Prop := bookParsesRow.holds Tryz.pinned (OpenSpec.ofChange bookParsesSpec)

/-- ITS FALSE NEIGHBOUR: 'it returns false'. Refute it at one input. -/
def bookParsesWrong : ChangeSpec := { name := "bookParses", fn := fun _ => fun
  | [d] => { results := [.lit (.bool false)], args := [d] }
  | _ => none }
def BookParsesWrongFalsely : Prop := bookParsesRow.holds Tryz.pinned (OpenSpec.ofChange bookParsesWrong)

/-- 'signetlaw18.BookReads': WHATEVER THE INPUT: true; the input reads as it did. -/
def bookReadsSpec : ChangeSpec := { name := "bookReads", fn := fun _ => fun
  | [d] => { results := [.lit (.bool true)], args := [d] }
  | _ => none }
def bookReadsRow : OpenClaim := { program := "ytpmgepijkhaonaagreat", sum := "9738d0bf6adba1808bcb907f604d80370c85accc64a546f07742bff8680a61fc", func := "signet/signetlaw18.BookReads", spec := "bookReads", inPlace := ["internal/bytealg.abigen_runtime_cmpstring", "internal/abi.NoEscape", "internal/bytealg.MakeNoZero", "internal/bytealg.IndexByteString", "slices.overlaps[int]"], unfollowed := true, recurses := true, apart := false }
def BookReadsSaid : Prop := bookReadsRow.holds Tryz.pinned (OpenSpec.ofChange bookReadsSpec)

/-- ITS FALSE NEIGHBOUR: 'it returns false'. Refute it at one input. -/
def bookReadsWrong : ChangeSpec := { name := "bookReads", fn := fun _ => fun
  | [d] => { results := [.lit (.bool false)], args := [d] }
  | _ => none }
def BookReadsWrongFalsely : Prop := bookReadsRow.holds Tryz.pinned (OpenSpec.ofChange bookReadsWrong)

/-- 'signetlaw18.BookGoesOn': WHATEVER THE INPUT: true; the input reads as it did. -/
def bookGoesOnSpec : ChangeSpec := { name := "bookGoesOn", fn := fun _ => fun
  | [d1, d2, d3] => { results := [.lit (.bool true)], args := [d1, d2, d3] }
  | _ => none }
def bookGoesOnRow : OpenClaim := { program := "ytpmgepijkhaonaagreat", sum := "9738d0bf6adba1808bcb907f604d80370c85accc64a546f07742bff8680a61fc", func := "signet/signetlaw18.BookGoesOn", spec := "bookGoesOn", inPlace := ["internal/bytealg.abigen_runtime_cmpstring", "internal/abi.NoEscape", "internal/bytealg.MakeNoZero", "internal/bytealg.IndexByteString", "slices.overlaps[int]"], unfollowed := true, recurses := true, apart := false }
def BookGoesOnSaid : Prop := bookGoesOnRow.holds Tryz.pinned (OpenSpec.ofChange bookGoesOnSpec)

/-- ITS FALSE NEIGHBOUR: 'it returns false'. Refute it at one input. -/
def bookGoesOnWrong : ChangeSpec := { name := "bookGoesOn", fn := fun _ => fun
  | [d1, d2, d3] => { results := [.lit (.bool false)], args := [d1, d2, d3] }
  | _ => none }
def BookGoesOnWrongFalsely : Prop := bookGoesOnRow.holds Tryz.pinned (OpenSpec.ofChange bookGoesOnWrong)

/- THE SECOND FORM. 'bulk': how many values and letters a reading holds, each counted each time it is reached (what is shared counts as often as it is met; a slice's spare places count too). A statement '..UptoSaid' is the law's where the arguments, and the package variables that the reading takes, are together of bulk at most 1048576: NARROWER than '..Said'. Prove '..Said' where nothing that the law and all that it calls make is longer than what came in: it says more and counts as full. Else prove '..UptoSaid'. A law counts once. -/
mutual
def uptoBulk {H : Type} : DataW H → Nat
  | .lit (.string bytes) => bytes.length + 1
  | .lit _ => 1
  | .nil => 1
  | .ptr d => uptoBulk d + 1
  | .slice elems spare => uptoBulkAll elems + uptoBulkAll spare + 1
  | .agg parts => uptoBulkAll parts + 1
  | .iface _ d => uptoBulk d + 1
  | .map entries => uptoBulkEntries entries + 1
  | .held _ => 1
def uptoBulkAll {H : Type} : List (DataW H) → Nat
  | [] => 0
  | d :: r => uptoBulk d + uptoBulkAll r
def uptoBulkEntries {H : Type} : List (Lit × DataW H) → Nat
  | [] => 0
  | x :: r => uptoBulkEntry x + uptoBulkEntries r
def uptoBulkEntry {H : Type} : Lit × DataW H → Nat
  | (.string bytes, d) => bytes.length + uptoBulk d + 1
  | (_, d) => uptoBulk d + 1
 end
def uptoSmall : (H : Type) → List (DataW H) → Bool := fun _ ds => decide (uptoBulkAll ds ≤ 1048576)
def OpenSpec.upto (s : _root_.Go.ChangeSpec) : _root_.Go.OpenSpec := { _root_.Go.OpenSpec.ofChange s with cond := some uptoSmall }

/-- 'signetlaw18.BookTexts', WHERE WHAT IT READS IS OF BULK AT MOST 1048576: true; the input reads as it did. -/
def bookTextsUptoRow : OpenClaim := { program := "ytpmgepijkhaonaagreat", sum := "9738d0bf6adba1808bcb907f604d80370c85accc64a546f07742bff8680a61fc", func := "signet/signetlaw18.BookTexts", spec := "bookTexts", inPlace := ["internal/bytealg.abigen_runtime_cmpstring", "internal/abi.NoEscape", "internal/bytealg.MakeNoZero", "internal/bytealg.IndexByteString", "slices.overlaps[int]"], unfollowed := true, recurses := true, apart := false, narrowed := true }
def BookTextsUptoSaid : Prop := bookTextsUptoRow.holds Tryz.pinned (OpenSpec.upto bookTextsSpec)

/-- 'signetlaw18.BookParses', WHERE WHAT IT READS IS OF BULK AT MOST 1048576: true; the input reads as it did. -/
def bookParsesUptoRow : OpenClaim := { program := "ytpmgepijkhaonaagreat", sum := "9738d0bf6adba1808bcb907f604d80370c85accc64a546f07742bff8680a61fc", func := "signet/signetlaw18.BookParses", spec := "bookParses", inPlace := ["internal/bytealg.abigen_runtime_cmpstring", "internal/abi.NoEscape", "internal/bytealg.MakeNoZero", "internal/bytealg.IndexByteString", "slices.overlaps[int]"], unfollowed := true, recurses := true, apart := false, narrowed := true }
def BookParsesUptoSaid : Prop := bookParsesUptoRow.holds Tryz.pinned (OpenSpec.upto bookParsesSpec)

/-- 'signetlaw18.BookReads', WHERE WHAT IT READS IS OF BULK AT MOST 1048576: true; the input reads as it did. -/
def bookReadsUptoRow : OpenClaim := { program := "ytpmgepijkhaonaagreat", sum := "9738d0bf6adba1808bcb907f604d80370c85accc64a546f07742bff8680a61fc", func := "signet/signetlaw18.BookReads", spec := "bookReads", inPlace := ["internal/bytealg.abigen_runtime_cmpstring", "internal/abi.NoEscape", "internal/bytealg.MakeNoZero", "internal/bytealg.IndexByteString", "slices.overlaps[int]"], unfollowed := true, recurses := true, apart := false, narrowed := true }
def BookReadsUptoSaid : Prop := bookReadsUptoRow.holds Tryz.pinned (OpenSpec.upto bookReadsSpec)

/-- 'signetlaw18.BookGoesOn', WHERE WHAT IT READS IS OF BULK AT MOST 1048576: true; the input reads as it did. -/
def bookGoesOnUptoRow : OpenClaim := { program := "ytpmgepijkhaonaagreat", sum := "9738d0bf6adba1808bcb907f604d80370c85accc64a546f07742bff8680a61fc", func := "signet/signetlaw18.BookGoesOn", spec := "bookGoesOn", inPlace := ["internal/bytealg.abigen_runtime_cmpstring", "internal/abi.NoEscape", "internal/bytealg.MakeNoZero", "internal/bytealg.IndexByteString", "slices.overlaps[int]"], unfollowed := true, recurses := true, apart := false, narrowed := true }
def BookGoesOnUptoSaid : Prop := bookGoesOnUptoRow.holds Tryz.pinned (OpenSpec.upto bookGoesOnSpec)

end Rows
end Go.Proofs.YtpmgepijkhaonaaGreat
