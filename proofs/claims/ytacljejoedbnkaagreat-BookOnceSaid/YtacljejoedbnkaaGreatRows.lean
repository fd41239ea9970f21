/-
  No cell of these rows narrows 'for every input' (looked for: loops, veiled, ifaces, maps, wideKeys, modest, calm, conditions, laid).
  DERIVED. THE GIVEN ROWS OF THIS SEAT. 11 by the template 'for every input the law returns true; each argument reads behind the call as it read before'; 0 by the template 'total and deterministic' (their statements: YtacljejoedbnkaaGreatTotals.lean).
  GIVEN WITH THE SEED: the statements are not yours to turn. If you find one false, say at which input.
  Laid BY PROGRAM, IN A SANDBOX (cutbox-rows.mjs): the forced cells as the released guide's own fill.sh prints them over the translation 2e59765f40407d7f… (all of the seat's roots in one cut). By AI agents, Wed Nov 11 2026. No macro, syntax, notation, axiom, sorry.
-/
import Derived.Test.YtacljejoedbnkaaGreatChecked
import GoSem.Claim
import GoSem.ClaimJoined
import GoSem.ClaimMapViews
import Derived.JoinedTies
import Derived.KernelRfl
namespace Go.Proofs.YtacljejoedbnkaaGreat
/- THE CELL 'sum', in the pinned program and in every row, IS THE sha256 OF THE DUMP (.gsa) THAT YtacljejoedbnkaaGreatProg.lean LOADS. Nothing in Lean hashes anything: it is a label: what it is worth is what the hold of that sum in a sandbox is worth. -/
noncomputable def Tryz.pinned : Pinned := { name := "ytacljejoedbnkaagreat", sum := "2e59765f40407d7f3c691bf6bc4de090b2d801a4a43aaaab64a0f21c9d4b4403", checked := Tryz.checked }
namespace Rows
def none {H : Type} : Left H := { results := [], args := [] }

/-- 'signetlaw18.BookMay': WHATEVER THE INPUT: true; the input reads as it did. -/
def bookMaySpec : ChangeSpec := { name := "bookMay", fn := fun _ => fun
  | [d1, d2] => { results := [.lit (.bool true)], args := [d1, d2] }
  | _ => none }
def bookMayRow : OpenClaim := { program := "ytacljejoedbnkaagreat", sum := "2e59765f40407d7f3c691bf6bc4de090b2d801a4a43aaaab64a0f21c9d4b4403", func := "signet/signetlaw18.BookMay", spec := "bookMay", inPlace := ["internal/bytealg.abigen_runtime_cmpstring", "internal/abi.NoEscape", "internal/bytealg.MakeNoZero", "internal/bytealg.IndexByteString", "slices.overlaps[int]"], unfollowed := true, recurses := true, apart := false }
def BookMaySaid : Prop := bookMayRow.holds Tryz.pinned (OpenSpec.ofChange bookMaySpec)

/-- ITS FALSE NEIGHBOUR: 'it returns false'. Refute it at one input. -/
def bookMayWrong : ChangeSpec := { name := "bookMay", fn := fun _ => fun
  | [d1, d2] => { results := [.lit (.bool false)], args := [d1, d2] }
  | _ => none }
def BookMayWrongFalsely : Prop := bookMayRow.holds Tryz.pinned (OpenSpec.ofChange bookMayWrong)

/-- 'signetlaw18.BookRoots': WHATEVER THE INPUT: true; the input reads as it did. -/
def bookRootsSpec : ChangeSpec := { name := "bookRoots", fn := fun _ => fun
  | [d1, d2] => { results := [.lit (.bool true)], args := [d1, d2] }
  | _ => none }
def bookRootsRow : OpenClaim := { program := "ytacljejoedbnkaagreat", sum := "2e59765f40407d7f3c691bf6bc4de090b2d801a4a43aaaab64a0f21c9d4b4403", func := "signet/signetlaw18.BookRoots", spec := "bookRoots", inPlace := ["internal/bytealg.abigen_runtime_cmpstring", "internal/abi.NoEscape", "internal/bytealg.MakeNoZero", "internal/bytealg.IndexByteString", "slices.overlaps[int]"], unfollowed := true, recurses := true, apart := false }
def BookRootsSaid : Prop := bookRootsRow.holds Tryz.pinned (OpenSpec.ofChange bookRootsSpec)

/-- ITS FALSE NEIGHBOUR: 'it returns false'. Refute it at one input. -/
def bookRootsWrong : ChangeSpec := { name := "bookRoots", fn := fun _ => fun
  | [d1, d2] => { results := [.lit (.bool false)], args := [d1, d2] }
  | _ => none }
def BookRootsWrongFalsely : Prop := bookRootsRow.holds Tryz.pinned (OpenSpec.ofChange bookRootsWrong)

/-- 'signetlaw18.BookOnce': WHATEVER THE INPUT: true; the input reads as it did. -/
def bookOnceSpec : ChangeSpec := { name := "bookOnce", fn := fun _ => fun
  | [d1, d2, d3, d4] => { results := [.lit (.bool true)], args := [d1, d2, d3, d4] }
  | _ => none }
def bookOnceRow : OpenClaim := { program := "ytacljejoedbnkaagreat", sum := "2e59765f40407d7f3c691bf6bc4de090b2d801a4a43aaaab64a0f21c9d4b4403", func := "signet/signetlaw18.BookOnce", spec := "bookOnce", inPlace := ["internal/bytealg.abigen_runtime_cmpstring", "internal/abi.NoEscape", "internal/bytealg.MakeNoZero", "internal/bytealg.IndexByteString", "slices.overlaps[int]"], unfollowed := true, recurses := true, apart := false }
def BookOnceSaid : Prop := bookOnceRow.holds Tryz.pinned (OpenSpec.ofChange bookOnceSpec)

/-- ITS FALSE NEIGHBOUR: 'it returns false'. Refute it at one input. -/
def bookOnceWrong : ChangeSpec := { name := "bookOnce", fn := fun _ => fun
  | [d1, d2, d3, d4] => { results := [.lit (.bool false)], args := [d1, d2, d3, d4] }
  | _ => none }
def BookOnceWrongFalsely : Prop := bookOnceRow.holds Tryz.pinned (OpenSpec.ofChange bookOnceWrong)

/-- 'signetlaw18.BookDoes': WHATEVER THE INPUT: true; the input reads as it did. -/
def bookDoesSpec : ChangeSpec := { name := "bookDoes", fn := fun _ => fun
  | [d1, d2, d3] => { results := [.lit (.bool true)], args := [d1, d2, d3] }
  | _ => none }
def bookDoesRow : OpenClaim := { program := "ytacljejoedbnkaagreat", sum := "2e59765f40407d7f3c691bf6bc4de090b2d801a4a43aaaab64a0f21c9d4b4403", func := "signet/signetlaw18.BookDoes", spec := "bookDoes", inPlace := ["internal/bytealg.abigen_runtime_cmpstring", "internal/abi.NoEscape", "internal/bytealg.MakeNoZero", "internal/bytealg.IndexByteString", "slices.overlaps[int]"], unfollowed := true, recurses := true, apart := false }
def BookDoesSaid : Prop := bookDoesRow.holds Tryz.pinned (OpenSpec.ofChange bookDoesSpec)

/-- ITS FALSE NEIGHBOUR: 'it returns false'. Refute it at one input. -/
def bookDoesWrong : ChangeSpec := { name := "bookDoes", fn := fun _ => fun
  | [d1, d2, d3] => { results := [.lit (.bool false)], args := [d1, d2, d3] }
  | _ => none }
def BookDoesWrongFalsely : Prop := bookDoesRow.holds Tryz.pinned (OpenSpec.ofChange bookDoesWrong)

/-- 'signetlaw18.BookTexts': WHATEVER THE INPUT: true; the input reads as it did. -/
def bookTextsSpec : ChangeSpec := { name := "bookTexts", fn := fun _ => fun
  | [d] => { results := [.lit (.bool true)], args := [d] }
  | _ => none }
def bookTextsRow : OpenClaim := { program := "ytacljejoedbnkaagreat", sum := "2e59765f40407d7f3c691bf6bc4de090b2d801a4a43aaaab64a0f21c9d4b4403", func := "signet/signetlaw18.BookTexts", spec := "bookTexts", inPlace := ["internal/bytealg.abigen_runtime_cmpstring", "internal/abi.NoEscape", "internal/bytealg.MakeNoZero", "internal/bytealg.IndexByteString", "slices.overlaps[int]"], unfollowed := true, recurses := true, apart := false }
def BookTextsSaid : Prop := bookTextsRow.holds Tryz.pinned (OpenSpec.ofChange bookTextsSpec)

/-- ITS FALSE NEIGHBOUR: 'it returns false'. Refute it at one input. -/
def bookTextsWrong : ChangeSpec := { name := "bookTexts", fn := fun _ => fun
  | [d] => { results := [.lit (.bool false)], args := [d] }
  | _ => none }
def BookTextsWrongFalsely : Prop := bookTextsRow.holds Tryz.pinned (OpenSpec.ofChange bookTextsWrong)

/-- 'signetlaw18.BookParses': WHATEVER THE INPUT: true; the input reads as it did. -/
def bookParsesSpec : ChangeSpec := { name := "bookParses", fn := fun _ => fun
  | [d] => { results := [.lit (.bool true)], args := [d] }
  | _ => none }
def bookParsesRow : OpenClaim := { program := "ytacljejoedbnkaagreat", sum := "2e59765f40407d7f3c691bf6bc4de090b2d801a4a43aaaab64a0f21c9d4b4403", func := "signet/signetlaw18.BookParses", spec := "bookParses", inPlace := ["internal/bytealg.abigen_runtime_cmpstring", "internal/abi.NoEscape", "internal/bytealg.MakeNoZero", "internal/bytealg.IndexByteString", "slices.overlaps[int]"], unfollowed := true, recurses := true, apart := false }
def BookParsesSaid : Prop := bookParsesRow.holds Tryz.pinned (OpenSpec.ofChange bookParsesSpec)

/-- ITS FALSE NEIGHBOUR: 'it returns false'. Refute it at one input. -/
def bookParsesWrong : ChangeSpec := { name := "bookParses", fn := fun _ => fun
  | [d] => { results := [.lit (.bool false)], args := [d] }
  | _ => none }
def BookParsesWrongFalsely : Prop := bookParsesRow.holds Tryz.pinned (OpenSpec.ofChange bookParsesWrong)

/-- 'signetlaw18.BookPatches': WHATEVER THE INPUT: true; the input reads as it did. -/
def bookPatchesSpec : ChangeSpec := { name := "bookPatches", fn := fun _ => fun
  | [d1, d2, d3] => { results := [.lit (.bool true)], args := [d1, d2, d3] }
  | _ => none }
def bookPatchesRow : OpenClaim := { program := "ytacljejoedbnkaagreat", sum := "2e59765f40407d7f3c691bf6bc4de090b2d801a4a43aaaab64a0f21c9d4b4403", func := "signet/signetlaw18.BookPatches", spec := "bookPatches", inPlace := ["internal/bytealg.abigen_runtime_cmpstring", "internal/abi.NoEscape", "internal/bytealg.MakeNoZero", "internal/bytealg.IndexByteString", "slices.overlaps[int]"], unfollowed := true, recurses := true, apart := false }
def BookPatchesSaid : Prop := bookPatchesRow.holds Tryz.pinned (OpenSpec.ofChange bookPatchesSpec)

/-- ITS FALSE NEIGHBOUR: 'it returns false'. Refute it at one input. -/
def bookPatchesWrong : ChangeSpec := { name := "bookPatches", fn := fun _ => fun
  | [d1, d2, d3] => { results := [.lit (.bool false)], args := [d1, d2, d3] }
  | _ => none }
def BookPatchesWrongFalsely : Prop := bookPatchesRow.holds Tryz.pinned (OpenSpec.ofChange bookPatchesWrong)

/-- 'signetlaw18.BookReads': WHATEVER THE INPUT: true; the input reads as it did. -/
def bookReadsSpec : ChangeSpec := { name := "bookReads", fn := fun _ => fun
  | [d] => { results := [.lit (.bool true)], args := [d] }
  | _ => none }
def bookReadsRow : OpenClaim := { program := "ytacljejoedbnkaagreat", sum := "2e59765f40407d7f3c691bf6bc4de090b2d801a4a43aaaab64a0f21c9d4b4403", func := "signet/signetlaw18.BookReads", spec := "bookReads", inPlace := ["internal/bytealg.abigen_runtime_cmpstring", "internal/abi.NoEscape", "internal/bytealg.MakeNoZero", "internal/bytealg.IndexByteString", "slices.overlaps[int]"], unfollowed := true, recurses := true, apart := false }
def BookReadsSaid : Prop := bookReadsRow.holds Tryz.pinned (OpenSpec.ofChange bookReadsSpec)

/-- ITS FALSE NEIGHBOUR: 'it returns false'. Refute it at one input. -/
def bookReadsWrong : ChangeSpec := { name := "bookReads", fn := fun _ => fun
  | [d] => { results := [.lit (.bool false)], args := [d] }
  | _ => none }
def BookReadsWrongFalsely : Prop := bookReadsRow.holds Tryz.pinned (OpenSpec.ofChange bookReadsWrong)

/-- 'signetlaw18.BookGoesOn': WHATEVER THE INPUT: true; the input reads as it did. -/
def bookGoesOnSpec : ChangeSpec := { name := "bookGoesOn", fn := fun _ => fun
  | [d1, d2, d3] => { results := [.lit (.bool true)], args := [d1, d2, d3] }
  | _ => none }
def bookGoesOnRow : OpenClaim := { program := "ytacljejoedbnkaagreat", sum := "2e59765f40407d7f3c691bf6bc4de090b2d801a4a43aaaab64a0f21c9d4b4403", func := "signet/signetlaw18.BookGoesOn", spec := "bookGoesOn", inPlace := ["internal/bytealg.abigen_runtime_cmpstring", "internal/abi.NoEscape", "internal/bytealg.MakeNoZero", "internal/bytealg.IndexByteString", "slices.overlaps[int]"], unfollowed := true, recurses := true, apart := false }
def BookGoesOnSaid : Prop := bookGoesOnRow.holds Tryz.pinned (OpenSpec.ofChange bookGoesOnSpec)

/-- ITS FALSE NEIGHBOUR: 'it returns false'. Refute it at one input. -/
def bookGoesOnWrong : ChangeSpec := { name := "bookGoesOn", fn := fun _ => fun
  | [d1, d2, d3] => { results := [.lit (.bool false)], args := [d1, d2, d3] }
  | _ => none }
def BookGoesOnWrongFalsely : Prop := bookGoesOnRow.holds Tryz.pinned (OpenSpec.ofChange bookGoesOnWrong)

/-- 'signetlaw18.BookMends': WHATEVER THE INPUT: true; the input reads as it did. -/
def bookMendsSpec : ChangeSpec := { name := "bookMends", fn := fun _ => fun
  | [d1, d2, d3] => { results := [.lit (.bool true)], args := [d1, d2, d3] }
  | _ => none }
def bookMendsRow : OpenClaim := { program := "ytacljejoedbnkaagreat", sum := "2e59765f40407d7f3c691bf6bc4de090b2d801a4a43aaaab64a0f21c9d4b4403", func := "signet/signetlaw18.BookMends", spec := "bookMends", inPlace := ["internal/bytealg.abigen_runtime_cmpstring", "internal/abi.NoEscape", "internal/bytealg.MakeNoZero", "internal/bytealg.IndexByteString", "slices.overlaps[int]"], unfollowed := true, recurses := true, apart := false }
def BookMendsSaid : Prop := bookMendsRow.holds Tryz.pinned (OpenSpec.ofChange bookMendsSpec)

/-- ITS FALSE NEIGHBOUR: 'it returns false'. Refute it at one input. -/
def bookMendsWrong : ChangeSpec := { name := "bookMends", fn := fun _ => fun
  | [d1, d2, d3] => { results := [.lit (.bool false)], args := [d1, d2, d3] }
  | _ => none }
def BookMendsWrongFalsely : Prop := bookMendsRow.holds Tryz.pinned (OpenSpec.ofChange bookMendsWrong)

/-- 'signetlaw18.BookCopies': WHATEVER THE INPUT: true; the input reads as it did. -/
def bookCopiesSpec : ChangeSpec := { name := "bookCopies", fn := fun _ => fun
  | [d1, d2, d3] => { results := [.lit (.bool true)], args := [d1, d2, d3] }
  | _ => none }
def bookCopiesRow : OpenClaim := { program := "ytacljejoedbnkaagreat", sum := "2e59765f40407d7f3c691bf6bc4de090b2d801a4a43aaaab64a0f21c9d4b4403", func := "signet/signetlaw18.BookCopies", spec := "bookCopies", inPlace := ["internal/bytealg.abigen_runtime_cmpstring", "internal/abi.NoEscape", "internal/bytealg.MakeNoZero", "internal/bytealg.IndexByteString", "slices.overlaps[int]"], unfollowed := true, recurses := true, apart := false }
def BookCopiesSaid : Prop := bookCopiesRow.holds Tryz.pinned (OpenSpec.ofChange bookCopiesSpec)

/-- ITS FALSE NEIGHBOUR: 'it returns false'. Refute it at one input. -/
def bookCopiesWrong : ChangeSpec := { name := "bookCopies", fn := fun _ => fun
  | [d1, d2, d3] => { results := [.lit (.bool false)], args := [d1, d2, d3] }
  | _ => none }
def BookCopiesWrongFalsely : Prop := bookCopiesRow.holds Tryz.pinned (OpenSpec.ofChange bookCopiesWrong)

/- THE SECOND FORM. 'bulk': how many values and letters a reading holds, each counted each time it is reached (what is shared counts as often as it is met; a slice's spare places count too). A statement '..UptoSaid' is the law's where the arguments, and the package variables that the reading takes, are together of bulk at most 1048576: NARROWER than '..Said'. Prove '..Said' where nothing that the law and all that it calls make is longer than what came in: it says more and counts as full. Else prove '..UptoSaid'. A law counts once. -/
mutual
def uptoBulk {H : Type} : DataW H → Nat
  | .lit (.string bytes) => bytes.length + 1
  | .lit _ => 1
  | .nil => 1
  | .ptr d => uptoBulk d + 1
  | .slice elems spare => uptoBulkAll elems + uptoBulkAll spare + 1
  | .agg parts => uptoBulkAll parts + 1
  | .iface _ d => uptoBulk d + 1
  | .map entries => uptoBulkEntries entries + 1
  | .held _ => 1
def uptoBulkAll {H : Type} : List (DataW H) → Nat
  | [] => 0
  | d :: r => uptoBulk d + uptoBulkAll r
def uptoBulkEntries {H : Type} : List (Lit × DataW H) → Nat
  | [] => 0
  | x :: r => uptoBulkEntry x + uptoBulkEntries r
def uptoBulkEntry {H : Type} : Lit × DataW H → Nat
  | (.string bytes, d) => bytes.length + uptoBulk d + 1
  | (_, d) => uptoBulk d + 1
 end
def uptoSmall : (H : Type) → List (DataW H) → Bool := fun _ ds => decide (uptoBulkAll ds ≤ 1048576)
def OpenSpec.upto (s : _root_.Go.ChangeSpec) : _root_.Go.OpenSpec := { _root_.Go.OpenSpec.ofChange s with cond := some uptoSmall }

/-- 'signetlaw18.BookMay', WHERE WHAT IT READS IS OF BULK AT MOST 1048576: true; the input reads as it did. -/
def bookMayUptoRow : OpenClaim := { program := "ytacljejoedbnkaagreat", sum := "2e59765f40407d7f3c691bf6bc4de090b2d801a4a43aaaab64a0f21c9d4b4403", func := "signet/signetlaw18.BookMay", spec := "bookMay", inPlace := ["internal/bytealg.abigen_runtime_cmpstring", "internal/abi.NoEscape", "internal/bytealg.MakeNoZero", "internal/bytealg.IndexByteString", "slices.overlaps[int]"], unfollowed := true, recurses := true, apart := false, narrowed := true }
def BookMayUptoSaid : Prop := bookMayUptoRow.holds Tryz.pinned (OpenSpec.upto bookMaySpec)

/-- 'signetlaw18.BookRoots', WHERE WHAT IT READS IS OF BULK AT MOST 1048576: true; the input reads as it did. -/
def bookRootsUptoRow : OpenClaim := { program := "ytacljejoedbnkaagreat", sum := "2e59765f40407d7f3c691bf6bc4de090b2d801a4a43aaaab64a0f21c9d4b4403", func := "signet/signetlaw18.BookRoots", spec := "bookRoots", inPlace := ["internal/bytealg.abigen_runtime_cmpstring", "internal/abi.NoEscape", "internal/bytealg.MakeNoZero", "internal/bytealg.IndexByteString", "slices.overlaps[int]"], unfollowed := true, recurses := true, apart := false, narrowed := true }
def BookRootsUptoSaid : Prop := bookRootsUptoRow.holds Tryz.pinned (OpenSpec.upto bookRootsSpec)

/-- 'signetlaw18.BookOnce', WHERE WHAT IT READS IS OF BULK AT MOST 1048576: true; the input reads as it did. -/
def bookOnceUptoRow : OpenClaim := { program := "ytacljejoedbnkaagreat", sum := "2e59765f40407d7f3c691bf6bc4de090b2d801a4a43aaaab64a0f21c9d4b4403", func := "signet/signetlaw18.BookOnce", spec := "bookOnce", inPlace := ["internal/bytealg.abigen_runtime_cmpstring", "internal/abi.NoEscape", "internal/bytealg.MakeNoZero", "internal/bytealg.IndexByteString", "slices.overlaps[int]"], unfollowed := true, recurses := true, apart := false, narrowed := true }
def BookOnceUptoSaid : Prop := bookOnceUptoRow.holds Tryz.pinned (OpenSpec.upto bookOnceSpec)

/-- 'signetlaw18.BookDoes', WHERE WHAT IT READS IS OF BULK AT MOST 1048576: true; the input reads as it did. -/
def bookDoesUptoRow : OpenClaim := { program := "ytacljejoedbnkaagreat", sum := "2e59765f40407d7f3c691bf6bc4de090b2d801a4a43aaaab64a0f21c9d4b4403", func := "signet/signetlaw18.BookDoes", spec := "bookDoes", inPlace := ["internal/bytealg.abigen_runtime_cmpstring", "internal/abi.NoEscape", "internal/bytealg.MakeNoZero", "internal/bytealg.IndexByteString", "slices.overlaps[int]"], unfollowed := true, recurses := true, apart := false, narrowed := true }
def BookDoesUptoSaid : Prop := bookDoesUptoRow.holds Tryz.pinned (OpenSpec.upto bookDoesSpec)

/-- 'signetlaw18.BookTexts', WHERE WHAT IT READS IS OF BULK AT MOST 1048576: true; the input reads as it did. -/
def bookTextsUptoRow : OpenClaim := { program := "ytacljejoedbnkaagreat", sum := "2e59765f40407d7f3c691bf6bc4de090b2d801a4a43aaaab64a0f21c9d4b4403", func := "signet/signetlaw18.BookTexts", spec := "bookTexts", inPlace := ["internal/bytealg.abigen_runtime_cmpstring", "internal/abi.NoEscape", "internal/bytealg.MakeNoZero", "internal/bytealg.IndexByteString", "slices.overlaps[int]"], unfollowed := true, recurses := true, apart := false, narrowed := true }
def BookTextsUptoSaid : Prop := bookTextsUptoRow.holds Tryz.pinned (OpenSpec.upto bookTextsSpec)

/-- 'signetlaw18.BookParses', WHERE WHAT IT READS IS OF BULK AT MOST 1048576: true; the input reads as it did. -/
def bookParsesUptoRow : OpenClaim := { program := "ytacljejoedbnkaagreat", sum := "2e59765f40407d7f3c691bf6bc4de090b2d801a4a43aaaab64a0f21c9d4b4403", func := "signet/signetlaw18.BookParses", spec := "bookParses", inPlace := ["internal/bytealg.abigen_runtime_cmpstring", "internal/abi.NoEscape", "internal/bytealg.MakeNoZero", "internal/bytealg.IndexByteString", "slices.overlaps[int]"], unfollowed := true, recurses := true, apart := false, narrowed := true }
def BookParsesUptoSaid : Prop := bookParsesUptoRow.holds Tryz.pinned (OpenSpec.upto bookParsesSpec)

/-- 'signetlaw18.BookPatches', WHERE WHAT IT READS IS OF BULK AT MOST 1048576: true; the input reads as it did. -/
def bookPatchesUptoRow : OpenClaim := { program := "ytacljejoedbnkaagreat", sum := "2e59765f40407d7f3c691bf6bc4de090b2d801a4a43aaaab64a0f21c9d4b4403", func := "signet/signetlaw18.BookPatches", spec := "bookPatches", inPlace := ["internal/bytealg.abigen_runtime_cmpstring", "internal/abi.NoEscape", "internal/bytealg.MakeNoZero", "internal/bytealg.IndexByteString", "slices.overlaps[int]"], unfollowed := true, recurses := true, apart := false, narrowed := true }
def BookPatchesUptoSaid : Prop := bookPatchesUptoRow.holds Tryz.pinned (OpenSpec.upto bookPatchesSpec)

/-- 'signetlaw18.BookReads', WHERE WHAT IT READS IS OF BULK AT MOST 1048576: true; the input reads as it did. -/
def bookReadsUptoRow : OpenClaim := { program := "ytacljejoedbnkaagreat", sum := "2e59765f40407d7f3c691bf6bc4de090b2d801a4a43aaaab64a0f21c9d4b4403", func := "signet/signetlaw18.BookReads", spec := "bookReads", inPlace := ["internal/bytealg.abigen_runtime_cmpstring", "internal/abi.NoEscape", "internal/bytealg.MakeNoZero", "internal/bytealg.IndexByteString", "slices.overlaps[int]"], unfollowed := true, recurses := true, apart := false, narrowed := true }
def BookReadsUptoSaid : Prop := bookReadsUptoRow.holds Tryz.pinned (OpenSpec.upto bookReadsSpec)

/-- 'signetlaw18.BookGoesOn', WHERE WHAT IT READS IS OF BULK AT MOST 1048576: true; the input reads as it did. -/
def bookGoesOnUptoRow : OpenClaim := { program := "ytacljejoedbnkaagreat", sum := "2e59765f40407d7f3c691bf6bc4de090b2d801a4a43aaaab64a0f21c9d4b4403", func := "signet/signetlaw18.BookGoesOn", spec := "bookGoesOn", inPlace := ["internal/bytealg.abigen_runtime_cmpstring", "internal/abi.NoEscape", "internal/bytealg.MakeNoZero", "internal/bytealg.IndexByteString", "slices.overlaps[int]"], unfollowed := true, recurses := true, apart := false, narrowed := true }
def BookGoesOnUptoSaid : Prop := bookGoesOnUptoRow.holds Tryz.pinned (OpenSpec.upto bookGoesOnSpec)

/-- 'signetlaw18.BookMends', WHERE WHAT IT READS IS OF BULK AT MOST 1048576: true; the input reads as it did. -/
def bookMendsUptoRow : OpenClaim := { program := "ytacljejoedbnkaagreat", sum := "2e59765f40407d7f3c691bf6bc4de090b2d801a4a43aaaab64a0f21c9d4b4403", func := "signet/signetlaw18.BookMends", spec := "bookMends", inPlace := ["internal/bytealg.abigen_runtime_cmpstring", "internal/abi.NoEscape", "internal/bytealg.MakeNoZero", "internal/bytealg.IndexByteString", "slices.overlaps[int]"], unfollowed := true, recurses := true, apart := false, narrowed := true }
def BookMendsUptoSaid : Prop := bookMendsUptoRow.holds Tryz.pinned (OpenSpec.upto bookMendsSpec)

/-- 'signetlaw18.BookCopies', WHERE WHAT IT READS IS OF BULK AT MOST 1048576: true; the input reads as it did. -/
def bookCopiesUptoRow : OpenClaim := { program := "ytacljejoedbnkaagreat", sum := "2e59765f40407d7f3c691bf6bc4de090b2d801a4a43aaaab64a0f21c9d4b4403", func := "signet/signetlaw18.BookCopies", spec := "bookCopies", inPlace := ["internal/bytealg.abigen_runtime_cmpstring", "internal/abi.NoEscape", "internal/bytealg.MakeNoZero", "internal/bytealg.IndexByteString", "slices.overlaps[int]"], unfollowed := true, recurses := true, apart := false, narrowed := true }
def BookCopiesUptoSaid : Prop := bookCopiesUptoRow.holds Tryz.pinned (OpenSpec.upto bookCopiesSpec)

end Rows
end Go.Proofs.YtacljejoedbnkaaGreat
