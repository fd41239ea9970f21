/-
  No cell of these rows narrows 'for every input' (looked for: loops, veiled, ifaces, maps, wideKeys, modest, calm, conditions, laid).
  DERIVED. THE GIVEN ROWS OF THIS SEAT. 7 by the template 'for every input the law returns true; each argument reads behind the call as it read before'; 0 by the template 'total and deterministic' (their statements: YtlhkkffljjbdmaaTotals.lean).
  GIVEN WITH THE SEED: the statements are not yours to turn. If you find one false, say at which input.
  Laid BY PROGRAM, IN A SANDBOX (cutbox-rows.mjs): the forced cells as the released guide's own fill.sh prints them over the translation ec820bd4c4d52628… (all of the seat's roots in one cut). By AI agents, Wed Nov 11 2026. No macro, syntax, notation, axiom, sorry.
-/
import Derived.Test.YtlhkkffljjbdmaaChecked
import GoSem.Claim
import GoSem.ClaimJoined
import GoSem.ClaimMapViews
import Derived.JoinedTies
import Derived.KernelRfl
namespace Go.Proofs.Ytlhkkffljjbdmaa
/- THE CELL 'sum', in the pinned program and in every row, IS THE sha256 OF THE DUMP (.gsa) THAT YtlhkkffljjbdmaaProg.lean LOADS. Nothing in Lean hashes anything: it is a label: what it is worth is what the hold of that sum in a sandbox is worth. -/
noncomputable def Try.pinned : Pinned := { name := "ytlhkkffljjbdmaa", sum := "ec820bd4c4d526285412deb8565c18dcb41ac9d1d37a91744930cde011fe9193", checked := Try.checked }
namespace Rows
def none {H : Type} : Left H := { results := [], args := [] }

/-- 'signetlaw13.TrieFull': WHATEVER THE INPUT: true; the input reads as it did. -/
def trieFullSpec : ChangeSpec := { name := "trieFull", fn := fun _ => fun
  | [d] => { results := [.lit (.bool true)], args := [d] }
  | _ => none }
def trieFullRow : OpenClaim := { program := "ytlhkkffljjbdmaa", sum := "ec820bd4c4d526285412deb8565c18dcb41ac9d1d37a91744930cde011fe9193", func := "signet/signetlaw13.TrieFull", spec := "trieFull", inPlace := ["internal/bytealg.abigen_runtime_cmpstring"], unfollowed := true, recurses := true, apart := false }
def TrieFullSaid : Prop := trieFullRow.holds Try.pinned (OpenSpec.ofChange trieFullSpec)

/-- ITS FALSE NEIGHBOUR: 'it returns false'. Refute it at one input. -/
def trieFullWrong : ChangeSpec := { name := "trieFull", fn := fun _ => fun
  | [d] => { results := [.lit (.bool false)], args := [d] }
  | _ => none }
def TrieFullWrongFalsely : Prop := trieFullRow.holds Try.pinned (OpenSpec.ofChange trieFullWrong)

/-- 'signetlaw13.TriePlays': WHATEVER THE INPUT: true; the input reads as it did. -/
def triePlaysSpec : ChangeSpec := { name := "triePlays", fn := fun _ => fun
  | [d1, d2] => { results := [.lit (.bool true)], args := [d1, d2] }
  | _ => none }
def triePlaysRow : OpenClaim := { program := "ytlhkkffljjbdmaa", sum := "ec820bd4c4d526285412deb8565c18dcb41ac9d1d37a91744930cde011fe9193", func := "signet/signetlaw13.TriePlays", spec := "triePlays", inPlace := ["internal/bytealg.abigen_runtime_cmpstring"], unfollowed := true, recurses := true, apart := false }
def TriePlaysSaid : Prop := triePlaysRow.holds Try.pinned (OpenSpec.ofChange triePlaysSpec)

/-- ITS FALSE NEIGHBOUR: 'it returns false'. Refute it at one input. -/
def triePlaysWrong : ChangeSpec := { name := "triePlays", fn := fun _ => fun
  | [d1, d2] => { results := [.lit (.bool false)], args := [d1, d2] }
  | _ => none }
def TriePlaysWrongFalsely : Prop := triePlaysRow.holds Try.pinned (OpenSpec.ofChange triePlaysWrong)

/-- 'signetlaw13.TriePatches': WHATEVER THE INPUT: true; the input reads as it did. -/
def triePatchesSpec : ChangeSpec := { name := "triePatches", fn := fun _ => fun
  | [d1, d2] => { results := [.lit (.bool true)], args := [d1, d2] }
  | _ => none }
def triePatchesRow : OpenClaim := { program := "ytlhkkffljjbdmaa", sum := "ec820bd4c4d526285412deb8565c18dcb41ac9d1d37a91744930cde011fe9193", func := "signet/signetlaw13.TriePatches", spec := "triePatches", inPlace := ["internal/bytealg.abigen_runtime_cmpstring"], unfollowed := true, recurses := true, apart := false }
def TriePatchesSaid : Prop := triePatchesRow.holds Try.pinned (OpenSpec.ofChange triePatchesSpec)

/-- ITS FALSE NEIGHBOUR: 'it returns false'. Refute it at one input. -/
def triePatchesWrong : ChangeSpec := { name := "triePatches", fn := fun _ => fun
  | [d1, d2] => { results := [.lit (.bool false)], args := [d1, d2] }
  | _ => none }
def TriePatchesWrongFalsely : Prop := triePatchesRow.holds Try.pinned (OpenSpec.ofChange triePatchesWrong)

/-- 'signetlaw13.TrieMends': WHATEVER THE INPUT: true; the input reads as it did. -/
def trieMendsSpec : ChangeSpec := { name := "trieMends", fn := fun _ => fun
  | [d1, d2] => { results := [.lit (.bool true)], args := [d1, d2] }
  | _ => none }
def trieMendsRow : OpenClaim := { program := "ytlhkkffljjbdmaa", sum := "ec820bd4c4d526285412deb8565c18dcb41ac9d1d37a91744930cde011fe9193", func := "signet/signetlaw13.TrieMends", spec := "trieMends", inPlace := ["internal/bytealg.abigen_runtime_cmpstring"], unfollowed := true, recurses := true, apart := false }
def TrieMendsSaid : Prop := trieMendsRow.holds Try.pinned (OpenSpec.ofChange trieMendsSpec)

/-- ITS FALSE NEIGHBOUR: 'it returns false'. Refute it at one input. -/
def trieMendsWrong : ChangeSpec := { name := "trieMends", fn := fun _ => fun
  | [d1, d2] => { results := [.lit (.bool false)], args := [d1, d2] }
  | _ => none }
def TrieMendsWrongFalsely : Prop := trieMendsRow.holds Try.pinned (OpenSpec.ofChange trieMendsWrong)

/-- 'signetlaw13.TrieDiffers': WHATEVER THE INPUT: true; the input reads as it did. -/
def trieDiffersSpec : ChangeSpec := { name := "trieDiffers", fn := fun _ => fun
  | [d1, d2] => { results := [.lit (.bool true)], args := [d1, d2] }
  | _ => none }
def trieDiffersRow : OpenClaim := { program := "ytlhkkffljjbdmaa", sum := "ec820bd4c4d526285412deb8565c18dcb41ac9d1d37a91744930cde011fe9193", func := "signet/signetlaw13.TrieDiffers", spec := "trieDiffers", inPlace := ["internal/bytealg.abigen_runtime_cmpstring"], unfollowed := true, recurses := true, apart := false }
def TrieDiffersSaid : Prop := trieDiffersRow.holds Try.pinned (OpenSpec.ofChange trieDiffersSpec)

/-- ITS FALSE NEIGHBOUR: 'it returns false'. Refute it at one input. -/
def trieDiffersWrong : ChangeSpec := { name := "trieDiffers", fn := fun _ => fun
  | [d1, d2] => { results := [.lit (.bool false)], args := [d1, d2] }
  | _ => none }
def TrieDiffersWrongFalsely : Prop := trieDiffersRow.holds Try.pinned (OpenSpec.ofChange trieDiffersWrong)

/-- 'signetlaw13.TrieOrders': WHATEVER THE INPUT: true; the input reads as it did. -/
def trieOrdersSpec : ChangeSpec := { name := "trieOrders", fn := fun _ => fun
  | [d1, d2] => { results := [.lit (.bool true)], args := [d1, d2] }
  | _ => none }
def trieOrdersRow : OpenClaim := { program := "ytlhkkffljjbdmaa", sum := "ec820bd4c4d526285412deb8565c18dcb41ac9d1d37a91744930cde011fe9193", func := "signet/signetlaw13.TrieOrders", spec := "trieOrders", inPlace := ["internal/bytealg.abigen_runtime_cmpstring"], unfollowed := true, recurses := true, apart := false }
def TrieOrdersSaid : Prop := trieOrdersRow.holds Try.pinned (OpenSpec.ofChange trieOrdersSpec)

/-- ITS FALSE NEIGHBOUR: 'it returns false'. Refute it at one input. -/
def trieOrdersWrong : ChangeSpec := { name := "trieOrders", fn := fun _ => fun
  | [d1, d2] => { results := [.lit (.bool false)], args := [d1, d2] }
  | _ => none }
def TrieOrdersWrongFalsely : Prop := trieOrdersRow.holds Try.pinned (OpenSpec.ofChange trieOrdersWrong)

/-- 'signetlaw13.TrieCopies': WHATEVER THE INPUT: true; the input reads as it did. -/
def trieCopiesSpec : ChangeSpec := { name := "trieCopies", fn := fun _ => fun
  | [d1, d2] => { results := [.lit (.bool true)], args := [d1, d2] }
  | _ => none }
def trieCopiesRow : OpenClaim := { program := "ytlhkkffljjbdmaa", sum := "ec820bd4c4d526285412deb8565c18dcb41ac9d1d37a91744930cde011fe9193", func := "signet/signetlaw13.TrieCopies", spec := "trieCopies", inPlace := ["internal/bytealg.abigen_runtime_cmpstring"], unfollowed := true, recurses := true, apart := false }
def TrieCopiesSaid : Prop := trieCopiesRow.holds Try.pinned (OpenSpec.ofChange trieCopiesSpec)

/-- ITS FALSE NEIGHBOUR: 'it returns false'. Refute it at one input. -/
def trieCopiesWrong : ChangeSpec := { name := "trieCopies", fn := fun _ => fun
  | [d1, d2] => { results := [.lit (.bool false)], args := [d1, d2] }
  | _ => none }
def TrieCopiesWrongFalsely : Prop := trieCopiesRow.holds Try.pinned (OpenSpec.ofChange trieCopiesWrong)

/- THE SECOND FORM. 'bulk': how many values and letters a reading holds, each counted each time it is reached (what is shared counts as often as it is met; a slice's spare places count too). A statement '..UptoSaid' is the law's where the arguments, and the package variables that the reading takes, are together of bulk at most 1048576: NARROWER than '..Said'. Prove '..Said' where nothing that the law and all that it calls make is longer than what came in: it says more and counts as full. Else prove '..UptoSaid'. A law counts once. -/
mutual
def uptoBulk {H : Type} : DataW H → Nat
  | .lit (.string bytes) => bytes.length + 1
  | .lit _ => 1
  | .nil => 1
  | .ptr d => uptoBulk d + 1
  | .slice elems spare => uptoBulkAll elems + uptoBulkAll spare + 1
  | .agg parts => uptoBulkAll parts + 1
  | .iface _ d => uptoBulk d + 1
  | .map entries => uptoBulkEntries entries + 1
  | .held _ => 1
def uptoBulkAll {H : Type} : List (DataW H) → Nat
  | [] => 0
  | d :: r => uptoBulk d + uptoBulkAll r
def uptoBulkEntries {H : Type} : List (Lit × DataW H) → Nat
  | [] => 0
  | x :: r => uptoBulkEntry x + uptoBulkEntries r
def uptoBulkEntry {H : Type} : Lit × DataW H → Nat
  | (.string bytes, d) => bytes.length + uptoBulk d + 1
  | (_, d) => uptoBulk d + 1
 end
def uptoSmall : (H : Type) → List (DataW H) → Bool := fun _ ds => decide (uptoBulkAll ds ≤ 1048576)
def OpenSpec.upto (s : _root_.Go.ChangeSpec) : _root_.Go.OpenSpec := { _root_.Go.OpenSpec.ofChange s with cond := some uptoSmall }

/-- 'signetlaw13.TrieFull', WHERE WHAT IT READS IS OF BULK AT MOST 1048576: true; the input reads as it did. -/
def trieFullUptoRow : OpenClaim := { program := "ytlhkkffljjbdmaa", sum := "ec820bd4c4d526285412deb8565c18dcb41ac9d1d37a91744930cde011fe9193", func := "signet/signetlaw13.TrieFull", spec := "trieFull", inPlace := ["internal/bytealg.abigen_runtime_cmpstring"], unfollowed := true, recurses := true, apart := false, narrowed := true }
def TrieFullUptoSaid : Prop := trieFullUptoRow.holds Try.pinned (OpenSpec.upto trieFullSpec)

/-- 'signetlaw13.TriePlays', WHERE WHAT IT READS IS OF BULK AT MOST 1048576: true; the input reads as it did. -/
def triePlaysUptoRow : OpenClaim := { program := "ytlhkkffljjbdmaa", sum := "ec820bd4c4d526285412deb8565c18dcb41ac9d1d37a91744930cde011fe9193", func := "signet/signetlaw13.TriePlays", spec := "triePlays", inPlace := ["internal/bytealg.abigen_runtime_cmpstring"], unfollowed := true, recurses := true, apart := false, narrowed := true }
def TriePlaysUptoSaid : Prop := triePlaysUptoRow.holds Try.pinned (OpenSpec.upto triePlaysSpec)

/-- 'signetlaw13.TriePatches', WHERE WHAT IT READS IS OF BULK AT MOST 1048576: true; the input reads as it did. -/
def triePatchesUptoRow : OpenClaim := { program := "ytlhkkffljjbdmaa", sum := "ec820bd4c4d526285412deb8565c18dcb41ac9d1d37a91744930cde011fe9193", func := "signet/signetlaw13.TriePatches", spec := "triePatches", inPlace := ["internal/bytealg.abigen_runtime_cmpstring"], unfollowed := true, recurses := true, apart := false, narrowed := true }
def TriePatchesUptoSaid : Prop := triePatchesUptoRow.holds Try.pinned (OpenSpec.upto triePatchesSpec)

/-- 'signetlaw13.TrieMends', WHERE WHAT IT READS IS OF BULK AT MOST 1048576: true; the input reads as it did. -/
def trieMendsUptoRow : OpenClaim := { program := "ytlhkkffljjbdmaa", sum := "ec820bd4c4d526285412deb8565c18dcb41ac9d1d37a91744930cde011fe9193", func := "signet/signetlaw13.TrieMends", spec := "trieMends", inPlace := ["internal/bytealg.abigen_runtime_cmpstring"], unfollowed := true, recurses := true, apart := false, narrowed := true }
def TrieMendsUptoSaid : Prop := trieMendsUptoRow.holds Try.pinned (OpenSpec.upto trieMendsSpec)

/-- 'signetlaw13.TrieDiffers', WHERE WHAT IT READS IS OF BULK AT MOST 1048576: true; the input reads as it did. -/
def trieDiffersUptoRow : OpenClaim := { program := "ytlhkkffljjbdmaa", sum := "ec820bd4c4d526285412deb8565c18dcb41ac9d1d37a91744930cde011fe9193", func := "signet/signetlaw13.TrieDiffers", spec := "trieDiffers", inPlace := ["internal/bytealg.abigen_runtime_cmpstring"], unfollowed := true, recurses := true, apart := false, narrowed := true }
def TrieDiffersUptoSaid : Prop := trieDiffersUptoRow.holds Try.pinned (OpenSpec.upto trieDiffersSpec)

/-- 'signetlaw13.TrieOrders', WHERE WHAT IT READS IS OF BULK AT MOST 1048576: true; the input reads as it did. -/
def trieOrdersUptoRow : OpenClaim := { program := "ytlhkkffljjbdmaa", sum := "ec820bd4c4d526285412deb8565c18dcb41ac9d1d37a91744930cde011fe9193", func := "signet/signetlaw13.TrieOrders", spec := "trieOrders", inPlace := ["internal/bytealg.abigen_runtime_cmpstring"], unfollowed := true, recurses := true, apart := false, narrowed := true }
def TrieOrdersUptoSaid : Prop := trieOrdersUptoRow.holds Try.pinned (OpenSpec.upto trieOrdersSpec)

/-- 'signetlaw13.TrieCopies', WHERE WHAT IT READS IS OF BULK AT MOST 1048576: true; the input reads as it did. -/
def trieCopiesUptoRow : OpenClaim := { program := "ytlhkkffljjbdmaa", sum := "ec820bd4c4d526285412deb8565c18dcb41ac9d1d37a91744930cde011fe9193", func := "signet/signetlaw13.TrieCopies", spec := "trieCopies", inPlace := ["internal/bytealg.abigen_runtime_cmpstring"], unfollowed := true, recurses := true, apart := false, narrowed := true }
def TrieCopiesUptoSaid : Prop := trieCopiesUptoRow.holds Try.pinned (OpenSpec.upto trieCopiesSpec)

end Rows
end Go.Proofs.Ytlhkkffljjbdmaa
