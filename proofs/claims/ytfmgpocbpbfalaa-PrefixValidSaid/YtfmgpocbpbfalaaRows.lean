/-
  NARROWER THAN 'FOR EVERY INPUT', by the rows' own cells (each row's printed sentence says how): PrefixValid: loops.
  DERIVED. THE GIVEN ROWS OF THIS SEAT. 7 by the template 'for every input the law returns true; each argument reads behind the call as it read before'; 0 by the template 'total and deterministic' (their statements: YtfmgpocbpbfalaaTotals.lean).
  GIVEN WITH THE SEED: the statements are not yours to turn. If you find one false, say at which input.
  Laid BY PROGRAM, IN A SANDBOX (cutbox-rows.mjs): the forced cells as the released guide's own fill.sh prints them over the translation c9ab8ba5daf8cd58… (all of the seat's roots in one cut). By AI agents, Wed Nov 11 2026. No macro, syntax, notation, axiom, sorry.
-/
import Derived.Test.YtfmgpocbpbfalaaChecked
import GoSem.Claim
import GoSem.ClaimJoined
import GoSem.ClaimMapViews
import Derived.JoinedTies
import Derived.KernelRfl
namespace Go.Proofs.Ytfmgpocbpbfalaa
/- THE CELL 'sum', in the pinned program and in every row, IS THE sha256 OF THE DUMP (.gsa) THAT YtfmgpocbpbfalaaProg.lean LOADS. Nothing in Lean hashes anything: it is a label: what it is worth is what the hold of that sum in a sandbox is worth. -/
noncomputable def Try.pinned : Pinned := { name := "ytfmgpocbpbfalaa", sum := "c9ab8ba5daf8cd58668787d8f0d5d928571e01192ec0740572e346a4f719f508", checked := Try.checked }
namespace Rows
def none {H : Type} : Left H := { results := [], args := [] }

/-- 'bookplatelaw41.PrefixOf': WHATEVER THE INPUT: true; the input reads as it did. -/
def prefixOfSpec : ChangeSpec := { name := "prefixOf", fn := fun _ => fun
  | [d] => { results := [.lit (.bool true)], args := [d] }
  | _ => none }
def prefixOfRow : OpenClaim := { program := "ytfmgpocbpbfalaa", sum := "c9ab8ba5daf8cd58668787d8f0d5d928571e01192ec0740572e346a4f719f508", func := "bookplate/bookplatelaw41.PrefixOf", spec := "prefixOf", inPlace := ["slices.overlaps[bookplate/prefix.Node]"], unfollowed := true, recurses := true, apart := false }
def PrefixOfSaid : Prop := prefixOfRow.holds Try.pinned (OpenSpec.ofChange prefixOfSpec)

/-- ITS FALSE NEIGHBOUR: 'it returns false'. Refute it at one input. -/
def prefixOfWrong : ChangeSpec := { name := "prefixOf", fn := fun _ => fun
  | [d] => { results := [.lit (.bool false)], args := [d] }
  | _ => none }
def PrefixOfWrongFalsely : Prop := prefixOfRow.holds Try.pinned (OpenSpec.ofChange prefixOfWrong)

/-- 'bookplatelaw41.PrefixLongest': WHATEVER THE INPUT: true; the input reads as it did. -/
def prefixLongestSpec : ChangeSpec := { name := "prefixLongest", fn := fun _ => fun
  | [d1, d2] => { results := [.lit (.bool true)], args := [d1, d2] }
  | _ => none }
def prefixLongestRow : OpenClaim := { program := "ytfmgpocbpbfalaa", sum := "c9ab8ba5daf8cd58668787d8f0d5d928571e01192ec0740572e346a4f719f508", func := "bookplate/bookplatelaw41.PrefixLongest", spec := "prefixLongest", inPlace := ["slices.overlaps[bookplate/prefix.Node]"], unfollowed := true, recurses := true, apart := false }
def PrefixLongestSaid : Prop := prefixLongestRow.holds Try.pinned (OpenSpec.ofChange prefixLongestSpec)

/-- ITS FALSE NEIGHBOUR: 'it returns false'. Refute it at one input. -/
def prefixLongestWrong : ChangeSpec := { name := "prefixLongest", fn := fun _ => fun
  | [d1, d2] => { results := [.lit (.bool false)], args := [d1, d2] }
  | _ => none }
def PrefixLongestWrongFalsely : Prop := prefixLongestRow.holds Try.pinned (OpenSpec.ofChange prefixLongestWrong)

/-- 'bookplatelaw41.PrefixFind': WHATEVER THE INPUT: true; the input reads as it did. -/
def prefixFindSpec : ChangeSpec := { name := "prefixFind", fn := fun _ => fun
  | [d1, d2, d3] => { results := [.lit (.bool true)], args := [d1, d2, d3] }
  | _ => none }
def prefixFindRow : OpenClaim := { program := "ytfmgpocbpbfalaa", sum := "c9ab8ba5daf8cd58668787d8f0d5d928571e01192ec0740572e346a4f719f508", func := "bookplate/bookplatelaw41.PrefixFind", spec := "prefixFind", inPlace := ["slices.overlaps[bookplate/prefix.Node]"], unfollowed := true, recurses := true, apart := false }
def PrefixFindSaid : Prop := prefixFindRow.holds Try.pinned (OpenSpec.ofChange prefixFindSpec)

/-- ITS FALSE NEIGHBOUR: 'it returns false'. Refute it at one input. -/
def prefixFindWrong : ChangeSpec := { name := "prefixFind", fn := fun _ => fun
  | [d1, d2, d3] => { results := [.lit (.bool false)], args := [d1, d2, d3] }
  | _ => none }
def PrefixFindWrongFalsely : Prop := prefixFindRow.holds Try.pinned (OpenSpec.ofChange prefixFindWrong)

/-- 'bookplatelaw41.PrefixOrder': WHATEVER THE INPUT: true; the input reads as it did. -/
def prefixOrderSpec : ChangeSpec := { name := "prefixOrder", fn := fun _ => fun
  | [d1, d2] => { results := [.lit (.bool true)], args := [d1, d2] }
  | _ => none }
def prefixOrderRow : OpenClaim := { program := "ytfmgpocbpbfalaa", sum := "c9ab8ba5daf8cd58668787d8f0d5d928571e01192ec0740572e346a4f719f508", func := "bookplate/bookplatelaw41.PrefixOrder", spec := "prefixOrder", inPlace := ["slices.overlaps[bookplate/prefix.Node]"], unfollowed := true, recurses := true, apart := false }
def PrefixOrderSaid : Prop := prefixOrderRow.holds Try.pinned (OpenSpec.ofChange prefixOrderSpec)

/-- ITS FALSE NEIGHBOUR: 'it returns false'. Refute it at one input. -/
def prefixOrderWrong : ChangeSpec := { name := "prefixOrder", fn := fun _ => fun
  | [d1, d2] => { results := [.lit (.bool false)], args := [d1, d2] }
  | _ => none }
def PrefixOrderWrongFalsely : Prop := prefixOrderRow.holds Try.pinned (OpenSpec.ofChange prefixOrderWrong)

/-- 'bookplatelaw41.PrefixValid': WHATEVER THE INPUT: true; the input reads as it did. -/
def prefixValidSpec : ChangeSpec := { name := "prefixValid", fn := fun _ => fun
  | [d1, d2] => { results := [.lit (.bool true)], args := [d1, d2] }
  | _ => none }
def prefixValidRow : OpenClaim := { program := "ytfmgpocbpbfalaa", sum := "c9ab8ba5daf8cd58668787d8f0d5d928571e01192ec0740572e346a4f719f508", func := "bookplate/bookplatelaw41.PrefixValid", spec := "prefixValid", inPlace := ["slices.overlaps[bookplate/prefix.Node]"], unfollowed := true, recurses := true, loops := true, apart := false }
def PrefixValidSaid : Prop := prefixValidRow.holds Try.pinned (OpenSpec.ofChange prefixValidSpec)

/-- ITS FALSE NEIGHBOUR: 'it returns false'. Refute it at one input. -/
def prefixValidWrong : ChangeSpec := { name := "prefixValid", fn := fun _ => fun
  | [d1, d2] => { results := [.lit (.bool false)], args := [d1, d2] }
  | _ => none }
def PrefixValidWrongFalsely : Prop := prefixValidRow.holds Try.pinned (OpenSpec.ofChange prefixValidWrong)

/-- 'bookplatelaw41.PrefixChanges': WHATEVER THE INPUT: true; the input reads as it did. -/
def prefixChangesSpec : ChangeSpec := { name := "prefixChanges", fn := fun _ => fun
  | [d1, d2] => { results := [.lit (.bool true)], args := [d1, d2] }
  | _ => none }
def prefixChangesRow : OpenClaim := { program := "ytfmgpocbpbfalaa", sum := "c9ab8ba5daf8cd58668787d8f0d5d928571e01192ec0740572e346a4f719f508", func := "bookplate/bookplatelaw41.PrefixChanges", spec := "prefixChanges", inPlace := ["slices.overlaps[bookplate/prefix.Node]"], unfollowed := true, recurses := true, apart := false }
def PrefixChangesSaid : Prop := prefixChangesRow.holds Try.pinned (OpenSpec.ofChange prefixChangesSpec)

/-- ITS FALSE NEIGHBOUR: 'it returns false'. Refute it at one input. -/
def prefixChangesWrong : ChangeSpec := { name := "prefixChanges", fn := fun _ => fun
  | [d1, d2] => { results := [.lit (.bool false)], args := [d1, d2] }
  | _ => none }
def PrefixChangesWrongFalsely : Prop := prefixChangesRow.holds Try.pinned (OpenSpec.ofChange prefixChangesWrong)

/-- 'bookplatelaw41.PrefixSets': WHATEVER THE INPUT: true; the input reads as it did. -/
def prefixSetsSpec : ChangeSpec := { name := "prefixSets", fn := fun _ => fun
  | [d1, d2, d3] => { results := [.lit (.bool true)], args := [d1, d2, d3] }
  | _ => none }
def prefixSetsRow : OpenClaim := { program := "ytfmgpocbpbfalaa", sum := "c9ab8ba5daf8cd58668787d8f0d5d928571e01192ec0740572e346a4f719f508", func := "bookplate/bookplatelaw41.PrefixSets", spec := "prefixSets", inPlace := ["slices.overlaps[bookplate/prefix.Node]"], unfollowed := true, recurses := true, apart := false }
def PrefixSetsSaid : Prop := prefixSetsRow.holds Try.pinned (OpenSpec.ofChange prefixSetsSpec)

/-- ITS FALSE NEIGHBOUR: 'it returns false'. Refute it at one input. -/
def prefixSetsWrong : ChangeSpec := { name := "prefixSets", fn := fun _ => fun
  | [d1, d2, d3] => { results := [.lit (.bool false)], args := [d1, d2, d3] }
  | _ => none }
def PrefixSetsWrongFalsely : Prop := prefixSetsRow.holds Try.pinned (OpenSpec.ofChange prefixSetsWrong)

/- THE SECOND FORM. 'bulk': how many values and letters a reading holds, each counted each time it is reached (what is shared counts as often as it is met; a slice's spare places count too). A statement '..UptoSaid' is the law's where the arguments, and the package variables that the reading takes, are together of bulk at most 1048576: NARROWER than '..Said'. Prove '..Said' where nothing that the law and all that it calls make is longer than what came in: it says more and counts as full. Else prove '..UptoSaid'. A law counts once. -/
mutual
def uptoBulk {H : Type} : DataW H → Nat
  | .lit (.string bytes) => bytes.length + 1
  | .lit _ => 1
  | .nil => 1
  | .ptr d => uptoBulk d + 1
  | .slice elems spare => uptoBulkAll elems + uptoBulkAll spare + 1
  | .agg parts => uptoBulkAll parts + 1
  | .iface _ d => uptoBulk d + 1
  | .map entries => uptoBulkEntries entries + 1
  | .held _ => 1
def uptoBulkAll {H : Type} : List (DataW H) → Nat
  | [] => 0
  | d :: r => uptoBulk d + uptoBulkAll r
def uptoBulkEntries {H : Type} : List (Lit × DataW H) → Nat
  | [] => 0
  | x :: r => uptoBulkEntry x + uptoBulkEntries r
def uptoBulkEntry {H : Type} : Lit × DataW H → Nat
  | (.string bytes, d) => bytes.length + uptoBulk d + 1
  | (_, d) => uptoBulk d + 1
 end
def uptoSmall : (H : Type) → List (DataW H) → Bool := fun _ ds => decide (uptoBulkAll ds ≤ 1048576)
def OpenSpec.upto (s : _root_.Go.ChangeSpec) : _root_.Go.OpenSpec := { _root_.Go.OpenSpec.ofChange s with cond := some uptoSmall }

/-- 'bookplatelaw41.PrefixOf', WHERE WHAT IT READS IS OF BULK AT MOST 1048576: true; the input reads as it did. -/
def prefixOfUptoRow : OpenClaim := { program := "ytfmgpocbpbfalaa", sum := "c9ab8ba5daf8cd58668787d8f0d5d928571e01192ec0740572e346a4f719f508", func := "bookplate/bookplatelaw41.PrefixOf", spec := "prefixOf", inPlace := ["slices.overlaps[bookplate/prefix.Node]"], unfollowed := true, recurses := true, apart := false, narrowed := true }
def PrefixOfUptoSaid : Prop := prefixOfUptoRow.holds Try.pinned (OpenSpec.upto prefixOfSpec)

/-- 'bookplatelaw41.PrefixLongest', WHERE WHAT IT READS IS OF BULK AT MOST 1048576: true; the input reads as it did. -/
def prefixLongestUptoRow : OpenClaim := { program := "ytfmgpocbpbfalaa", sum := "c9ab8ba5daf8cd58668787d8f0d5d928571e01192ec0740572e346a4f719f508", func := "bookplate/bookplatelaw41.PrefixLongest", spec := "prefixLongest", inPlace := ["slices.overlaps[bookplate/prefix.Node]"], unfollowed := true, recurses := true, apart := false, narrowed := true }
def PrefixLongestUptoSaid : Prop := prefixLongestUptoRow.holds Try.pinned (OpenSpec.upto prefixLongestSpec)

/-- 'bookplatelaw41.PrefixFind', WHERE WHAT IT READS IS OF BULK AT MOST 1048576: true; the input reads as it did. -/
def prefixFindUptoRow : OpenClaim := { program := "ytfmgpocbpbfalaa", sum := "c9ab8ba5daf8cd58668787d8f0d5d928571e01192ec0740572e346a4f719f508", func := "bookplate/bookplatelaw41.PrefixFind", spec := "prefixFind", inPlace := ["slices.overlaps[bookplate/prefix.Node]"], unfollowed := true, recurses := true, apart := false, narrowed := true }
def PrefixFindUptoSaid : Prop := prefixFindUptoRow.holds Try.pinned (OpenSpec.upto prefixFindSpec)

/-- 'bookplatelaw41.PrefixOrder', WHERE WHAT IT READS IS OF BULK AT MOST 1048576: true; the input reads as it did. -/
def prefixOrderUptoRow : OpenClaim := { program := "ytfmgpocbpbfalaa", sum := "c9ab8ba5daf8cd58668787d8f0d5d928571e01192ec0740572e346a4f719f508", func := "bookplate/bookplatelaw41.PrefixOrder", spec := "prefixOrder", inPlace := ["slices.overlaps[bookplate/prefix.Node]"], unfollowed := true, recurses := true, apart := false, narrowed := true }
def PrefixOrderUptoSaid : Prop := prefixOrderUptoRow.holds Try.pinned (OpenSpec.upto prefixOrderSpec)

/-- 'bookplatelaw41.PrefixValid', WHERE WHAT IT READS IS OF BULK AT MOST 1048576: true; the input reads as it did. -/
def prefixValidUptoRow : OpenClaim := { program := "ytfmgpocbpbfalaa", sum := "c9ab8ba5daf8cd58668787d8f0d5d928571e01192ec0740572e346a4f719f508", func := "bookplate/bookplatelaw41.PrefixValid", spec := "prefixValid", inPlace := ["slices.overlaps[bookplate/prefix.Node]"], unfollowed := true, recurses := true, loops := true, apart := false, narrowed := true }
def PrefixValidUptoSaid : Prop := prefixValidUptoRow.holds Try.pinned (OpenSpec.upto prefixValidSpec)

/-- 'bookplatelaw41.PrefixChanges', WHERE WHAT IT READS IS OF BULK AT MOST 1048576: true; the input reads as it did. -/
def prefixChangesUptoRow : OpenClaim := { program := "ytfmgpocbpbfalaa", sum := "c9ab8ba5daf8cd58668787d8f0d5d928571e01192ec0740572e346a4f719f508", func := "bookplate/bookplatelaw41.PrefixChanges", spec := "prefixChanges", inPlace := ["slices.overlaps[bookplate/prefix.Node]"], unfollowed := true, recurses := true, apart := false, narrowed := true }
def PrefixChangesUptoSaid : Prop := prefixChangesUptoRow.holds Try.pinned (OpenSpec.upto prefixChangesSpec)

/-- 'bookplatelaw41.PrefixSets', WHERE WHAT IT READS IS OF BULK AT MOST 1048576: true; the input reads as it did. -/
def prefixSetsUptoRow : OpenClaim := { program := "ytfmgpocbpbfalaa", sum := "c9ab8ba5daf8cd58668787d8f0d5d928571e01192ec0740572e346a4f719f508", func := "bookplate/bookplatelaw41.PrefixSets", spec := "prefixSets", inPlace := ["slices.overlaps[bookplate/prefix.Node]"], unfollowed := true, recurses := true, apart := false, narrowed := true }
def PrefixSetsUptoSaid : Prop := prefixSetsUptoRow.holds Try.pinned (OpenSpec.upto prefixSetsSpec)

end Rows
end Go.Proofs.Ytfmgpocbpbfalaa
