/-
  No cell of these rows narrows 'for every input' (looked for: loops, veiled, ifaces, maps, wideKeys, modest, calm, conditions, laid).
  DERIVED. THE GIVEN ROWS OF THIS SEAT. 6 by the template 'for every input the law returns true; each argument reads behind the call as it read before'; 0 by the template 'total and deterministic' (their statements: YtlodmhiemndegaaTotals.lean).
  GIVEN WITH THE SEED: the statements are not yours to turn. If you find one false, say at which input.
  Laid BY PROGRAM, IN A SANDBOX (cutbox-rows.mjs): the forced cells as the released guide's own fill.sh prints them over the translation cff9bde0c80afad7… (all of the seat's roots in one cut). By AI agents, Wed Nov 11 2026. No macro, syntax, notation, axiom, sorry.
-/
import Derived.Test.YtlodmhiemndegaaChecked
import GoSem.Claim
import GoSem.ClaimJoined
import GoSem.ClaimMapViews
import Derived.JoinedTies
import Derived.KernelRfl
namespace Go.Proofs.Ytlodmhiemndegaa
/- THE CELL 'sum', in the pinned program and in every row, IS THE sha256 OF THE DUMP (.gsa) THAT YtlodmhiemndegaaProg.lean LOADS. Nothing in Lean hashes anything: it is a label: what it is worth is what the hold of that sum in a sandbox is worth. -/
noncomputable def Try.pinned : Pinned := { name := "ytlodmhiemndegaa", sum := "cff9bde0c80afad78eb72a11cfd0ce1e42152c5d6e8bbe6ae93d9cf9c47c2a2f", checked := Try.checked }
namespace Rows
def none {H : Type} : Left H := { results := [], args := [] }

/-- 'bookplatelaw57.HoldServes': WHATEVER THE INPUT: true; the input reads as it did. -/
def holdServesSpec : ChangeSpec := { name := "holdServes", fn := fun _ => fun
  | [d1, d2] => { results := [.lit (.bool true)], args := [d1, d2] }
  | _ => none }
def holdServesRow : OpenClaim := { program := "ytlodmhiemndegaa", sum := "cff9bde0c80afad78eb72a11cfd0ce1e42152c5d6e8bbe6ae93d9cf9c47c2a2f", func := "bookplate/bookplatelaw57.HoldServes", spec := "holdServes", unfollowed := true, recurses := true, apart := false }
def HoldServesSaid : Prop := holdServesRow.holds Try.pinned (OpenSpec.ofChange holdServesSpec)

/-- ITS FALSE NEIGHBOUR: 'it returns false'. Refute it at one input. -/
def holdServesWrong : ChangeSpec := { name := "holdServes", fn := fun _ => fun
  | [d1, d2] => { results := [.lit (.bool false)], args := [d1, d2] }
  | _ => none }
def HoldServesWrongFalsely : Prop := holdServesRow.holds Try.pinned (OpenSpec.ofChange holdServesWrong)

/-- 'bookplatelaw57.HoldClasses': WHATEVER THE INPUT: true; the input reads as it did. -/
def holdClassesSpec : ChangeSpec := { name := "holdClasses", fn := fun _ => fun
  | [d] => { results := [.lit (.bool true)], args := [d] }
  | _ => none }
def holdClassesRow : OpenClaim := { program := "ytlodmhiemndegaa", sum := "cff9bde0c80afad78eb72a11cfd0ce1e42152c5d6e8bbe6ae93d9cf9c47c2a2f", func := "bookplate/bookplatelaw57.HoldClasses", spec := "holdClasses", unfollowed := true, recurses := true, apart := false }
def HoldClassesSaid : Prop := holdClassesRow.holds Try.pinned (OpenSpec.ofChange holdClassesSpec)

/-- ITS FALSE NEIGHBOUR: 'it returns false'. Refute it at one input. -/
def holdClassesWrong : ChangeSpec := { name := "holdClasses", fn := fun _ => fun
  | [d] => { results := [.lit (.bool false)], args := [d] }
  | _ => none }
def HoldClassesWrongFalsely : Prop := holdClassesRow.holds Try.pinned (OpenSpec.ofChange holdClassesWrong)

/-- 'bookplatelaw57.HoldEveryone': WHATEVER THE INPUT: true; the input reads as it did. -/
def holdEveryoneSpec : ChangeSpec := { name := "holdEveryone", fn := fun _ => fun
  | [d] => { results := [.lit (.bool true)], args := [d] }
  | _ => none }
def holdEveryoneRow : OpenClaim := { program := "ytlodmhiemndegaa", sum := "cff9bde0c80afad78eb72a11cfd0ce1e42152c5d6e8bbe6ae93d9cf9c47c2a2f", func := "bookplate/bookplatelaw57.HoldEveryone", spec := "holdEveryone", unfollowed := true, recurses := true, apart := false }
def HoldEveryoneSaid : Prop := holdEveryoneRow.holds Try.pinned (OpenSpec.ofChange holdEveryoneSpec)

/-- ITS FALSE NEIGHBOUR: 'it returns false'. Refute it at one input. -/
def holdEveryoneWrong : ChangeSpec := { name := "holdEveryone", fn := fun _ => fun
  | [d] => { results := [.lit (.bool false)], args := [d] }
  | _ => none }
def HoldEveryoneWrongFalsely : Prop := holdEveryoneRow.holds Try.pinned (OpenSpec.ofChange holdEveryoneWrong)

/-- 'bookplatelaw57.HoldChanges': WHATEVER THE INPUT: true; the input reads as it did. -/
def holdChangesSpec : ChangeSpec := { name := "holdChanges", fn := fun _ => fun
  | [d1, d2, d3] => { results := [.lit (.bool true)], args := [d1, d2, d3] }
  | _ => none }
def holdChangesRow : OpenClaim := { program := "ytlodmhiemndegaa", sum := "cff9bde0c80afad78eb72a11cfd0ce1e42152c5d6e8bbe6ae93d9cf9c47c2a2f", func := "bookplate/bookplatelaw57.HoldChanges", spec := "holdChanges", unfollowed := true, recurses := true, apart := false }
def HoldChangesSaid : Prop := holdChangesRow.holds Try.pinned (OpenSpec.ofChange holdChangesSpec)

/-- ITS FALSE NEIGHBOUR: 'it returns false'. Refute it at one input. -/
def holdChangesWrong : ChangeSpec := { name := "holdChanges", fn := fun _ => fun
  | [d1, d2, d3] => { results := [.lit (.bool false)], args := [d1, d2, d3] }
  | _ => none }
def HoldChangesWrongFalsely : Prop := holdChangesRow.holds Try.pinned (OpenSpec.ofChange holdChangesWrong)

/-- 'bookplatelaw57.HoldFair': WHATEVER THE INPUT: true; the input reads as it did. -/
def holdFairSpec : ChangeSpec := { name := "holdFair", fn := fun _ => fun
  | [d] => { results := [.lit (.bool true)], args := [d] }
  | _ => none }
def holdFairRow : OpenClaim := { program := "ytlodmhiemndegaa", sum := "cff9bde0c80afad78eb72a11cfd0ce1e42152c5d6e8bbe6ae93d9cf9c47c2a2f", func := "bookplate/bookplatelaw57.HoldFair", spec := "holdFair", unfollowed := true, recurses := true, apart := false }
def HoldFairSaid : Prop := holdFairRow.holds Try.pinned (OpenSpec.ofChange holdFairSpec)

/-- ITS FALSE NEIGHBOUR: 'it returns false'. Refute it at one input. -/
def holdFairWrong : ChangeSpec := { name := "holdFair", fn := fun _ => fun
  | [d] => { results := [.lit (.bool false)], args := [d] }
  | _ => none }
def HoldFairWrongFalsely : Prop := holdFairRow.holds Try.pinned (OpenSpec.ofChange holdFairWrong)

/-- 'bookplatelaw57.HoldBack': WHATEVER THE INPUT: true; the input reads as it did. -/
def holdBackSpec : ChangeSpec := { name := "holdBack", fn := fun _ => fun
  | [d1, d2] => { results := [.lit (.bool true)], args := [d1, d2] }
  | _ => none }
def holdBackRow : OpenClaim := { program := "ytlodmhiemndegaa", sum := "cff9bde0c80afad78eb72a11cfd0ce1e42152c5d6e8bbe6ae93d9cf9c47c2a2f", func := "bookplate/bookplatelaw57.HoldBack", spec := "holdBack", unfollowed := true, recurses := true, apart := false }
def HoldBackSaid : Prop := holdBackRow.holds Try.pinned (OpenSpec.ofChange holdBackSpec)

/-- ITS FALSE NEIGHBOUR: 'it returns false'. Refute it at one input. -/
def holdBackWrong : ChangeSpec := { name := "holdBack", fn := fun _ => fun
  | [d1, d2] => { results := [.lit (.bool false)], args := [d1, d2] }
  | _ => none }
def HoldBackWrongFalsely : Prop := holdBackRow.holds Try.pinned (OpenSpec.ofChange holdBackWrong)

/- THE SECOND FORM. 'bulk': how many values and letters a reading holds, each counted each time it is reached (what is shared counts as often as it is met; a slice's spare places count too). A statement '..UptoSaid' is the law's where the arguments, and the package variables that the reading takes, are together of bulk at most 1048576: NARROWER than '..Said'. Prove '..Said' where nothing that the law and all that it calls make is longer than what came in: it says more and counts as full. Else prove '..UptoSaid'. A law counts once. -/
mutual
def uptoBulk {H : Type} : DataW H → Nat
  | .lit (.string bytes) => bytes.length + 1
  | .lit _ => 1
  | .nil => 1
  | .ptr d => uptoBulk d + 1
  | .slice elems spare => uptoBulkAll elems + uptoBulkAll spare + 1
  | .agg parts => uptoBulkAll parts + 1
  | .iface _ d => uptoBulk d + 1
  | .map entries => uptoBulkEntries entries + 1
  | .held _ => 1
def uptoBulkAll {H : Type} : List (DataW H) → Nat
  | [] => 0
  | d :: r => uptoBulk d + uptoBulkAll r
def uptoBulkEntries {H : Type} : List (Lit × DataW H) → Nat
  | [] => 0
  | x :: r => uptoBulkEntry x + uptoBulkEntries r
def uptoBulkEntry {H : Type} : Lit × DataW H → Nat
  | (.string bytes, d) => bytes.length + uptoBulk d + 1
  | (_, d) => uptoBulk d + 1
 end
def uptoSmall : (H : Type) → List (DataW H) → Bool := fun _ ds => decide (uptoBulkAll ds ≤ 1048576)
def OpenSpec.upto (s : _root_.Go.ChangeSpec) : _root_.Go.OpenSpec := { _root_.Go.OpenSpec.ofChange s with cond := some uptoSmall }

/-- 'bookplatelaw57.HoldServes', WHERE WHAT IT READS IS OF BULK AT MOST 1048576: true; the input reads as it did. -/
def holdServesUptoRow : OpenClaim := { program := "ytlodmhiemndegaa", sum := "cff9bde0c80afad78eb72a11cfd0ce1e42152c5d6e8bbe6ae93d9cf9c47c2a2f", func := "bookplate/bookplatelaw57.HoldServes", spec := "holdServes", unfollowed := true, recurses := true, apart := false, narrowed := true }
def HoldServesUptoSaid : Prop := holdServesUptoRow.holds Try.pinned (OpenSpec.upto holdServesSpec)

/-- 'bookplatelaw57.HoldClasses', WHERE WHAT IT READS IS OF BULK AT MOST 1048576: true; the input reads as it did. -/
def holdClassesUptoRow : OpenClaim := { program := "ytlodmhiemndegaa", sum := "cff9bde0c80afad78eb72a11cfd0ce1e42152c5d6e8bbe6ae93d9cf9c47c2a2f", func := "bookplate/bookplatelaw57.HoldClasses", spec := "holdClasses", unfollowed := true, recurses := true, apart := false, narrowed := true }
def HoldClassesUptoSaid : Prop := holdClassesUptoRow.holds Try.pinned (OpenSpec.upto holdClassesSpec)

/-- 'bookplatelaw57.HoldEveryone', WHERE WHAT IT READS IS OF BULK AT MOST 1048576: true; the input reads as it did. -/
def holdEveryoneUptoRow : OpenClaim := { program := "ytlodmhiemndegaa", sum := "cff9bde0c80afad78eb72a11cfd0ce1e42152c5d6e8bbe6ae93d9cf9c47c2a2f", func := "bookplate/bookplatelaw57.HoldEveryone", spec := "holdEveryone", unfollowed := true, recurses := true, apart := false, narrowed := true }
def HoldEveryoneUptoSaid : Prop := holdEveryoneUptoRow.holds Try.pinned (OpenSpec.upto holdEveryoneSpec)

/-- 'bookplatelaw57.HoldChanges', WHERE WHAT IT READS IS OF BULK AT MOST 1048576: true; the input reads as it did. -/
def holdChangesUptoRow : OpenClaim := { program := "ytlodmhiemndegaa", sum := "cff9bde0c80afad78eb72a11cfd0ce1e42152c5d6e8bbe6ae93d9cf9c47c2a2f", func := "bookplate/bookplatelaw57.HoldChanges", spec := "holdChanges", unfollowed := true, recurses := true, apart := false, narrowed := true }
def HoldChangesUptoSaid : Prop := holdChangesUptoRow.holds Try.pinned (OpenSpec.upto holdChangesSpec)

/-- 'bookplatelaw57.HoldFair', WHERE WHAT IT READS IS OF BULK AT MOST 1048576: true; the input reads as it did. -/
def holdFairUptoRow : OpenClaim := { program := "ytlodmhiemndegaa", sum := "cff9bde0c80afad78eb72a11cfd0ce1e42152c5d6e8bbe6ae93d9cf9c47c2a2f", func := "bookplate/bookplatelaw57.HoldFair", spec := "holdFair", unfollowed := true, recurses := true, apart := false, narrowed := true }
def HoldFairUptoSaid : Prop := holdFairUptoRow.holds Try.pinned (OpenSpec.upto holdFairSpec)

/-- 'bookplatelaw57.HoldBack', WHERE WHAT IT READS IS OF BULK AT MOST 1048576: true; the input reads as it did. -/
def holdBackUptoRow : OpenClaim := { program := "ytlodmhiemndegaa", sum := "cff9bde0c80afad78eb72a11cfd0ce1e42152c5d6e8bbe6ae93d9cf9c47c2a2f", func := "bookplate/bookplatelaw57.HoldBack", spec := "holdBack", unfollowed := true, recurses := true, apart := false, narrowed := true }
def HoldBackUptoSaid : Prop := holdBackUptoRow.holds Try.pinned (OpenSpec.upto holdBackSpec)

end Rows
end Go.Proofs.Ytlodmhiemndegaa
