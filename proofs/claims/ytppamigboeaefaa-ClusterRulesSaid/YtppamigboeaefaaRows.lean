/-
  No cell of these rows narrows 'for every input' (looked for: loops, veiled, ifaces, maps, wideKeys, modest, calm, conditions, laid).
  DERIVED. THE GIVEN ROWS OF THIS SEAT. 8 by the template 'for every input the law returns true; each argument reads behind the call as it read before'; 0 by the template 'total and deterministic' (their statements: YtppamigboeaefaaTotals.lean).
  GIVEN WITH THE SEED: the statements are not yours to turn. If you find one false, say at which input.
  Laid BY PROGRAM, IN A SANDBOX (cutbox-rows.mjs): the forced cells as the released guide's own fill.sh prints them over the translation d6c050245628a946… (all of the seat's roots in one cut). By AI agents, Wed Nov 11 2026. No macro, syntax, notation, axiom, sorry.
-/
import Derived.Test.YtppamigboeaefaaChecked
import GoSem.Claim
import GoSem.ClaimJoined
import GoSem.ClaimMapViews
import Derived.JoinedTies
import Derived.KernelRfl
namespace Go.Proofs.Ytppamigboeaefaa
/- THE CELL 'sum', in the pinned program and in every row, IS THE sha256 OF THE DUMP (.gsa) THAT YtppamigboeaefaaProg.lean LOADS. Nothing in Lean hashes anything: it is a label: what it is worth is what the hold of that sum in a sandbox is worth. -/
noncomputable def Try.pinned : Pinned := { name := "ytppamigboeaefaa", sum := "d6c050245628a94658622e1cadd06bd571afe8308a72fa3f4fc6db09b5f3f1ff", checked := Try.checked }
namespace Rows
def none {H : Type} : Left H := { results := [], args := [] }

/-- 'bookplatelaw33.ClusterJoined': WHATEVER THE INPUT: true; the input reads as it did. -/
def clusterJoinedSpec : ChangeSpec := { name := "clusterJoined", fn := fun _ => fun
  | [d1, d2] => { results := [.lit (.bool true)], args := [d1, d2] }
  | _ => none }
def clusterJoinedRow : OpenClaim := { program := "ytppamigboeaefaa", sum := "d6c050245628a94658622e1cadd06bd571afe8308a72fa3f4fc6db09b5f3f1ff", func := "bookplate/bookplatelaw33.ClusterJoined", spec := "clusterJoined", unfollowed := true, recurses := true, apart := false }
def ClusterJoinedSaid : Prop := clusterJoinedRow.holds Try.pinned (OpenSpec.ofChange clusterJoinedSpec)

/-- ITS FALSE NEIGHBOUR: 'it returns false'. Refute it at one input. -/
def clusterJoinedWrong : ChangeSpec := { name := "clusterJoined", fn := fun _ => fun
  | [d1, d2] => { results := [.lit (.bool false)], args := [d1, d2] }
  | _ => none }
def ClusterJoinedWrongFalsely : Prop := clusterJoinedRow.holds Try.pinned (OpenSpec.ofChange clusterJoinedWrong)

/-- 'bookplatelaw33.ClusterRules': WHATEVER THE INPUT: true; the input reads as it did. -/
def clusterRulesSpec : ChangeSpec := { name := "clusterRules", fn := fun _ => fun
  | [d1, d2] => { results := [.lit (.bool true)], args := [d1, d2] }
  | _ => none }
def clusterRulesRow : OpenClaim := { program := "ytppamigboeaefaa", sum := "d6c050245628a94658622e1cadd06bd571afe8308a72fa3f4fc6db09b5f3f1ff", func := "bookplate/bookplatelaw33.ClusterRules", spec := "clusterRules", unfollowed := true, recurses := true, apart := false }
def ClusterRulesSaid : Prop := clusterRulesRow.holds Try.pinned (OpenSpec.ofChange clusterRulesSpec)

/-- ITS FALSE NEIGHBOUR: 'it returns false'. Refute it at one input. -/
def clusterRulesWrong : ChangeSpec := { name := "clusterRules", fn := fun _ => fun
  | [d1, d2] => { results := [.lit (.bool false)], args := [d1, d2] }
  | _ => none }
def ClusterRulesWrongFalsely : Prop := clusterRulesRow.holds Try.pinned (OpenSpec.ofChange clusterRulesWrong)

/-- 'bookplatelaw33.ClusterForms': WHATEVER THE INPUT: true; the input reads as it did. -/
def clusterFormsSpec : ChangeSpec := { name := "clusterForms", fn := fun _ => fun
  | [d1, d2] => { results := [.lit (.bool true)], args := [d1, d2] }
  | _ => none }
def clusterFormsRow : OpenClaim := { program := "ytppamigboeaefaa", sum := "d6c050245628a94658622e1cadd06bd571afe8308a72fa3f4fc6db09b5f3f1ff", func := "bookplate/bookplatelaw33.ClusterForms", spec := "clusterForms", unfollowed := true, recurses := true, apart := false }
def ClusterFormsSaid : Prop := clusterFormsRow.holds Try.pinned (OpenSpec.ofChange clusterFormsSpec)

/-- ITS FALSE NEIGHBOUR: 'it returns false'. Refute it at one input. -/
def clusterFormsWrong : ChangeSpec := { name := "clusterForms", fn := fun _ => fun
  | [d1, d2] => { results := [.lit (.bool false)], args := [d1, d2] }
  | _ => none }
def ClusterFormsWrongFalsely : Prop := clusterFormsRow.holds Try.pinned (OpenSpec.ofChange clusterFormsWrong)

/-- 'bookplatelaw33.ClusterLocal': WHATEVER THE INPUT: true; the input reads as it did. -/
def clusterLocalSpec : ChangeSpec := { name := "clusterLocal", fn := fun _ => fun
  | [d] => { results := [.lit (.bool true)], args := [d] }
  | _ => none }
def clusterLocalRow : OpenClaim := { program := "ytppamigboeaefaa", sum := "d6c050245628a94658622e1cadd06bd571afe8308a72fa3f4fc6db09b5f3f1ff", func := "bookplate/bookplatelaw33.ClusterLocal", spec := "clusterLocal", unfollowed := true, recurses := true, apart := false }
def ClusterLocalSaid : Prop := clusterLocalRow.holds Try.pinned (OpenSpec.ofChange clusterLocalSpec)

/-- ITS FALSE NEIGHBOUR: 'it returns false'. Refute it at one input. -/
def clusterLocalWrong : ChangeSpec := { name := "clusterLocal", fn := fun _ => fun
  | [d] => { results := [.lit (.bool false)], args := [d] }
  | _ => none }
def ClusterLocalWrongFalsely : Prop := clusterLocalRow.holds Try.pinned (OpenSpec.ofChange clusterLocalWrong)

/-- 'bookplatelaw33.ClusterResults': WHATEVER THE INPUT: true; the input reads as it did. -/
def clusterResultsSpec : ChangeSpec := { name := "clusterResults", fn := fun _ => fun
  | [d1, d2] => { results := [.lit (.bool true)], args := [d1, d2] }
  | _ => none }
def clusterResultsRow : OpenClaim := { program := "ytppamigboeaefaa", sum := "d6c050245628a94658622e1cadd06bd571afe8308a72fa3f4fc6db09b5f3f1ff", func := "bookplate/bookplatelaw33.ClusterResults", spec := "clusterResults", unfollowed := true, recurses := true, apart := false }
def ClusterResultsSaid : Prop := clusterResultsRow.holds Try.pinned (OpenSpec.ofChange clusterResultsSpec)

/-- ITS FALSE NEIGHBOUR: 'it returns false'. Refute it at one input. -/
def clusterResultsWrong : ChangeSpec := { name := "clusterResults", fn := fun _ => fun
  | [d1, d2] => { results := [.lit (.bool false)], args := [d1, d2] }
  | _ => none }
def ClusterResultsWrongFalsely : Prop := clusterResultsRow.holds Try.pinned (OpenSpec.ofChange clusterResultsWrong)

/-- 'bookplatelaw33.ClusterSteps': WHATEVER THE INPUT: true; the input reads as it did. -/
def clusterStepsSpec : ChangeSpec := { name := "clusterSteps", fn := fun _ => fun
  | [d1, d2, d3] => { results := [.lit (.bool true)], args := [d1, d2, d3] }
  | _ => none }
def clusterStepsRow : OpenClaim := { program := "ytppamigboeaefaa", sum := "d6c050245628a94658622e1cadd06bd571afe8308a72fa3f4fc6db09b5f3f1ff", func := "bookplate/bookplatelaw33.ClusterSteps", spec := "clusterSteps", unfollowed := true, recurses := true, apart := false }
def ClusterStepsSaid : Prop := clusterStepsRow.holds Try.pinned (OpenSpec.ofChange clusterStepsSpec)

/-- ITS FALSE NEIGHBOUR: 'it returns false'. Refute it at one input. -/
def clusterStepsWrong : ChangeSpec := { name := "clusterSteps", fn := fun _ => fun
  | [d1, d2, d3] => { results := [.lit (.bool false)], args := [d1, d2, d3] }
  | _ => none }
def ClusterStepsWrongFalsely : Prop := clusterStepsRow.holds Try.pinned (OpenSpec.ofChange clusterStepsWrong)

/-- 'bookplatelaw33.ClusterSolve': WHATEVER THE INPUT: true; the input reads as it did. -/
def clusterSolveSpec : ChangeSpec := { name := "clusterSolve", fn := fun _ => fun
  | [d1, d2] => { results := [.lit (.bool true)], args := [d1, d2] }
  | _ => none }
def clusterSolveRow : OpenClaim := { program := "ytppamigboeaefaa", sum := "d6c050245628a94658622e1cadd06bd571afe8308a72fa3f4fc6db09b5f3f1ff", func := "bookplate/bookplatelaw33.ClusterSolve", spec := "clusterSolve", unfollowed := true, recurses := true, apart := false }
def ClusterSolveSaid : Prop := clusterSolveRow.holds Try.pinned (OpenSpec.ofChange clusterSolveSpec)

/-- ITS FALSE NEIGHBOUR: 'it returns false'. Refute it at one input. -/
def clusterSolveWrong : ChangeSpec := { name := "clusterSolve", fn := fun _ => fun
  | [d1, d2] => { results := [.lit (.bool false)], args := [d1, d2] }
  | _ => none }
def ClusterSolveWrongFalsely : Prop := clusterSolveRow.holds Try.pinned (OpenSpec.ofChange clusterSolveWrong)

/-- 'bookplatelaw33.ClusterParts': WHATEVER THE INPUT: true; the input reads as it did. -/
def clusterPartsSpec : ChangeSpec := { name := "clusterParts", fn := fun _ => fun
  | [d] => { results := [.lit (.bool true)], args := [d] }
  | _ => none }
def clusterPartsRow : OpenClaim := { program := "ytppamigboeaefaa", sum := "d6c050245628a94658622e1cadd06bd571afe8308a72fa3f4fc6db09b5f3f1ff", func := "bookplate/bookplatelaw33.ClusterParts", spec := "clusterParts", unfollowed := true, recurses := true, apart := false }
def ClusterPartsSaid : Prop := clusterPartsRow.holds Try.pinned (OpenSpec.ofChange clusterPartsSpec)

/-- ITS FALSE NEIGHBOUR: 'it returns false'. Refute it at one input. -/
def clusterPartsWrong : ChangeSpec := { name := "clusterParts", fn := fun _ => fun
  | [d] => { results := [.lit (.bool false)], args := [d] }
  | _ => none }
def ClusterPartsWrongFalsely : Prop := clusterPartsRow.holds Try.pinned (OpenSpec.ofChange clusterPartsWrong)

/- THE SECOND FORM. 'bulk': how many values and letters a reading holds, each counted each time it is reached (what is shared counts as often as it is met; a slice's spare places count too). A statement '..UptoSaid' is the law's where the arguments, and the package variables that the reading takes, are together of bulk at most 1048576: NARROWER than '..Said'. Prove '..Said' where nothing that the law and all that it calls make is longer than what came in: it says more and counts as full. Else prove '..UptoSaid'. A law counts once. -/
mutual
def uptoBulk {H : Type} : DataW H → Nat
  | .lit (.string bytes) => bytes.length + 1
  | .lit _ => 1
  | .nil => 1
  | .ptr d => uptoBulk d + 1
  | .slice elems spare => uptoBulkAll elems + uptoBulkAll spare + 1
  | .agg parts => uptoBulkAll parts + 1
  | .iface _ d => uptoBulk d + 1
  | .map entries => uptoBulkEntries entries + 1
  | .held _ => 1
def uptoBulkAll {H : Type} : List (DataW H) → Nat
  | [] => 0
  | d :: r => uptoBulk d + uptoBulkAll r
def uptoBulkEntries {H : Type} : List (Lit × DataW H) → Nat
  | [] => 0
  | x :: r => uptoBulkEntry x + uptoBulkEntries r
def uptoBulkEntry {H : Type} : Lit × DataW H → Nat
  | (.string bytes, d) => bytes.length + uptoBulk d + 1
  | (_, d) => uptoBulk d + 1
 end
def uptoSmall : (H : Type) → List (DataW H) → Bool := fun _ ds => decide (uptoBulkAll ds ≤ 1048576)
def OpenSpec.upto (s : _root_.Go.ChangeSpec) : _root_.Go.OpenSpec := { _root_.Go.OpenSpec.ofChange s with cond := some uptoSmall }

/-- 'bookplatelaw33.ClusterJoined', WHERE WHAT IT READS IS OF BULK AT MOST 1048576: true; the input reads as it did. -/
def clusterJoinedUptoRow : OpenClaim := { program := "ytppamigboeaefaa", sum := "d6c050245628a94658622e1cadd06bd571afe8308a72fa3f4fc6db09b5f3f1ff", func := "bookplate/bookplatelaw33.ClusterJoined", spec := "clusterJoined", unfollowed := true, recurses := true, apart := false, narrowed := true }
def ClusterJoinedUptoSaid : Prop := clusterJoinedUptoRow.holds Try.pinned (OpenSpec.upto clusterJoinedSpec)

/-- 'bookplatelaw33.ClusterRules', WHERE WHAT IT READS IS OF BULK AT MOST 1048576: true; the input reads as it did. -/
def clusterRulesUptoRow : OpenClaim := { program := "ytppamigboeaefaa", sum := "d6c050245628a94658622e1cadd06bd571afe8308a72fa3f4fc6db09b5f3f1ff", func := "bookplate/bookplatelaw33.ClusterRules", spec := "clusterRules", unfollowed := true, recurses := true, apart := false, narrowed := true }
def ClusterRulesUptoSaid : Prop := clusterRulesUptoRow.holds Try.pinned (OpenSpec.upto clusterRulesSpec)

/-- 'bookplatelaw33.ClusterForms', WHERE WHAT IT READS IS OF BULK AT MOST 1048576: true; the input reads as it did. -/
def clusterFormsUptoRow : OpenClaim := { program := "ytppamigboeaefaa", sum := "d6c050245628a94658622e1cadd06bd571afe8308a72fa3f4fc6db09b5f3f1ff", func := "bookplate/bookplatelaw33.ClusterForms", spec := "clusterForms", unfollowed := true, recurses := true, apart := false, narrowed := true }
def ClusterFormsUptoSaid : Prop := clusterFormsUptoRow.holds Try.pinned (OpenSpec.upto clusterFormsSpec)

/-- 'bookplatelaw33.ClusterLocal', WHERE WHAT IT READS IS OF BULK AT MOST 1048576: true; the input reads as it did. -/
def clusterLocalUptoRow : OpenClaim := { program := "ytppamigboeaefaa", sum := "d6c050245628a94658622e1cadd06bd571afe8308a72fa3f4fc6db09b5f3f1ff", func := "bookplate/bookplatelaw33.ClusterLocal", spec := "clusterLocal", unfollowed := true, recurses := true, apart := false, narrowed := true }
def ClusterLocalUptoSaid : Prop := clusterLocalUptoRow.holds Try.pinned (OpenSpec.upto clusterLocalSpec)

/-- 'bookplatelaw33.ClusterResults', WHERE WHAT IT READS IS OF BULK AT MOST 1048576: true; the input reads as it did. -/
def clusterResultsUptoRow : OpenClaim := { program := "ytppamigboeaefaa", sum := "d6c050245628a94658622e1cadd06bd571afe8308a72fa3f4fc6db09b5f3f1ff", func := "bookplate/bookplatelaw33.ClusterResults", spec := "clusterResults", unfollowed := true, recurses := true, apart := false, narrowed := true }
def ClusterResultsUptoSaid : Prop := clusterResultsUptoRow.holds Try.pinned (OpenSpec.upto clusterResultsSpec)

/-- 'bookplatelaw33.ClusterSteps', WHERE WHAT IT READS IS OF BULK AT MOST 1048576: true; the input reads as it did. -/
def clusterStepsUptoRow : OpenClaim := { program := "ytppamigboeaefaa", sum := "d6c050245628a94658622e1cadd06bd571afe8308a72fa3f4fc6db09b5f3f1ff", func := "bookplate/bookplatelaw33.ClusterSteps", spec := "clusterSteps", unfollowed := true, recurses := true, apart := false, narrowed := true }
def ClusterStepsUptoSaid : Prop := clusterStepsUptoRow.holds Try.pinned (OpenSpec.upto clusterStepsSpec)

/-- 'bookplatelaw33.ClusterSolve', WHERE WHAT IT READS IS OF BULK AT MOST 1048576: true; the input reads as it did. -/
def clusterSolveUptoRow : OpenClaim := { program := "ytppamigboeaefaa", sum := "d6c050245628a94658622e1cadd06bd571afe8308a72fa3f4fc6db09b5f3f1ff", func := "bookplate/bookplatelaw33.ClusterSolve", spec := "clusterSolve", unfollowed := true, recurses := true, apart := false, narrowed := true }
def ClusterSolveUptoSaid : Prop := clusterSolveUptoRow.holds Try.pinned (OpenSpec.upto clusterSolveSpec)

/-- 'bookplatelaw33.ClusterParts', WHERE WHAT IT READS IS OF BULK AT MOST 1048576: true; the input reads as it did. -/
def clusterPartsUptoRow : OpenClaim := { program := "ytppamigboeaefaa", sum := "d6c050245628a94658622e1cadd06bd571afe8308a72fa3f4fc6db09b5f3f1ff", func := "bookplate/bookplatelaw33.ClusterParts", spec := "clusterParts", unfollowed := true, recurses := true, apart := false, narrowed := true }
def ClusterPartsUptoSaid : Prop := clusterPartsUptoRow.holds Try.pinned (OpenSpec.upto clusterPartsSpec)

end Rows
end Go.Proofs.Ytppamigboeaefaa
