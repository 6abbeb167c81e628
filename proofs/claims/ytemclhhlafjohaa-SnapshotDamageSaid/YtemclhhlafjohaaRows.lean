/-
  No cell of these rows narrows 'for every input' (looked for: loops, veiled, ifaces, maps, wideKeys, modest, calm, conditions, laid).
  DERIVED. THE GIVEN ROWS OF THIS SEAT. 6 by the template 'for every input the law returns true; each argument reads behind the call as it read before'; 0 by the template 'total and deterministic' (their statements: YtemclhhlafjohaaTotals.lean).
  GIVEN WITH THE SEED: the statements are not yours to turn. If you find one false, say at which input.
  Laid BY PROGRAM, IN A SANDBOX (cutbox-rows.mjs): the forced cells as the released guide's own fill.sh prints them over the translation 90cddb05179430a7… (all of the seat's roots in one cut). By AI agents, Wed Nov 11 2026. No macro, syntax, notation, axiom, sorry.
-/
import Derived.Test.YtemclhhlafjohaaChecked
import GoSem.Claim
import GoSem.ClaimJoined
import GoSem.ClaimMapViews
import Derived.JoinedTies
import Derived.KernelRfl
namespace Go.Proofs.Ytemclhhlafjohaa
/- THE CELL 'sum', in the pinned program and in every row, IS THE sha256 OF THE DUMP (.gsa) THAT YtemclhhlafjohaaProg.lean LOADS. Nothing in Lean hashes anything: it is a label: what it is worth is what the hold of that sum in a sandbox is worth. -/
noncomputable def Try.pinned : Pinned := { name := "ytemclhhlafjohaa", sum := "90cddb05179430a75c770641ae9bb38f71899dee6bb184c340ac369ac5859d45", checked := Try.checked }
namespace Rows
def none {H : Type} : Left H := { results := [], args := [] }

/-- 'bookplatelaw21.SnapshotRead': WHATEVER THE INPUT: true; the input reads as it did. -/
def snapshotReadSpec : ChangeSpec := { name := "snapshotRead", fn := fun _ => fun
  | [d1, d2, d3] => { results := [.lit (.bool true)], args := [d1, d2, d3] }
  | _ => none }
def snapshotReadRow : OpenClaim := { program := "ytemclhhlafjohaa", sum := "90cddb05179430a75c770641ae9bb38f71899dee6bb184c340ac369ac5859d45", func := "bookplate/bookplatelaw21.SnapshotRead", spec := "snapshotRead", apart := false }
def SnapshotReadSaid : Prop := snapshotReadRow.holds Try.pinned (OpenSpec.ofChange snapshotReadSpec)

/-- ITS FALSE NEIGHBOUR: 'it returns false'. Refute it at one input. -/
def snapshotReadWrong : ChangeSpec := { name := "snapshotRead", fn := fun _ => fun
  | [d1, d2, d3] => { results := [.lit (.bool false)], args := [d1, d2, d3] }
  | _ => none }
def SnapshotReadWrongFalsely : Prop := snapshotReadRow.holds Try.pinned (OpenSpec.ofChange snapshotReadWrong)

/-- 'bookplatelaw21.SnapshotRecover': WHATEVER THE INPUT: true; the input reads as it did. -/
def snapshotRecoverSpec : ChangeSpec := { name := "snapshotRecover", fn := fun _ => fun
  | [d1, d2, d3] => { results := [.lit (.bool true)], args := [d1, d2, d3] }
  | _ => none }
def snapshotRecoverRow : OpenClaim := { program := "ytemclhhlafjohaa", sum := "90cddb05179430a75c770641ae9bb38f71899dee6bb184c340ac369ac5859d45", func := "bookplate/bookplatelaw21.SnapshotRecover", spec := "snapshotRecover", apart := false }
def SnapshotRecoverSaid : Prop := snapshotRecoverRow.holds Try.pinned (OpenSpec.ofChange snapshotRecoverSpec)

/-- ITS FALSE NEIGHBOUR: 'it returns false'. Refute it at one input. -/
def snapshotRecoverWrong : ChangeSpec := { name := "snapshotRecover", fn := fun _ => fun
  | [d1, d2, d3] => { results := [.lit (.bool false)], args := [d1, d2, d3] }
  | _ => none }
def SnapshotRecoverWrongFalsely : Prop := snapshotRecoverRow.holds Try.pinned (OpenSpec.ofChange snapshotRecoverWrong)

/-- 'bookplatelaw21.SnapshotHistory': WHATEVER THE INPUT: true; the input reads as it did. -/
def snapshotHistorySpec : ChangeSpec := { name := "snapshotHistory", fn := fun _ => fun
  | [d] => { results := [.lit (.bool true)], args := [d] }
  | _ => none }
def snapshotHistoryRow : OpenClaim := { program := "ytemclhhlafjohaa", sum := "90cddb05179430a75c770641ae9bb38f71899dee6bb184c340ac369ac5859d45", func := "bookplate/bookplatelaw21.SnapshotHistory", spec := "snapshotHistory", apart := false }
def SnapshotHistorySaid : Prop := snapshotHistoryRow.holds Try.pinned (OpenSpec.ofChange snapshotHistorySpec)

/-- ITS FALSE NEIGHBOUR: 'it returns false'. Refute it at one input. -/
def snapshotHistoryWrong : ChangeSpec := { name := "snapshotHistory", fn := fun _ => fun
  | [d] => { results := [.lit (.bool false)], args := [d] }
  | _ => none }
def SnapshotHistoryWrongFalsely : Prop := snapshotHistoryRow.holds Try.pinned (OpenSpec.ofChange snapshotHistoryWrong)

/-- 'bookplatelaw21.SnapshotDamage': WHATEVER THE INPUT: true; the input reads as it did. -/
def snapshotDamageSpec : ChangeSpec := { name := "snapshotDamage", fn := fun _ => fun
  | [d1, d2, d3] => { results := [.lit (.bool true)], args := [d1, d2, d3] }
  | _ => none }
def snapshotDamageRow : OpenClaim := { program := "ytemclhhlafjohaa", sum := "90cddb05179430a75c770641ae9bb38f71899dee6bb184c340ac369ac5859d45", func := "bookplate/bookplatelaw21.SnapshotDamage", spec := "snapshotDamage", apart := false }
def SnapshotDamageSaid : Prop := snapshotDamageRow.holds Try.pinned (OpenSpec.ofChange snapshotDamageSpec)

/-- ITS FALSE NEIGHBOUR: 'it returns false'. Refute it at one input. -/
def snapshotDamageWrong : ChangeSpec := { name := "snapshotDamage", fn := fun _ => fun
  | [d1, d2, d3] => { results := [.lit (.bool false)], args := [d1, d2, d3] }
  | _ => none }
def SnapshotDamageWrongFalsely : Prop := snapshotDamageRow.holds Try.pinned (OpenSpec.ofChange snapshotDamageWrong)

/-- 'bookplatelaw21.SnapshotTake': WHATEVER THE INPUT: true; the input reads as it did. -/
def snapshotTakeSpec : ChangeSpec := { name := "snapshotTake", fn := fun _ => fun
  | [d1, d2] => { results := [.lit (.bool true)], args := [d1, d2] }
  | _ => none }
def snapshotTakeRow : OpenClaim := { program := "ytemclhhlafjohaa", sum := "90cddb05179430a75c770641ae9bb38f71899dee6bb184c340ac369ac5859d45", func := "bookplate/bookplatelaw21.SnapshotTake", spec := "snapshotTake", apart := false }
def SnapshotTakeSaid : Prop := snapshotTakeRow.holds Try.pinned (OpenSpec.ofChange snapshotTakeSpec)

/-- ITS FALSE NEIGHBOUR: 'it returns false'. Refute it at one input. -/
def snapshotTakeWrong : ChangeSpec := { name := "snapshotTake", fn := fun _ => fun
  | [d1, d2] => { results := [.lit (.bool false)], args := [d1, d2] }
  | _ => none }
def SnapshotTakeWrongFalsely : Prop := snapshotTakeRow.holds Try.pinned (OpenSpec.ofChange snapshotTakeWrong)

/-- 'bookplatelaw21.SnapshotCrash': WHATEVER THE INPUT: true; the input reads as it did. -/
def snapshotCrashSpec : ChangeSpec := { name := "snapshotCrash", fn := fun _ => fun
  | [d1, d2] => { results := [.lit (.bool true)], args := [d1, d2] }
  | _ => none }
def snapshotCrashRow : OpenClaim := { program := "ytemclhhlafjohaa", sum := "90cddb05179430a75c770641ae9bb38f71899dee6bb184c340ac369ac5859d45", func := "bookplate/bookplatelaw21.SnapshotCrash", spec := "snapshotCrash", apart := false }
def SnapshotCrashSaid : Prop := snapshotCrashRow.holds Try.pinned (OpenSpec.ofChange snapshotCrashSpec)

/-- ITS FALSE NEIGHBOUR: 'it returns false'. Refute it at one input. -/
def snapshotCrashWrong : ChangeSpec := { name := "snapshotCrash", fn := fun _ => fun
  | [d1, d2] => { results := [.lit (.bool false)], args := [d1, d2] }
  | _ => none }
def SnapshotCrashWrongFalsely : Prop := snapshotCrashRow.holds Try.pinned (OpenSpec.ofChange snapshotCrashWrong)

/- THE SECOND FORM. 'bulk': how many values and letters a reading holds, each counted each time it is reached (what is shared counts as often as it is met; a slice's spare places count too). A statement '..UptoSaid' is the law's where the arguments, and the package variables that the reading takes, are together of bulk at most 1048576: NARROWER than '..Said'. Prove '..Said' where nothing that the law and all that it calls make is longer than what came in: it says more and counts as full. Else prove '..UptoSaid'. A law counts once. -/
mutual
def uptoBulk {H : Type} : DataW H → Nat
  | .lit (.string bytes) => bytes.length + 1
  | .lit _ => 1
  | .nil => 1
  | .ptr d => uptoBulk d + 1
  | .slice elems spare => uptoBulkAll elems + uptoBulkAll spare + 1
  | .agg parts => uptoBulkAll parts + 1
  | .iface _ d => uptoBulk d + 1
  | .map entries => uptoBulkEntries entries + 1
  | .held _ => 1
def uptoBulkAll {H : Type} : List (DataW H) → Nat
  | [] => 0
  | d :: r => uptoBulk d + uptoBulkAll r
def uptoBulkEntries {H : Type} : List (Lit × DataW H) → Nat
  | [] => 0
  | x :: r => uptoBulkEntry x + uptoBulkEntries r
def uptoBulkEntry {H : Type} : Lit × DataW H → Nat
  | (.string bytes, d) => bytes.length + uptoBulk d + 1
  | (_, d) => uptoBulk d + 1
 end
def uptoSmall : (H : Type) → List (DataW H) → Bool := fun _ ds => decide (uptoBulkAll ds ≤ 1048576)
def OpenSpec.upto (s : _root_.Go.ChangeSpec) : _root_.Go.OpenSpec := { _root_.Go.OpenSpec.ofChange s with cond := some uptoSmall }

/-- 'bookplatelaw21.SnapshotRead', WHERE WHAT IT READS IS OF BULK AT MOST 1048576: true; the input reads as it did. -/
def snapshotReadUptoRow : OpenClaim := { program := "ytemclhhlafjohaa", sum := "90cddb05179430a75c770641ae9bb38f71899dee6bb184c340ac369ac5859d45", func := "bookplate/bookplatelaw21.SnapshotRead", spec := "snapshotRead", apart := false, narrowed := true }
def SnapshotReadUptoSaid : Prop := snapshotReadUptoRow.holds Try.pinned (OpenSpec.upto snapshotReadSpec)

/-- 'bookplatelaw21.SnapshotRecover', WHERE WHAT IT READS IS OF BULK AT MOST 1048576: true; the input reads as it did. -/
def snapshotRecoverUptoRow : OpenClaim := { program := "ytemclhhlafjohaa", sum := "90cddb05179430a75c770641ae9bb38f71899dee6bb184c340ac369ac5859d45", func := "bookplate/bookplatelaw21.SnapshotRecover", spec := "snapshotRecover", apart := false, narrowed := true }
def SnapshotRecoverUptoSaid : Prop := snapshotRecoverUptoRow.holds Try.pinned (OpenSpec.upto snapshotRecoverSpec)

/-- 'bookplatelaw21.SnapshotHistory', WHERE WHAT IT READS IS OF BULK AT MOST 1048576: true; the input reads as it did. -/
def snapshotHistoryUptoRow : OpenClaim := { program := "ytemclhhlafjohaa", sum := "90cddb05179430a75c770641ae9bb38f71899dee6bb184c340ac369ac5859d45", func := "bookplate/bookplatelaw21.SnapshotHistory", spec := "snapshotHistory", apart := false, narrowed := true }
def SnapshotHistoryUptoSaid : Prop := snapshotHistoryUptoRow.holds Try.pinned (OpenSpec.upto snapshotHistorySpec)

/-- 'bookplatelaw21.SnapshotDamage', WHERE WHAT IT READS IS OF BULK AT MOST 1048576: true; the input reads as it did. -/
def snapshotDamageUptoRow : OpenClaim := { program := "ytemclhhlafjohaa", sum := "90cddb05179430a75c770641ae9bb38f71899dee6bb184c340ac369ac5859d45", func := "bookplate/bookplatelaw21.SnapshotDamage", spec := "snapshotDamage", apart := false, narrowed := true }
def SnapshotDamageUptoSaid : Prop := snapshotDamageUptoRow.holds Try.pinned (OpenSpec.upto snapshotDamageSpec)

/-- 'bookplatelaw21.SnapshotTake', WHERE WHAT IT READS IS OF BULK AT MOST 1048576: true; the input reads as it did. -/
def snapshotTakeUptoRow : OpenClaim := { program := "ytemclhhlafjohaa", sum := "90cddb05179430a75c770641ae9bb38f71899dee6bb184c340ac369ac5859d45", func := "bookplate/bookplatelaw21.SnapshotTake", spec := "snapshotTake", apart := false, narrowed := true }
def SnapshotTakeUptoSaid : Prop := snapshotTakeUptoRow.holds Try.pinned (OpenSpec.upto snapshotTakeSpec)

/-- 'bookplatelaw21.SnapshotCrash', WHERE WHAT IT READS IS OF BULK AT MOST 1048576: true; the input reads as it did. -/
def snapshotCrashUptoRow : OpenClaim := { program := "ytemclhhlafjohaa", sum := "90cddb05179430a75c770641ae9bb38f71899dee6bb184c340ac369ac5859d45", func := "bookplate/bookplatelaw21.SnapshotCrash", spec := "snapshotCrash", apart := false, narrowed := true }
def SnapshotCrashUptoSaid : Prop := snapshotCrashUptoRow.holds Try.pinned (OpenSpec.upto snapshotCrashSpec)

end Rows
end Go.Proofs.Ytemclhhlafjohaa
