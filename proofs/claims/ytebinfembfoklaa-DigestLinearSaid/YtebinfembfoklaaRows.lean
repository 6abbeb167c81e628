/-
  No cell of these rows narrows 'for every input' (looked for: loops, veiled, ifaces, maps, wideKeys, modest, calm, conditions, laid).
  DERIVED. THE GIVEN ROWS OF THIS SEAT. 7 by the template 'for every input the law returns true; each argument reads behind the call as it read before'; 0 by the template 'total and deterministic' (their statements: YtebinfembfoklaaTotals.lean).
  GIVEN WITH THE SEED: the statements are not yours to turn. If you find one false, say at which input.
  Laid BY PROGRAM, IN A SANDBOX (cutbox-rows.mjs): the forced cells as the released guide's own fill.sh prints them over the translation d27ec786f25983ee… (all of the seat's roots in one cut). By AI agents, Wed Nov 11 2026. No macro, syntax, notation, axiom, sorry.
-/
import Derived.Test.YtebinfembfoklaaChecked
import GoSem.Claim
import GoSem.ClaimJoined
import GoSem.ClaimMapViews
import Derived.JoinedTies
import Derived.KernelRfl
namespace Go.Proofs.Ytebinfembfoklaa
/- THE CELL 'sum', in the pinned program and in every row, IS THE sha256 OF THE DUMP (.gsa) THAT YtebinfembfoklaaProg.lean LOADS. Nothing in Lean hashes anything: it is a label: what it is worth is what the hold of that sum in a sandbox is worth. -/
noncomputable def Try.pinned : Pinned := { name := "ytebinfembfoklaa", sum := "d27ec786f25983ee183f0e26a841540077c90e0ad2e99c02ab88a2c05f787b84", checked := Try.checked }
namespace Rows
def none {H : Type} : Left H := { results := [], args := [] }

/-- 'bookplatelaw02.DigestLinear': WHATEVER THE INPUT: true; the input reads as it did. -/
def digestLinearSpec : ChangeSpec := { name := "digestLinear", fn := fun _ => fun
  | [d1, d2, d3] => { results := [.lit (.bool true)], args := [d1, d2, d3] }
  | _ => none }
def digestLinearRow : OpenClaim := { program := "ytebinfembfoklaa", sum := "d27ec786f25983ee183f0e26a841540077c90e0ad2e99c02ab88a2c05f787b84", func := "bookplate/bookplatelaw02.DigestLinear", spec := "digestLinear", apart := false }
def DigestLinearSaid : Prop := digestLinearRow.holds Try.pinned (OpenSpec.ofChange digestLinearSpec)

/-- ITS FALSE NEIGHBOUR: 'it returns false'. Refute it at one input. -/
def digestLinearWrong : ChangeSpec := { name := "digestLinear", fn := fun _ => fun
  | [d1, d2, d3] => { results := [.lit (.bool false)], args := [d1, d2, d3] }
  | _ => none }
def DigestLinearWrongFalsely : Prop := digestLinearRow.holds Try.pinned (OpenSpec.ofChange digestLinearWrong)

/-- 'bookplatelaw02.DigestOf': WHATEVER THE INPUT: true; the input reads as it did. -/
def digestOfSpec : ChangeSpec := { name := "digestOf", fn := fun _ => fun
  | [d1, d2] => { results := [.lit (.bool true)], args := [d1, d2] }
  | _ => none }
def digestOfRow : OpenClaim := { program := "ytebinfembfoklaa", sum := "d27ec786f25983ee183f0e26a841540077c90e0ad2e99c02ab88a2c05f787b84", func := "bookplate/bookplatelaw02.DigestOf", spec := "digestOf", apart := false }
def DigestOfSaid : Prop := digestOfRow.holds Try.pinned (OpenSpec.ofChange digestOfSpec)

/-- ITS FALSE NEIGHBOUR: 'it returns false'. Refute it at one input. -/
def digestOfWrong : ChangeSpec := { name := "digestOf", fn := fun _ => fun
  | [d1, d2] => { results := [.lit (.bool false)], args := [d1, d2] }
  | _ => none }
def DigestOfWrongFalsely : Prop := digestOfRow.holds Try.pinned (OpenSpec.ofChange digestOfWrong)

/-- 'bookplatelaw02.DigestBurst': WHATEVER THE INPUT: true; the input reads as it did. -/
def digestBurstSpec : ChangeSpec := { name := "digestBurst", fn := fun _ => fun
  | [d1, d2, d3] => { results := [.lit (.bool true)], args := [d1, d2, d3] }
  | _ => none }
def digestBurstRow : OpenClaim := { program := "ytebinfembfoklaa", sum := "d27ec786f25983ee183f0e26a841540077c90e0ad2e99c02ab88a2c05f787b84", func := "bookplate/bookplatelaw02.DigestBurst", spec := "digestBurst", apart := false }
def DigestBurstSaid : Prop := digestBurstRow.holds Try.pinned (OpenSpec.ofChange digestBurstSpec)

/-- ITS FALSE NEIGHBOUR: 'it returns false'. Refute it at one input. -/
def digestBurstWrong : ChangeSpec := { name := "digestBurst", fn := fun _ => fun
  | [d1, d2, d3] => { results := [.lit (.bool false)], args := [d1, d2, d3] }
  | _ => none }
def DigestBurstWrongFalsely : Prop := digestBurstRow.holds Try.pinned (OpenSpec.ofChange digestBurstWrong)

/-- 'bookplatelaw02.DigestJoin': WHATEVER THE INPUT: true; the input reads as it did. -/
def digestJoinSpec : ChangeSpec := { name := "digestJoin", fn := fun _ => fun
  | [d1, d2, d3] => { results := [.lit (.bool true)], args := [d1, d2, d3] }
  | _ => none }
def digestJoinRow : OpenClaim := { program := "ytebinfembfoklaa", sum := "d27ec786f25983ee183f0e26a841540077c90e0ad2e99c02ab88a2c05f787b84", func := "bookplate/bookplatelaw02.DigestJoin", spec := "digestJoin", apart := false }
def DigestJoinSaid : Prop := digestJoinRow.holds Try.pinned (OpenSpec.ofChange digestJoinSpec)

/-- ITS FALSE NEIGHBOUR: 'it returns false'. Refute it at one input. -/
def digestJoinWrong : ChangeSpec := { name := "digestJoin", fn := fun _ => fun
  | [d1, d2, d3] => { results := [.lit (.bool false)], args := [d1, d2, d3] }
  | _ => none }
def DigestJoinWrongFalsely : Prop := digestJoinRow.holds Try.pinned (OpenSpec.ofChange digestJoinWrong)

/-- 'bookplatelaw02.DigestFar': WHATEVER THE INPUT: true; the input reads as it did. -/
def digestFarSpec : ChangeSpec := { name := "digestFar", fn := fun _ => fun
  | [d1, d2, d3] => { results := [.lit (.bool true)], args := [d1, d2, d3] }
  | _ => none }
def digestFarRow : OpenClaim := { program := "ytebinfembfoklaa", sum := "d27ec786f25983ee183f0e26a841540077c90e0ad2e99c02ab88a2c05f787b84", func := "bookplate/bookplatelaw02.DigestFar", spec := "digestFar", apart := false }
def DigestFarSaid : Prop := digestFarRow.holds Try.pinned (OpenSpec.ofChange digestFarSpec)

/-- ITS FALSE NEIGHBOUR: 'it returns false'. Refute it at one input. -/
def digestFarWrong : ChangeSpec := { name := "digestFar", fn := fun _ => fun
  | [d1, d2, d3] => { results := [.lit (.bool false)], args := [d1, d2, d3] }
  | _ => none }
def DigestFarWrongFalsely : Prop := digestFarRow.holds Try.pinned (OpenSpec.ofChange digestFarWrong)

/-- 'bookplatelaw02.DigestParts': WHATEVER THE INPUT: true; the input reads as it did. -/
def digestPartsSpec : ChangeSpec := { name := "digestParts", fn := fun _ => fun
  | [d1, d2] => { results := [.lit (.bool true)], args := [d1, d2] }
  | _ => none }
def digestPartsRow : OpenClaim := { program := "ytebinfembfoklaa", sum := "d27ec786f25983ee183f0e26a841540077c90e0ad2e99c02ab88a2c05f787b84", func := "bookplate/bookplatelaw02.DigestParts", spec := "digestParts", apart := false }
def DigestPartsSaid : Prop := digestPartsRow.holds Try.pinned (OpenSpec.ofChange digestPartsSpec)

/-- ITS FALSE NEIGHBOUR: 'it returns false'. Refute it at one input. -/
def digestPartsWrong : ChangeSpec := { name := "digestParts", fn := fun _ => fun
  | [d1, d2] => { results := [.lit (.bool false)], args := [d1, d2] }
  | _ => none }
def DigestPartsWrongFalsely : Prop := digestPartsRow.holds Try.pinned (OpenSpec.ofChange digestPartsWrong)

/-- 'bookplatelaw02.DigestOpen': WHATEVER THE INPUT: true; the input reads as it did. -/
def digestOpenSpec : ChangeSpec := { name := "digestOpen", fn := fun _ => fun
  | [d1, d2, d3] => { results := [.lit (.bool true)], args := [d1, d2, d3] }
  | _ => none }
def digestOpenRow : OpenClaim := { program := "ytebinfembfoklaa", sum := "d27ec786f25983ee183f0e26a841540077c90e0ad2e99c02ab88a2c05f787b84", func := "bookplate/bookplatelaw02.DigestOpen", spec := "digestOpen", inPlace := ["internal/bytealg.IndexByteString"], apart := false }
def DigestOpenSaid : Prop := digestOpenRow.holds Try.pinned (OpenSpec.ofChange digestOpenSpec)

/-- ITS FALSE NEIGHBOUR: 'it returns false'. Refute it at one input. -/
def digestOpenWrong : ChangeSpec := { name := "digestOpen", fn := fun _ => fun
  | [d1, d2, d3] => { results := [.lit (.bool false)], args := [d1, d2, d3] }
  | _ => none }
def DigestOpenWrongFalsely : Prop := digestOpenRow.holds Try.pinned (OpenSpec.ofChange digestOpenWrong)

/- THE SECOND FORM. 'bulk': how many values and letters a reading holds, each counted each time it is reached (what is shared counts as often as it is met; a slice's spare places count too). A statement '..UptoSaid' is the law's where the arguments, and the package variables that the reading takes, are together of bulk at most 1048576: NARROWER than '..Said'. Prove '..Said' where nothing that the law and all that it calls make is longer than what came in: it says more and counts as full. Else prove '..UptoSaid'. A law counts once. -/
mutual
def uptoBulk {H : Type} : DataW H → Nat
  | .lit (.string bytes) => bytes.length + 1
  | .lit _ => 1
  | .nil => 1
  | .ptr d => uptoBulk d + 1
  | .slice elems spare => uptoBulkAll elems + uptoBulkAll spare + 1
  | .agg parts => uptoBulkAll parts + 1
  | .iface _ d => uptoBulk d + 1
  | .map entries => uptoBulkEntries entries + 1
  | .held _ => 1
def uptoBulkAll {H : Type} : List (DataW H) → Nat
  | [] => 0
  | d :: r => uptoBulk d + uptoBulkAll r
def uptoBulkEntries {H : Type} : List (Lit × DataW H) → Nat
  | [] => 0
  | x :: r => uptoBulkEntry x + uptoBulkEntries r
def uptoBulkEntry {H : Type} : Lit × DataW H → Nat
  | (.string bytes, d) => bytes.length + uptoBulk d + 1
  | (_, d) => uptoBulk d + 1
 end
def uptoSmall : (H : Type) → List (DataW H) → Bool := fun _ ds => decide (uptoBulkAll ds ≤ 1048576)
def OpenSpec.upto (s : _root_.Go.ChangeSpec) : _root_.Go.OpenSpec := { _root_.Go.OpenSpec.ofChange s with cond := some uptoSmall }

/-- 'bookplatelaw02.DigestLinear', WHERE WHAT IT READS IS OF BULK AT MOST 1048576: true; the input reads as it did. -/
def digestLinearUptoRow : OpenClaim := { program := "ytebinfembfoklaa", sum := "d27ec786f25983ee183f0e26a841540077c90e0ad2e99c02ab88a2c05f787b84", func := "bookplate/bookplatelaw02.DigestLinear", spec := "digestLinear", apart := false, narrowed := true }
def DigestLinearUptoSaid : Prop := digestLinearUptoRow.holds Try.pinned (OpenSpec.upto digestLinearSpec)

/-- 'bookplatelaw02.DigestOf', WHERE WHAT IT READS IS OF BULK AT MOST 1048576: true; the input reads as it did. -/
def digestOfUptoRow : OpenClaim := { program := "ytebinfembfoklaa", sum := "d27ec786f25983ee183f0e26a841540077c90e0ad2e99c02ab88a2c05f787b84", func := "bookplate/bookplatelaw02.DigestOf", spec := "digestOf", apart := false, narrowed := true }
def DigestOfUptoSaid : Prop := digestOfUptoRow.holds Try.pinned (OpenSpec.upto digestOfSpec)

/-- 'bookplatelaw02.DigestBurst', WHERE WHAT IT READS IS OF BULK AT MOST 1048576: true; the input reads as it did. -/
def digestBurstUptoRow : OpenClaim := { program := "ytebinfembfoklaa", sum := "d27ec786f25983ee183f0e26a841540077c90e0ad2e99c02ab88a2c05f787b84", func := "bookplate/bookplatelaw02.DigestBurst", spec := "digestBurst", apart := false, narrowed := true }
def DigestBurstUptoSaid : Prop := digestBurstUptoRow.holds Try.pinned (OpenSpec.upto digestBurstSpec)

/-- 'bookplatelaw02.DigestJoin', WHERE WHAT IT READS IS OF BULK AT MOST 1048576: true; the input reads as it did. -/
def digestJoinUptoRow : OpenClaim := { program := "ytebinfembfoklaa", sum := "d27ec786f25983ee183f0e26a841540077c90e0ad2e99c02ab88a2c05f787b84", func := "bookplate/bookplatelaw02.DigestJoin", spec := "digestJoin", apart := false, narrowed := true }
def DigestJoinUptoSaid : Prop := digestJoinUptoRow.holds Try.pinned (OpenSpec.upto digestJoinSpec)

/-- 'bookplatelaw02.DigestFar', WHERE WHAT IT READS IS OF BULK AT MOST 1048576: true; the input reads as it did. -/
def digestFarUptoRow : OpenClaim := { program := "ytebinfembfoklaa", sum := "d27ec786f25983ee183f0e26a841540077c90e0ad2e99c02ab88a2c05f787b84", func := "bookplate/bookplatelaw02.DigestFar", spec := "digestFar", apart := false, narrowed := true }
def DigestFarUptoSaid : Prop := digestFarUptoRow.holds Try.pinned (OpenSpec.upto digestFarSpec)

/-- 'bookplatelaw02.DigestParts', WHERE WHAT IT READS IS OF BULK AT MOST 1048576: true; the input reads as it did. -/
def digestPartsUptoRow : OpenClaim := { program := "ytebinfembfoklaa", sum := "d27ec786f25983ee183f0e26a841540077c90e0ad2e99c02ab88a2c05f787b84", func := "bookplate/bookplatelaw02.DigestParts", spec := "digestParts", apart := false, narrowed := true }
def DigestPartsUptoSaid : Prop := digestPartsUptoRow.holds Try.pinned (OpenSpec.upto digestPartsSpec)

/-- 'bookplatelaw02.DigestOpen', WHERE WHAT IT READS IS OF BULK AT MOST 1048576: true; the input reads as it did. -/
def digestOpenUptoRow : OpenClaim := { program := "ytebinfembfoklaa", sum := "d27ec786f25983ee183f0e26a841540077c90e0ad2e99c02ab88a2c05f787b84", func := "bookplate/bookplatelaw02.DigestOpen", spec := "digestOpen", inPlace := ["internal/bytealg.IndexByteString"], apart := false, narrowed := true }
def DigestOpenUptoSaid : Prop := digestOpenUptoRow.holds Try.pinned (OpenSpec.upto digestOpenSpec)

end Rows
end Go.Proofs.Ytebinfembfoklaa
