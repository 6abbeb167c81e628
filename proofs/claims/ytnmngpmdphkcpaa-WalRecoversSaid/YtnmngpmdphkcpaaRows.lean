/-
  No cell of these rows narrows 'for every input' (looked for: loops, veiled, ifaces, maps, wideKeys, modest, calm, conditions, laid).
  DERIVED. THE GIVEN ROWS OF THIS SEAT. 7 by the template 'for every input the law returns true; each argument reads behind the call as it read before'; 0 by the template 'total and deterministic' (their statements: YtnmngpmdphkcpaaTotals.lean).
  GIVEN WITH THE SEED: the statements are not yours to turn. If you find one false, say at which input.
  Laid BY PROGRAM, IN A SANDBOX (cutbox-rows.mjs): the forced cells as the released guide's own fill.sh prints them over the translation 00fce15d6a30f85f… (all of the seat's roots in one cut). By AI agents, Wed Nov 11 2026. No macro, syntax, notation, axiom, sorry.
-/
import Derived.Test.YtnmngpmdphkcpaaChecked
import GoSem.Claim
import GoSem.ClaimJoined
import GoSem.ClaimMapViews
import Derived.JoinedTies
import Derived.KernelRfl
namespace Go.Proofs.Ytnmngpmdphkcpaa
/- THE CELL 'sum', in the pinned program and in every row, IS THE sha256 OF THE DUMP (.gsa) THAT YtnmngpmdphkcpaaProg.lean LOADS. Nothing in Lean hashes anything: it is a label: what it is worth is what the hold of that sum in a sandbox is worth. -/
noncomputable def Try.pinned : Pinned := { name := "ytnmngpmdphkcpaa", sum := "00fce15d6a30f85f5bfe12befa9b1f69cd6023af28cbcebd0723c3e1424b86c0", checked := Try.checked }
namespace Rows
def none {H : Type} : Left H := { results := [], args := [] }

/-- 'bookplatelaw20.WalOpen': WHATEVER THE INPUT: true; the input reads as it did. -/
def walOpenSpec : ChangeSpec := { name := "walOpen", fn := fun _ => fun
  | [d] => { results := [.lit (.bool true)], args := [d] }
  | _ => none }
def walOpenRow : OpenClaim := { program := "ytnmngpmdphkcpaa", sum := "00fce15d6a30f85f5bfe12befa9b1f69cd6023af28cbcebd0723c3e1424b86c0", func := "bookplate/bookplatelaw20.WalOpen", spec := "walOpen", apart := false }
def WalOpenSaid : Prop := walOpenRow.holds Try.pinned (OpenSpec.ofChange walOpenSpec)

/-- ITS FALSE NEIGHBOUR: 'it returns false'. Refute it at one input. -/
def walOpenWrong : ChangeSpec := { name := "walOpen", fn := fun _ => fun
  | [d] => { results := [.lit (.bool false)], args := [d] }
  | _ => none }
def WalOpenWrongFalsely : Prop := walOpenRow.holds Try.pinned (OpenSpec.ofChange walOpenWrong)

/-- 'bookplatelaw20.WalCrash': WHATEVER THE INPUT: true; the input reads as it did. -/
def walCrashSpec : ChangeSpec := { name := "walCrash", fn := fun _ => fun
  | [d1, d2] => { results := [.lit (.bool true)], args := [d1, d2] }
  | _ => none }
def walCrashRow : OpenClaim := { program := "ytnmngpmdphkcpaa", sum := "00fce15d6a30f85f5bfe12befa9b1f69cd6023af28cbcebd0723c3e1424b86c0", func := "bookplate/bookplatelaw20.WalCrash", spec := "walCrash", apart := false }
def WalCrashSaid : Prop := walCrashRow.holds Try.pinned (OpenSpec.ofChange walCrashSpec)

/-- ITS FALSE NEIGHBOUR: 'it returns false'. Refute it at one input. -/
def walCrashWrong : ChangeSpec := { name := "walCrash", fn := fun _ => fun
  | [d1, d2] => { results := [.lit (.bool false)], args := [d1, d2] }
  | _ => none }
def WalCrashWrongFalsely : Prop := walCrashRow.holds Try.pinned (OpenSpec.ofChange walCrashWrong)

/-- 'bookplatelaw20.WalRecovers': WHATEVER THE INPUT: true; the input reads as it did. -/
def walRecoversSpec : ChangeSpec := { name := "walRecovers", fn := fun _ => fun
  | [d1, d2, d3] => { results := [.lit (.bool true)], args := [d1, d2, d3] }
  | _ => none }
def walRecoversRow : OpenClaim := { program := "ytnmngpmdphkcpaa", sum := "00fce15d6a30f85f5bfe12befa9b1f69cd6023af28cbcebd0723c3e1424b86c0", func := "bookplate/bookplatelaw20.WalRecovers", spec := "walRecovers", apart := false }
def WalRecoversSaid : Prop := walRecoversRow.holds Try.pinned (OpenSpec.ofChange walRecoversSpec)

/-- ITS FALSE NEIGHBOUR: 'it returns false'. Refute it at one input. -/
def walRecoversWrong : ChangeSpec := { name := "walRecovers", fn := fun _ => fun
  | [d1, d2, d3] => { results := [.lit (.bool false)], args := [d1, d2, d3] }
  | _ => none }
def WalRecoversWrongFalsely : Prop := walRecoversRow.holds Try.pinned (OpenSpec.ofChange walRecoversWrong)

/-- 'bookplatelaw20.WalDamage': WHATEVER THE INPUT: true; the input reads as it did. -/
def walDamageSpec : ChangeSpec := { name := "walDamage", fn := fun _ => fun
  | [d1, d2, d3] => { results := [.lit (.bool true)], args := [d1, d2, d3] }
  | _ => none }
def walDamageRow : OpenClaim := { program := "ytnmngpmdphkcpaa", sum := "00fce15d6a30f85f5bfe12befa9b1f69cd6023af28cbcebd0723c3e1424b86c0", func := "bookplate/bookplatelaw20.WalDamage", spec := "walDamage", apart := false }
def WalDamageSaid : Prop := walDamageRow.holds Try.pinned (OpenSpec.ofChange walDamageSpec)

/-- ITS FALSE NEIGHBOUR: 'it returns false'. Refute it at one input. -/
def walDamageWrong : ChangeSpec := { name := "walDamage", fn := fun _ => fun
  | [d1, d2, d3] => { results := [.lit (.bool false)], args := [d1, d2, d3] }
  | _ => none }
def WalDamageWrongFalsely : Prop := walDamageRow.holds Try.pinned (OpenSpec.ofChange walDamageWrong)

/-- 'bookplatelaw20.WalMore': WHATEVER THE INPUT: true; the input reads as it did. -/
def walMoreSpec : ChangeSpec := { name := "walMore", fn := fun _ => fun
  | [d1, d2, d3] => { results := [.lit (.bool true)], args := [d1, d2, d3] }
  | _ => none }
def walMoreRow : OpenClaim := { program := "ytnmngpmdphkcpaa", sum := "00fce15d6a30f85f5bfe12befa9b1f69cd6023af28cbcebd0723c3e1424b86c0", func := "bookplate/bookplatelaw20.WalMore", spec := "walMore", apart := false }
def WalMoreSaid : Prop := walMoreRow.holds Try.pinned (OpenSpec.ofChange walMoreSpec)

/-- ITS FALSE NEIGHBOUR: 'it returns false'. Refute it at one input. -/
def walMoreWrong : ChangeSpec := { name := "walMore", fn := fun _ => fun
  | [d1, d2, d3] => { results := [.lit (.bool false)], args := [d1, d2, d3] }
  | _ => none }
def WalMoreWrongFalsely : Prop := walMoreRow.holds Try.pinned (OpenSpec.ofChange walMoreWrong)

/-- 'bookplatelaw20.WalAppend': WHATEVER THE INPUT: true; the input reads as it did. -/
def walAppendSpec : ChangeSpec := { name := "walAppend", fn := fun _ => fun
  | [d1, d2] => { results := [.lit (.bool true)], args := [d1, d2] }
  | _ => none }
def walAppendRow : OpenClaim := { program := "ytnmngpmdphkcpaa", sum := "00fce15d6a30f85f5bfe12befa9b1f69cd6023af28cbcebd0723c3e1424b86c0", func := "bookplate/bookplatelaw20.WalAppend", spec := "walAppend", apart := false }
def WalAppendSaid : Prop := walAppendRow.holds Try.pinned (OpenSpec.ofChange walAppendSpec)

/-- ITS FALSE NEIGHBOUR: 'it returns false'. Refute it at one input. -/
def walAppendWrong : ChangeSpec := { name := "walAppend", fn := fun _ => fun
  | [d1, d2] => { results := [.lit (.bool false)], args := [d1, d2] }
  | _ => none }
def WalAppendWrongFalsely : Prop := walAppendRow.holds Try.pinned (OpenSpec.ofChange walAppendWrong)

/-- 'bookplatelaw20.WalPayloads': WHATEVER THE INPUT: true; the input reads as it did. -/
def walPayloadsSpec : ChangeSpec := { name := "walPayloads", fn := fun _ => fun
  | [d1, d2] => { results := [.lit (.bool true)], args := [d1, d2] }
  | _ => none }
def walPayloadsRow : OpenClaim := { program := "ytnmngpmdphkcpaa", sum := "00fce15d6a30f85f5bfe12befa9b1f69cd6023af28cbcebd0723c3e1424b86c0", func := "bookplate/bookplatelaw20.WalPayloads", spec := "walPayloads", apart := false }
def WalPayloadsSaid : Prop := walPayloadsRow.holds Try.pinned (OpenSpec.ofChange walPayloadsSpec)

/-- ITS FALSE NEIGHBOUR: 'it returns false'. Refute it at one input. -/
def walPayloadsWrong : ChangeSpec := { name := "walPayloads", fn := fun _ => fun
  | [d1, d2] => { results := [.lit (.bool false)], args := [d1, d2] }
  | _ => none }
def WalPayloadsWrongFalsely : Prop := walPayloadsRow.holds Try.pinned (OpenSpec.ofChange walPayloadsWrong)

/- THE SECOND FORM. 'bulk': how many values and letters a reading holds, each counted each time it is reached (what is shared counts as often as it is met; a slice's spare places count too). A statement '..UptoSaid' is the law's where the arguments, and the package variables that the reading takes, are together of bulk at most 1048576: NARROWER than '..Said'. Prove '..Said' where nothing that the law and all that it calls make is longer than what came in: it says more and counts as full. Else prove '..UptoSaid'. A law counts once. -/
mutual
def uptoBulk {H : Type} : DataW H → Nat
  | .lit (.string bytes) => bytes.length + 1
  | .lit _ => 1
  | .nil => 1
  | .ptr d => uptoBulk d + 1
  | .slice elems spare => uptoBulkAll elems + uptoBulkAll spare + 1
  | .agg parts => uptoBulkAll parts + 1
  | .iface _ d => uptoBulk d + 1
  | .map entries => uptoBulkEntries entries + 1
  | .held _ => 1
def uptoBulkAll {H : Type} : List (DataW H) → Nat
  | [] => 0
  | d :: r => uptoBulk d + uptoBulkAll r
def uptoBulkEntries {H : Type} : List (Lit × DataW H) → Nat
  | [] => 0
  | x :: r => uptoBulkEntry x + uptoBulkEntries r
def uptoBulkEntry {H : Type} : Lit × DataW H → Nat
  | (.string bytes, d) => bytes.length + uptoBulk d + 1
  | (_, d) => uptoBulk d + 1
 end
def uptoSmall : (H : Type) → List (DataW H) → Bool := fun _ ds => decide (uptoBulkAll ds ≤ 1048576)
def OpenSpec.upto (s : _root_.Go.ChangeSpec) : _root_.Go.OpenSpec := { _root_.Go.OpenSpec.ofChange s with cond := some uptoSmall }

/-- 'bookplatelaw20.WalOpen', WHERE WHAT IT READS IS OF BULK AT MOST 1048576: true; the input reads as it did. -/
def walOpenUptoRow : OpenClaim := { program := "ytnmngpmdphkcpaa", sum := "00fce15d6a30f85f5bfe12befa9b1f69cd6023af28cbcebd0723c3e1424b86c0", func := "bookplate/bookplatelaw20.WalOpen", spec := "walOpen", apart := false, narrowed := true }
def WalOpenUptoSaid : Prop := walOpenUptoRow.holds Try.pinned (OpenSpec.upto walOpenSpec)

/-- 'bookplatelaw20.WalCrash', WHERE WHAT IT READS IS OF BULK AT MOST 1048576: true; the input reads as it did. -/
def walCrashUptoRow : OpenClaim := { program := "ytnmngpmdphkcpaa", sum := "00fce15d6a30f85f5bfe12befa9b1f69cd6023af28cbcebd0723c3e1424b86c0", func := "bookplate/bookplatelaw20.WalCrash", spec := "walCrash", apart := false, narrowed := true }
def WalCrashUptoSaid : Prop := walCrashUptoRow.holds Try.pinned (OpenSpec.upto walCrashSpec)

/-- 'bookplatelaw20.WalRecovers', WHERE WHAT IT READS IS OF BULK AT MOST 1048576: true; the input reads as it did. -/
def walRecoversUptoRow : OpenClaim := { program := "ytnmngpmdphkcpaa", sum := "00fce15d6a30f85f5bfe12befa9b1f69cd6023af28cbcebd0723c3e1424b86c0", func := "bookplate/bookplatelaw20.WalRecovers", spec := "walRecovers", apart := false, narrowed := true }
def WalRecoversUptoSaid : Prop := walRecoversUptoRow.holds Try.pinned (OpenSpec.upto walRecoversSpec)

/-- 'bookplatelaw20.WalDamage', WHERE WHAT IT READS IS OF BULK AT MOST 1048576: true; the input reads as it did. -/
def walDamageUptoRow : OpenClaim := { program := "ytnmngpmdphkcpaa", sum := "00fce15d6a30f85f5bfe12befa9b1f69cd6023af28cbcebd0723c3e1424b86c0", func := "bookplate/bookplatelaw20.WalDamage", spec := "walDamage", apart := false, narrowed := true }
def WalDamageUptoSaid : Prop := walDamageUptoRow.holds Try.pinned (OpenSpec.upto walDamageSpec)

/-- 'bookplatelaw20.WalMore', WHERE WHAT IT READS IS OF BULK AT MOST 1048576: true; the input reads as it did. -/
def walMoreUptoRow : OpenClaim := { program := "ytnmngpmdphkcpaa", sum := "00fce15d6a30f85f5bfe12befa9b1f69cd6023af28cbcebd0723c3e1424b86c0", func := "bookplate/bookplatelaw20.WalMore", spec := "walMore", apart := false, narrowed := true }
def WalMoreUptoSaid : Prop := walMoreUptoRow.holds Try.pinned (OpenSpec.upto walMoreSpec)

/-- 'bookplatelaw20.WalAppend', WHERE WHAT IT READS IS OF BULK AT MOST 1048576: true; the input reads as it did. -/
def walAppendUptoRow : OpenClaim := { program := "ytnmngpmdphkcpaa", sum := "00fce15d6a30f85f5bfe12befa9b1f69cd6023af28cbcebd0723c3e1424b86c0", func := "bookplate/bookplatelaw20.WalAppend", spec := "walAppend", apart := false, narrowed := true }
def WalAppendUptoSaid : Prop := walAppendUptoRow.holds Try.pinned (OpenSpec.upto walAppendSpec)

/-- 'bookplatelaw20.WalPayloads', WHERE WHAT IT READS IS OF BULK AT MOST 1048576: true; the input reads as it did. -/
def walPayloadsUptoRow : OpenClaim := { program := "ytnmngpmdphkcpaa", sum := "00fce15d6a30f85f5bfe12befa9b1f69cd6023af28cbcebd0723c3e1424b86c0", func := "bookplate/bookplatelaw20.WalPayloads", spec := "walPayloads", apart := false, narrowed := true }
def WalPayloadsUptoSaid : Prop := walPayloadsUptoRow.holds Try.pinned (OpenSpec.upto walPayloadsSpec)

end Rows
end Go.Proofs.Ytnmngpmdphkcpaa
