/-
  No cell of these rows narrows 'for every input' (looked for: loops, veiled, ifaces, maps, wideKeys, modest, calm, conditions, laid).
  DERIVED. THE GIVEN ROWS OF THIS SEAT. 8 by the template 'for every input the law returns true; each argument reads behind the call as it read before'; 0 by the template 'total and deterministic' (their statements: YtoebjajbmkdcfaaTotals.lean).
  GIVEN WITH THE SEED: the statements are not yours to turn. If you find one false, say at which input.
  Laid BY PROGRAM, IN A SANDBOX (cutbox-rows.mjs): the forced cells as the released guide's own fill.sh prints them over the translation f63a294b3561a5b9… (all of the seat's roots in one cut). By AI agents, Wed Nov 11 2026. No macro, syntax, notation, axiom, sorry.
-/
import Derived.Test.YtoebjajbmkdcfaaChecked
import GoSem.Claim
import GoSem.ClaimJoined
import GoSem.ClaimMapViews
import Derived.JoinedTies
import Derived.KernelRfl
namespace Go.Proofs.Ytoebjajbmkdcfaa
/- THE CELL 'sum', in the pinned program and in every row, IS THE sha256 OF THE DUMP (.gsa) THAT YtoebjajbmkdcfaaProg.lean LOADS. Nothing in Lean hashes anything: it is a label: what it is worth is what the hold of that sum in a sandbox is worth. -/
noncomputable def Try.pinned : Pinned := { name := "ytoebjajbmkdcfaa", sum := "f63a294b3561a5b934c348ffa5ee0a0154dce3ae21826f3fab9640c79a692942", checked := Try.checked }
namespace Rows
def none {H : Type} : Left H := { results := [], args := [] }

/-- 'bookplatelaw51.SessionStart': WHATEVER THE INPUT: true; the input reads as it did. -/
def sessionStartSpec : ChangeSpec := { name := "sessionStart", fn := fun _ => fun
  | [d1, d2, d3] => { results := [.lit (.bool true)], args := [d1, d2, d3] }
  | _ => none }
def sessionStartRow : OpenClaim := { program := "ytoebjajbmkdcfaa", sum := "f63a294b3561a5b934c348ffa5ee0a0154dce3ae21826f3fab9640c79a692942", func := "bookplate/bookplatelaw51.SessionStart", spec := "sessionStart", unfollowed := true, recurses := true, apart := false }
def SessionStartSaid : Prop := sessionStartRow.holds Try.pinned (OpenSpec.ofChange sessionStartSpec)

/-- ITS FALSE NEIGHBOUR: 'it returns false'. Refute it at one input. -/
def sessionStartWrong : ChangeSpec := { name := "sessionStart", fn := fun _ => fun
  | [d1, d2, d3] => { results := [.lit (.bool false)], args := [d1, d2, d3] }
  | _ => none }
def SessionStartWrongFalsely : Prop := sessionStartRow.holds Try.pinned (OpenSpec.ofChange sessionStartWrong)

/-- 'bookplatelaw51.SessionShow': WHATEVER THE INPUT: true; the input reads as it did. -/
def sessionShowSpec : ChangeSpec := { name := "sessionShow", fn := fun _ => fun
  | [d1, d2, d3] => { results := [.lit (.bool true)], args := [d1, d2, d3] }
  | _ => none }
def sessionShowRow : OpenClaim := { program := "ytoebjajbmkdcfaa", sum := "f63a294b3561a5b934c348ffa5ee0a0154dce3ae21826f3fab9640c79a692942", func := "bookplate/bookplatelaw51.SessionShow", spec := "sessionShow", unfollowed := true, recurses := true, apart := false }
def SessionShowSaid : Prop := sessionShowRow.holds Try.pinned (OpenSpec.ofChange sessionShowSpec)

/-- ITS FALSE NEIGHBOUR: 'it returns false'. Refute it at one input. -/
def sessionShowWrong : ChangeSpec := { name := "sessionShow", fn := fun _ => fun
  | [d1, d2, d3] => { results := [.lit (.bool false)], args := [d1, d2, d3] }
  | _ => none }
def SessionShowWrongFalsely : Prop := sessionShowRow.holds Try.pinned (OpenSpec.ofChange sessionShowWrong)

/-- 'bookplatelaw51.SessionPages': WHATEVER THE INPUT: true; the input reads as it did. -/
def sessionPagesSpec : ChangeSpec := { name := "sessionPages", fn := fun _ => fun
  | [d1, d2] => { results := [.lit (.bool true)], args := [d1, d2] }
  | _ => none }
def sessionPagesRow : OpenClaim := { program := "ytoebjajbmkdcfaa", sum := "f63a294b3561a5b934c348ffa5ee0a0154dce3ae21826f3fab9640c79a692942", func := "bookplate/bookplatelaw51.SessionPages", spec := "sessionPages", unfollowed := true, recurses := true, apart := false }
def SessionPagesSaid : Prop := sessionPagesRow.holds Try.pinned (OpenSpec.ofChange sessionPagesSpec)

/-- ITS FALSE NEIGHBOUR: 'it returns false'. Refute it at one input. -/
def sessionPagesWrong : ChangeSpec := { name := "sessionPages", fn := fun _ => fun
  | [d1, d2] => { results := [.lit (.bool false)], args := [d1, d2] }
  | _ => none }
def SessionPagesWrongFalsely : Prop := sessionPagesRow.holds Try.pinned (OpenSpec.ofChange sessionPagesWrong)

/-- 'bookplatelaw51.SessionLeads': WHATEVER THE INPUT: true; the input reads as it did. -/
def sessionLeadsSpec : ChangeSpec := { name := "sessionLeads", fn := fun _ => fun
  | [d1, d2] => { results := [.lit (.bool true)], args := [d1, d2] }
  | _ => none }
def sessionLeadsRow : OpenClaim := { program := "ytoebjajbmkdcfaa", sum := "f63a294b3561a5b934c348ffa5ee0a0154dce3ae21826f3fab9640c79a692942", func := "bookplate/bookplatelaw51.SessionLeads", spec := "sessionLeads", unfollowed := true, recurses := true, apart := false }
def SessionLeadsSaid : Prop := sessionLeadsRow.holds Try.pinned (OpenSpec.ofChange sessionLeadsSpec)

/-- ITS FALSE NEIGHBOUR: 'it returns false'. Refute it at one input. -/
def sessionLeadsWrong : ChangeSpec := { name := "sessionLeads", fn := fun _ => fun
  | [d1, d2] => { results := [.lit (.bool false)], args := [d1, d2] }
  | _ => none }
def SessionLeadsWrongFalsely : Prop := sessionLeadsRow.holds Try.pinned (OpenSpec.ofChange sessionLeadsWrong)

/-- 'bookplatelaw51.SessionStore': WHATEVER THE INPUT: true; the input reads as it did. -/
def sessionStoreSpec : ChangeSpec := { name := "sessionStore", fn := fun _ => fun
  | [d] => { results := [.lit (.bool true)], args := [d] }
  | _ => none }
def sessionStoreRow : OpenClaim := { program := "ytoebjajbmkdcfaa", sum := "f63a294b3561a5b934c348ffa5ee0a0154dce3ae21826f3fab9640c79a692942", func := "bookplate/bookplatelaw51.SessionStore", spec := "sessionStore", unfollowed := true, recurses := true, apart := false }
def SessionStoreSaid : Prop := sessionStoreRow.holds Try.pinned (OpenSpec.ofChange sessionStoreSpec)

/-- ITS FALSE NEIGHBOUR: 'it returns false'. Refute it at one input. -/
def sessionStoreWrong : ChangeSpec := { name := "sessionStore", fn := fun _ => fun
  | [d] => { results := [.lit (.bool false)], args := [d] }
  | _ => none }
def SessionStoreWrongFalsely : Prop := sessionStoreRow.holds Try.pinned (OpenSpec.ofChange sessionStoreWrong)

/-- 'bookplatelaw51.SessionValid': WHATEVER THE INPUT: true; the input reads as it did. -/
def sessionValidSpec : ChangeSpec := { name := "sessionValid", fn := fun _ => fun
  | [d1, d2, d3] => { results := [.lit (.bool true)], args := [d1, d2, d3] }
  | _ => none }
def sessionValidRow : OpenClaim := { program := "ytoebjajbmkdcfaa", sum := "f63a294b3561a5b934c348ffa5ee0a0154dce3ae21826f3fab9640c79a692942", func := "bookplate/bookplatelaw51.SessionValid", spec := "sessionValid", unfollowed := true, recurses := true, apart := false }
def SessionValidSaid : Prop := sessionValidRow.holds Try.pinned (OpenSpec.ofChange sessionValidSpec)

/-- ITS FALSE NEIGHBOUR: 'it returns false'. Refute it at one input. -/
def sessionValidWrong : ChangeSpec := { name := "sessionValid", fn := fun _ => fun
  | [d1, d2, d3] => { results := [.lit (.bool false)], args := [d1, d2, d3] }
  | _ => none }
def SessionValidWrongFalsely : Prop := sessionValidRow.holds Try.pinned (OpenSpec.ofChange sessionValidWrong)

/-- 'bookplatelaw51.SessionFrozen': WHATEVER THE INPUT: true; the input reads as it did. -/
def sessionFrozenSpec : ChangeSpec := { name := "sessionFrozen", fn := fun _ => fun
  | [d1, d2, d3] => { results := [.lit (.bool true)], args := [d1, d2, d3] }
  | _ => none }
def sessionFrozenRow : OpenClaim := { program := "ytoebjajbmkdcfaa", sum := "f63a294b3561a5b934c348ffa5ee0a0154dce3ae21826f3fab9640c79a692942", func := "bookplate/bookplatelaw51.SessionFrozen", spec := "sessionFrozen", unfollowed := true, recurses := true, apart := false }
def SessionFrozenSaid : Prop := sessionFrozenRow.holds Try.pinned (OpenSpec.ofChange sessionFrozenSpec)

/-- ITS FALSE NEIGHBOUR: 'it returns false'. Refute it at one input. -/
def sessionFrozenWrong : ChangeSpec := { name := "sessionFrozen", fn := fun _ => fun
  | [d1, d2, d3] => { results := [.lit (.bool false)], args := [d1, d2, d3] }
  | _ => none }
def SessionFrozenWrongFalsely : Prop := sessionFrozenRow.holds Try.pinned (OpenSpec.ofChange sessionFrozenWrong)

/-- 'bookplatelaw51.SessionIdle': WHATEVER THE INPUT: true; the input reads as it did. -/
def sessionIdleSpec : ChangeSpec := { name := "sessionIdle", fn := fun _ => fun
  | [d1, d2, d3] => { results := [.lit (.bool true)], args := [d1, d2, d3] }
  | _ => none }
def sessionIdleRow : OpenClaim := { program := "ytoebjajbmkdcfaa", sum := "f63a294b3561a5b934c348ffa5ee0a0154dce3ae21826f3fab9640c79a692942", func := "bookplate/bookplatelaw51.SessionIdle", spec := "sessionIdle", unfollowed := true, recurses := true, apart := false }
def SessionIdleSaid : Prop := sessionIdleRow.holds Try.pinned (OpenSpec.ofChange sessionIdleSpec)

/-- ITS FALSE NEIGHBOUR: 'it returns false'. Refute it at one input. -/
def sessionIdleWrong : ChangeSpec := { name := "sessionIdle", fn := fun _ => fun
  | [d1, d2, d3] => { results := [.lit (.bool false)], args := [d1, d2, d3] }
  | _ => none }
def SessionIdleWrongFalsely : Prop := sessionIdleRow.holds Try.pinned (OpenSpec.ofChange sessionIdleWrong)

/- THE SECOND FORM. 'bulk': how many values and letters a reading holds, each counted each time it is reached (what is shared counts as often as it is met; a slice's spare places count too). A statement '..UptoSaid' is the law's where the arguments, and the package variables that the reading takes, are together of bulk at most 1048576: NARROWER than '..Said'. Prove '..Said' where nothing that the law and all that it calls make is longer than what came in: it says more and counts as full. Else prove '..UptoSaid'. A law counts once. -/
mutual
def uptoBulk {H : Type} : DataW H → Nat
  | .lit (.string bytes) => bytes.length + 1
  | .lit _ => 1
  | .nil => 1
  | .ptr d => uptoBulk d + 1
  | .slice elems spare => uptoBulkAll elems + uptoBulkAll spare + 1
  | .agg parts => uptoBulkAll parts + 1
  | .iface _ d => uptoBulk d + 1
  | .map entries => uptoBulkEntries entries + 1
  | .held _ => 1
def uptoBulkAll {H : Type} : List (DataW H) → Nat
  | [] => 0
  | d :: r => uptoBulk d + uptoBulkAll r
def uptoBulkEntries {H : Type} : List (Lit × DataW H) → Nat
  | [] => 0
  | x :: r => uptoBulkEntry x + uptoBulkEntries r
def uptoBulkEntry {H : Type} : Lit × DataW H → Nat
  | (.string bytes, d) => bytes.length + uptoBulk d + 1
  | (_, d) => uptoBulk d + 1
 end
def uptoSmall : (H : Type) → List (DataW H) → Bool := fun _ ds => decide (uptoBulkAll ds ≤ 1048576)
def OpenSpec.upto (s : _root_.Go.ChangeSpec) : _root_.Go.OpenSpec := { _root_.Go.OpenSpec.ofChange s with cond := some uptoSmall }

/-- 'bookplatelaw51.SessionStart', WHERE WHAT IT READS IS OF BULK AT MOST 1048576: true; the input reads as it did. -/
def sessionStartUptoRow : OpenClaim := { program := "ytoebjajbmkdcfaa", sum := "f63a294b3561a5b934c348ffa5ee0a0154dce3ae21826f3fab9640c79a692942", func := "bookplate/bookplatelaw51.SessionStart", spec := "sessionStart", unfollowed := true, recurses := true, apart := false, narrowed := true }
def SessionStartUptoSaid : Prop := sessionStartUptoRow.holds Try.pinned (OpenSpec.upto sessionStartSpec)

/-- 'bookplatelaw51.SessionShow', WHERE WHAT IT READS IS OF BULK AT MOST 1048576: true; the input reads as it did. -/
def sessionShowUptoRow : OpenClaim := { program := "ytoebjajbmkdcfaa", sum := "f63a294b3561a5b934c348ffa5ee0a0154dce3ae21826f3fab9640c79a692942", func := "bookplate/bookplatelaw51.SessionShow", spec := "sessionShow", unfollowed := true, recurses := true, apart := false, narrowed := true }
def SessionShowUptoSaid : Prop := sessionShowUptoRow.holds Try.pinned (OpenSpec.upto sessionShowSpec)

/-- 'bookplatelaw51.SessionPages', WHERE WHAT IT READS IS OF BULK AT MOST 1048576: true; the input reads as it did. -/
def sessionPagesUptoRow : OpenClaim := { program := "ytoebjajbmkdcfaa", sum := "f63a294b3561a5b934c348ffa5ee0a0154dce3ae21826f3fab9640c79a692942", func := "bookplate/bookplatelaw51.SessionPages", spec := "sessionPages", unfollowed := true, recurses := true, apart := false, narrowed := true }
def SessionPagesUptoSaid : Prop := sessionPagesUptoRow.holds Try.pinned (OpenSpec.upto sessionPagesSpec)

/-- 'bookplatelaw51.SessionLeads', WHERE WHAT IT READS IS OF BULK AT MOST 1048576: true; the input reads as it did. -/
def sessionLeadsUptoRow : OpenClaim := { program := "ytoebjajbmkdcfaa", sum := "f63a294b3561a5b934c348ffa5ee0a0154dce3ae21826f3fab9640c79a692942", func := "bookplate/bookplatelaw51.SessionLeads", spec := "sessionLeads", unfollowed := true, recurses := true, apart := false, narrowed := true }
def SessionLeadsUptoSaid : Prop := sessionLeadsUptoRow.holds Try.pinned (OpenSpec.upto sessionLeadsSpec)

/-- 'bookplatelaw51.SessionStore', WHERE WHAT IT READS IS OF BULK AT MOST 1048576: true; the input reads as it did. -/
def sessionStoreUptoRow : OpenClaim := { program := "ytoebjajbmkdcfaa", sum := "f63a294b3561a5b934c348ffa5ee0a0154dce3ae21826f3fab9640c79a692942", func := "bookplate/bookplatelaw51.SessionStore", spec := "sessionStore", unfollowed := true, recurses := true, apart := false, narrowed := true }
def SessionStoreUptoSaid : Prop := sessionStoreUptoRow.holds Try.pinned (OpenSpec.upto sessionStoreSpec)

/-- 'bookplatelaw51.SessionValid', WHERE WHAT IT READS IS OF BULK AT MOST 1048576: true; the input reads as it did. -/
def sessionValidUptoRow : OpenClaim := { program := "ytoebjajbmkdcfaa", sum := "f63a294b3561a5b934c348ffa5ee0a0154dce3ae21826f3fab9640c79a692942", func := "bookplate/bookplatelaw51.SessionValid", spec := "sessionValid", unfollowed := true, recurses := true, apart := false, narrowed := true }
def SessionValidUptoSaid : Prop := sessionValidUptoRow.holds Try.pinned (OpenSpec.upto sessionValidSpec)

/-- 'bookplatelaw51.SessionFrozen', WHERE WHAT IT READS IS OF BULK AT MOST 1048576: true; the input reads as it did. -/
def sessionFrozenUptoRow : OpenClaim := { program := "ytoebjajbmkdcfaa", sum := "f63a294b3561a5b934c348ffa5ee0a0154dce3ae21826f3fab9640c79a692942", func := "bookplate/bookplatelaw51.SessionFrozen", spec := "sessionFrozen", unfollowed := true, recurses := true, apart := false, narrowed := true }
def SessionFrozenUptoSaid : Prop := sessionFrozenUptoRow.holds Try.pinned (OpenSpec.upto sessionFrozenSpec)

/-- 'bookplatelaw51.SessionIdle', WHERE WHAT IT READS IS OF BULK AT MOST 1048576: true; the input reads as it did. -/
def sessionIdleUptoRow : OpenClaim := { program := "ytoebjajbmkdcfaa", sum := "f63a294b3561a5b934c348ffa5ee0a0154dce3ae21826f3fab9640c79a692942", func := "bookplate/bookplatelaw51.SessionIdle", spec := "sessionIdle", unfollowed := true, recurses := true, apart := false, narrowed := true }
def SessionIdleUptoSaid : Prop := sessionIdleUptoRow.holds Try.pinned (OpenSpec.upto sessionIdleSpec)

end Rows
end Go.Proofs.Ytoebjajbmkdcfaa
