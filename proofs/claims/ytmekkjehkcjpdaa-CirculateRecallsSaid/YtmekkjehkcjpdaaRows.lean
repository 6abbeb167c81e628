/-
  No cell of these rows narrows 'for every input' (looked for: loops, veiled, ifaces, maps, wideKeys, modest, calm, conditions, laid).
  DERIVED. THE GIVEN ROWS OF THIS SEAT. 4 by the template 'for every input the law returns true; each argument reads behind the call as it read before'; 0 by the template 'total and deterministic' (their statements: YtmekkjehkcjpdaaTotals.lean).
  GIVEN WITH THE SEED: the statements are not yours to turn. If you find one false, say at which input.
  Laid BY PROGRAM, IN A SANDBOX (cutbox-rows.mjs): the forced cells as the released guide's own fill.sh prints them over the translation b9dc310995e224c8… (all of the seat's roots in one cut). By AI agents, Wed Nov 11 2026. No macro, syntax, notation, axiom, sorry.
-/
import Derived.Test.YtmekkjehkcjpdaaChecked
import GoSem.Claim
import GoSem.ClaimJoined
import GoSem.ClaimMapViews
import Derived.JoinedTies
import Derived.KernelRfl
namespace Go.Proofs.Ytmekkjehkcjpdaa
/- THE CELL 'sum', in the pinned program and in every row, IS THE sha256 OF THE DUMP (.gsa) THAT YtmekkjehkcjpdaaProg.lean LOADS. Nothing in Lean hashes anything: it is a label: what it is worth is what the hold of that sum in a sandbox is worth. -/
noncomputable def Try.pinned : Pinned := { name := "ytmekkjehkcjpdaa", sum := "b9dc310995e224c86d1846f0c3fb93419f27c78ee0c1f438b09aed5df94817fe", checked := Try.checked }
namespace Rows
def none {H : Type} : Left H := { results := [], args := [] }

/-- 'bookplatelaw58.CirculateRecalls': WHATEVER THE INPUT: true; the input reads as it did. -/
def circulateRecallsSpec : ChangeSpec := { name := "circulateRecalls", fn := fun _ => fun
  | [d] => { results := [.lit (.bool true)], args := [d] }
  | _ => none }
def circulateRecallsRow : OpenClaim := { program := "ytmekkjehkcjpdaa", sum := "b9dc310995e224c86d1846f0c3fb93419f27c78ee0c1f438b09aed5df94817fe", func := "bookplate/bookplatelaw58.CirculateRecalls", spec := "circulateRecalls", inPlace := ["slices.overlaps[bookplate/circulate.Copy]"], unfollowed := true, recurses := true, plainKeys := false, apart := false }
def CirculateRecallsSaid : Prop := circulateRecallsRow.holds Try.pinned (OpenSpec.ofChange circulateRecallsSpec)

/-- ITS FALSE NEIGHBOUR: 'it returns false'. Refute it at one input. -/
def circulateRecallsWrong : ChangeSpec := { name := "circulateRecalls", fn := fun _ => fun
  | [d] => { results := [.lit (.bool false)], args := [d] }
  | _ => none }
def CirculateRecallsWrongFalsely : Prop := circulateRecallsRow.holds Try.pinned (OpenSpec.ofChange circulateRecallsWrong)

/-- 'bookplatelaw58.CirculateTime': WHATEVER THE INPUT: true; the input reads as it did. -/
def circulateTimeSpec : ChangeSpec := { name := "circulateTime", fn := fun _ => fun
  | [d] => { results := [.lit (.bool true)], args := [d] }
  | _ => none }
def circulateTimeRow : OpenClaim := { program := "ytmekkjehkcjpdaa", sum := "b9dc310995e224c86d1846f0c3fb93419f27c78ee0c1f438b09aed5df94817fe", func := "bookplate/bookplatelaw58.CirculateTime", spec := "circulateTime", inPlace := ["slices.overlaps[bookplate/circulate.Copy]"], unfollowed := true, recurses := true, plainKeys := false, apart := false }
def CirculateTimeSaid : Prop := circulateTimeRow.holds Try.pinned (OpenSpec.ofChange circulateTimeSpec)

/-- ITS FALSE NEIGHBOUR: 'it returns false'. Refute it at one input. -/
def circulateTimeWrong : ChangeSpec := { name := "circulateTime", fn := fun _ => fun
  | [d] => { results := [.lit (.bool false)], args := [d] }
  | _ => none }
def CirculateTimeWrongFalsely : Prop := circulateTimeRow.holds Try.pinned (OpenSpec.ofChange circulateTimeWrong)

/-- 'bookplatelaw58.CirculateCopies': WHATEVER THE INPUT: true; the input reads as it did. -/
def circulateCopiesSpec : ChangeSpec := { name := "circulateCopies", fn := fun _ => fun
  | [d] => { results := [.lit (.bool true)], args := [d] }
  | _ => none }
def circulateCopiesRow : OpenClaim := { program := "ytmekkjehkcjpdaa", sum := "b9dc310995e224c86d1846f0c3fb93419f27c78ee0c1f438b09aed5df94817fe", func := "bookplate/bookplatelaw58.CirculateCopies", spec := "circulateCopies", inPlace := ["slices.overlaps[bookplate/circulate.Copy]"], unfollowed := true, recurses := true, plainKeys := false, apart := false }
def CirculateCopiesSaid : Prop := circulateCopiesRow.holds Try.pinned (OpenSpec.ofChange circulateCopiesSpec)

/-- ITS FALSE NEIGHBOUR: 'it returns false'. Refute it at one input. -/
def circulateCopiesWrong : ChangeSpec := { name := "circulateCopies", fn := fun _ => fun
  | [d] => { results := [.lit (.bool false)], args := [d] }
  | _ => none }
def CirculateCopiesWrongFalsely : Prop := circulateCopiesRow.holds Try.pinned (OpenSpec.ofChange circulateCopiesWrong)

/-- 'bookplatelaw58.CirculateFair': WHATEVER THE INPUT: true; the input reads as it did. -/
def circulateFairSpec : ChangeSpec := { name := "circulateFair", fn := fun _ => fun
  | [d] => { results := [.lit (.bool true)], args := [d] }
  | _ => none }
def circulateFairRow : OpenClaim := { program := "ytmekkjehkcjpdaa", sum := "b9dc310995e224c86d1846f0c3fb93419f27c78ee0c1f438b09aed5df94817fe", func := "bookplate/bookplatelaw58.CirculateFair", spec := "circulateFair", inPlace := ["slices.overlaps[bookplate/circulate.Copy]"], unfollowed := true, recurses := true, plainKeys := false, apart := false }
def CirculateFairSaid : Prop := circulateFairRow.holds Try.pinned (OpenSpec.ofChange circulateFairSpec)

/-- ITS FALSE NEIGHBOUR: 'it returns false'. Refute it at one input. -/
def circulateFairWrong : ChangeSpec := { name := "circulateFair", fn := fun _ => fun
  | [d] => { results := [.lit (.bool false)], args := [d] }
  | _ => none }
def CirculateFairWrongFalsely : Prop := circulateFairRow.holds Try.pinned (OpenSpec.ofChange circulateFairWrong)

/- THE SECOND FORM. 'bulk': how many values and letters a reading holds, each counted each time it is reached (what is shared counts as often as it is met; a slice's spare places count too). A statement '..UptoSaid' is the law's where the arguments, and the package variables that the reading takes, are together of bulk at most 1048576: NARROWER than '..Said'. Prove '..Said' where nothing that the law and all that it calls make is longer than what came in: it says more and counts as full. Else prove '..UptoSaid'. A law counts once. -/
mutual
def uptoBulk {H : Type} : DataW H → Nat
  | .lit (.string bytes) => bytes.length + 1
  | .lit _ => 1
  | .nil => 1
  | .ptr d => uptoBulk d + 1
  | .slice elems spare => uptoBulkAll elems + uptoBulkAll spare + 1
  | .agg parts => uptoBulkAll parts + 1
  | .iface _ d => uptoBulk d + 1
  | .map entries => uptoBulkEntries entries + 1
  | .held _ => 1
def uptoBulkAll {H : Type} : List (DataW H) → Nat
  | [] => 0
  | d :: r => uptoBulk d + uptoBulkAll r
def uptoBulkEntries {H : Type} : List (Lit × DataW H) → Nat
  | [] => 0
  | x :: r => uptoBulkEntry x + uptoBulkEntries r
def uptoBulkEntry {H : Type} : Lit × DataW H → Nat
  | (.string bytes, d) => bytes.length + uptoBulk d + 1
  | (_, d) => uptoBulk d + 1
 end
def uptoSmall : (H : Type) → List (DataW H) → Bool := fun _ ds => decide (uptoBulkAll ds ≤ 1048576)
def OpenSpec.upto (s : _root_.Go.ChangeSpec) : _root_.Go.OpenSpec := { _root_.Go.OpenSpec.ofChange s with cond := some uptoSmall }

/-- 'bookplatelaw58.CirculateRecalls', WHERE WHAT IT READS IS OF BULK AT MOST 1048576: true; the input reads as it did. -/
def circulateRecallsUptoRow : OpenClaim := { program := "ytmekkjehkcjpdaa", sum := "b9dc310995e224c86d1846f0c3fb93419f27c78ee0c1f438b09aed5df94817fe", func := "bookplate/bookplatelaw58.CirculateRecalls", spec := "circulateRecalls", inPlace := ["slices.overlaps[bookplate/circulate.Copy]"], unfollowed := true, recurses := true, plainKeys := false, apart := false, narrowed := true }
def CirculateRecallsUptoSaid : Prop := circulateRecallsUptoRow.holds Try.pinned (OpenSpec.upto circulateRecallsSpec)

/-- 'bookplatelaw58.CirculateTime', WHERE WHAT IT READS IS OF BULK AT MOST 1048576: true; the input reads as it did. -/
def circulateTimeUptoRow : OpenClaim := { program := "ytmekkjehkcjpdaa", sum := "b9dc310995e224c86d1846f0c3fb93419f27c78ee0c1f438b09aed5df94817fe", func := "bookplate/bookplatelaw58.CirculateTime", spec := "circulateTime", inPlace := ["slices.overlaps[bookplate/circulate.Copy]"], unfollowed := true, recurses := true, plainKeys := false, apart := false, narrowed := true }
def CirculateTimeUptoSaid : Prop := circulateTimeUptoRow.holds Try.pinned (OpenSpec.upto circulateTimeSpec)

/-- 'bookplatelaw58.CirculateCopies', WHERE WHAT IT READS IS OF BULK AT MOST 1048576: true; the input reads as it did. -/
def circulateCopiesUptoRow : OpenClaim := { program := "ytmekkjehkcjpdaa", sum := "b9dc310995e224c86d1846f0c3fb93419f27c78ee0c1f438b09aed5df94817fe", func := "bookplate/bookplatelaw58.CirculateCopies", spec := "circulateCopies", inPlace := ["slices.overlaps[bookplate/circulate.Copy]"], unfollowed := true, recurses := true, plainKeys := false, apart := false, narrowed := true }
def CirculateCopiesUptoSaid : Prop := circulateCopiesUptoRow.holds Try.pinned (OpenSpec.upto circulateCopiesSpec)

/-- 'bookplatelaw58.CirculateFair', WHERE WHAT IT READS IS OF BULK AT MOST 1048576: true; the input reads as it did. -/
def circulateFairUptoRow : OpenClaim := { program := "ytmekkjehkcjpdaa", sum := "b9dc310995e224c86d1846f0c3fb93419f27c78ee0c1f438b09aed5df94817fe", func := "bookplate/bookplatelaw58.CirculateFair", spec := "circulateFair", inPlace := ["slices.overlaps[bookplate/circulate.Copy]"], unfollowed := true, recurses := true, plainKeys := false, apart := false, narrowed := true }
def CirculateFairUptoSaid : Prop := circulateFairUptoRow.holds Try.pinned (OpenSpec.upto circulateFairSpec)

end Rows
end Go.Proofs.Ytmekkjehkcjpdaa
