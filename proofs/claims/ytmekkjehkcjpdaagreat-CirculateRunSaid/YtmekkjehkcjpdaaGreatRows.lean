/-
  No cell of these rows narrows 'for every input' (looked for: loops, veiled, ifaces, maps, wideKeys, modest, calm, conditions, laid).
  DERIVED. THE GIVEN ROWS OF THIS SEAT. 3 by the template 'for every input the law returns true; each argument reads behind the call as it read before'; 0 by the template 'total and deterministic' (their statements: YtmekkjehkcjpdaaGreatTotals.lean).
  GIVEN WITH THE SEED: the statements are not yours to turn. If you find one false, say at which input.
  Laid BY PROGRAM, IN A SANDBOX (cutbox-rows.mjs): the forced cells as the released guide's own fill.sh prints them over the translation 05575b2d42613cdb… (all of the seat's roots in one cut). By AI agents, Wed Nov 11 2026. No macro, syntax, notation, axiom, sorry.
-/
import Derived.Test.YtmekkjehkcjpdaaGreatChecked
import GoSem.Claim
import GoSem.ClaimJoined
import GoSem.ClaimMapViews
import Derived.JoinedTies
import Derived.KernelRfl
namespace Go.Proofs.YtmekkjehkcjpdaaGreat
/- THE CELL 'sum', in the pinned program and in every row, IS THE sha256 OF THE DUMP (.gsa) THAT YtmekkjehkcjpdaaGreatProg.lean LOADS. Nothing in Lean hashes anything: it is a label: what it is worth is what the hold of that sum in a sandbox is worth. -/
noncomputable def Tryz.pinned : Pinned := { name := "ytmekkjehkcjpdaagreat", sum := "05575b2d42613cdb4324fb8ad2de37c1ce4b4af70f381f712b13000771a6d0d2", checked := Tryz.checked }
namespace Rows
def none {H : Type} : Left H := { results := [], args := [] }

/-- 'bookplatelaw58.CirculateDo': WHATEVER THE INPUT: true; the input reads as it did. -/
def circulateDoSpec : ChangeSpec := { name := "circulateDo", fn := fun _ => fun
  | [d1, d2] => { results := [.lit (.bool true)], args := [d1, d2] }
  | _ => none }
def circulateDoRow : OpenClaim := { program := "ytmekkjehkcjpdaagreat", sum := "05575b2d42613cdb4324fb8ad2de37c1ce4b4af70f381f712b13000771a6d0d2", func := "bookplate/bookplatelaw58.CirculateDo", spec := "circulateDo", inPlace := ["slices.overlaps[bookplate/circulate.Copy]"], unfollowed := true, recurses := true, plainKeys := false, apart := false }
def CirculateDoSaid : Prop := circulateDoRow.holds Tryz.pinned (OpenSpec.ofChange circulateDoSpec)

/-- ITS FALSE NEIGHBOUR: 'it returns false'. Refute it at one input. -/
def circulateDoWrong : ChangeSpec := { name := "circulateDo", fn := fun _ => fun
  | [d1, d2] => { results := [.lit (.bool false)], args := [d1, d2] }
  | _ => none }
def CirculateDoWrongFalsely : Prop := circulateDoRow.holds Tryz.pinned (OpenSpec.ofChange circulateDoWrong)

/-- 'bookplatelaw58.CirculateRun': WHATEVER THE INPUT: true; the input reads as it did. -/
def circulateRunSpec : ChangeSpec := { name := "circulateRun", fn := fun _ => fun
  | [d1, d2] => { results := [.lit (.bool true)], args := [d1, d2] }
  | _ => none }
def circulateRunRow : OpenClaim := { program := "ytmekkjehkcjpdaagreat", sum := "05575b2d42613cdb4324fb8ad2de37c1ce4b4af70f381f712b13000771a6d0d2", func := "bookplate/bookplatelaw58.CirculateRun", spec := "circulateRun", inPlace := ["slices.overlaps[bookplate/circulate.Copy]"], unfollowed := true, recurses := true, plainKeys := false, apart := false }
def CirculateRunSaid : Prop := circulateRunRow.holds Tryz.pinned (OpenSpec.ofChange circulateRunSpec)

/-- ITS FALSE NEIGHBOUR: 'it returns false'. Refute it at one input. -/
def circulateRunWrong : ChangeSpec := { name := "circulateRun", fn := fun _ => fun
  | [d1, d2] => { results := [.lit (.bool false)], args := [d1, d2] }
  | _ => none }
def CirculateRunWrongFalsely : Prop := circulateRunRow.holds Tryz.pinned (OpenSpec.ofChange circulateRunWrong)

/-- 'bookplatelaw58.CirculatePlaces': WHATEVER THE INPUT: true; the input reads as it did. -/
def circulatePlacesSpec : ChangeSpec := { name := "circulatePlaces", fn := fun _ => fun
  | [d] => { results := [.lit (.bool true)], args := [d] }
  | _ => none }
def circulatePlacesRow : OpenClaim := { program := "ytmekkjehkcjpdaagreat", sum := "05575b2d42613cdb4324fb8ad2de37c1ce4b4af70f381f712b13000771a6d0d2", func := "bookplate/bookplatelaw58.CirculatePlaces", spec := "circulatePlaces", inPlace := ["slices.overlaps[bookplate/circulate.Copy]"], unfollowed := true, recurses := true, plainKeys := false, apart := false }
def CirculatePlacesSaid : Prop := circulatePlacesRow.holds Tryz.pinned (OpenSpec.ofChange circulatePlacesSpec)

/-- ITS FALSE NEIGHBOUR: 'it returns false'. Refute it at one input. -/
def circulatePlacesWrong : ChangeSpec := { name := "circulatePlaces", fn := fun _ => fun
  | [d] => { results := [.lit (.bool false)], args := [d] }
  | _ => none }
def CirculatePlacesWrongFalsely : Prop := circulatePlacesRow.holds Tryz.pinned (OpenSpec.ofChange circulatePlacesWrong)

/- THE SECOND FORM. 'bulk': how many values and letters a reading holds, each counted each time it is reached (what is shared counts as often as it is met; a slice's spare places count too). A statement '..UptoSaid' is the law's where the arguments, and the package variables that the reading takes, are together of bulk at most 1048576: NARROWER than '..Said'. Prove '..Said' where nothing that the law and all that it calls make is longer than what came in: it says more and counts as full. Else prove '..UptoSaid'. A law counts once. -/
mutual
def uptoBulk {H : Type} : DataW H → Nat
  | .lit (.string bytes) => bytes.length + 1
  | .lit _ => 1
  | .nil => 1
  | .ptr d => uptoBulk d + 1
  | .slice elems spare => uptoBulkAll elems + uptoBulkAll spare + 1
  | .agg parts => uptoBulkAll parts + 1
  | .iface _ d => uptoBulk d + 1
  | .map entries => uptoBulkEntries entries + 1
  | .held _ => 1
def uptoBulkAll {H : Type} : List (DataW H) → Nat
  | [] => 0
  | d :: r => uptoBulk d + uptoBulkAll r
def uptoBulkEntries {H : Type} : List (Lit × DataW H) → Nat
  | [] => 0
  | x :: r => uptoBulkEntry x + uptoBulkEntries r
def uptoBulkEntry {H : Type} : Lit × DataW H → Nat
  | (.string bytes, d) => bytes.length + uptoBulk d + 1
  | (_, d) => uptoBulk d + 1
 end
def uptoSmall : (H : Type) → List (DataW H) → Bool := fun _ ds => decide (uptoBulkAll ds ≤ 1048576)
def OpenSpec.upto (s : _root_.Go.ChangeSpec) : _root_.Go.OpenSpec := { _root_.Go.OpenSpec.ofChange s with cond := some uptoSmall }

/-- 'bookplatelaw58.CirculateDo', WHERE WHAT IT READS IS OF BULK AT MOST 1048576: true; the input reads as it did. -/
def circulateDoUptoRow : OpenClaim := { program := "ytmekkjehkcjpdaagreat", sum := "05575b2d42613cdb4324fb8ad2de37c1ce4b4af70f381f712b13000771a6d0d2", func := "bookplate/bookplatelaw58.CirculateDo", spec := "circulateDo", inPlace := ["slices.overlaps[bookplate/circulate.Copy]"], unfollowed := true, recurses := true, plainKeys := false, apart := false, narrowed := true }
def CirculateDoUptoSaid : Prop := circulateDoUptoRow.holds Tryz.pinned (OpenSpec.upto circulateDoSpec)

/-- 'bookplatelaw58.CirculateRun', WHERE WHAT IT READS IS OF BULK AT MOST 1048576: true; the input reads as it did. -/
def circulateRunUptoRow : OpenClaim := { program := "ytmekkjehkcjpdaagreat", sum := "05575b2d42613cdb4324fb8ad2de37c1ce4b4af70f381f712b13000771a6d0d2", func := "bookplate/bookplatelaw58.CirculateRun", spec := "circulateRun", inPlace := ["slices.overlaps[bookplate/circulate.Copy]"], unfollowed := true, recurses := true, plainKeys := false, apart := false, narrowed := true }
def CirculateRunUptoSaid : Prop := circulateRunUptoRow.holds Tryz.pinned (OpenSpec.upto circulateRunSpec)

/-- 'bookplatelaw58.CirculatePlaces', WHERE WHAT IT READS IS OF BULK AT MOST 1048576: true; the input reads as it did. -/
def circulatePlacesUptoRow : OpenClaim := { program := "ytmekkjehkcjpdaagreat", sum := "05575b2d42613cdb4324fb8ad2de37c1ce4b4af70f381f712b13000771a6d0d2", func := "bookplate/bookplatelaw58.CirculatePlaces", spec := "circulatePlaces", inPlace := ["slices.overlaps[bookplate/circulate.Copy]"], unfollowed := true, recurses := true, plainKeys := false, apart := false, narrowed := true }
def CirculatePlacesUptoSaid : Prop := circulatePlacesUptoRow.holds Tryz.pinned (OpenSpec.upto circulatePlacesSpec)

end Rows
end Go.Proofs.YtmekkjehkcjpdaaGreat
