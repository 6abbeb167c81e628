/-
  No cell of these rows narrows 'for every input' (looked for: loops, veiled, ifaces, maps, wideKeys, modest, calm, conditions, laid).
  DERIVED. THE GIVEN ROWS OF THIS SEAT. 6 by the template 'for every input the law returns true; each argument reads behind the call as it read before'; 0 by the template 'total and deterministic' (their statements: YtbkbeplddddgeaaTotals.lean).
  GIVEN WITH THE SEED: the statements are not yours to turn. If you find one false, say at which input.
  Laid BY PROGRAM, IN A SANDBOX (cutbox-rows.mjs): the forced cells as the released guide's own fill.sh prints them over the translation eaf9c3caec3134fd… (all of the seat's roots in one cut). By AI agents, Wed Nov 11 2026. No macro, syntax, notation, axiom, sorry.
-/
import Derived.Test.YtbkbeplddddgeaaChecked
import GoSem.Claim
import GoSem.ClaimJoined
import GoSem.ClaimMapViews
import Derived.JoinedTies
import Derived.KernelRfl
namespace Go.Proofs.Ytbkbeplddddgeaa
/- THE CELL 'sum', in the pinned program and in every row, IS THE sha256 OF THE DUMP (.gsa) THAT YtbkbeplddddgeaaProg.lean LOADS. Nothing in Lean hashes anything: it is a label: what it is worth is what the hold of that sum in a sandbox is worth. -/
noncomputable def Try.pinned : Pinned := { name := "ytbkbeplddddgeaa", sum := "eaf9c3caec3134fd6ea2336bbd041ad1640ad1af3ce05d070d2cf291814c947a", checked := Try.checked }
namespace Rows
def none {H : Type} : Left H := { results := [], args := [] }

/-- 'bookplatelaw34.OptimumBest': WHATEVER THE INPUT: true; the input reads as it did. -/
def optimumBestSpec : ChangeSpec := { name := "optimumBest", fn := fun _ => fun
  | [d] => { results := [.lit (.bool true)], args := [d] }
  | _ => none }
def optimumBestRow : OpenClaim := { program := "ytbkbeplddddgeaa", sum := "eaf9c3caec3134fd6ea2336bbd041ad1640ad1af3ce05d070d2cf291814c947a", func := "bookplate/bookplatelaw34.OptimumBest", spec := "optimumBest", unfollowed := true, recurses := true, apart := false }
def OptimumBestSaid : Prop := optimumBestRow.holds Try.pinned (OpenSpec.ofChange optimumBestSpec)

/-- ITS FALSE NEIGHBOUR: 'it returns false'. Refute it at one input. -/
def optimumBestWrong : ChangeSpec := { name := "optimumBest", fn := fun _ => fun
  | [d] => { results := [.lit (.bool false)], args := [d] }
  | _ => none }
def OptimumBestWrongFalsely : Prop := optimumBestRow.holds Try.pinned (OpenSpec.ofChange optimumBestWrong)

/-- 'bookplatelaw34.OptimumGreatest': WHATEVER THE INPUT: true; the input reads as it did. -/
def optimumGreatestSpec : ChangeSpec := { name := "optimumGreatest", fn := fun _ => fun
  | [d1, d2] => { results := [.lit (.bool true)], args := [d1, d2] }
  | _ => none }
def optimumGreatestRow : OpenClaim := { program := "ytbkbeplddddgeaa", sum := "eaf9c3caec3134fd6ea2336bbd041ad1640ad1af3ce05d070d2cf291814c947a", func := "bookplate/bookplatelaw34.OptimumGreatest", spec := "optimumGreatest", unfollowed := true, recurses := true, apart := false }
def OptimumGreatestSaid : Prop := optimumGreatestRow.holds Try.pinned (OpenSpec.ofChange optimumGreatestSpec)

/-- ITS FALSE NEIGHBOUR: 'it returns false'. Refute it at one input. -/
def optimumGreatestWrong : ChangeSpec := { name := "optimumGreatest", fn := fun _ => fun
  | [d1, d2] => { results := [.lit (.bool false)], args := [d1, d2] }
  | _ => none }
def OptimumGreatestWrongFalsely : Prop := optimumGreatestRow.holds Try.pinned (OpenSpec.ofChange optimumGreatestWrong)

/-- 'bookplatelaw34.OptimumRules': WHATEVER THE INPUT: true; the input reads as it did. -/
def optimumRulesSpec : ChangeSpec := { name := "optimumRules", fn := fun _ => fun
  | [d1, d2] => { results := [.lit (.bool true)], args := [d1, d2] }
  | _ => none }
def optimumRulesRow : OpenClaim := { program := "ytbkbeplddddgeaa", sum := "eaf9c3caec3134fd6ea2336bbd041ad1640ad1af3ce05d070d2cf291814c947a", func := "bookplate/bookplatelaw34.OptimumRules", spec := "optimumRules", unfollowed := true, recurses := true, apart := false }
def OptimumRulesSaid : Prop := optimumRulesRow.holds Try.pinned (OpenSpec.ofChange optimumRulesSpec)

/-- ITS FALSE NEIGHBOUR: 'it returns false'. Refute it at one input. -/
def optimumRulesWrong : ChangeSpec := { name := "optimumRules", fn := fun _ => fun
  | [d1, d2] => { results := [.lit (.bool false)], args := [d1, d2] }
  | _ => none }
def OptimumRulesWrongFalsely : Prop := optimumRulesRow.holds Try.pinned (OpenSpec.ofChange optimumRulesWrong)

/-- 'bookplatelaw34.OptimumGap': WHATEVER THE INPUT: true; the input reads as it did. -/
def optimumGapSpec : ChangeSpec := { name := "optimumGap", fn := fun _ => fun
  | [d1, d2] => { results := [.lit (.bool true)], args := [d1, d2] }
  | _ => none }
def optimumGapRow : OpenClaim := { program := "ytbkbeplddddgeaa", sum := "eaf9c3caec3134fd6ea2336bbd041ad1640ad1af3ce05d070d2cf291814c947a", func := "bookplate/bookplatelaw34.OptimumGap", spec := "optimumGap", unfollowed := true, recurses := true, apart := false }
def OptimumGapSaid : Prop := optimumGapRow.holds Try.pinned (OpenSpec.ofChange optimumGapSpec)

/-- ITS FALSE NEIGHBOUR: 'it returns false'. Refute it at one input. -/
def optimumGapWrong : ChangeSpec := { name := "optimumGap", fn := fun _ => fun
  | [d1, d2] => { results := [.lit (.bool false)], args := [d1, d2] }
  | _ => none }
def OptimumGapWrongFalsely : Prop := optimumGapRow.holds Try.pinned (OpenSpec.ofChange optimumGapWrong)

/-- 'bookplatelaw34.OptimumParts': WHATEVER THE INPUT: true; the input reads as it did. -/
def optimumPartsSpec : ChangeSpec := { name := "optimumParts", fn := fun _ => fun
  | [d] => { results := [.lit (.bool true)], args := [d] }
  | _ => none }
def optimumPartsRow : OpenClaim := { program := "ytbkbeplddddgeaa", sum := "eaf9c3caec3134fd6ea2336bbd041ad1640ad1af3ce05d070d2cf291814c947a", func := "bookplate/bookplatelaw34.OptimumParts", spec := "optimumParts", unfollowed := true, recurses := true, apart := false }
def OptimumPartsSaid : Prop := optimumPartsRow.holds Try.pinned (OpenSpec.ofChange optimumPartsSpec)

/-- ITS FALSE NEIGHBOUR: 'it returns false'. Refute it at one input. -/
def optimumPartsWrong : ChangeSpec := { name := "optimumParts", fn := fun _ => fun
  | [d] => { results := [.lit (.bool false)], args := [d] }
  | _ => none }
def OptimumPartsWrongFalsely : Prop := optimumPartsRow.holds Try.pinned (OpenSpec.ofChange optimumPartsWrong)

/-- 'bookplatelaw34.OptimumBetween': WHATEVER THE INPUT: true; the input reads as it did. -/
def optimumBetweenSpec : ChangeSpec := { name := "optimumBetween", fn := fun _ => fun
  | [d] => { results := [.lit (.bool true)], args := [d] }
  | _ => none }
def optimumBetweenRow : OpenClaim := { program := "ytbkbeplddddgeaa", sum := "eaf9c3caec3134fd6ea2336bbd041ad1640ad1af3ce05d070d2cf291814c947a", func := "bookplate/bookplatelaw34.OptimumBetween", spec := "optimumBetween", unfollowed := true, recurses := true, apart := false }
def OptimumBetweenSaid : Prop := optimumBetweenRow.holds Try.pinned (OpenSpec.ofChange optimumBetweenSpec)

/-- ITS FALSE NEIGHBOUR: 'it returns false'. Refute it at one input. -/
def optimumBetweenWrong : ChangeSpec := { name := "optimumBetween", fn := fun _ => fun
  | [d] => { results := [.lit (.bool false)], args := [d] }
  | _ => none }
def OptimumBetweenWrongFalsely : Prop := optimumBetweenRow.holds Try.pinned (OpenSpec.ofChange optimumBetweenWrong)

/- THE SECOND FORM. 'bulk': how many values and letters a reading holds, each counted each time it is reached (what is shared counts as often as it is met; a slice's spare places count too). A statement '..UptoSaid' is the law's where the arguments, and the package variables that the reading takes, are together of bulk at most 1048576: NARROWER than '..Said'. Prove '..Said' where nothing that the law and all that it calls make is longer than what came in: it says more and counts as full. Else prove '..UptoSaid'. A law counts once. -/
mutual
def uptoBulk {H : Type} : DataW H → Nat
  | .lit (.string bytes) => bytes.length + 1
  | .lit _ => 1
  | .nil => 1
  | .ptr d => uptoBulk d + 1
  | .slice elems spare => uptoBulkAll elems + uptoBulkAll spare + 1
  | .agg parts => uptoBulkAll parts + 1
  | .iface _ d => uptoBulk d + 1
  | .map entries => uptoBulkEntries entries + 1
  | .held _ => 1
def uptoBulkAll {H : Type} : List (DataW H) → Nat
  | [] => 0
  | d :: r => uptoBulk d + uptoBulkAll r
def uptoBulkEntries {H : Type} : List (Lit × DataW H) → Nat
  | [] => 0
  | x :: r => uptoBulkEntry x + uptoBulkEntries r
def uptoBulkEntry {H : Type} : Lit × DataW H → Nat
  | (.string bytes, d) => bytes.length + uptoBulk d + 1
  | (_, d) => uptoBulk d + 1
 end
def uptoSmall : (H : Type) → List (DataW H) → Bool := fun _ ds => decide (uptoBulkAll ds ≤ 1048576)
def OpenSpec.upto (s : _root_.Go.ChangeSpec) : _root_.Go.OpenSpec := { _root_.Go.OpenSpec.ofChange s with cond := some uptoSmall }

/-- 'bookplatelaw34.OptimumBest', WHERE WHAT IT READS IS OF BULK AT MOST 1048576: true; the input reads as it did. -/
def optimumBestUptoRow : OpenClaim := { program := "ytbkbeplddddgeaa", sum := "eaf9c3caec3134fd6ea2336bbd041ad1640ad1af3ce05d070d2cf291814c947a", func := "bookplate/bookplatelaw34.OptimumBest", spec := "optimumBest", unfollowed := true, recurses := true, apart := false, narrowed := true }
def OptimumBestUptoSaid : Prop := optimumBestUptoRow.holds Try.pinned (OpenSpec.upto optimumBestSpec)

/-- 'bookplatelaw34.OptimumGreatest', WHERE WHAT IT READS IS OF BULK AT MOST 1048576: true; the input reads as it did. -/
def optimumGreatestUptoRow : OpenClaim := { program := "ytbkbeplddddgeaa", sum := "eaf9c3caec3134fd6ea2336bbd041ad1640ad1af3ce05d070d2cf291814c947a", func := "bookplate/bookplatelaw34.OptimumGreatest", spec := "optimumGreatest", unfollowed := true, recurses := true, apart := false, narrowed := true }
def OptimumGreatestUptoSaid : Prop := optimumGreatestUptoRow.holds Try.pinned (OpenSpec.upto optimumGreatestSpec)

/-- 'bookplatelaw34.OptimumRules', WHERE WHAT IT READS IS OF BULK AT MOST 1048576: true; the input reads as it did. -/
def optimumRulesUptoRow : OpenClaim := { program := "ytbkbeplddddgeaa", sum := "eaf9c3caec3134fd6ea2336bbd041ad1640ad1af3ce05d070d2cf291814c947a", func := "bookplate/bookplatelaw34.OptimumRules", spec := "optimumRules", unfollowed := true, recurses := true, apart := false, narrowed := true }
def OptimumRulesUptoSaid : Prop := optimumRulesUptoRow.holds Try.pinned (OpenSpec.upto optimumRulesSpec)

/-- 'bookplatelaw34.OptimumGap', WHERE WHAT IT READS IS OF BULK AT MOST 1048576: true; the input reads as it did. -/
def optimumGapUptoRow : OpenClaim := { program := "ytbkbeplddddgeaa", sum := "eaf9c3caec3134fd6ea2336bbd041ad1640ad1af3ce05d070d2cf291814c947a", func := "bookplate/bookplatelaw34.OptimumGap", spec := "optimumGap", unfollowed := true, recurses := true, apart := false, narrowed := true }
def OptimumGapUptoSaid : Prop := optimumGapUptoRow.holds Try.pinned (OpenSpec.upto optimumGapSpec)

/-- 'bookplatelaw34.OptimumParts', WHERE WHAT IT READS IS OF BULK AT MOST 1048576: true; the input reads as it did. -/
def optimumPartsUptoRow : OpenClaim := { program := "ytbkbeplddddgeaa", sum := "eaf9c3caec3134fd6ea2336bbd041ad1640ad1af3ce05d070d2cf291814c947a", func := "bookplate/bookplatelaw34.OptimumParts", spec := "optimumParts", unfollowed := true, recurses := true, apart := false, narrowed := true }
def OptimumPartsUptoSaid : Prop := optimumPartsUptoRow.holds Try.pinned (OpenSpec.upto optimumPartsSpec)

/-- 'bookplatelaw34.OptimumBetween', WHERE WHAT IT READS IS OF BULK AT MOST 1048576: true; the input reads as it did. -/
def optimumBetweenUptoRow : OpenClaim := { program := "ytbkbeplddddgeaa", sum := "eaf9c3caec3134fd6ea2336bbd041ad1640ad1af3ce05d070d2cf291814c947a", func := "bookplate/bookplatelaw34.OptimumBetween", spec := "optimumBetween", unfollowed := true, recurses := true, apart := false, narrowed := true }
def OptimumBetweenUptoSaid : Prop := optimumBetweenUptoRow.holds Try.pinned (OpenSpec.upto optimumBetweenSpec)

end Rows
end Go.Proofs.Ytbkbeplddddgeaa
