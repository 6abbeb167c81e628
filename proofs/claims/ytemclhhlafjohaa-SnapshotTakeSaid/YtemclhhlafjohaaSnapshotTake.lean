/-
  SnapshotTake holds: for every input the law returns true and leaves its arguments as they were.
-/
import Derived.Test.YtemclhhlafjohaaOwn
import Derived.Test.YtemclhhlafjohaaHLift2
import Derived.Test.YtemclhhlafjohaaHArr
import Derived.Test.YtemclhhlafjohaaH12
namespace Go.Proofs.Ytemclhhlafjohaa
open Go.ChangeShapes Go.WideShapes Go.ChangeAt Go.RowKit Go.H Go.D21
set_option maxRecDepth 100000 in
theorem snapshotTake_lifted (os : Os) (started : os.Started) (H : Type) (enc : TypeId × Value → H) :
    ReturnsInHanded {} Try.checked os 7 .any (Rows.snapshotTakeSpec.pre6 enc Try.prog Try.f7 Rows.snapshotTakeRow.domain false) (Rows.snapshotTakeSpec.post enc Try.prog Try.f7 false true false false) := by
  refine G.lift_law (C := Try.checked) own started (by kernel_rfl) Try.func7
    (ChangeSpec.witness6 (enc := enc) (C := Try.checked) false ⟨#[], #[.slice none 0 0, .slice none 0 0], []⟩ 8 (by kernel_rfl) (by kernel_rfl) (by kernel_rfl) (by kernel_rfl)) laidOut (by kernel_rfl) rfl Try.underlying4 rfl ?_
  intro W base args ds p hval0 hA0
  have hval : ∀ (j : Nat) t v, Try.f7.params[j]? = some t → args[j]? = some v → Value.okWide Try.prog W .any base t v := hval0
  have hA : DataW.TrodAll enc Try.prog W 0 (fun _ => true) true Try.f7.params.toList args.toList ds p := hA0
  rw [Try.params7] at hA hval
  clear hval0 hA0
  obtain ⟨v0, v1, d0, d1, p0, p1, rfl, rfl, rfl, h0, h1⟩ := trodAll_two hA
  refine ⟨rfl, ?_⟩
  obtain ⟨x0, g0, q0⟩ := Go.H.Op.sl (Go.H.Op.slice (sz := 2) Try.underlying42 (by kernel_rfl) (by decide) (fun _ => rfl) (Go.H.Op.map (enc' := eStp) (good' := (fun _ => True)) (Go.H.Op.structN (m := 2) Try.underlying82 (by kernel_rfl) (OpFs.cons (m1 := 1) rfl (by kernel_rfl) (Go.H.Op.u8 Try.underlying5) (OpFs.last (m := 1) rfl (by kernel_rfl) (Go.H.Op.slice (sz := 1) Try.underlying22 (by kernel_rfl) (by decide) (fun _ => rfl) (Go.H.Op.u8 Try.underlying5))))) (fun (x : UInt8 × List UInt8) => (⟨x.1, x.2⟩ : Stp)) (fun _ => rfl) (fun _ _ => trivial))) Try.underlying42 (hval 0 42 v0 rfl rfl) h0
  obtain ⟨x1, g1, q1⟩ := Go.H.Op.sl (Go.H.Op.slice (sz := 1) Try.underlying22 (by kernel_rfl) (by decide) (fun _ => rfl) (Go.H.Op.u8 Try.underlying5)) Try.underlying22 (hval 1 22 v1 rfl rfl) h1
  exact Con.law (snapshotTake_h (l := x0) (d := x1)) (AllI.cons (q0 (fun _ => undef)) (AllI.cons (q1 (fun _ => undef)) AllI.nil))

theorem snapshotTake_holds : Rows.SnapshotTakeSaid :=
  OpenClaim.holds_of_wide 7 Try.f7 rfl rfl rfl rfl rfl rfl rfl ⟨rfl, rfl, rfl, rfl, rfl⟩ rfl rfl rfl rfl rfl (by kernel_rfl) Try.func7 (by kernel_rfl)
    (of_decide_eq_true (by kernel_rfl)) (by unfold Func.isWrapper; first | (rw [if_pos (by decide +kernel)]; kernel_rfl) | (rw [if_neg (by decide +kernel)]; exact ⟨rfl, rfl⟩))
    (fun os started H enc _ => snapshotTake_lifted os started H enc)
#print axioms snapshotTake_holds

end Go.Proofs.Ytemclhhlafjohaa
