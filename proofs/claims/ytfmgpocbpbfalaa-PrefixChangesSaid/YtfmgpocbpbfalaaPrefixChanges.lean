/-
  PrefixChanges holds: for every input the law returns true and leaves its arguments as they were.
-/
import Derived.Test.YtfmgpocbpbfalaaOwn
import Derived.Test.YtfmgpocbpbfalaaHLift2
import Derived.Test.YtfmgpocbpbfalaaH10
namespace Go.Proofs.Ytfmgpocbpbfalaa
open Go.ChangeShapes Go.WideShapes Go.ChangeAt Go.RowKit Go.H Go.D41
set_option maxRecDepth 100000 in
theorem prefixChanges_lifted (os : Os) (started : os.Started) (H : Type) (enc : TypeId × Value → H) :
    ReturnsInHanded {} Try.checked os 8 .any (Rows.prefixChangesSpec.pre6 enc Try.prog Try.f8 Rows.prefixChangesRow.domain false) (Rows.prefixChangesSpec.post enc Try.prog Try.f8 false true false false) := by
  refine G.lift_law (C := Try.checked) own started (by kernel_rfl) Try.func8
    (ChangeSpec.witness6 (enc := enc) (C := Try.checked) false ⟨#[], #[.slice none 0 0, .string ByteArray.empty], []⟩ 8 (by kernel_rfl) (by kernel_rfl) (by kernel_rfl) (by kernel_rfl)) laidOut (by kernel_rfl) rfl Try.underlying4 rfl ?_
  intro W base args ds p hval0 hA0
  have hval : ∀ (j : Nat) t v, Try.f8.params[j]? = some t → args[j]? = some v → Value.okWide Try.prog W .any base t v := hval0
  have hA : DataW.TrodAll enc Try.prog W 0 (fun _ => true) true Try.f8.params.toList args.toList ds p := hA0
  rw [Try.params8] at hA hval
  clear hval0 hA0
  obtain ⟨v0, v1, d0, d1, p0, p1, rfl, rfl, rfl, h0, h1⟩ := trodAll_two hA
  refine ⟨rfl, ?_⟩
  obtain ⟨x0, g0, q0⟩ := Go.H.Op.sl (Go.H.Op.slice (sz := 1) Try.underlying22 (by kernel_rfl) (by decide) (fun _ => rfl) (Go.H.Op.map (enc' := eStr) (good' := fun _ => True) (Go.H.Op.str Try.underlying9) (fun b => b.data.toList) (fun _ => rfl) (fun _ _ => trivial))) Try.underlying22 (hval 0 22 v0 rfl rfl) h0
  obtain ⟨x1, rfl, rfl, rfl, g1⟩ := Go.ChangeMaps.open_string Try.underlying9 (hval 1 9 v1 rfl rfl) h1
  simp only [maxLen] at g1
  exact Con.law (prefixChanges_h (l := x0) (s := x1.data.toList)) (AllI.cons (q0 (fun _ => undef)) (AllI.cons (RepI.u (.sc _)) AllI.nil))

theorem prefixChanges_holds : Rows.PrefixChangesSaid :=
  OpenClaim.holds_of_wide 8 Try.f8 rfl rfl rfl rfl rfl rfl rfl ⟨rfl, rfl, rfl, rfl, rfl⟩ rfl rfl rfl rfl rfl (by kernel_rfl) Try.func8 (by kernel_rfl)
    (of_decide_eq_true (by kernel_rfl)) (by unfold Func.isWrapper; first | (rw [if_pos (by decide +kernel)]; kernel_rfl) | (rw [if_neg (by decide +kernel)]; exact ⟨rfl, rfl⟩))
    (fun os started H enc _ => prefixChanges_lifted os started H enc)
#print axioms prefixChanges_holds

end Go.Proofs.Ytfmgpocbpbfalaa
