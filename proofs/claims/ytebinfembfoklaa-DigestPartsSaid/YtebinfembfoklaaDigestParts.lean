/-
  DigestParts holds: for every input the law returns true and leaves its arguments as they were.
-/
import Derived.Test.YtebinfembfoklaaOwn
import Derived.Test.YtebinfembfoklaaW5
namespace Go.Proofs.Ytebinfembfoklaa
open Go.ChangeShapes Go.WideShapes Go.ChangeAt Go.RowKit Go.G
set_option maxRecDepth 100000 in
theorem digestParts_lifted (os : Os) (started : os.Started) (H : Type) (enc : TypeId × Value → H) :
    ReturnsInHanded {} Try.checked os 8 .any (Rows.digestPartsSpec.pre6 enc Try.prog Try.f8 Rows.digestPartsRow.domain false) (Rows.digestPartsSpec.post enc Try.prog Try.f8 false true false false) := by
  refine lift_law (C := Try.checked) own started (by kernel_rfl) Try.func8
    (ChangeSpec.witness6 (enc := enc) (C := Try.checked) false ⟨#[], #[.slice none 0 0, .slice none 0 0], []⟩ 8 (by kernel_rfl) (by kernel_rfl) (by kernel_rfl) (by kernel_rfl)) laidOut (by kernel_rfl) rfl Try.underlying4 rfl ?_
  intro W base args ds p hval0 hA0
  have hval : ∀ (j : Nat) t v, Try.f8.params[j]? = some t → args[j]? = some v → Value.okWide Try.prog W .any base t v := hval0
  have hA : DataW.TrodAll enc Try.prog W 0 (fun _ => true) true Try.f8.params.toList args.toList ds p := hA0
  rw [Try.params8] at hA hval
  clear hval0 hA0
  obtain ⟨v0, v1, d0, d1, p0, p1, rfl, rfl, rfl, h0, h1⟩ := trodAll_two hA
  refine ⟨rfl, ?_⟩
  obtain ⟨lo0, hi0, l0, f0⟩ := open_u8s Try.underlying22 Try.underlying5 (by kernel_rfl) (hval 0 22 v0 rfl rfl) h0
  obtain ⟨lo1, hi1, l1, f1⟩ := open_u8s Try.underlying22 Try.underlying5 (by kernel_rfl) (hval 1 22 v1 rfl rfl) h1
  exact digestParts_spec _ f0 f1

theorem digestParts_holds : Rows.DigestPartsSaid :=
  OpenClaim.holds_of_wide 8 Try.f8 rfl rfl rfl rfl rfl rfl rfl ⟨rfl, rfl, rfl, rfl, rfl⟩ rfl rfl rfl rfl rfl (by kernel_rfl) Try.func8 (by kernel_rfl)
    (of_decide_eq_true (by kernel_rfl)) (by unfold Func.isWrapper; first | (rw [if_pos (by decide +kernel)]; kernel_rfl) | (rw [if_neg (by decide +kernel)]; exact ⟨rfl, rfl⟩))
    (fun os started H enc _ => digestParts_lifted os started H enc)
#print axioms digestParts_holds

end Go.Proofs.Ytebinfembfoklaa
