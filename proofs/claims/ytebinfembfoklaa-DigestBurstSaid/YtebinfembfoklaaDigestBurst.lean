/-
  DigestBurst holds: for every input the law returns true and leaves its arguments as they were.
-/
import Derived.Test.YtebinfembfoklaaOwn
import Derived.Test.YtebinfembfoklaaW7
namespace Go.Proofs.Ytebinfembfoklaa
open Go.ChangeShapes Go.WideShapes Go.ChangeAt Go.RowKit Go.G
set_option maxRecDepth 100000 in
theorem digestBurst_lifted (os : Os) (started : os.Started) (H : Type) (enc : TypeId × Value → H) :
    ReturnsInHanded {} Try.checked os 5 .any (Rows.digestBurstSpec.pre6 enc Try.prog Try.f5 Rows.digestBurstRow.domain false) (Rows.digestBurstSpec.post enc Try.prog Try.f5 false true false false) := by
  refine lift_law (C := Try.checked) own started (by kernel_rfl) Try.func5
    (ChangeSpec.witness6 (enc := enc) (C := Try.checked) false ⟨#[], #[.slice none 0 0, .int .u16 0, .int .u32 0], []⟩ 8 (by kernel_rfl) (by kernel_rfl) (by kernel_rfl) (by kernel_rfl)) laidOut (by kernel_rfl) rfl Try.underlying4 rfl ?_
  intro W base args ds p hval0 hA0
  have hval : ∀ (j : Nat) t v, Try.f5.params[j]? = some t → args[j]? = some v → Value.okWide Try.prog W .any base t v := hval0
  have hA : DataW.TrodAll enc Try.prog W 0 (fun _ => true) true Try.f5.params.toList args.toList ds p := hA0
  rw [Try.params5] at hA hval
  clear hval0 hA0
  obtain ⟨v0, v1, v2, d0, d1, d2, p0, p1, p2, rfl, rfl, rfl, h0, h1, h2⟩ := trodAll_three hA
  refine ⟨rfl, ?_⟩
  obtain ⟨lo0, hi0, l0, f0⟩ := open_u8s Try.underlying22 Try.underlying5 (by kernel_rfl) (hval 0 22 v0 rfl rfl) h0
  obtain ⟨n1, rfl, rfl, rfl, w1⟩ := open_int Try.underlying31 (hval 1 31 v1 rfl rfl) h1
  have r1 := in_u16 w1
  obtain ⟨n2, rfl, rfl, rfl, w2⟩ := open_int Try.underlying24 (hval 2 24 v2 rfl rfl) h2
  have r2 := in_u32 w2
  exact digestBurst_spec n1 n2 r1 _ f0

theorem digestBurst_holds : Rows.DigestBurstSaid :=
  OpenClaim.holds_of_wide 5 Try.f5 rfl rfl rfl rfl rfl rfl rfl ⟨rfl, rfl, rfl, rfl, rfl⟩ rfl rfl rfl rfl rfl (by kernel_rfl) Try.func5 (by kernel_rfl)
    (of_decide_eq_true (by kernel_rfl)) (by unfold Func.isWrapper; first | (rw [if_pos (by decide +kernel)]; kernel_rfl) | (rw [if_neg (by decide +kernel)]; exact ⟨rfl, rfl⟩))
    (fun os started H enc _ => digestBurst_lifted os started H enc)
#print axioms digestBurst_holds

end Go.Proofs.Ytebinfembfoklaa
