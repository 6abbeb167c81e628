/-
  DigestFar holds: for every input the law returns true and leaves its arguments as they were.
-/
import Derived.Test.YtebinfembfoklaaOwn
import Derived.Test.YtebinfembfoklaaW5
namespace Go.Proofs.Ytebinfembfoklaa
open Go.ChangeShapes Go.WideShapes Go.ChangeAt Go.RowKit Go.G
set_option maxRecDepth 100000 in
theorem digestFar_lifted (os : Os) (started : os.Started) (H : Type) (enc : TypeId × Value → H) :
    ReturnsInHanded {} Try.checked os 7 .any (Rows.digestFarSpec.pre6 enc Try.prog Try.f7 Rows.digestFarRow.domain false) (Rows.digestFarSpec.post enc Try.prog Try.f7 false true false false) := by
  refine lift_law (C := Try.checked) own started (by kernel_rfl) Try.func7
    (ChangeSpec.witness6 (enc := enc) (C := Try.checked) false ⟨#[], #[.int .u32 0, .int .u32 0, .agg #[.int .u64 0, .int .u64 0]], []⟩ 8 (by kernel_rfl) (by kernel_rfl) (by kernel_rfl) (by kernel_rfl)) laidOut (by kernel_rfl) rfl Try.underlying4 rfl ?_
  intro W base args ds p hval0 hA0
  have hval : ∀ (j : Nat) t v, Try.f7.params[j]? = some t → args[j]? = some v → Value.okWide Try.prog W .any base t v := hval0
  have hA : DataW.TrodAll enc Try.prog W 0 (fun _ => true) true Try.f7.params.toList args.toList ds p := hA0
  rw [Try.params7] at hA hval
  clear hval0 hA0
  obtain ⟨v0, v1, v2, d0, d1, d2, p0, p1, p2, rfl, rfl, rfl, h0, h1, h2⟩ := trodAll_three hA
  refine ⟨rfl, ?_⟩
  obtain ⟨n0, rfl, rfl, rfl, w0⟩ := open_int Try.underlying24 (hval 0 24 v0 rfl rfl) h0
  have r0 := in_u32 w0
  obtain ⟨n1, rfl, rfl, rfl, w1⟩ := open_int Try.underlying24 (hval 1 24 v1 rfl rfl) h1
  have r1 := in_u32 w1
  obtain ⟨a2, b2, rfl, wa2, wb2⟩ := open_arr2 Try.underlying40 Try.underlying39 (by kernel_rfl) (by kernel_rfl) (hval 2 40 v2 rfl rfl) h2
  have ra2 := in_u64 wa2
  have rb2 := in_u64 wb2
  exact digestFar_spec n0 n1 r0 r1 a2 b2 ra2 rb2 _

theorem digestFar_holds : Rows.DigestFarSaid :=
  OpenClaim.holds_of_wide 7 Try.f7 rfl rfl rfl rfl rfl rfl rfl ⟨rfl, rfl, rfl, rfl, rfl⟩ rfl rfl rfl rfl rfl (by kernel_rfl) Try.func7 (by kernel_rfl)
    (of_decide_eq_true (by kernel_rfl)) (by unfold Func.isWrapper; first | (rw [if_pos (by decide +kernel)]; kernel_rfl) | (rw [if_neg (by decide +kernel)]; exact ⟨rfl, rfl⟩))
    (fun os started H enc _ => digestFar_lifted os started H enc)
#print axioms digestFar_holds

end Go.Proofs.Ytebinfembfoklaa
