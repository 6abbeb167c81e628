/-
  DigestOpen holds: for every input the law returns true and leaves its arguments as they were.
-/
import Derived.Test.YtebinfembfoklaaOwn
import Derived.Test.YtebinfembfoklaaW6
namespace Go.Proofs.Ytebinfembfoklaa
open Go.ChangeShapes Go.WideShapes Go.ChangeAt Go.RowKit Go.G
set_option maxRecDepth 100000 in
theorem digestOpen_lifted (os : Os) (started : os.Started) (H : Type) (enc : TypeId × Value → H) :
    ReturnsInHanded {} Try.checked os 9 .any (Rows.digestOpenSpec.pre6 enc Try.prog Try.f9 Rows.digestOpenRow.domain false) (Rows.digestOpenSpec.post enc Try.prog Try.f9 false true false false) := by
  refine lift_law (C := Try.checked) own started (by kernel_rfl) Try.func9
    (ChangeSpec.witness6 (enc := enc) (C := Try.checked) false ⟨#[], #[.slice none 0 0, .int .u32 0, .string ByteArray.empty], []⟩ 8 (by kernel_rfl) (by kernel_rfl) (by kernel_rfl) (by kernel_rfl)) laidOut (by kernel_rfl) rfl Try.underlying4 rfl ?_
  intro W base args ds p hval0 hA0
  have hval : ∀ (j : Nat) t v, Try.f9.params[j]? = some t → args[j]? = some v → Value.okWide Try.prog W .any base t v := hval0
  have hA : DataW.TrodAll enc Try.prog W 0 (fun _ => true) true Try.f9.params.toList args.toList ds p := hA0
  rw [Try.params9] at hA hval
  clear hval0 hA0
  obtain ⟨v0, v1, v2, d0, d1, d2, p0, p1, p2, rfl, rfl, rfl, h0, h1, h2⟩ := trodAll_three hA
  refine ⟨rfl, ?_⟩
  obtain ⟨lo0, hi0, l0, f0⟩ := open_u8s Try.underlying22 Try.underlying5 (by kernel_rfl) (hval 0 22 v0 rfl rfl) h0
  obtain ⟨n1, rfl, rfl, rfl, w1⟩ := open_int Try.underlying24 (hval 1 24 v1 rfl rfl) h1
  have r1 := in_u32 w1
  obtain ⟨s2, rfl, rfl, rfl, w2⟩ := Go.ChangeMaps.open_string Try.underlying9 (hval 2 9 v2 rfl rfl) h2
  simp only [maxLen] at w2
  exact digestOpen_spec n1 r1 s2 w2 _ f0

theorem digestOpen_holds : Rows.DigestOpenSaid :=
  OpenClaim.holds_of_wide 9 Try.f9 rfl rfl rfl rfl rfl rfl rfl ⟨rfl, rfl, rfl, rfl, rfl⟩ rfl rfl rfl rfl rfl (by kernel_rfl) Try.func9 (by kernel_rfl)
    (of_decide_eq_true (by kernel_rfl)) (by unfold Func.isWrapper; first | (rw [if_pos (by decide +kernel)]; kernel_rfl) | (rw [if_neg (by decide +kernel)]; exact ⟨rfl, rfl⟩))
    (fun os started H enc _ => digestOpen_lifted os started H enc)
#print axioms digestOpen_holds

end Go.Proofs.Ytebinfembfoklaa
