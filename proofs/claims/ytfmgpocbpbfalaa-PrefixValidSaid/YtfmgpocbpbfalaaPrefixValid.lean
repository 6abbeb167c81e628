/-
  PrefixValid holds: for every input the law returns true and leaves its arguments as they were.
-/
import Derived.Test.YtfmgpocbpbfalaaOwn
import Derived.Test.YtfmgpocbpbfalaaH11
namespace Go.Proofs.Ytfmgpocbpbfalaa
open Go.ChangeShapes Go.WideShapes Go.ChangeAt Go.RowKit Go.H Go.D41
set_option maxRecDepth 100000 in
theorem prefixValid_lifted (os : Os) (started : os.Started) (H : Type) (enc : TypeId × Value → H) :
    ReturnsInHanded {} Try.checked os 7 .any (Rows.prefixValidSpec.pre6 enc Try.prog Try.f7 Rows.prefixValidRow.domain false) (Rows.prefixValidSpec.post enc Try.prog Try.f7 false true false false) := by
  refine G.lift_sized (C := Try.checked) own started (by kernel_rfl) Try.func7
    (ChangeSpec.witness6 (enc := enc) (C := Try.checked) false ⟨#[], #[.agg #[.string ByteArray.empty, .bool false, .slice none 0 0], .agg #[.string ByteArray.empty, .bool false, .slice none 0 0]], []⟩ 8 (by kernel_rfl) (by kernel_rfl) (by kernel_rfl) (by kernel_rfl)) laidOut (by kernel_rfl) rfl Try.underlying4 rfl ?_
  intro W base args ds p hval0 hA0 hz0
  have hval : ∀ (j : Nat) t v, Try.f7.params[j]? = some t → args[j]? = some v → Value.okWide Try.prog W .any base t v := hval0
  have hA : DataW.TrodAll enc Try.prog W 0 (fun _ => true) true Try.f7.params.toList args.toList ds p := hA0
  have hz : ∀ (j : Nat) t d, Try.f7.params.toList[j]? = some t → ds[j]? = some d → Wts Try.prog t d := hz0
  rw [Try.params7] at hA hval hz
  clear hval0 hA0 hz0
  obtain ⟨v0, v1, d0, d1, p0, p1, rfl, rfl, rfl, h0, h1⟩ := trodAll_two hA
  refine ⟨rfl, ?_⟩
  obtain ⟨x0, g0, q0⟩ := openTr Try.underlying33 Try.underlying9 Try.underlying4 Try.underlying31 (by kernel_rfl) (by kernel_rfl) (by kernel_rfl) (by kernel_rfl) (by kernel_rfl) (by kernel_rfl) (by kernel_rfl) (by kernel_rfl) (hval 0 33 v0 rfl rfl) h0 (hz 0 33 d0 rfl rfl)
  obtain ⟨x1, g1, q1⟩ := openTr Try.underlying33 Try.underlying9 Try.underlying4 Try.underlying31 (by kernel_rfl) (by kernel_rfl) (by kernel_rfl) (by kernel_rfl) (by kernel_rfl) (by kernel_rfl) (by kernel_rfl) (by kernel_rfl) (hval 1 33 v1 rfl rfl) h1 (hz 1 33 d1 rfl rfl)
  exact Con.law (prefixValid_h (a := x0) (b := x1) g0 g1) (AllI.cons (q0 (fun _ => undef)) (AllI.cons (q1 (fun _ => undef)) AllI.nil))

theorem prefixValid_holds : Rows.PrefixValidSaid :=
  OpenClaim.holds_of_wide 7 Try.f7 rfl rfl rfl rfl rfl rfl rfl ⟨rfl, rfl, rfl, rfl, rfl⟩ rfl rfl rfl rfl rfl (by kernel_rfl) Try.func7 (by kernel_rfl)
    (of_decide_eq_true (by kernel_rfl)) (by unfold Func.isWrapper; first | (rw [if_pos (by decide +kernel)]; kernel_rfl) | (rw [if_neg (by decide +kernel)]; exact ⟨rfl, rfl⟩))
    (fun os started H enc _ => prefixValid_lifted os started H enc)
#print axioms prefixValid_holds
end Go.Proofs.Ytfmgpocbpbfalaa
