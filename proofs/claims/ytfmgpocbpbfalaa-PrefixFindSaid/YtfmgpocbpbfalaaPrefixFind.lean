/-
  PrefixFind holds: for every input the law returns true and leaves its arguments as they were.
-/
import Derived.Test.YtfmgpocbpbfalaaOwn
import Derived.Test.YtfmgpocbpbfalaaHLift2
import Derived.Test.YtfmgpocbpbfalaaH10
namespace Go.Proofs.Ytfmgpocbpbfalaa
open Go.ChangeShapes Go.WideShapes Go.ChangeAt Go.RowKit Go.H Go.D41
set_option maxRecDepth 100000 in
theorem prefixFind_lifted (os : Os) (started : os.Started) (H : Type) (enc : TypeId × Value → H) :
    ReturnsInHanded {} Try.checked os 5 .any (Rows.prefixFindSpec.pre6 enc Try.prog Try.f5 Rows.prefixFindRow.domain false) (Rows.prefixFindSpec.post enc Try.prog Try.f5 false true false false) := by
  refine G.lift_law (C := Try.checked) own started (by kernel_rfl) Try.func5
    (ChangeSpec.witness6 (enc := enc) (C := Try.checked) false ⟨#[], #[.slice none 0 0, .string ByteArray.empty, .int .i64 0], []⟩ 8 (by kernel_rfl) (by kernel_rfl) (by kernel_rfl) (by kernel_rfl)) laidOut (by kernel_rfl) rfl Try.underlying4 rfl ?_
  intro W base args ds p hval0 hA0
  have hval : ∀ (j : Nat) t v, Try.f5.params[j]? = some t → args[j]? = some v → Value.okWide Try.prog W .any base t v := hval0
  have hA : DataW.TrodAll enc Try.prog W 0 (fun _ => true) true Try.f5.params.toList args.toList ds p := hA0
  rw [Try.params5] at hA hval
  clear hval0 hA0
  obtain ⟨v0, v1, v2, d0, d1, d2, p0, p1, p2, rfl, rfl, rfl, h0, h1, h2⟩ := trodAll_three hA
  refine ⟨rfl, ?_⟩
  obtain ⟨x0, g0, q0⟩ := Go.H.Op.sl (Go.H.Op.slice (sz := 1) Try.underlying22 (by kernel_rfl) (by decide) (fun _ => rfl) (Go.H.Op.map (enc' := eStr) (good' := fun _ => True) (Go.H.Op.str Try.underlying9) (fun b => b.data.toList) (fun _ => rfl) (fun _ _ => trivial))) Try.underlying22 (hval 0 22 v0 rfl rfl) h0
  obtain ⟨x1, rfl, rfl, rfl, g1⟩ := Go.ChangeMaps.open_string Try.underlying9 (hval 1 9 v1 rfl rfl) h1
  simp only [maxLen] at g1
  obtain ⟨x2, rfl, rfl, rfl, w2⟩ := open_int Try.underlying3 (hval 2 3 v2 rfl rfl) h2
  have g2 := G.in_i64 w2
  exact Con.law (prefixFind_h (l := x0) (s := x1.data.toList) x2) (AllI.cons (q0 (fun _ => undef)) (AllI.cons (RepI.u (.sc _)) (AllI.cons (RepI.u (.sc _)) AllI.nil)))

theorem prefixFind_holds : Rows.PrefixFindSaid :=
  OpenClaim.holds_of_wide 5 Try.f5 rfl rfl rfl rfl rfl rfl rfl ⟨rfl, rfl, rfl, rfl, rfl⟩ rfl rfl rfl rfl rfl (by kernel_rfl) Try.func5 (by kernel_rfl)
    (of_decide_eq_true (by kernel_rfl)) (by unfold Func.isWrapper; first | (rw [if_pos (by decide +kernel)]; kernel_rfl) | (rw [if_neg (by decide +kernel)]; exact ⟨rfl, rfl⟩))
    (fun os started H enc _ => prefixFind_lifted os started H enc)
#print axioms prefixFind_holds

end Go.Proofs.Ytfmgpocbpbfalaa
