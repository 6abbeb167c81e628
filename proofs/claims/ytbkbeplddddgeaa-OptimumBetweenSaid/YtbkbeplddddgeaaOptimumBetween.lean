/-
  OptimumBetween holds: for every input the law returns true and leaves its arguments ivs they were.
-/
import Derived.Test.YtbkbeplddddgeaaOptimumBetweenP13
namespace Go.Proofs.Ytbkbeplddddgeaa
open Go.ChangeShapes Go.WideShapes Go.ChangeAt Go.RowKit Go.H Go.D33
set_option maxRecDepth 100000 in
theorem optimumBetween_lifted (os : Os) (started : os.Started) (H : Type) (enc : TypeId × Value → H) :
    ReturnsInHanded {} Try.checked os 8 .any (Rows.optimumBetweenSpec.pre6 enc Try.prog Try.f8 Rows.optimumBetweenRow.domain false) (Rows.optimumBetweenSpec.post enc Try.prog Try.f8 false true false false) := by
  refine G.lift_law (C := Try.checked) own started (by kernel_rfl) Try.func8
    (ChangeSpec.witness6 (enc := enc) (C := Try.checked) false ⟨#[], #[.agg #[.int .i64 0, .slice none 0 0, .slice none 0 0]], []⟩ 8 (by kernel_rfl) (by kernel_rfl) (by kernel_rfl) (by kernel_rfl)) laidOut (by kernel_rfl) rfl Try.underlying4 rfl ?_
  intro W base args ds p hval0 hA0
  have hval : ∀ (j : Nat) t v, Try.f8.params[j]? = some t → args[j]? = some v → Value.okWide Try.prog W .any base t v := hval0
  have hA : DataW.TrodAll enc Try.prog W 0 (fun _ => true) true Try.f8.params.toList args.toList ds p := hA0
  rw [Try.params8] at hA hval
  clear hval0 hA0
  obtain ⟨v0, d0, rfl, rfl, h0⟩ := trodAll_one hA
  refine ⟨rfl, ?_⟩
  obtain ⟨x0, g0, q0⟩ := Go.H.Op.agg (Go.H.Op.structN (m := 3) Try.underlying25 (by kernel_rfl) (OpFs.cons (m1 := 1) rfl (by kernel_rfl) (Go.H.Op.i64 Try.underlying3) (OpFs.cons (m1 := 1) rfl (by kernel_rfl) (Go.H.Op.slice (sz := 3) Try.underlying22 (by kernel_rfl) (by decide) (fun _ => rfl) (Go.H.Op.map (enc' := ePr) (good' := (fun _ => True)) (Go.H.Op.structN (m := 3) Try.underlying64 (by kernel_rfl) (OpFs.cons (m1 := 1) rfl (by kernel_rfl) (Go.H.Op.i64 Try.underlying3) (OpFs.cons (m1 := 1) rfl (by kernel_rfl) (Go.H.Op.i64 Try.underlying3) (OpFs.last (m := 1) rfl (by kernel_rfl) (Go.H.Op.i64 Try.underlying3))))) (fun (x : Int × Int × Int) => (⟨x.1, x.2.1, x.2.2⟩ : Pr)) (fun _ => rfl) (fun _ _ => trivial))) (OpFs.last (m := 1) rfl (by kernel_rfl) (Go.H.Op.slice (sz := 3) Try.underlying23 (by kernel_rfl) (by decide) (fun _ => rfl) (Go.H.Op.map (enc' := eRu) (good' := (fun _ => True)) (Go.H.Op.structN (m := 3) Try.underlying51 (by kernel_rfl) (OpFs.cons (m1 := 1) rfl (by kernel_rfl) (Go.H.Op.i64 Try.underlying3) (OpFs.cons (m1 := 1) rfl (by kernel_rfl) (Go.H.Op.i64 Try.underlying3) (OpFs.last (m := 1) rfl (by kernel_rfl) (Go.H.Op.i64 Try.underlying3))))) (fun (x : Int × Int × Int) => (⟨x.1, x.2.1, x.2.2⟩ : Ru)) (fun _ => rfl) (fun _ _ => trivial))))))) Try.underlying25 (hval 0 25 v0 rfl rfl) h0
  exact Con.law (optimumBetween_h (N := x0.1) (ps := x0.2.1) (rs := x0.2.2)) (AllI.cons (q0 (fun _ => undef)) AllI.nil)

theorem optimumBetween_holds : Rows.OptimumBetweenSaid :=
  OpenClaim.holds_of_wide 8 Try.f8 rfl rfl rfl rfl rfl rfl rfl ⟨rfl, rfl, rfl, rfl, rfl⟩ rfl rfl rfl rfl rfl (by kernel_rfl) Try.func8 (by kernel_rfl)
    (of_decide_eq_true (by kernel_rfl)) (by unfold Func.isWrapper; first | (rw [if_pos (by decide +kernel)]; kernel_rfl) | (rw [if_neg (by decide +kernel)]; exact ⟨rfl, rfl⟩))
    (fun os started H enc _ => optimumBetween_lifted os started H enc)
#print axioms optimumBetween_holds

end Go.Proofs.Ytbkbeplddddgeaa
