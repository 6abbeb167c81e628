/-
  OptimumParts holds: for every input the law returns true and leaves its arguments ivs they were.
-/
import Derived.Test.YtbkbeplddddgeaaOptimumPartsP12
namespace Go.Proofs.Ytbkbeplddddgeaa
open Go.ChangeShapes Go.WideShapes Go.ChangeAt Go.RowKit Go.H Go.D33
set_option maxRecDepth 100000 in
theorem optimumParts_lifted (os : Os) (started : os.Started) (H : Type) (enc : TypeId × Value → H) :
    ReturnsInHanded {} Try.checked os 7 .any (Rows.optimumPartsSpec.pre6 enc Try.prog Try.f7 Rows.optimumPartsRow.domain false) (Rows.optimumPartsSpec.post enc Try.prog Try.f7 false true false false) := by
  refine G.lift_law (C := Try.checked) own started (by kernel_rfl) Try.func7
    (ChangeSpec.witness6 (enc := enc) (C := Try.checked) false ⟨#[], #[.agg #[.int .i64 0, .slice none 0 0, .slice none 0 0]], []⟩ 8 (by kernel_rfl) (by kernel_rfl) (by kernel_rfl) (by kernel_rfl)) laidOut (by kernel_rfl) rfl Try.underlying4 rfl ?_
  intro W base args ds p hval0 hA0
  have hval : ∀ (j : Nat) t v, Try.f7.params[j]? = some t → args[j]? = some v → Value.okWide Try.prog W .any base t v := hval0
  have hA : DataW.TrodAll enc Try.prog W 0 (fun _ => true) true Try.f7.params.toList args.toList ds p := hA0
  rw [Try.params7] at hA hval
  clear hval0 hA0
  obtain ⟨v0, d0, rfl, rfl, h0⟩ := trodAll_one hA
  refine ⟨rfl, ?_⟩
  obtain ⟨x0, g0, q0⟩ := Go.H.Op.agg (Go.H.Op.structN (m := 3) Try.underlying25 (by kernel_rfl) (OpFs.cons (m1 := 1) rfl (by kernel_rfl) (Go.H.Op.i64 Try.underlying3) (OpFs.cons (m1 := 1) rfl (by kernel_rfl) (Go.H.Op.slice (sz := 3) Try.underlying22 (by kernel_rfl) (by decide) (fun _ => rfl) (Go.H.Op.map (enc' := ePr) (good' := (fun _ => True)) (Go.H.Op.structN (m := 3) Try.underlying64 (by kernel_rfl) (OpFs.cons (m1 := 1) rfl (by kernel_rfl) (Go.H.Op.i64 Try.underlying3) (OpFs.cons (m1 := 1) rfl (by kernel_rfl) (Go.H.Op.i64 Try.underlying3) (OpFs.last (m := 1) rfl (by kernel_rfl) (Go.H.Op.i64 Try.underlying3))))) (fun (x : Int × Int × Int) => (⟨x.1, x.2.1, x.2.2⟩ : Pr)) (fun _ => rfl) (fun _ _ => trivial))) (OpFs.last (m := 1) rfl (by kernel_rfl) (Go.H.Op.slice (sz := 3) Try.underlying23 (by kernel_rfl) (by decide) (fun _ => rfl) (Go.H.Op.map (enc' := eRu) (good' := (fun _ => True)) (Go.H.Op.structN (m := 3) Try.underlying51 (by kernel_rfl) (OpFs.cons (m1 := 1) rfl (by kernel_rfl) (Go.H.Op.i64 Try.underlying3) (OpFs.cons (m1 := 1) rfl (by kernel_rfl) (Go.H.Op.i64 Try.underlying3) (OpFs.last (m := 1) rfl (by kernel_rfl) (Go.H.Op.i64 Try.underlying3))))) (fun (x : Int × Int × Int) => (⟨x.1, x.2.1, x.2.2⟩ : Ru)) (fun _ => rfl) (fun _ _ => trivial))))))) Try.underlying25 (hval 0 25 v0 rfl rfl) h0
  exact Con.law (optimumParts_h (N := x0.1) (ps := x0.2.1) (rs := x0.2.2)) (AllI.cons (q0 (fun _ => undef)) AllI.nil)

theorem optimumParts_holds : Rows.OptimumPartsSaid :=
  OpenClaim.holds_of_wide 7 Try.f7 rfl rfl rfl rfl rfl rfl rfl ⟨rfl, rfl, rfl, rfl, rfl⟩ rfl rfl rfl rfl rfl (by kernel_rfl) Try.func7 (by kernel_rfl)
    (of_decide_eq_true (by kernel_rfl)) (by unfold Func.isWrapper; first | (rw [if_pos (by decide +kernel)]; kernel_rfl) | (rw [if_neg (by decide +kernel)]; exact ⟨rfl, rfl⟩))
    (fun os started H enc _ => optimumParts_lifted os started H enc)
#print axioms optimumParts_holds

end Go.Proofs.Ytbkbeplddddgeaa
