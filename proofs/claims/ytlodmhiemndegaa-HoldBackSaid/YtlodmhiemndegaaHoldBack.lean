/-
  HoldBack holds: for every input the law returns true and leaves its arguments as they were.
-/
import Derived.Test.YtlodmhiemndegaaOwn
import Derived.Test.YtlodmhiemndegaaHLift2
import Derived.Test.YtlodmhiemndegaaH14
namespace Go.Proofs.Ytlodmhiemndegaa
open Go.ChangeShapes Go.WideShapes Go.ChangeAt Go.RowKit Go.H Go.D57
set_option maxRecDepth 100000 in
theorem holdBack_lifted (os : Os) (started : os.Started) (H : Type) (enc : TypeId × Value → H) :
    ReturnsInHanded {} Try.checked os 8 .any (Rows.holdBackSpec.pre6 enc Try.prog Try.f8 Rows.holdBackRow.domain false) (Rows.holdBackSpec.post enc Try.prog Try.f8 false true false false) := by
  refine G.lift_law (C := Try.checked) own started (by kernel_rfl) Try.func8
    (ChangeSpec.witness6 (enc := enc) (C := Try.checked) false ⟨#[], #[.slice none 0 0, .agg #[.int .i64 0, .int .i64 0, .int .i64 0, .int .i64 0, .int .i64 0]], []⟩ 8 (by kernel_rfl) (by kernel_rfl) (by kernel_rfl) (by kernel_rfl)) laidOut (by kernel_rfl) rfl Try.underlying4 rfl ?_
  intro W base args ds p hval0 hA0
  have hval : ∀ (j : Nat) t v, Try.f8.params[j]? = some t → args[j]? = some v → Value.okWide Try.prog W .any base t v := hval0
  have hA : DataW.TrodAll enc Try.prog W 0 (fun _ => true) true Try.f8.params.toList args.toList ds p := hA0
  rw [Try.params8] at hA hval
  clear hval0 hA0
  obtain ⟨v0, v1, d0, d1, p0, p1, rfl, rfl, rfl, h0, h1⟩ := trodAll_two hA
  refine ⟨rfl, ?_⟩
  obtain ⟨x0, g0, q0⟩ := Go.H.Op.sl (Go.H.Op.slice (sz := 5) Try.underlying22 (by kernel_rfl) (by decide) (fun _ => rfl) (Go.H.Op.map (enc' := eH) (good' := (fun _ => True)) (Go.H.Op.structN (m := 5) Try.underlying32 (by kernel_rfl) (OpFs.cons (m1 := 1) rfl (by kernel_rfl) (Go.H.Op.i64 Try.underlying3) (OpFs.cons (m1 := 1) rfl (by kernel_rfl) (Go.H.Op.i64 Try.underlying3) (OpFs.cons (m1 := 1) rfl (by kernel_rfl) (Go.H.Op.i64 Try.underlying3) (OpFs.cons (m1 := 1) rfl (by kernel_rfl) (Go.H.Op.i64 Try.underlying3) (OpFs.last (m := 1) rfl (by kernel_rfl) (Go.H.Op.i64 Try.underlying3))))))) (fun (x : Int × Int × Int × Int × Int) => (⟨x.1, x.2.1, x.2.2.1, x.2.2.2.1, x.2.2.2.2⟩ : Hd)) (fun _ => rfl) (fun _ _ => trivial))) Try.underlying22 (hval 0 22 v0 rfl rfl) h0
  obtain ⟨x1, g1, q1⟩ := Go.H.Op.agg (Go.H.Op.map (enc' := eH) (good' := (fun _ => True)) (Go.H.Op.structN (m := 5) Try.underlying32 (by kernel_rfl) (OpFs.cons (m1 := 1) rfl (by kernel_rfl) (Go.H.Op.i64 Try.underlying3) (OpFs.cons (m1 := 1) rfl (by kernel_rfl) (Go.H.Op.i64 Try.underlying3) (OpFs.cons (m1 := 1) rfl (by kernel_rfl) (Go.H.Op.i64 Try.underlying3) (OpFs.cons (m1 := 1) rfl (by kernel_rfl) (Go.H.Op.i64 Try.underlying3) (OpFs.last (m := 1) rfl (by kernel_rfl) (Go.H.Op.i64 Try.underlying3))))))) (fun (x : Int × Int × Int × Int × Int) => (⟨x.1, x.2.1, x.2.2.1, x.2.2.2.1, x.2.2.2.2⟩ : Hd)) (fun _ => rfl) (fun _ _ => trivial)) Try.underlying32 (hval 1 32 v1 rfl rfl) h1
  exact Con.law (holdBack_h (q := x0) (h := x1)) (AllI.cons (q0 (fun _ => undef)) (AllI.cons (q1 (fun _ => undef)) AllI.nil))

theorem holdBack_holds : Rows.HoldBackSaid :=
  OpenClaim.holds_of_wide 8 Try.f8 rfl rfl rfl rfl rfl rfl rfl ⟨rfl, rfl, rfl, rfl, rfl⟩ rfl rfl rfl rfl rfl (by kernel_rfl) Try.func8 (by kernel_rfl)
    (of_decide_eq_true (by kernel_rfl)) (by unfold Func.isWrapper; first | (rw [if_pos (by decide +kernel)]; kernel_rfl) | (rw [if_neg (by decide +kernel)]; exact ⟨rfl, rfl⟩))
    (fun os started H enc _ => holdBack_lifted os started H enc)
#print axioms holdBack_holds

end Go.Proofs.Ytlodmhiemndegaa
