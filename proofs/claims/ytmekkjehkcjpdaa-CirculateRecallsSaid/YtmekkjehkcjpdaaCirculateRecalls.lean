/-
  CirculateRecalls holds: for every input the law returns true and leaves its arguments ivs they were.
-/
import Derived.Test.YtmekkjehkcjpdaaCirculateRecallsP14
namespace Go.Proofs.Ytmekkjehkcjpdaa
open Go.ChangeShapes Go.WideShapes Go.ChangeAt Go.RowKit Go.H Go.D57 Go.D58
set_option maxRecDepth 100000 in
theorem circulateRecalls_lifted (os : Os) (started : os.Started) (H : Type) (enc : TypeId × Value → H) :
    ReturnsInHanded {} Try.checked os 3 .any (Rows.circulateRecallsSpec.pre6 enc Try.prog Try.f3 Rows.circulateRecallsRow.domain false) (Rows.circulateRecallsSpec.post enc Try.prog Try.f3 false true false false) := by
  refine G.lift_law (C := Try.checked) own started (by kernel_rfl) Try.func3
    (ChangeSpec.witness6 (enc := enc) (C := Try.checked) false ⟨#[], #[.slice none 0 0], []⟩ 8 (by kernel_rfl) (by kernel_rfl) (by kernel_rfl) (by kernel_rfl)) laidOut (by kernel_rfl) rfl Try.underlying4 rfl ?_
  intro W base args ds p hval0 hA0
  have hval : ∀ (j : Nat) t v, Try.f3.params[j]? = some t → args[j]? = some v → Value.okWide Try.prog W .any base t v := hval0
  have hA : DataW.TrodAll enc Try.prog W 0 (fun _ => true) true Try.f3.params.toList args.toList ds p := hA0
  rw [Try.params3] at hA hval
  clear hval0 hA0
  obtain ⟨v0, d0, rfl, rfl, h0⟩ := trodAll_one hA
  refine ⟨rfl, ?_⟩
  obtain ⟨x0, g0, q0⟩ := Go.H.Op.sl (Go.H.Op.slice (sz := 8) Try.underlying22 (by kernel_rfl) (by decide) (fun _ => rfl) (Go.H.Op.map (enc' := eSp) (good' := (fun _ => True)) (Go.H.Op.structN (m := 8) Try.underlying30 (by kernel_rfl) (OpFs.cons (m1 := 1) rfl (by kernel_rfl) (Go.H.Op.i64 Try.underlying3) (OpFs.cons (m1 := 1) rfl (by kernel_rfl) (Go.H.Op.i64 Try.underlying3) (OpFs.cons (m1 := 1) rfl (by kernel_rfl) (Go.H.Op.i64 Try.underlying3) (OpFs.cons (m1 := 1) rfl (by kernel_rfl) (Go.H.Op.i64 Try.underlying3) (OpFs.cons (m1 := 1) rfl (by kernel_rfl) (Go.H.Op.i64 Try.underlying3) (OpFs.cons (m1 := 1) rfl (by kernel_rfl) (Go.H.Op.i64 Try.underlying3) (OpFs.cons (m1 := 1) rfl (by kernel_rfl) (Go.H.Op.i64 Try.underlying3) (OpFs.last (m := 1) rfl (by kernel_rfl) (Go.H.Op.map (enc' := eStr) (good' := fun _ => True) (Go.H.Op.str Try.underlying9) (fun b => b.data.toList) (fun _ => rfl) (fun _ _ => trivial))))))))))) (fun (x : Int × Int × Int × Int × Int × Int × Int × List UInt8) => (⟨x.1, x.2.1, x.2.2.1, x.2.2.2.1, x.2.2.2.2.1, x.2.2.2.2.2.1, x.2.2.2.2.2.2.1, x.2.2.2.2.2.2.2⟩ : Sp)) (fun _ => rfl) (fun _ _ => trivial))) Try.underlying22 (hval 0 22 v0 rfl rfl) h0
  exact Con.law (recalls_h (l := x0)) (AllI.cons (q0 (fun _ => undef)) AllI.nil)

theorem circulateRecalls_holds : Rows.CirculateRecallsSaid :=
  OpenClaim.holds_of_wide 3 Try.f3 rfl rfl rfl rfl rfl rfl rfl ⟨rfl, rfl, rfl, rfl, rfl⟩ rfl rfl rfl rfl rfl (by kernel_rfl) Try.func3 (by kernel_rfl)
    (of_decide_eq_true (by kernel_rfl)) (by unfold Func.isWrapper; first | (rw [if_pos (by decide +kernel)]; kernel_rfl) | (rw [if_neg (by decide +kernel)]; exact ⟨rfl, rfl⟩))
    (fun os started H enc _ => circulateRecalls_lifted os started H enc)
#print axioms circulateRecalls_holds

end Go.Proofs.Ytmekkjehkcjpdaa
