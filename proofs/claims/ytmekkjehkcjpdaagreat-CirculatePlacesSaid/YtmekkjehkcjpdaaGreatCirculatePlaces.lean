/-
  CirculatePlaces holds: for every input the law returns true and leaves its arguments ivs they were.
-/
import Derived.Test.YtmekkjehkcjpdaaGreatCirculatePlacesP13
namespace Go.Proofs.YtmekkjehkcjpdaaGreat
open Go.ChangeShapes Go.WideShapes Go.ChangeAt Go.RowKit Go.H Go.D57 Go.D58
set_option maxRecDepth 100000 in
theorem circulatePlaces_lifted (os : Os) (started : os.Started) (H : Type) (enc : TypeId × Value → H) :
    ReturnsInHanded {} Tryz.checked os 5 .any (Rows.circulatePlacesSpec.pre6 enc Tryz.prog Tryz.f5 Rows.circulatePlacesRow.domain false) (Rows.circulatePlacesSpec.post enc Tryz.prog Tryz.f5 false true false false) := by
  refine G.lift_law (C := Tryz.checked) own started (by kernel_rfl) Tryz.func5
    (ChangeSpec.witness6 (enc := enc) (C := Tryz.checked) false ⟨#[], #[.slice none 0 0], []⟩ 8 (by kernel_rfl) (by kernel_rfl) (by kernel_rfl) (by kernel_rfl)) laidOut (by kernel_rfl) rfl Tryz.underlying4 rfl ?_
  intro W base args ds p hval0 hA0
  have hval : ∀ (j : Nat) t v, Tryz.f5.params[j]? = some t → args[j]? = some v → Value.okWide Tryz.prog W .any base t v := hval0
  have hA : DataW.TrodAll enc Tryz.prog W 0 (fun _ => true) true Tryz.f5.params.toList args.toList ds p := hA0
  rw [Tryz.params5] at hA hval
  clear hval0 hA0
  obtain ⟨v0, d0, rfl, rfl, h0⟩ := trodAll_one hA
  refine ⟨rfl, ?_⟩
  obtain ⟨x0, g0, q0⟩ := Go.H.Op.sl (Go.H.Op.slice (sz := 8) Tryz.underlying44 (by kernel_rfl) (by decide) (fun _ => rfl) (Go.H.Op.map (enc' := eSp) (good' := (fun _ => True)) (Go.H.Op.structN (m := 8) Tryz.underlying27 (by kernel_rfl) (OpFs.cons (m1 := 1) rfl (by kernel_rfl) (Go.H.Op.i64 Tryz.underlying3) (OpFs.cons (m1 := 1) rfl (by kernel_rfl) (Go.H.Op.i64 Tryz.underlying3) (OpFs.cons (m1 := 1) rfl (by kernel_rfl) (Go.H.Op.i64 Tryz.underlying3) (OpFs.cons (m1 := 1) rfl (by kernel_rfl) (Go.H.Op.i64 Tryz.underlying3) (OpFs.cons (m1 := 1) rfl (by kernel_rfl) (Go.H.Op.i64 Tryz.underlying3) (OpFs.cons (m1 := 1) rfl (by kernel_rfl) (Go.H.Op.i64 Tryz.underlying3) (OpFs.cons (m1 := 1) rfl (by kernel_rfl) (Go.H.Op.i64 Tryz.underlying3) (OpFs.last (m := 1) rfl (by kernel_rfl) (Go.H.Op.map (enc' := eStr) (good' := fun _ => True) (Go.H.Op.str Tryz.underlying9) (fun b => b.data.toList) (fun _ => rfl) (fun _ _ => trivial))))))))))) (fun (x : Int × Int × Int × Int × Int × Int × Int × List UInt8) => (⟨x.1, x.2.1, x.2.2.1, x.2.2.2.1, x.2.2.2.2.1, x.2.2.2.2.2.1, x.2.2.2.2.2.2.1, x.2.2.2.2.2.2.2⟩ : Sp)) (fun _ => rfl) (fun _ _ => trivial))) Tryz.underlying44 (hval 0 44 v0 rfl rfl) h0
  exact Con.law (lawPlaces_h (l := x0)) (AllI.cons (q0 (fun _ => undef)) AllI.nil)

theorem circulatePlaces_holds : Rows.CirculatePlacesSaid :=
  OpenClaim.holds_of_wide 5 Tryz.f5 rfl rfl rfl rfl rfl rfl rfl ⟨rfl, rfl, rfl, rfl, rfl⟩ rfl rfl rfl rfl rfl (by kernel_rfl) Tryz.func5 (by kernel_rfl)
    (of_decide_eq_true (by kernel_rfl)) (by unfold Func.isWrapper; first | (rw [if_pos (by decide +kernel)]; kernel_rfl) | (rw [if_neg (by decide +kernel)]; exact ⟨rfl, rfl⟩))
    (fun os started H enc _ => circulatePlaces_lifted os started H enc)
#print axioms circulatePlaces_holds

end Go.Proofs.YtmekkjehkcjpdaaGreat
