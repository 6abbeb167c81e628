/-
  SnapshotRecover holds: for every input the law returns true and leaves its arguments as they were.
-/
import Derived.Test.YtemclhhlafjohaaOwn
import Derived.Test.YtemclhhlafjohaaHLift2
import Derived.Test.YtemclhhlafjohaaHArr
import Derived.Test.YtemclhhlafjohaaH12
namespace Go.Proofs.Ytemclhhlafjohaa
open Go.ChangeShapes Go.WideShapes Go.ChangeAt Go.RowKit Go.H Go.D21
set_option maxRecDepth 100000 in
theorem snapshotRecover_lifted (os : Os) (started : os.Started) (H : Type) (enc : TypeId × Value → H) :
    ReturnsInHanded {} Try.checked os 4 .any (Rows.snapshotRecoverSpec.pre6 enc Try.prog Try.f4 Rows.snapshotRecoverRow.domain false) (Rows.snapshotRecoverSpec.post enc Try.prog Try.f4 false true false false) := by
  refine G.lift_law (C := Try.checked) own started (by kernel_rfl) Try.func4
    (ChangeSpec.witness6 (enc := enc) (C := Try.checked) false ⟨#[], #[.int .i64 0, .slice none 0 0, .slice none 0 0], []⟩ 8 (by kernel_rfl) (by kernel_rfl) (by kernel_rfl) (by kernel_rfl)) laidOut (by kernel_rfl) rfl Try.underlying4 rfl ?_
  intro W base args ds p hval0 hA0
  have hval : ∀ (j : Nat) t v, Try.f4.params[j]? = some t → args[j]? = some v → Value.okWide Try.prog W .any base t v := hval0
  have hA : DataW.TrodAll enc Try.prog W 0 (fun _ => true) true Try.f4.params.toList args.toList ds p := hA0
  rw [Try.params4] at hA hval
  clear hval0 hA0
  obtain ⟨v0, v1, v2, d0, d1, d2, p0, p1, p2, rfl, rfl, rfl, h0, h1, h2⟩ := trodAll_three hA
  refine ⟨rfl, ?_⟩
  obtain ⟨x0, rfl, rfl, rfl, w0⟩ := open_int Try.underlying3 (hval 0 3 v0 rfl rfl) h0
  have g0 := G.in_i64 w0
  obtain ⟨x1, g1, q1⟩ := Go.H.Op.sl (Go.H.Op.slice (sz := 1) Try.underlying22 (by kernel_rfl) (by decide) (fun _ => rfl) (Go.H.Op.u8 Try.underlying5)) Try.underlying22 (hval 1 22 v1 rfl rfl) h1
  obtain ⟨x2, g2, q2⟩ := Go.H.Op.sl (Go.H.Op.slice (sz := 1) Try.underlying32 (by kernel_rfl) (by decide) (fun _ => rfl) (Go.H.Op.slice (sz := 1) Try.underlying22 (by kernel_rfl) (by decide) (fun _ => rfl) (Go.H.Op.u8 Try.underlying5))) Try.underlying32 (hval 2 32 v2 rfl rfl) h2
  exact Con.law (snapshotRecover_h (base := x0) (f := x1) (sn := x2)) (AllI.cons (RepI.u (.sc _)) (AllI.cons (q1 (fun _ => undef)) (AllI.cons (q2 (fun _ => undef)) AllI.nil)))

theorem snapshotRecover_holds : Rows.SnapshotRecoverSaid :=
  OpenClaim.holds_of_wide 4 Try.f4 rfl rfl rfl rfl rfl rfl rfl ⟨rfl, rfl, rfl, rfl, rfl⟩ rfl rfl rfl rfl rfl (by kernel_rfl) Try.func4 (by kernel_rfl)
    (of_decide_eq_true (by kernel_rfl)) (by unfold Func.isWrapper; first | (rw [if_pos (by decide +kernel)]; kernel_rfl) | (rw [if_neg (by decide +kernel)]; exact ⟨rfl, rfl⟩))
    (fun os started H enc _ => snapshotRecover_lifted os started H enc)
#print axioms snapshotRecover_holds

end Go.Proofs.Ytemclhhlafjohaa
