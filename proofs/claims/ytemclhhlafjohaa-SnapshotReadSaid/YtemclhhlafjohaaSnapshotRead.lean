/-
  SnapshotRead holds: for every input the law returns true and leaves its arguments as they were.
-/
import Derived.Test.YtemclhhlafjohaaOwn
import Derived.Test.YtemclhhlafjohaaHLift2
import Derived.Test.YtemclhhlafjohaaHArr
import Derived.Test.YtemclhhlafjohaaH12
namespace Go.Proofs.Ytemclhhlafjohaa
open Go.ChangeShapes Go.WideShapes Go.ChangeAt Go.RowKit Go.H Go.D21
set_option maxRecDepth 100000 in
theorem snapshotRead_lifted (os : Os) (started : os.Started) (H : Type) (enc : TypeId × Value → H) :
    ReturnsInHanded {} Try.checked os 3 .any (Rows.snapshotReadSpec.pre6 enc Try.prog Try.f3 Rows.snapshotReadRow.domain false) (Rows.snapshotReadSpec.post enc Try.prog Try.f3 false true false false) := by
  refine G.lift_law (C := Try.checked) own started (by kernel_rfl) Try.func3
    (ChangeSpec.witness6 (enc := enc) (C := Try.checked) false ⟨#[], #[.slice none 0 0, .int .i64 0, .agg #[.int .u8 0, .int .u8 0]], []⟩ 8 (by kernel_rfl) (by kernel_rfl) (by kernel_rfl) (by kernel_rfl)) laidOut (by kernel_rfl) rfl Try.underlying4 rfl ?_
  intro W base args ds p hval0 hA0
  have hval : ∀ (j : Nat) t v, Try.f3.params[j]? = some t → args[j]? = some v → Value.okWide Try.prog W .any base t v := hval0
  have hA : DataW.TrodAll enc Try.prog W 0 (fun _ => true) true Try.f3.params.toList args.toList ds p := hA0
  rw [Try.params3] at hA hval
  clear hval0 hA0
  obtain ⟨v0, v1, v2, d0, d1, d2, p0, p1, p2, rfl, rfl, rfl, h0, h1, h2⟩ := trodAll_three hA
  refine ⟨rfl, ?_⟩
  obtain ⟨x0, g0, q0⟩ := Go.H.Op.sl (Go.H.Op.slice (sz := 1) Try.underlying22 (by kernel_rfl) (by decide) (fun _ => rfl) (Go.H.Op.u8 Try.underlying5)) Try.underlying22 (hval 0 22 v0 rfl rfl) h0
  obtain ⟨x1, rfl, rfl, rfl, w1⟩ := open_int Try.underlying3 (hval 1 3 v1 rfl rfl) h1
  have g1 := G.in_i64 w1
  obtain ⟨x2, g2, q2⟩ := Go.H.Op.aggA (Go.H.Op.arrN (m := 1) (mm := 2) Try.underlying23 (by kernel_rfl) (by kernel_rfl) (OpFs.cons (m1 := 1) rfl (by kernel_rfl) (Go.H.Op.u8 Try.underlying5) (OpFs.last (m := 1) rfl (by kernel_rfl) (Go.H.Op.u8 Try.underlying5)))) Try.underlying23 (hval 2 23 v2 rfl rfl) h2
  exact Con.law (snapshotRead_h x1 (l := x0) x2.1 x2.2) (AllI.cons (q0 (fun _ => undef)) (AllI.cons (RepI.u (.sc _)) (AllI.cons (q2 (fun _ => undef)) AllI.nil)))

theorem snapshotRead_holds : Rows.SnapshotReadSaid :=
  OpenClaim.holds_of_wide 3 Try.f3 rfl rfl rfl rfl rfl rfl rfl ⟨rfl, rfl, rfl, rfl, rfl⟩ rfl rfl rfl rfl rfl (by kernel_rfl) Try.func3 (by kernel_rfl)
    (of_decide_eq_true (by kernel_rfl)) (by unfold Func.isWrapper; first | (rw [if_pos (by decide +kernel)]; kernel_rfl) | (rw [if_neg (by decide +kernel)]; exact ⟨rfl, rfl⟩))
    (fun os started H enc _ => snapshotRead_lifted os started H enc)
#print axioms snapshotRead_holds

end Go.Proofs.Ytemclhhlafjohaa
