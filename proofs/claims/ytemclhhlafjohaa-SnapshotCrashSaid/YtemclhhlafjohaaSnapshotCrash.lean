/-
  SnapshotCrash holds: for every input the law returns true and leaves its arguments as they were.
-/
import Derived.Test.YtemclhhlafjohaaOwn
import Derived.Test.YtemclhhlafjohaaHLift2
import Derived.Test.YtemclhhlafjohaaHArr
import Derived.Test.YtemclhhlafjohaaH12
namespace Go.Proofs.Ytemclhhlafjohaa
open Go.ChangeShapes Go.WideShapes Go.ChangeAt Go.RowKit Go.H Go.D21
set_option maxRecDepth 100000 in
theorem snapshotCrash_lifted (os : Os) (started : os.Started) (H : Type) (enc : TypeId × Value → H) :
    ReturnsInHanded {} Try.checked os 8 .any (Rows.snapshotCrashSpec.pre6 enc Try.prog Try.f8 Rows.snapshotCrashRow.domain false) (Rows.snapshotCrashSpec.post enc Try.prog Try.f8 false true false false) := by
  refine G.lift_law (C := Try.checked) own started (by kernel_rfl) Try.func8
    (ChangeSpec.witness6 (enc := enc) (C := Try.checked) false ⟨#[], #[.slice none 0 0, .int .u16 0], []⟩ 8 (by kernel_rfl) (by kernel_rfl) (by kernel_rfl) (by kernel_rfl)) laidOut (by kernel_rfl) rfl Try.underlying4 rfl ?_
  intro W base args ds p hval0 hA0
  have hval : ∀ (j : Nat) t v, Try.f8.params[j]? = some t → args[j]? = some v → Value.okWide Try.prog W .any base t v := hval0
  have hA : DataW.TrodAll enc Try.prog W 0 (fun _ => true) true Try.f8.params.toList args.toList ds p := hA0
  rw [Try.params8] at hA hval
  clear hval0 hA0
  obtain ⟨v0, v1, d0, d1, p0, p1, rfl, rfl, rfl, h0, h1⟩ := trodAll_two hA
  refine ⟨rfl, ?_⟩
  obtain ⟨x0, g0, q0⟩ := Go.H.Op.sl (Go.H.Op.slice (sz := 2) Try.underlying42 (by kernel_rfl) (by decide) (fun _ => rfl) (Go.H.Op.map (enc' := eStp) (good' := (fun _ => True)) (Go.H.Op.structN (m := 2) Try.underlying82 (by kernel_rfl) (OpFs.cons (m1 := 1) rfl (by kernel_rfl) (Go.H.Op.u8 Try.underlying5) (OpFs.last (m := 1) rfl (by kernel_rfl) (Go.H.Op.slice (sz := 1) Try.underlying22 (by kernel_rfl) (by decide) (fun _ => rfl) (Go.H.Op.u8 Try.underlying5))))) (fun (x : UInt8 × List UInt8) => (⟨x.1, x.2⟩ : Stp)) (fun _ => rfl) (fun _ _ => trivial))) Try.underlying42 (hval 0 42 v0 rfl rfl) h0
  obtain ⟨x1, rfl, rfl, rfl, w1⟩ := open_int Try.underlying61 (hval 1 61 v1 rfl rfl) h1
  have g1 := G.in_u16 w1
  exact Con.law (snapshotCrash_h x1 (l := x0) g1) (AllI.cons (q0 (fun _ => undef)) (AllI.cons (RepI.u (.sc _)) AllI.nil))

theorem snapshotCrash_holds : Rows.SnapshotCrashSaid :=
  OpenClaim.holds_of_wide 8 Try.f8 rfl rfl rfl rfl rfl rfl rfl ⟨rfl, rfl, rfl, rfl, rfl⟩ rfl rfl rfl rfl rfl (by kernel_rfl) Try.func8 (by kernel_rfl)
    (of_decide_eq_true (by kernel_rfl)) (by unfold Func.isWrapper; first | (rw [if_pos (by decide +kernel)]; kernel_rfl) | (rw [if_neg (by decide +kernel)]; exact ⟨rfl, rfl⟩))
    (fun os started H enc _ => snapshotCrash_lifted os started H enc)
#print axioms snapshotCrash_holds

end Go.Proofs.Ytemclhhlafjohaa
