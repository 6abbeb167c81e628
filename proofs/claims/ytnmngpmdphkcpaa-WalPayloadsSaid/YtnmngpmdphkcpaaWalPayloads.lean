/-
  WalPayloads holds: for every input the law returns true and leaves its arguments as they were.
-/
import Derived.Test.YtnmngpmdphkcpaaOwn
import Derived.Test.YtnmngpmdphkcpaaHLift
import Derived.Test.YtnmngpmdphkcpaaH6
namespace Go.Proofs.Ytnmngpmdphkcpaa
open Go.ChangeShapes Go.WideShapes Go.ChangeAt Go.RowKit Go.H Go.D20
set_option maxRecDepth 100000 in
theorem walPayloads_lifted (os : Os) (started : os.Started) (H : Type) (enc : TypeId × Value → H) :
    ReturnsInHanded {} Try.checked os 9 .any (Rows.walPayloadsSpec.pre6 enc Try.prog Try.f9 Rows.walPayloadsRow.domain false) (Rows.walPayloadsSpec.post enc Try.prog Try.f9 false true false false) := by
  refine G.lift_law (C := Try.checked) own started (by kernel_rfl) Try.func9
    (ChangeSpec.witness6 (enc := enc) (C := Try.checked) false ⟨#[], #[.slice none 0 0, .int .u8 0], []⟩ 8 (by kernel_rfl) (by kernel_rfl) (by kernel_rfl) (by kernel_rfl)) laidOut (by kernel_rfl) rfl Try.underlying4 rfl ?_
  intro W base args ds p hval0 hA0
  have hval : ∀ (j : Nat) t v, Try.f9.params[j]? = some t → args[j]? = some v → Value.okWide Try.prog W .any base t v := hval0
  have hA : DataW.TrodAll enc Try.prog W 0 (fun _ => true) true Try.f9.params.toList args.toList ds p := hA0
  rw [Try.params9] at hA hval
  clear hval0 hA0
  obtain ⟨v0, v1, d0, d1, p0, p1, rfl, rfl, rfl, h0, h1⟩ := trodAll_two hA
  refine ⟨rfl, ?_⟩
  obtain ⟨x0, g0, q0⟩ := Go.H.Op.sl (Go.H.Op.slice (sz := 1) Try.underlying26 (by kernel_rfl) (by decide) (fun _ => rfl) (Go.H.Op.slice (sz := 1) Try.underlying22 (by kernel_rfl) (by decide) (fun _ => rfl) (Go.H.Op.u8 Try.underlying5))) Try.underlying26 (hval 0 26 v0 rfl rfl) h0
  obtain ⟨x1, rfl, rfl, rfl, w1⟩ := open_int Try.underlying5 (hval 1 5 v1 rfl rfl) h1
  have g1 := G.in_u8 w1
  exact Con.law (walPayloads_h x1 g1) (AllI.cons (q0 (fun _ => undef)) (AllI.cons (RepI.u (.sc _)) AllI.nil))

theorem walPayloads_holds : Rows.WalPayloadsSaid :=
  OpenClaim.holds_of_wide 9 Try.f9 rfl rfl rfl rfl rfl rfl rfl ⟨rfl, rfl, rfl, rfl, rfl⟩ rfl rfl rfl rfl rfl (by kernel_rfl) Try.func9 (by kernel_rfl)
    (of_decide_eq_true (by kernel_rfl)) (by unfold Func.isWrapper; first | (rw [if_pos (by decide +kernel)]; kernel_rfl) | (rw [if_neg (by decide +kernel)]; exact ⟨rfl, rfl⟩))
    (fun os started H enc _ => walPayloads_lifted os started H enc)
#print axioms walPayloads_holds

end Go.Proofs.Ytnmngpmdphkcpaa
