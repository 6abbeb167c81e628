/-
  WalOpen holds: for every input the law returns true and leaves its arguments as they were.
-/
import Derived.Test.YtnmngpmdphkcpaaOwn
import Derived.Test.YtnmngpmdphkcpaaHLift
import Derived.Test.YtnmngpmdphkcpaaH6
namespace Go.Proofs.Ytnmngpmdphkcpaa
open Go.ChangeShapes Go.WideShapes Go.ChangeAt Go.RowKit Go.H Go.D20
set_option maxRecDepth 100000 in
theorem walOpen_lifted (os : Os) (started : os.Started) (H : Type) (enc : TypeId × Value → H) :
    ReturnsInHanded {} Try.checked os 3 .any (Rows.walOpenSpec.pre6 enc Try.prog Try.f3 Rows.walOpenRow.domain false) (Rows.walOpenSpec.post enc Try.prog Try.f3 false true false false) := by
  refine G.lift_law (C := Try.checked) own started (by kernel_rfl) Try.func3
    (ChangeSpec.witness6 (enc := enc) (C := Try.checked) false ⟨#[], #[.slice none 0 0], []⟩ 8 (by kernel_rfl) (by kernel_rfl) (by kernel_rfl) (by kernel_rfl)) laidOut (by kernel_rfl) rfl Try.underlying4 rfl ?_
  intro W base args ds p hval0 hA0
  have hval : ∀ (j : Nat) t v, Try.f3.params[j]? = some t → args[j]? = some v → Value.okWide Try.prog W .any base t v := hval0
  have hA : DataW.TrodAll enc Try.prog W 0 (fun _ => true) true Try.f3.params.toList args.toList ds p := hA0
  rw [Try.params3] at hA hval
  clear hval0 hA0
  obtain ⟨v0, d0, rfl, rfl, h0⟩ := trodAll_one hA
  refine ⟨rfl, ?_⟩
  obtain ⟨x0, g0, q0⟩ := Go.H.Op.sl (Go.H.Op.slice (sz := 1) Try.underlying22 (by kernel_rfl) (by decide) (fun _ => rfl) (Go.H.Op.u8 Try.underlying5)) Try.underlying22 (hval 0 22 v0 rfl rfl) h0
  exact Con.law (walOpen_h) (AllI.cons (q0 (fun _ => undef)) AllI.nil)

theorem walOpen_holds : Rows.WalOpenSaid :=
  OpenClaim.holds_of_wide 3 Try.f3 rfl rfl rfl rfl rfl rfl rfl ⟨rfl, rfl, rfl, rfl, rfl⟩ rfl rfl rfl rfl rfl (by kernel_rfl) Try.func3 (by kernel_rfl)
    (of_decide_eq_true (by kernel_rfl)) (by unfold Func.isWrapper; first | (rw [if_pos (by decide +kernel)]; kernel_rfl) | (rw [if_neg (by decide +kernel)]; exact ⟨rfl, rfl⟩))
    (fun os started H enc _ => walOpen_lifted os started H enc)
#print axioms walOpen_holds

end Go.Proofs.Ytnmngpmdphkcpaa
