/-
  WalCrash holds: for every input the law returns true and leaves its arguments as they were.
-/
import Derived.Test.YtnmngpmdphkcpaaOwn
import Derived.Test.YtnmngpmdphkcpaaHLift
import Derived.Test.YtnmngpmdphkcpaaH5
namespace Go.Proofs.Ytnmngpmdphkcpaa
open Go.ChangeShapes Go.WideShapes Go.ChangeAt Go.RowKit Go.H Go.D20
set_option maxRecDepth 100000 in
theorem walCrash_lifted (os : Os) (started : os.Started) (H : Type) (enc : TypeId × Value → H) :
    ReturnsInHanded {} Try.checked os 4 .any (Rows.walCrashSpec.pre6 enc Try.prog Try.f4 Rows.walCrashRow.domain false) (Rows.walCrashSpec.post enc Try.prog Try.f4 false true false false) := by
  refine G.lift_law (C := Try.checked) own started (by kernel_rfl) Try.func4
    (ChangeSpec.witness6 (enc := enc) (C := Try.checked) false ⟨#[], #[.agg #[.slice none 0 0, .int .i64 0], .int .i64 0], []⟩ 8 (by kernel_rfl) (by kernel_rfl) (by kernel_rfl) (by kernel_rfl)) laidOut (by kernel_rfl) rfl Try.underlying4 rfl ?_
  intro W base args ds p hval0 hA0
  have hval : ∀ (j : Nat) t v, Try.f4.params[j]? = some t → args[j]? = some v → Value.okWide Try.prog W .any base t v := hval0
  have hA : DataW.TrodAll enc Try.prog W 0 (fun _ => true) true Try.f4.params.toList args.toList ds p := hA0
  rw [Try.params4] at hA hval
  clear hval0 hA0
  obtain ⟨v0, v1, d0, d1, p0, p1, rfl, rfl, rfl, h0, h1⟩ := trodAll_two hA
  refine ⟨rfl, ?_⟩
  obtain ⟨x0, g0, q0⟩ := Go.H.Op.agg (Go.H.Op.struct2 Try.underlying29 (by kernel_rfl) (by kernel_rfl) (by kernel_rfl) (Go.H.Op.slice (sz := 1) Try.underlying22 (by kernel_rfl) (by decide) (fun _ => rfl) (Go.H.Op.u8 Try.underlying5)) (Go.H.Op.i64 Try.underlying3)) Try.underlying29 (hval 0 29 v0 rfl rfl) h0
  obtain ⟨x1, rfl, rfl, rfl, w1⟩ := open_int Try.underlying3 (hval 1 3 v1 rfl rfl) h1
  have g1 := G.in_i64 w1
  exact Con.law (walCrash_h x0.2 x1 g0.2 g1) (AllI.cons (q0 (fun _ => undef)) (AllI.cons (RepI.u (.sc _)) AllI.nil))

theorem walCrash_holds : Rows.WalCrashSaid :=
  OpenClaim.holds_of_wide 4 Try.f4 rfl rfl rfl rfl rfl rfl rfl ⟨rfl, rfl, rfl, rfl, rfl⟩ rfl rfl rfl rfl rfl (by kernel_rfl) Try.func4 (by kernel_rfl)
    (of_decide_eq_true (by kernel_rfl)) (by unfold Func.isWrapper; first | (rw [if_pos (by decide +kernel)]; kernel_rfl) | (rw [if_neg (by decide +kernel)]; exact ⟨rfl, rfl⟩))
    (fun os started H enc _ => walCrash_lifted os started H enc)
#print axioms walCrash_holds

end Go.Proofs.Ytnmngpmdphkcpaa
