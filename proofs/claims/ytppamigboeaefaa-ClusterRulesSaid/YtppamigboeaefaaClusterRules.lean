/-
  ClusterRules holds: for every input the law returns true and leaves its arguments ivs they were.
-/
import Derived.Test.YtppamigboeaefaaClusterRulesP12
namespace Go.Proofs.Ytppamigboeaefaa
open Go.ChangeShapes Go.WideShapes Go.ChangeAt Go.RowKit Go.H Go.D33
set_option maxRecDepth 100000 in
theorem clusterRules_lifted (os : Os) (started : os.Started) (H : Type) (enc : TypeId × Value → H) :
    ReturnsInHanded {} Try.checked os 4 .any (Rows.clusterRulesSpec.pre6 enc Try.prog Try.f4 Rows.clusterRulesRow.domain false) (Rows.clusterRulesSpec.post enc Try.prog Try.f4 false true false false) := by
  refine G.lift_law (C := Try.checked) own started (by kernel_rfl) Try.func4
    (ChangeSpec.witness6 (enc := enc) (C := Try.checked) false ⟨#[], #[.agg #[.int .i64 0, .slice none 0 0, .slice none 0 0], .int .u8 0], []⟩ 8 (by kernel_rfl) (by kernel_rfl) (by kernel_rfl) (by kernel_rfl)) laidOut (by kernel_rfl) rfl Try.underlying4 rfl ?_
  intro W base args ds p hval0 hA0
  have hval : ∀ (j : Nat) t v, Try.f4.params[j]? = some t → args[j]? = some v → Value.okWide Try.prog W .any base t v := hval0
  have hA : DataW.TrodAll enc Try.prog W 0 (fun _ => true) true Try.f4.params.toList args.toList ds p := hA0
  rw [Try.params4] at hA hval
  clear hval0 hA0
  obtain ⟨v0, v1, d0, d1, p0, p1, rfl, rfl, rfl, h0, h1⟩ := trodAll_two hA
  refine ⟨rfl, ?_⟩
  obtain ⟨x0, g0, q0⟩ := Go.H.Op.agg (Go.H.Op.structN (m := 3) Try.underlying25 (by kernel_rfl) (OpFs.cons (m1 := 1) rfl (by kernel_rfl) (Go.H.Op.i64 Try.underlying3) (OpFs.cons (m1 := 1) rfl (by kernel_rfl) (Go.H.Op.slice (sz := 3) Try.underlying22 (by kernel_rfl) (by decide) (fun _ => rfl) (Go.H.Op.map (enc' := ePr) (good' := (fun _ => True)) (Go.H.Op.structN (m := 3) Try.underlying35 (by kernel_rfl) (OpFs.cons (m1 := 1) rfl (by kernel_rfl) (Go.H.Op.i64 Try.underlying3) (OpFs.cons (m1 := 1) rfl (by kernel_rfl) (Go.H.Op.i64 Try.underlying3) (OpFs.last (m := 1) rfl (by kernel_rfl) (Go.H.Op.i64 Try.underlying3))))) (fun (x : Int × Int × Int) => (⟨x.1, x.2.1, x.2.2⟩ : Pr)) (fun _ => rfl) (fun _ _ => trivial))) (OpFs.last (m := 1) rfl (by kernel_rfl) (Go.H.Op.slice (sz := 3) Try.underlying23 (by kernel_rfl) (by decide) (fun _ => rfl) (Go.H.Op.map (enc' := eRu) (good' := (fun _ => True)) (Go.H.Op.structN (m := 3) Try.underlying38 (by kernel_rfl) (OpFs.cons (m1 := 1) rfl (by kernel_rfl) (Go.H.Op.i64 Try.underlying3) (OpFs.cons (m1 := 1) rfl (by kernel_rfl) (Go.H.Op.i64 Try.underlying3) (OpFs.last (m := 1) rfl (by kernel_rfl) (Go.H.Op.i64 Try.underlying3))))) (fun (x : Int × Int × Int) => (⟨x.1, x.2.1, x.2.2⟩ : Ru)) (fun _ => rfl) (fun _ _ => trivial))))))) Try.underlying25 (hval 0 25 v0 rfl rfl) h0
  obtain ⟨x1, rfl, rfl, rfl, w1⟩ := open_int Try.underlying5 (hval 1 5 v1 rfl rfl) h1
  have g1 := G.in_u8 w1
  exact Con.law (clusterRules_h (N := x0.1) (ps := x0.2.1) (rs := x0.2.2) (t := x1) (by omega)) (AllI.cons (q0 (fun _ => undef)) (AllI.cons (RepI.u (.sc _)) AllI.nil))

theorem clusterRules_holds : Rows.ClusterRulesSaid :=
  OpenClaim.holds_of_wide 4 Try.f4 rfl rfl rfl rfl rfl rfl rfl ⟨rfl, rfl, rfl, rfl, rfl⟩ rfl rfl rfl rfl rfl (by kernel_rfl) Try.func4 (by kernel_rfl)
    (of_decide_eq_true (by kernel_rfl)) (by unfold Func.isWrapper; first | (rw [if_pos (by decide +kernel)]; kernel_rfl) | (rw [if_neg (by decide +kernel)]; exact ⟨rfl, rfl⟩))
    (fun os started H enc _ => clusterRules_lifted os started H enc)
#print axioms clusterRules_holds

end Go.Proofs.Ytppamigboeaefaa
