/-
  SessionLeads holds: for every input the law returns true and leaves its arguments as they were.
-/
import Derived.Test.YtoebjajbmkdcfaaOwn
import Derived.Test.YtoebjajbmkdcfaaHLift2
import Derived.Test.YtoebjajbmkdcfaaH10
namespace Go.Proofs.Ytoebjajbmkdcfaa
open Go.ChangeShapes Go.WideShapes Go.ChangeAt Go.RowKit Go.H Go.D51
set_option maxRecDepth 100000 in
theorem sessionLeads_lifted (os : Os) (started : os.Started) (H : Type) (enc : TypeId × Value → H) :
    ReturnsInHanded {} Try.checked os 6 .any (Rows.sessionLeadsSpec.pre6 enc Try.prog Try.f6 Rows.sessionLeadsRow.domain false) (Rows.sessionLeadsSpec.post enc Try.prog Try.f6 false true false false) := by
  refine G.lift_law (C := Try.checked) own started (by kernel_rfl) Try.func6
    (ChangeSpec.witness6 (enc := enc) (C := Try.checked) false ⟨#[], #[.agg #[.int .i64 0, .slice none 0 0], .slice none 0 0], []⟩ 8 (by kernel_rfl) (by kernel_rfl) (by kernel_rfl) (by kernel_rfl)) laidOut (by kernel_rfl) rfl Try.underlying4 rfl ?_
  intro W base args ds p hval0 hA0
  have hval : ∀ (j : Nat) t v, Try.f6.params[j]? = some t → args[j]? = some v → Value.okWide Try.prog W .any base t v := hval0
  have hA : DataW.TrodAll enc Try.prog W 0 (fun _ => true) true Try.f6.params.toList args.toList ds p := hA0
  rw [Try.params6] at hA hval
  clear hval0 hA0
  obtain ⟨v0, v1, d0, d1, p0, p1, rfl, rfl, rfl, h0, h1⟩ := trodAll_two hA
  refine ⟨rfl, ?_⟩
  obtain ⟨x0, g0, q0⟩ := Go.H.Op.agg (Go.H.Op.map (enc' := eSs) (good' := (fun _ => True)) (Go.H.Op.structN (m := 2) Try.underlying31 (by kernel_rfl) (OpFs.cons (m1 := 1) rfl (by kernel_rfl) (Go.H.Op.i64 Try.underlying3) (OpFs.last (m := 1) rfl (by kernel_rfl) (Go.H.Op.slice (sz := 2) Try.underlying22 (by kernel_rfl) (by decide) (fun _ => rfl) (Go.H.Op.map (enc' := eT) (good' := (fun _ => True)) (Go.H.Op.structN (m := 2) Try.underlying63 (by kernel_rfl) (OpFs.cons (m1 := 1) rfl (by kernel_rfl) (Go.H.Op.i64 Try.underlying3) (OpFs.last (m := 1) rfl (by kernel_rfl) (Go.H.Op.i64 Try.underlying3)))) (fun (x : Int × Int) => (⟨x.1, x.2⟩ : Hit)) (fun _ => rfl) (fun _ _ => trivial)))))) (fun (x : Int × List Hit) => (⟨x.1, x.2⟩ : Sess)) (fun _ => rfl) (fun _ _ => trivial)) Try.underlying31 (hval 0 31 v0 rfl rfl) h0
  obtain ⟨x1, g1, q1⟩ := Go.H.Op.sl (Go.H.Op.slice (sz := 2) Try.underlying48 (by kernel_rfl) (by decide) (fun _ => rfl) (Go.H.Op.map (enc' := eLd) (good' := (fun _ => True)) (Go.H.Op.structN (m := 2) Try.underlying117 (by kernel_rfl) (OpFs.cons (m1 := 1) rfl (by kernel_rfl) (Go.H.Op.i64 Try.underlying3) (OpFs.last (m := 1) rfl (by kernel_rfl) (Go.H.Op.i64 Try.underlying3)))) (fun (x : Int × Int) => (⟨x.1, x.2⟩ : Lead)) (fun _ => rfl) (fun _ _ => trivial))) Try.underlying48 (hval 1 48 v1 rfl rfl) h1
  exact Con.law (sessionLeads_h (s := x0) (l := x1)) (AllI.cons (q0 (fun _ => undef)) (AllI.cons (q1 (fun _ => undef)) AllI.nil))

theorem sessionLeads_holds : Rows.SessionLeadsSaid :=
  OpenClaim.holds_of_wide 6 Try.f6 rfl rfl rfl rfl rfl rfl rfl ⟨rfl, rfl, rfl, rfl, rfl⟩ rfl rfl rfl rfl rfl (by kernel_rfl) Try.func6 (by kernel_rfl)
    (of_decide_eq_true (by kernel_rfl)) (by unfold Func.isWrapper; first | (rw [if_pos (by decide +kernel)]; kernel_rfl) | (rw [if_neg (by decide +kernel)]; exact ⟨rfl, rfl⟩))
    (fun os started H enc _ => sessionLeads_lifted os started H enc)
#print axioms sessionLeads_holds

end Go.Proofs.Ytoebjajbmkdcfaa
