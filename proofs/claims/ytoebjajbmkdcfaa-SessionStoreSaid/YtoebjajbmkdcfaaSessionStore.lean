/-
  SessionStore holds: for every input the law returns true and leaves its arguments as they were.
-/
import Derived.Test.YtoebjajbmkdcfaaOwn
import Derived.Test.YtoebjajbmkdcfaaHLift2
import Derived.Test.YtoebjajbmkdcfaaH9
namespace Go.Proofs.Ytoebjajbmkdcfaa
open Go.ChangeShapes Go.WideShapes Go.ChangeAt Go.RowKit Go.H Go.D51
set_option maxRecDepth 100000 in
theorem sessionStore_lifted (os : Os) (started : os.Started) (H : Type) (enc : TypeId × Value → H) :
    ReturnsInHanded {} Try.checked os 7 .any (Rows.sessionStoreSpec.pre6 enc Try.prog Try.f7 Rows.sessionStoreRow.domain false) (Rows.sessionStoreSpec.post enc Try.prog Try.f7 false true false false) := by
  refine G.lift_law (C := Try.checked) own started (by kernel_rfl) Try.func7
    (ChangeSpec.witness6 (enc := enc) (C := Try.checked) false ⟨#[], #[.slice none 0 0], []⟩ 8 (by kernel_rfl) (by kernel_rfl) (by kernel_rfl) (by kernel_rfl)) laidOut (by kernel_rfl) rfl Try.underlying4 rfl ?_
  intro W base args ds p hval0 hA0
  have hval : ∀ (j : Nat) t v, Try.f7.params[j]? = some t → args[j]? = some v → Value.okWide Try.prog W .any base t v := hval0
  have hA : DataW.TrodAll enc Try.prog W 0 (fun _ => true) true Try.f7.params.toList args.toList ds p := hA0
  rw [Try.params7] at hA hval
  clear hval0 hA0
  obtain ⟨v0, d0, rfl, rfl, h0⟩ := trodAll_one hA
  refine ⟨rfl, ?_⟩
  obtain ⟨x0, g0, q0⟩ := Go.H.Op.sl (Go.H.Op.slice (sz := 6) Try.underlying69 (by kernel_rfl) (by decide) (fun _ => rfl) (Go.H.Op.map (enc' := eOp) (good' := (fun _ => True)) (Go.H.Op.structN (m := 6) Try.underlying82 (by kernel_rfl) (OpFs.cons (m1 := 1) rfl (by kernel_rfl) (Go.H.Op.i64 Try.underlying3) (OpFs.cons (m1 := 1) rfl (by kernel_rfl) (Go.H.Op.i64 Try.underlying3) (OpFs.cons (m1 := 1) rfl (by kernel_rfl) (Go.H.Op.i64 Try.underlying3) (OpFs.cons (m1 := 1) rfl (by kernel_rfl) (Go.H.Op.i64 Try.underlying3) (OpFs.last (m := 2) rfl (by kernel_rfl) (Go.H.Op.map (enc' := eSs) (good' := (fun _ => True)) (Go.H.Op.structN (m := 2) Try.underlying31 (by kernel_rfl) (OpFs.cons (m1 := 1) rfl (by kernel_rfl) (Go.H.Op.i64 Try.underlying3) (OpFs.last (m := 1) rfl (by kernel_rfl) (Go.H.Op.slice (sz := 2) Try.underlying22 (by kernel_rfl) (by decide) (fun _ => rfl) (Go.H.Op.map (enc' := eT) (good' := (fun _ => True)) (Go.H.Op.structN (m := 2) Try.underlying63 (by kernel_rfl) (OpFs.cons (m1 := 1) rfl (by kernel_rfl) (Go.H.Op.i64 Try.underlying3) (OpFs.last (m := 1) rfl (by kernel_rfl) (Go.H.Op.i64 Try.underlying3)))) (fun (x : Int × Int) => (⟨x.1, x.2⟩ : Hit)) (fun _ => rfl) (fun _ _ => trivial)))))) (fun (x : Int × List Hit) => (⟨x.1, x.2⟩ : Sess)) (fun _ => rfl) (fun _ _ => trivial)))))))) (fun (x : Int × Int × Int × Int × Sess) => (⟨x.1, x.2.1, x.2.2.1, x.2.2.2.1, x.2.2.2.2⟩ : Opr)) (fun _ => rfl) (fun _ _ => trivial))) Try.underlying69 (hval 0 69 v0 rfl rfl) h0
  exact Con.law (sessionStore_h (l := x0)) (AllI.cons (q0 (fun _ => undef)) AllI.nil)

theorem sessionStore_holds : Rows.SessionStoreSaid :=
  OpenClaim.holds_of_wide 7 Try.f7 rfl rfl rfl rfl rfl rfl rfl ⟨rfl, rfl, rfl, rfl, rfl⟩ rfl rfl rfl rfl rfl (by kernel_rfl) Try.func7 (by kernel_rfl)
    (of_decide_eq_true (by kernel_rfl)) (by unfold Func.isWrapper; first | (rw [if_pos (by decide +kernel)]; kernel_rfl) | (rw [if_neg (by decide +kernel)]; exact ⟨rfl, rfl⟩))
    (fun os started H enc _ => sessionStore_lifted os started H enc)
#print axioms sessionStore_holds

end Go.Proofs.Ytoebjajbmkdcfaa
