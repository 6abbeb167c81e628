/-
  SessionValid holds: for every input the law returns true and leaves its arguments as they were.
-/
import Derived.Test.YtoebjajbmkdcfaaOwn
import Derived.Test.YtoebjajbmkdcfaaHLift2
import Derived.Test.YtoebjajbmkdcfaaHArr
import Derived.Test.YtoebjajbmkdcfaaH8
namespace Go.Proofs.Ytoebjajbmkdcfaa
open Go.ChangeShapes Go.WideShapes Go.ChangeAt Go.RowKit Go.H Go.D51
set_option maxRecDepth 100000 in
theorem sessionValid_lifted (os : Os) (started : os.Started) (H : Type) (enc : TypeId × Value → H) :
    ReturnsInHanded {} Try.checked os 8 .any (Rows.sessionValidSpec.pre6 enc Try.prog Try.f8 Rows.sessionValidRow.domain false) (Rows.sessionValidSpec.post enc Try.prog Try.f8 false true false false) := by
  refine G.lift_law (C := Try.checked) own started (by kernel_rfl) Try.func8
    (ChangeSpec.witness6 (enc := enc) (C := Try.checked) false ⟨#[], #[.agg #[.int .i64 0, .int .i64 0, .slice none 0 0], .agg #[.int .i64 0, .slice none 0 0], .agg #[.int .i64 0, .int .i64 0, .int .i64 0]], []⟩ 8 (by kernel_rfl) (by kernel_rfl) (by kernel_rfl) (by kernel_rfl)) laidOut (by kernel_rfl) rfl Try.underlying4 rfl ?_
  intro W base args ds p hval0 hA0
  have hval : ∀ (j : Nat) t v, Try.f8.params[j]? = some t → args[j]? = some v → Value.okWide Try.prog W .any base t v := hval0
  have hA : DataW.TrodAll enc Try.prog W 0 (fun _ => true) true Try.f8.params.toList args.toList ds p := hA0
  rw [Try.params8] at hA hval
  clear hval0 hA0
  obtain ⟨v0, v1, v2, d0, d1, d2, p0, p1, p2, rfl, rfl, rfl, h0, h1, h2⟩ := trodAll_three hA
  refine ⟨rfl, ?_⟩
  obtain ⟨x0, g0, q0⟩ := Go.H.Op.agg (Go.H.Op.map (enc' := (fun (s : Store) => [uI s.next, uI s.time, .sl 4 (s.opn.map eO)])) (good' := (fun _ => True)) (Go.H.Op.structN (m := 3) Try.underlying77 (by kernel_rfl) (OpFs.cons (m1 := 1) rfl (by kernel_rfl) (Go.H.Op.i64 Try.underlying3) (OpFs.cons (m1 := 1) rfl (by kernel_rfl) (Go.H.Op.i64 Try.underlying3) (OpFs.last (m := 1) rfl (by kernel_rfl) (Go.H.Op.slice (sz := 4) Try.underlying75 (by kernel_rfl) (by decide) (fun _ => rfl) (Go.H.Op.map (enc' := eO) (good' := (fun _ => True)) (Go.H.Op.structN (m := 4) Try.underlying92 (by kernel_rfl) (OpFs.cons (m1 := 1) rfl (by kernel_rfl) (Go.H.Op.i64 Try.underlying3) (OpFs.cons (m1 := 1) rfl (by kernel_rfl) (Go.H.Op.i64 Try.underlying3) (OpFs.last (m := 2) rfl (by kernel_rfl) (Go.H.Op.map (enc' := eSs) (good' := (fun _ => True)) (Go.H.Op.structN (m := 2) Try.underlying31 (by kernel_rfl) (OpFs.cons (m1 := 1) rfl (by kernel_rfl) (Go.H.Op.i64 Try.underlying3) (OpFs.last (m := 1) rfl (by kernel_rfl) (Go.H.Op.slice (sz := 2) Try.underlying22 (by kernel_rfl) (by decide) (fun _ => rfl) (Go.H.Op.map (enc' := eT) (good' := (fun _ => True)) (Go.H.Op.structN (m := 2) Try.underlying63 (by kernel_rfl) (OpFs.cons (m1 := 1) rfl (by kernel_rfl) (Go.H.Op.i64 Try.underlying3) (OpFs.last (m := 1) rfl (by kernel_rfl) (Go.H.Op.i64 Try.underlying3)))) (fun (x : Int × Int) => (⟨x.1, x.2⟩ : Hit)) (fun _ => rfl) (fun _ _ => trivial)))))) (fun (x : Int × List Hit) => (⟨x.1, x.2⟩ : Sess)) (fun _ => rfl) (fun _ _ => trivial)))))) (fun (x : Int × Int × Sess) => (⟨x.1, x.2.1, x.2.2⟩ : Opn)) (fun _ => rfl) (fun _ _ => trivial))))))) (fun (x : Int × Int × List Opn) => (⟨x.1, x.2.1, x.2.2⟩ : Store)) (fun _ => rfl) (fun _ _ => trivial)) Try.underlying77 (hval 0 77 v0 rfl rfl) h0
  obtain ⟨x1, g1, q1⟩ := Go.H.Op.agg (Go.H.Op.map (enc' := eSs) (good' := (fun _ => True)) (Go.H.Op.structN (m := 2) Try.underlying31 (by kernel_rfl) (OpFs.cons (m1 := 1) rfl (by kernel_rfl) (Go.H.Op.i64 Try.underlying3) (OpFs.last (m := 1) rfl (by kernel_rfl) (Go.H.Op.slice (sz := 2) Try.underlying22 (by kernel_rfl) (by decide) (fun _ => rfl) (Go.H.Op.map (enc' := eT) (good' := (fun _ => True)) (Go.H.Op.structN (m := 2) Try.underlying63 (by kernel_rfl) (OpFs.cons (m1 := 1) rfl (by kernel_rfl) (Go.H.Op.i64 Try.underlying3) (OpFs.last (m := 1) rfl (by kernel_rfl) (Go.H.Op.i64 Try.underlying3)))) (fun (x : Int × Int) => (⟨x.1, x.2⟩ : Hit)) (fun _ => rfl) (fun _ _ => trivial)))))) (fun (x : Int × List Hit) => (⟨x.1, x.2⟩ : Sess)) (fun _ => rfl) (fun _ _ => trivial)) Try.underlying31 (hval 1 31 v1 rfl rfl) h1
  obtain ⟨x2, g2, q2⟩ := Go.H.Op.aggA (Go.H.Op.arrN (m := 1) (mm := 3) Try.underlying90 (by kernel_rfl) (by kernel_rfl) (OpFs.cons (m1 := 1) rfl (by kernel_rfl) (Go.H.Op.i64 Try.underlying3) (OpFs.cons (m1 := 1) rfl (by kernel_rfl) (Go.H.Op.i64 Try.underlying3) (OpFs.last (m := 1) rfl (by kernel_rfl) (Go.H.Op.i64 Try.underlying3))))) Try.underlying90 (hval 2 90 v2 rfl rfl) h2
  exact Con.law (sessionValid_h (st := x0) (s := x1) (a := x2.1) (b := x2.2.1) (c := x2.2.2)) (AllI.cons (q0 (fun _ => undef)) (AllI.cons (q1 (fun _ => undef)) (AllI.cons (q2 (fun _ => undef)) AllI.nil)))

theorem sessionValid_holds : Rows.SessionValidSaid :=
  OpenClaim.holds_of_wide 8 Try.f8 rfl rfl rfl rfl rfl rfl rfl ⟨rfl, rfl, rfl, rfl, rfl⟩ rfl rfl rfl rfl rfl (by kernel_rfl) Try.func8 (by kernel_rfl)
    (of_decide_eq_true (by kernel_rfl)) (by unfold Func.isWrapper; first | (rw [if_pos (by decide +kernel)]; kernel_rfl) | (rw [if_neg (by decide +kernel)]; exact ⟨rfl, rfl⟩))
    (fun os started H enc _ => sessionValid_lifted os started H enc)
#print axioms sessionValid_holds

end Go.Proofs.Ytoebjajbmkdcfaa
