/-
  The walks.
-/
import Derived.Test.YtebinfembfoklaaW3
import Derived.Test.YtebinfembfoklaaN02
namespace Go.Proofs.Ytebinfembfoklaa
open Go Go.RowKit Go.G Go.D02

theorem callOk25 : callOk Try.prog 25 = true := by kernel_rfl

/-- bookplate/bookplatelaw02.awake. -/
theorem awake_spec  (w : World) :
    CallsTo Try.prog 10 [] w (fun v w1 => v = .bool true ∧ Ext w w1) := by
  have hE := Ext.rfl' w
  obtain ⟨i5, hi5, hz5, hs5, hb5⟩ := inf5
  refine enter (n := 11) (l := []) Try.func10 rfl rfl rfl ?_
  refine W.seq ?_
  refine W.region ?_
  refine WL.det (fun _ _ => R.assign rfl) rfl ?_
  refine WL.nil ?_
  refine E.to ?_
  refine W.seq ?_
  refine W.region ?_
  refine WL.call rfl rfl ⟨rfl, rfl⟩ callOk11 rfl rfl (of_spec (l1 := []) _ (Sl.nil _ _ 0 0)) ?_
  rintro v1 w1 ⟨rfl, ew1⟩
  replace hE := Ext.tr hE ew1
  have hsew1 := ew1.size
  refine WL.call rfl rfl ⟨rfl, rfl⟩ callOk25 rfl rfl (print_spec _ _) ?_
  rintro v2 w2 ⟨rfl, ew2⟩
  replace hE := Ext.tr hE ew2
  have hsew2 := ew2.size
  refine WL.det (fun _ _ => R.streq rfl rfl) rfl ?_
  refine WL.det (fun _ _ => R.move rfl) rfl ?_
  refine WL.group 5 (g := 4) (j := 3) (want := true) rfl rfl rfl rfl (fun hg1 => ?_) (fun hg1 => ?_)
  · skip
    first | have hg1p := gA1 hg1 | have hg1p := gA2 hg1 | have hg1p := hg1
    refine WL.mkg (M.buildSlice (E := encU8) (ys := [49, 50, 51, 52, 53, 54, 55, 56, 57]) rfl rfl Try.underlying22 hi5 hz5 hs5 (by rfl) rfl (by decide) (by intro v hv; simp at hv; rcases hv with rfl | rfl | rfl | rfl | rfl | rfl | rfl | rfl | rfl <;> rfl) (by rfl)) rfl rfl rfl rfl (gd_of hg1) ?_
    rintro _ w3 ⟨g5, rfl, hg5, hzg5, ew3, hf5⟩
    replace hE := Ext.tr hE ew3
    have hsew3 := ew3.size
    replace hf5 := Own.mono hf5 (b := w.heap.size) (by omega)
    refine WL.mkg (M.b2b rfl hf5 Try.underlying22 Try.underlying5) rfl rfl rfl rfl (gd_of hg1) ?_
    rintro _ w4 ⟨rfl, hgw4, hzw4, hf6⟩
    replace hE := Ext.grown hE hgw4 (by rintro k ⟨⟩; omega)
    refine WL.callg rfl rfl ⟨rfl, rfl⟩ callOk11 rfl rfl rfl rfl (gd_of hg1) (of_spec (l1 := [49, 50, 51, 52, 53, 54, 55, 56, 57]) _ hf6) ?_
    rintro v7 w5 ⟨rfl, ew5⟩
    replace hE := Ext.tr hE ew5
    replace hf6 := hf6.ext ew5
    have hsew5 := ew5.size
    refine WL.callg rfl rfl ⟨rfl, rfl⟩ callOk25 rfl rfl rfl rfl (gd_of hg1) (print_spec _ _) ?_
    rintro v8 w6 ⟨rfl, ew6⟩
    replace hE := Ext.tr hE ew6
    replace hf6 := hf6.ext ew6
    have hsew6 := ew6.size
    refine WL.detg (fun _ _ => R.streq rfl rfl) rfl rfl rfl (gd_of hg1) ?_
    refine WL.det (fun _ _ => R.pick_t rfl hg1 rfl) rfl ?_
    refine WL.det (fun _ _ => R.assign rfl) rfl ?_
    refine WL.nil ?_
    refine E.to ?_
    refine W.ret ?_
    refine E.fin1 (.inl rfl) rfl rfl ?_
    exact ⟨_, rfl, congrArg Value.bool (decide_eq_true (by rw [bytes_toList, awake2]; exact (bytes_toList _).symm)), hE⟩
  · skip
    exact absurd (decide_eq_true (by rw [bytes_toList, awake1]; exact (bytes_toList _).symm)) hg1

end Go.Proofs.Ytebinfembfoklaa
