/-
  The walks.
-/
import Derived.Test.YtebinfembfoklaaW4
namespace Go.Proofs.Ytebinfembfoklaa
open Go Go.RowKit Go.G Go.D02

theorem callOk10 : callOk Try.prog 10 = true := by kernel_rfl
theorem callOk15 : callOk Try.prog 15 = true := by kernel_rfl
theorem callOk16 : callOk Try.prog 16 = true := by kernel_rfl
theorem callOk18 : callOk Try.prog 18 = true := by kernel_rfl
theorem callOk20 : callOk Try.prog 20 = true := by kernel_rfl
theorem callOk21 : callOk Try.prog 21 = true := by kernel_rfl

/-- bookplate/bookplatelaw02.DigestOf. -/
theorem digestOf_spec {v1 : Value} {l1 : List UInt8} (h : Int) (hr : R32 h) (w : World) {lo_h1 hi_h1 : Nat} (h1 : Sl encU8 w lo_h1 hi_h1 v1 l1) :
    CallsTo Try.prog 4 [v1, .int .u32 h] w (fun v w1 => v = .bool true ∧ Ext w w1) := by
  have hE := Ext.rfl' w
  replace h1 := h1.clip0
  have hl_h1 := h1.len_le
  refine enter (n := 31) (l := [v1, .int .u32 h]) Try.func4 rfl rfl rfl ?_
  refine W.seq ?_
  refine W.region ?_
  refine WL.det (fun _ _ => R.assign rfl) rfl ?_
  refine WL.nil ?_
  refine E.to ?_
  refine W.seq ?_
  refine W.seq ?_
  refine W.region ?_
  refine WL.call rfl rfl ⟨rfl, rfl⟩ callOk10 rfl rfl (awake_spec _) ?_
  rintro v5 w1 ⟨rfl, ew1⟩
  replace h1 := h1.ext ew1
  replace hE := Ext.tr hE ew1
  have hsew1 := ew1.size
  refine WL.det (fun _ _ => R.not rfl) rfl ?_
  refine WL.nil ?_
  refine E.to ?_
  refine W.cond_f rfl ?_
  refine W.skip ?_
  refine E.to ?_
  refine W.seq ?_
  refine W.seq ?_
  refine W.region ?_
  refine WL.det (fun _ _ => R.move rfl) rfl ?_
  refine WL.det (fun _ e => R.len_sl rfl (h1.ext e) Try.underlying22) rfl ?_
  refine WL.det (fun _ _ => R.gtr rfl rfl) rfl ?_
  refine WL.nil ?_
  refine E.to ?_
  first | refine W.cond_d rfl (fun hc1 => ?_) (fun hc1 => ?_) | refine W.cond_nd rfl (fun hc1 => ?_) (fun hc1 => ?_) | refine W.cond rfl (fun hc1 => ?_) (fun hc1 => ?_)
  · skip
    refine W.seq ?_
    refine W.region ?_
    refine WL.det (fun _ _ => R.assign rfl) rfl ?_
    refine WL.nil ?_
    refine E.to ?_
    refine W.ret ?_
    refine E.thr ?_
    refine E.fin1 (.inl rfl) rfl rfl ?_
    exact ⟨_, rfl, rfl, hE⟩
  · skip
    refine W.skip ?_
    refine E.to ?_
    refine W.seq ?_
    refine W.region ?_
    refine WL.det (fun _ _ => R.move rfl) rfl ?_
    refine WL.call rfl rfl ⟨rfl, rfl⟩ callOk11 rfl rfl (of_spec _ h1) ?_
    rintro v11 w2 ⟨rfl, ew2⟩
    replace h1 := h1.ext ew2
    replace hE := Ext.tr hE ew2
    have hsew2 := ew2.size
    refine WL.det (fun _ _ => R.move rfl) rfl ?_
    refine WL.call rfl rfl ⟨rfl, rfl⟩ callOk12 rfl rfl (refof_spec _ h1) ?_
    rintro v13 w3 ⟨rfl, ew3⟩
    replace h1 := h1.ext ew3
    replace hE := Ext.tr hE ew3
    have hsew3 := ew3.size
    refine WL.det (fun _ _ => R.eql rfl rfl) rfl ?_
    refine WL.det (fun _ _ => R.move rfl) rfl ?_
    refine WL.group 7 (g := 15) (j := 5) (want := true) rfl rfl rfl rfl (fun hg2 => ?_) (fun hg2 => ?_)
    · skip
      first | have hg2p := gA1 hg2 | have hg2p := gA2 hg2 | have hg2p := hg2
      refine WL.detg (fun _ _ => R.move rfl) rfl rfl rfl (gd_of hg2) ?_
      refine WL.detg (fun _ _ => R.move rfl) rfl rfl rfl (gd_of hg2) ?_
      refine WL.callg rfl rfl ⟨rfl, rfl⟩ callOk13 rfl rfl rfl rfl (gd_of hg2) (more_spec _ _ h1) ?_
      rintro v18 w4 ⟨rfl, ew4⟩
      replace h1 := h1.ext ew4
      replace hE := Ext.tr hE ew4
      have hsew4 := ew4.size
      refine WL.detg (fun _ _ => R.move rfl) rfl rfl rfl (gd_of hg2) ?_
      refine WL.detg (fun _ _ => R.move rfl) rfl rfl rfl (gd_of hg2) ?_
      refine WL.callg rfl rfl ⟨rfl, rfl⟩ callOk14 rfl rfl rfl rfl (gd_of hg2) (refmore_spec _ _ h1) ?_
      rintro v21 w5 ⟨rfl, ew5⟩
      replace h1 := h1.ext ew5
      replace hE := Ext.tr hE ew5
      have hsew5 := ew5.size
      refine WL.detg (fun _ _ => R.eql rfl rfl) rfl rfl rfl (gd_of hg2) ?_
      refine WL.det (fun _ _ => R.pick_t rfl hg2 rfl) rfl ?_
      refine WL.det (fun _ _ => R.move rfl) rfl ?_
      refine WL.group 5 (g := 24) (j := 14) (want := true) rfl rfl rfl rfl (fun hg3 => ?_) (fun hg3 => ?_)
      · skip
        first | have hg3p := gA1 hg3 | have hg3p := gA2 hg3 | have hg3p := hg3
        refine WL.detg (fun _ _ => R.move rfl) rfl rfl rfl (gd_of hg3) ?_
        refine WL.callg rfl rfl ⟨rfl, rfl⟩ callOk16 rfl rfl rfl rfl (gd_of hg3) (seal_spec (by omega) _ h1) ?_
        rintro v26 w6 ⟨hf26, ew6⟩
        replace h1 := h1.ext ew6
        replace hE := Ext.tr hE ew6
        have hsew6 := ew6.size
        replace hf26 := Own.mono hf26 (b := w.heap.size) (by omega)
        refine WL.detg (fun _ _ => R.move rfl) rfl rfl rfl (gd_of hg3) ?_
        refine WL.callg rfl rfl ⟨rfl, rfl⟩ callOk17 rfl rfl rfl rfl (gd_of hg3) (refseal_spec (by omega) _ h1) ?_
        rintro v28 w7 ⟨hf28, ew7⟩
        replace h1 := h1.ext ew7
        replace hE := Ext.tr hE ew7
        replace hf26 := hf26.ext ew7
        have hsew7 := ew7.size
        replace hf28 := Own.mono hf28 (b := w.heap.size) (by omega)
        refine WL.callg rfl rfl ⟨rfl, rfl⟩ callOk15 rfl rfl rfl rfl (gd_of hg3) (same_spec _ hf26.sl hf28.sl) ?_
        rintro v29 w8 ⟨rfl, ew8⟩
        replace h1 := h1.ext ew8
        replace hE := Ext.tr hE ew8
        replace hf26 := hf26.ext ew8
        replace hf28 := hf28.ext ew8
        have hsew8 := ew8.size
        refine WL.det (fun _ _ => R.pick_t rfl hg3 rfl) rfl ?_
        refine WL.det (fun _ _ => R.assign rfl) rfl ?_
        refine WL.nil ?_
        refine E.to ?_
        refine W.ret ?_
        refine E.fin1 (.inl rfl) rfl rfl ?_
        exact ⟨_, rfl, congrArg Value.bool (decide_eq_true (by rw [of_eq])), hE⟩
      · skip
        exact absurd (decide_eq_true (more_eq hr _)) hg3
    · skip
      exact absurd (decide_eq_true (of_eq _)) hg2

/-- bookplate/bookplatelaw02.DigestJoin. -/
theorem digestJoin_spec (x y n : Int) (hx : R32 x) (hy : R32 y) (hn : n ≤ 9223372036854775807) (w : World) :
    CallsTo Try.prog 6 [.int .u32 x, .int .u32 y, .int .i64 n] w (fun v w1 => v = .bool true ∧ Ext w w1) := by
  have hE := Ext.rfl' w
  refine enter (n := 22) (l := [.int .u32 x, .int .u32 y, .int .i64 n]) Try.func6 rfl rfl rfl ?_
  refine W.seq ?_
  refine W.region ?_
  refine WL.det (fun _ _ => R.assign rfl) rfl ?_
  refine WL.nil ?_
  refine E.to ?_
  refine W.seq ?_
  refine W.seq ?_
  refine W.region ?_
  refine WL.call rfl rfl ⟨rfl, rfl⟩ callOk10 rfl rfl (awake_spec _) ?_
  rintro v7 w1 ⟨rfl, ew1⟩
  replace hE := Ext.tr hE ew1
  have hsew1 := ew1.size
  refine WL.det (fun _ _ => R.not rfl) rfl ?_
  refine WL.nil ?_
  refine E.to ?_
  refine W.cond_f rfl ?_
  refine W.skip ?_
  refine E.to ?_
  refine W.seq ?_
  refine W.region ?_
  refine WL.det (fun _ _ => R.move rfl) rfl ?_
  refine WL.det (fun _ _ => R.gtr rfl rfl) rfl ?_
  refine WL.det (fun _ _ => R.move rfl) rfl ?_
  refine WL.group 9 (g := 11) (j := 2) (want := false) rfl rfl rfl rfl (fun hg1 => ?_) (fun hg1 => ?_)
  · skip
    first | have hg1p := gA3 hg1 | have hg1p := gA4 hg1 | have hg1p := hg1
    refine WL.detg (fun _ _ => R.move rfl) rfl rfl rfl (gd_of hg1) ?_
    refine WL.detg (fun _ _ => R.move rfl) rfl rfl rfl (gd_of hg1) ?_
    refine WL.detg (fun _ _ => R.move rfl) rfl rfl rfl (gd_of hg1) ?_
    refine WL.callg rfl rfl ⟨rfl, rfl⟩ callOk20 rfl rfl rfl rfl (gd_of hg1) (join_spec _ _ _ hx (by omega) _) ?_
    rintro v15 w2 ⟨rfl, ew2⟩
    replace hE := Ext.tr hE ew2
    have hsew2 := ew2.size
    refine WL.detg (fun _ _ => R.move rfl) rfl rfl rfl (gd_of hg1) ?_
    refine WL.detg (fun _ _ => R.move rfl) rfl rfl rfl (gd_of hg1) ?_
    refine WL.detg (fun _ _ => R.move rfl) rfl rfl rfl (gd_of hg1) ?_
    refine WL.callg rfl rfl ⟨rfl, rfl⟩ callOk21 rfl rfl rfl rfl (gd_of hg1) (refjoin_spec _ _ _ hx (by omega) _) ?_
    rintro v19 w3 ⟨rfl, ew3⟩
    replace hE := Ext.tr hE ew3
    have hsew3 := ew3.size
    refine WL.detg (fun _ _ => R.eql rfl rfl) rfl rfl rfl (gd_of hg1) ?_
    refine WL.det (fun _ _ => R.pick_f rfl hg1 rfl) rfl ?_
    refine WL.det (fun _ _ => R.assign rfl) rfl ?_
    refine WL.nil ?_
    refine E.to ?_
    refine W.ret ?_
    refine E.fin1 (.inl rfl) rfl rfl ?_
    first | exact ⟨_, rfl, rfl, hE⟩ | exact ⟨_, rfl, congrArg Value.bool (decide_eq_true (join_eq hx hy n hn)), hE⟩
  · skip
    first | have hg1p := gA7 hg1 | have hg1p := gA8 hg1 | have hg1p := hg1
    refine WL.det (fun _ _ => R.pick_t rfl (ne_f hg1) rfl) rfl ?_
    refine WL.det (fun _ _ => R.assign rfl) rfl ?_
    refine WL.nil ?_
    refine E.to ?_
    refine W.ret ?_
    refine E.fin1 (.inl rfl) rfl rfl ?_
    first | exact ⟨_, rfl, rfl, hE⟩ | exact ⟨_, rfl, congrArg Value.bool (decide_eq_true (join_eq hx hy n hn)), hE⟩

/-- bookplate/bookplatelaw02.DigestParts. -/
theorem digestParts_spec {v1 v2 : Value} {l1 l2 : List UInt8} (w : World) {lo_h1 hi_h1 : Nat} (h1 : Sl encU8 w lo_h1 hi_h1 v1 l1) {lo_h2 hi_h2 : Nat} (h2 : Sl encU8 w lo_h2 hi_h2 v2 l2) :
    CallsTo Try.prog 8 [v1, v2] w (fun v w1 => v = .bool true ∧ Ext w w1) := by
  have hE := Ext.rfl' w
  replace h1 := h1.clip0
  have hl_h1 := h1.len_le
  replace h2 := h2.clip0
  have hl_h2 := h2.len_le
  refine enter (n := 45) (l := [v1, v2]) Try.func8 rfl rfl rfl ?_
  refine W.seq ?_
  refine W.region ?_
  refine WL.det (fun _ _ => R.assign rfl) rfl ?_
  refine WL.nil ?_
  refine E.to ?_
  refine W.seq ?_
  refine W.seq ?_
  refine W.region ?_
  refine WL.call rfl rfl ⟨rfl, rfl⟩ callOk10 rfl rfl (awake_spec _) ?_
  rintro v6 w1 ⟨rfl, ew1⟩
  replace h1 := h1.ext ew1
  replace h2 := h2.ext ew1
  replace hE := Ext.tr hE ew1
  have hsew1 := ew1.size
  refine WL.det (fun _ _ => R.not rfl) rfl ?_
  refine WL.nil ?_
  refine E.to ?_
  refine W.cond_f rfl ?_
  refine W.skip ?_
  refine E.to ?_
  refine W.seq ?_
  refine W.seq ?_
  refine W.region ?_
  refine WL.det (fun _ _ => R.move rfl) rfl ?_
  refine WL.det (fun _ e => R.len_sl rfl (h1.ext e) Try.underlying22) rfl ?_
  refine WL.det (fun _ _ => R.gtr rfl rfl) rfl ?_
  refine WL.det (fun _ _ => R.move rfl) rfl ?_
  refine WL.group 3 (g := 11) (j := 3) (want := false) rfl rfl rfl rfl (fun hg1 => ?_) (fun hg1 => ?_)
  · skip
    first | have hg1p := gA3 hg1 | have hg1p := gA4 hg1 | have hg1p := hg1
    refine WL.detg (fun _ _ => R.move rfl) rfl rfl rfl (gd_of hg1) ?_
    refine WL.detg (fun _ e => R.len_sl rfl (h2.ext e) Try.underlying22) rfl rfl rfl (gd_of hg1) ?_
    refine WL.detg (fun _ _ => R.gtr rfl rfl) rfl rfl rfl (gd_of hg1) ?_
    refine WL.det (fun _ _ => R.pick_f rfl hg1 rfl) rfl ?_
    refine WL.nil ?_
    refine E.to ?_
    first | refine W.cond_d rfl (fun hc2 => ?_) (fun hc2 => ?_) | refine W.cond_nd rfl (fun hc2 => ?_) (fun hc2 => ?_) | refine W.cond rfl (fun hc2 => ?_) (fun hc2 => ?_)
    · skip
      refine W.seq ?_
      refine W.region ?_
      refine WL.det (fun _ _ => R.assign rfl) rfl ?_
      refine WL.nil ?_
      refine E.to ?_
      refine W.ret ?_
      refine E.thr ?_
      refine E.fin1 (.inl rfl) rfl rfl ?_
      exact ⟨_, rfl, rfl, hE⟩
    · skip
      refine W.skip ?_
      refine E.to ?_
      refine W.seq ?_
      refine W.region ?_
      refine WL.det (fun _ _ => R.move rfl) rfl ?_
      refine WL.det (fun _ _ => R.move rfl) rfl ?_
      refine WL.call rfl rfl ⟨rfl, rfl⟩ callOk18 rfl rfl (behind_spec (by omega) (by omega) _ h1 h2) ?_
      rintro v18 w2 ⟨hf18, ew2⟩
      replace h1 := h1.ext ew2
      replace h2 := h2.ext ew2
      replace hE := Ext.tr hE ew2
      have hsew2 := ew2.size
      replace hf18 := Own.mono hf18 (b := w.heap.size) (by omega)
      refine WL.call rfl rfl ⟨rfl, rfl⟩ callOk11 rfl rfl (of_spec _ hf18.sl) ?_
      rintro v19 w3 ⟨rfl, ew3⟩
      replace h1 := h1.ext ew3
      replace h2 := h2.ext ew3
      replace hE := Ext.tr hE ew3
      replace hf18 := hf18.ext ew3
      have hsew3 := ew3.size
      refine WL.det (fun _ _ => R.assign rfl) rfl ?_
      refine WL.nil ?_
      refine E.to ?_
      refine W.seq ?_
      refine W.region ?_
      refine WL.det (fun _ _ => R.move rfl) rfl ?_
      refine WL.call rfl rfl ⟨rfl, rfl⟩ callOk11 rfl rfl (of_spec _ h1) ?_
      rintro v21 w4 ⟨rfl, ew4⟩
      replace h1 := h1.ext ew4
      replace h2 := h2.ext ew4
      replace hE := Ext.tr hE ew4
      replace hf18 := hf18.ext ew4
      have hsew4 := ew4.size
      refine WL.det (fun _ _ => R.move rfl) rfl ?_
      refine WL.call rfl rfl ⟨rfl, rfl⟩ callOk13 rfl rfl (more_spec _ _ h2) ?_
      rintro v23 w5 ⟨rfl, ew5⟩
      replace h1 := h1.ext ew5
      replace h2 := h2.ext ew5
      replace hE := Ext.tr hE ew5
      replace hf18 := hf18.ext ew5
      have hsew5 := ew5.size
      refine WL.det (fun _ _ => R.move rfl) rfl ?_
      refine WL.det (fun _ _ => R.eql rfl rfl) rfl ?_
      refine WL.det (fun _ _ => R.move rfl) rfl ?_
      refine WL.group 9 (g := 26) (j := 6) (want := true) rfl rfl rfl rfl (fun hg3 => ?_) (fun hg3 => ?_)
      · skip
        first | have hg3p := gA1 hg3 | have hg3p := gA2 hg3 | have hg3p := hg3
        refine WL.detg (fun _ _ => R.move rfl) rfl rfl rfl (gd_of hg3) ?_
        refine WL.callg rfl rfl ⟨rfl, rfl⟩ callOk11 rfl rfl rfl rfl (gd_of hg3) (of_spec _ h1) ?_
        rintro v28 w6 ⟨rfl, ew6⟩
        replace h1 := h1.ext ew6
        replace h2 := h2.ext ew6
        replace hE := Ext.tr hE ew6
        replace hf18 := hf18.ext ew6
        have hsew6 := ew6.size
        refine WL.detg (fun _ _ => R.move rfl) rfl rfl rfl (gd_of hg3) ?_
        refine WL.callg rfl rfl ⟨rfl, rfl⟩ callOk11 rfl rfl rfl rfl (gd_of hg3) (of_spec _ h2) ?_
        rintro v30 w7 ⟨rfl, ew7⟩
        replace h1 := h1.ext ew7
        replace h2 := h2.ext ew7
        replace hE := Ext.tr hE ew7
        replace hf18 := hf18.ext ew7
        have hsew7 := ew7.size
        refine WL.detg (fun _ _ => R.move rfl) rfl rfl rfl (gd_of hg3) ?_
        refine WL.detg (fun _ e => R.len_sl rfl (h2.ext e) Try.underlying22) rfl rfl rfl (gd_of hg3) ?_
        refine WL.callg rfl rfl ⟨rfl, rfl⟩ callOk20 rfl rfl rfl rfl (gd_of hg3) (join_spec _ _ _ (moreI_R _ _) (by omega) _) ?_
        rintro v33 w8 ⟨rfl, ew8⟩
        replace h1 := h1.ext ew8
        replace h2 := h2.ext ew8
        replace hE := Ext.tr hE ew8
        replace hf18 := hf18.ext ew8
        have hsew8 := ew8.size
        refine WL.detg (fun _ _ => R.move rfl) rfl rfl rfl (gd_of hg3) ?_
        refine WL.detg (fun _ _ => R.eql rfl rfl) rfl rfl rfl (gd_of hg3) ?_
        refine WL.det (fun _ _ => R.pick_t rfl hg3 rfl) rfl ?_
        refine WL.det (fun _ _ => R.move rfl) rfl ?_
        refine WL.group 6 (g := 37) (j := 17) (want := true) rfl rfl rfl rfl (fun hg4 => ?_) (fun hg4 => ?_)
        · skip
          first | have hg4p := gA1 hg4 | have hg4p := gA2 hg4 | have hg4p := hg4
          refine WL.detg (fun _ _ => R.move rfl) rfl rfl rfl (gd_of hg4) ?_
          refine WL.callg rfl rfl ⟨rfl, rfl⟩ callOk11 rfl rfl rfl rfl (gd_of hg4) (of_spec _ h1) ?_
          rintro v39 w9 ⟨rfl, ew9⟩
          replace h1 := h1.ext ew9
          replace h2 := h2.ext ew9
          replace hE := Ext.tr hE ew9
          replace hf18 := hf18.ext ew9
          have hsew9 := ew9.size
          refine WL.callg rfl rfl ⟨rfl, rfl⟩ callOk13 rfl rfl rfl rfl (gd_of hg4) (more_spec (l1 := []) _ _ (Sl.nil _ _ 0 0)) ?_
          rintro v40 w10 ⟨rfl, ew10⟩
          replace h1 := h1.ext ew10
          replace h2 := h2.ext ew10
          replace hE := Ext.tr hE ew10
          replace hf18 := hf18.ext ew10
          have hsew10 := ew10.size
          refine WL.detg (fun _ _ => R.move rfl) rfl rfl rfl (gd_of hg4) ?_
          refine WL.callg rfl rfl ⟨rfl, rfl⟩ callOk11 rfl rfl rfl rfl (gd_of hg4) (of_spec _ h1) ?_
          rintro v42 w11 ⟨rfl, ew11⟩
          replace h1 := h1.ext ew11
          replace h2 := h2.ext ew11
          replace hE := Ext.tr hE ew11
          replace hf18 := hf18.ext ew11
          have hsew11 := ew11.size
          refine WL.detg (fun _ _ => R.eql rfl rfl) rfl rfl rfl (gd_of hg4) ?_
          refine WL.det (fun _ _ => R.pick_t rfl hg4 rfl) rfl ?_
          refine WL.det (fun _ _ => R.assign rfl) rfl ?_
          refine WL.nil ?_
          refine E.to ?_
          refine W.ret ?_
          refine E.fin1 (.inl rfl) rfl rfl ?_
          exact ⟨_, rfl, congrArg Value.bool (decide_eq_true (parts3 _)), hE⟩
        · skip
          exact absurd (decide_eq_true (parts2 _ _ (by omega))) hg4
      · skip
        exact absurd (decide_eq_true (parts1 _ _)) hg3
  · skip
    first | have hg1p := gA7 hg1 | have hg1p := gA8 hg1 | have hg1p := hg1
    refine WL.det (fun _ _ => R.pick_t rfl (ne_f hg1) rfl) rfl ?_
    refine WL.nil ?_
    refine E.to ?_
    refine W.cond_t rfl ?_
    refine W.seq ?_
    refine W.region ?_
    refine WL.det (fun _ _ => R.assign rfl) rfl ?_
    refine WL.nil ?_
    refine E.to ?_
    refine W.ret ?_
    refine E.thr ?_
    refine E.fin1 (.inl rfl) rfl rfl ?_
    exact ⟨_, rfl, rfl, hE⟩

/-- bookplate/bookplatelaw02.DigestFar. -/
theorem digestFar_spec (x y : Int) (hx : R32 x) (hy : R32 y) (p q : Int) (hp : 0 ≤ p ∧ p ≤ 18446744073709551615) (hq : 0 ≤ q ∧ q ≤ 18446744073709551615) (w : World) :
    CallsTo Try.prog 7 [.int .u32 x, .int .u32 y, .agg #[.int .u64 p, .int .u64 q]] w (fun v w1 => v = .bool true ∧ Ext w w1) := by
  have hE := Ext.rfl' w
  refine enter (n := 43) (l := [.int .u32 x, .int .u32 y, .agg #[.int .u64 p, .int .u64 q]]) Try.func7 rfl rfl rfl ?_
  refine W.seq ?_
  refine W.region ?_
  refine WL.mk (M.box rfl rfl) rfl rfl ?_
  rintro _ w1 ⟨g5, rfl, hgg5, hzg5, ew1, hb5v⟩
  replace hE := Ext.tr hE ew1
  have hsew1 := ew1.size
  refine WL.det (fun _ _ => R.assign rfl) rfl ?_
  refine WL.nil ?_
  refine E.to ?_
  refine W.seq ?_
  refine W.seq ?_
  refine W.region ?_
  refine WL.call rfl rfl ⟨rfl, rfl⟩ callOk10 rfl rfl (awake_spec _) ?_
  rintro v9 w2 ⟨rfl, ew2⟩
  replace hE := Ext.tr hE ew2
  replace hb5v := hb5v.ext ew2
  have hsew2 := ew2.size
  refine WL.det (fun _ _ => R.not rfl) rfl ?_
  refine WL.nil ?_
  refine E.to ?_
  refine W.cond_f rfl ?_
  refine W.skip ?_
  refine E.to ?_
  refine W.seq ?_
  refine W.draw 10 (by kernel_rfl) (by kernel_rfl) ?_
  intro w3 ew3
  replace hE := Ext.tr hE ew3
  replace hb5v := hb5v.ext ew3
  have hsew3 := ew3.size
  refine WD.det (fun _ _ => R.idx_arr (m := 1) (i := 0) rfl (evi rfl rfl) (by decide) Try.underlying40 (by kernel_rfl)) rfl ?_
  refine WD.det (fun _ e => R.ld1 rfl ((hb5v.ext e).pt_1 (i := 0) (by simp)) Try.underlying39 rfl) rfl ?_
  refine WD.det (fun _ _ => (by first | exact R.rem0 rfl rfl (by omega) (by omega) | exact R.rem rfl rfl (by omega))) rfl ?_
  refine WD.det (fun _ _ => (by first | exact R.conv64 rfl Try.underlying39 Try.underlying3 (by omega) | exact R.conv rfl Try.underlying39 Try.underlying3)) rfl ?_
  refine WD.det (fun _ _ => R.idx_arr (m := 1) (i := 1) rfl (evi rfl rfl) (by decide) Try.underlying40 (by kernel_rfl)) rfl ?_
  refine WD.det (fun _ e => R.ld1 rfl ((hb5v.ext e).pt_1 (i := 1) (by simp)) Try.underlying39 rfl) rfl ?_
  refine WD.det (fun _ _ => (by first | exact R.rem0 rfl rfl (by omega) (by omega) | exact R.rem rfl rfl (by omega))) rfl ?_
  refine WD.det (fun _ _ => (by first | exact R.conv64 rfl Try.underlying39 Try.underlying3 (by omega) | exact R.conv rfl Try.underlying39 Try.underlying3)) rfl ?_
  refine WD.det (fun _ _ => R.assign rfl) rfl ?_
  refine WD.det (fun _ _ => R.assign rfl) rfl ?_
  refine WD.nil (fun w4 ew4 => ?_)
  replace hE := Ext.tr hE ew4
  replace hb5v := hb5v.ext ew4
  have hsew4 := ew4.size
  refine WL.nil ?_
  refine E.to ?_
  refine W.seq ?_
  refine W.region ?_
  refine WL.det (fun _ _ => R.move rfl) rfl ?_
  refine WL.det (fun _ _ => R.move rfl) rfl ?_
  refine WL.det (fun _ _ => R.move rfl) rfl ?_
  refine WL.call rfl rfl ⟨rfl, rfl⟩ callOk20 rfl rfl (join_spec _ _ _ hx (by omega) _) ?_
  rintro v22 w5 ⟨rfl, ew5⟩
  replace hE := Ext.tr hE ew5
  replace hb5v := hb5v.ext ew5
  have hsew5 := ew5.size
  refine WL.det (fun _ _ => R.move rfl) rfl ?_
  refine WL.call rfl rfl ⟨rfl, rfl⟩ callOk20 rfl rfl (join_spec _ _ _ (joinI_R _ _ _) (by omega) _) ?_
  rintro v24 w6 ⟨rfl, ew6⟩
  replace hE := Ext.tr hE ew6
  replace hb5v := hb5v.ext ew6
  have hsew6 := ew6.size
  refine WL.det (fun _ _ => R.move rfl) rfl ?_
  refine WL.det (fun _ _ => R.move rfl) rfl ?_
  refine WL.det (fun _ _ => R.move rfl) rfl ?_
  refine WL.call rfl rfl ⟨rfl, rfl⟩ callOk20 rfl rfl (join_spec _ _ _ hy (by omega) _) ?_
  rintro v28 w7 ⟨rfl, ew7⟩
  replace hE := Ext.tr hE ew7
  replace hb5v := hb5v.ext ew7
  have hsew7 := ew7.size
  refine WL.det (fun _ _ => R.move rfl) rfl ?_
  refine WL.det (fun _ _ => R.move rfl) rfl ?_
  refine WL.det (fun _ _ => (by first | exact R.add64 rfl rfl (by omega) | exact R.add rfl rfl)) rfl ?_
  refine WL.call rfl rfl ⟨rfl, rfl⟩ callOk20 rfl rfl (join_spec _ _ _ hx (by omega) _) ?_
  rintro v32 w8 ⟨rfl, ew8⟩
  replace hE := Ext.tr hE ew8
  replace hb5v := hb5v.ext ew8
  have hsew8 := ew8.size
  refine WL.det (fun _ _ => R.eql rfl rfl) rfl ?_
  refine WL.det (fun _ _ => R.move rfl) rfl ?_
  refine WL.group 7 (g := 34) (j := 15) (want := true) rfl rfl rfl rfl (fun hg1 => ?_) (fun hg1 => ?_)
  · skip
    first | have hg1p := gA1 hg1 | have hg1p := gA2 hg1 | have hg1p := hg1
    refine WL.detg (fun _ _ => R.move rfl) rfl rfl rfl (gd_of hg1) ?_
    refine WL.detg (fun _ _ => R.move rfl) rfl rfl rfl (gd_of hg1) ?_
    refine WL.callg rfl rfl ⟨rfl, rfl⟩ callOk20 rfl rfl rfl rfl (gd_of hg1) (join_spec _ _ _ hx (by omega) _) ?_
    rintro v37 w9 ⟨rfl, ew9⟩
    replace hE := Ext.tr hE ew9
    replace hb5v := hb5v.ext ew9
    have hsew9 := ew9.size
    refine WL.detg (fun _ _ => R.move rfl) rfl rfl rfl (gd_of hg1) ?_
    refine WL.detg (fun _ _ => R.move rfl) rfl rfl rfl (gd_of hg1) ?_
    refine WL.detg (fun _ _ => R.xor rfl rfl) rfl rfl rfl (gd_of hg1) ?_
    refine WL.detg (fun _ _ => R.eql rfl rfl) rfl rfl rfl (gd_of hg1) ?_
    refine WL.det (fun _ _ => R.pick_t rfl hg1 rfl) rfl ?_
    refine WL.det (fun _ _ => R.assign rfl) rfl ?_
    refine WL.nil ?_
    refine E.to ?_
    refine W.ret ?_
    refine E.fin1 (.inl rfl) rfl rfl ?_
    exact ⟨_, rfl, congrArg Value.bool (decide_eq_true (far2 hx hy)), hE⟩
  · skip
    exact absurd (decide_eq_true (far1 hx hy (by omega) (by omega) (by omega))) hg1

end Go.Proofs.Ytebinfembfoklaa
