/-
  The walks.
-/
import Derived.Test.YtnmngpmdphkcpaaH4
namespace Go.Proofs.Ytnmngpmdphkcpaa
open Go Go.RowKit Go.H Go.D20 Go.D02

theorem hcallOk10 : G.callOk Try.prog 10 = true := by kernel_rfl
theorem hcallOk11 : G.callOk Try.prog 11 = true := by kernel_rfl
theorem hcallOk13 : G.callOk Try.prog 13 = true := by kernel_rfl
theorem hcallOk14 : G.callOk Try.prog 14 = true := by kernel_rfl
theorem hcallOk16 : G.callOk Try.prog 16 = true := by kernel_rfl
theorem hcallOk17 : G.callOk Try.prog 17 = true := by kernel_rfl
theorem hcallOk18 : G.callOk Try.prog 18 = true := by kernel_rfl
theorem hcallOk21 : G.callOk Try.prog 21 = true := by kernel_rfl
theorem hcallOk22 : G.callOk Try.prog 22 = true := by kernel_rfl
theorem hcallOk23 : G.callOk Try.prog 23 = true := by kernel_rfl
theorem hcallOk24 : G.callOk Try.prog 24 = true := by kernel_rfl
theorem hcallOk26 : G.callOk Try.prog 26 = true := by kernel_rfl
theorem hcallOk27 : G.callOk Try.prog 27 = true := by kernel_rfl

/-- bookplate/bookplatelaw20.awake. -/
theorem awake_h  :
    Con Try.prog 10 [] [] (vB true) [] := by
  obtain ⟨i5, hi5, hz5, hs5, hb5⟩ := hinf5
  obtain ⟨i22, hi22, hz22, hs22, hb22⟩ := hinf22
  refine Con.enterL (n := 70) Try.func10 rfl rfl rfl (fun τ w ok vs hin => ?_)
  clear hin
  refine W.seq ?_
  refine W.region ?_
  refine SL.val (O.assign rfl rfl Taken.no) ?_
  refine SL.nil ?_
  refine E.to ?_
  refine W.seq ?_
  refine W.region ?_
  refine SL.val (O.build (res := [_, _]) (z := .agg #[.slice none 0 0, .int .i64 0]) (places := [(0, 1), (1, 1)]) rfl rfl Try.underlying25 (by kernel_rfl) (fun _ => by kernel_rfl) rfl rfl Taken.no) ?_
  refine SL.memS (O.buildSlice 101 (rows := ([97] : List UInt8).map eB) rfl rfl Try.underlying22 hi5 hz5 hs5 (by decide) rfl (by decide) rfl rfl rfl Taken.no) rfl rfl (S' := (101, .data 5 1 (([97] : List UInt8).map eB)) :: _) rfl ?_
  refine SL.memS (O.b2b (l := [97]) rfl rfl (by simp) Try.underlying22 Try.underlying5 rfl Taken.no) rfl rfl (S' := (101, .dead) :: _) rfl ?_
  refine SL.memS (O.call (rn []) [] rfl rfl rfl (append_h (l := []) (p := [97]) 0 (by decide) (by decide)) (.cons (ArgOk.aggU (.cons ArgOk.nil (.cons (ArgOk.same rfl) .nil))) (.cons (ArgOk.same rfl) .nil)) SubS.nil rfl rfl rfl rfl rfl (.inl rfl) hcallOk21 (r' := .tup [.agg [.u _, .u _], .u _]) rfl rfl Taken.no) rfl rfl (S' := _) rfl ?_
  refine SL.as (i' := .tup [.agg [vL 1 (a9.map eB), vI 0], vI 0]) 13 rfl (by rw [aw_app.1, aw_app.2.1, aw_app.2.2]) ?_
  refine SL.val (O.move rfl rfl Taken.no) ?_
  refine SL.val (O.extract rfl rfl rfl Taken.no) ?_
  refine SL.val (O.extract rfl rfl rfl Taken.no) ?_
  refine SL.memS (O.alloc (z := .agg #[.slice none 0 0, .int .i64 0]) (is := [.u (.sc (.slice none 0 0)), .u (.sc (.int .i64 0))]) 102 (by kernel_rfl) rfl rfl rfl Taken.no) rfl rfl (S' := (102, _) :: _) rfl ?_
  refine SL.effS (O.st_ref (m := 2) rfl rfl rfl (js := [_, _]) rfl rfl (by kernel_rfl) (by simp) (Nat.le_of_ble_eq_true rfl) rfl (is' := [_, _]) rfl Taken.no) (S' := (102, _) :: _) rfl ?_
  refine SL.val (O.assign rfl rfl Taken.no) ?_
  refine SL.nil ?_
  refine E.to ?_
  refine W.seq ?_
  refine W.region ?_
  refine SL.val (O.ldN (m := 2) (PtI.ref rfl rfl) (js := [_, _]) rfl (Nat.le_of_ble_eq_true rfl) Try.underlying25 rfl (by kernel_rfl) rfl Taken.no) ?_
  refine SL.memS (O.call (rn []) [] rfl rfl rfl (crash_h (l := a9) 0 8 (by decide) (by decide) (by decide)) (.cons (ArgOk.aggU (.cons (ArgOk.same rfl) (.cons (ArgOk.same rfl) .nil))) (.cons (ArgOk.same rfl) .nil)) SubS.nil rfl rfl rfl rfl rfl (.inl rfl) hcallOk16 (r' := .tup [.u _, .u _]) rfl rfl Taken.no) rfl rfl (S' := _) rfl ?_
  refine SL.as (i' := .tup [vL 1 ((a9.take 8).map eB), vI 0]) 18 rfl (by rw [aw_crash.1, aw_crash.2]) ?_
  refine SL.val (O.move rfl rfl Taken.no) ?_
  refine SL.val (O.extract rfl rfl rfl Taken.no) ?_
  refine SL.val (O.extract rfl rfl rfl Taken.no) ?_
  refine SL.val (O.assign rfl rfl Taken.no) ?_
  refine SL.val (O.assign rfl rfl Taken.no) ?_
  refine SL.nil ?_
  refine E.to ?_
  refine W.seq ?_
  refine W.region ?_
  refine SL.val (O.move rfl rfl Taken.no) ?_
  refine SL.memS (O.call (rn []) [] rfl rfl rfl (open_h (l := a9.take 8) (by decide)) (.cons (ArgOk.same rfl) .nil) SubS.nil rfl rfl rfl rfl rfl (.inl rfl) hcallOk11 (r' := .tup [.agg [.u _, .u _], .u _]) rfl rfl Taken.no) rfl rfl (S' := _) rfl ?_
  refine SL.as (i' := .tup [.agg [vL 1 (([] : List UInt8).map eB), vI 0], vL 1 (([] : List (List UInt8)).map eL)]) 23 rfl (by rw [w8]; rfl) ?_
  refine SL.val (O.move rfl rfl Taken.no) ?_
  refine SL.val (O.extract rfl rfl rfl Taken.no) ?_
  refine SL.val (O.extract rfl rfl rfl Taken.no) ?_
  refine SL.memS (O.alloc (z := .agg #[.slice none 0 0, .int .i64 0]) (is := [.u (.sc (.slice none 0 0)), .u (.sc (.int .i64 0))]) 103 (by kernel_rfl) rfl rfl rfl Taken.no) rfl rfl (S' := (103, _) :: _) rfl ?_
  refine SL.effS (O.st_ref (m := 2) rfl rfl rfl (js := [_, _]) rfl rfl (by kernel_rfl) (by simp) (Nat.le_of_ble_eq_true rfl) rfl (is' := [_, _]) rfl Taken.no) (S' := (103, _) :: _) rfl ?_
  refine SL.val (O.assign rfl rfl Taken.no) ?_
  refine SL.nil ?_
  refine E.to ?_
  refine W.pick (.cons (t := 0) rfl (.cons (t := 1) rfl (.cons (t := 2) rfl (.cons (t := 4) rfl (.cons (t := 6) rfl .nil))))) (.cons (t := 102) rfl (.cons (t := 103) rfl .nil)) ?_
  refine W.seq ?_
  refine W.region ?_
  refine SL.val (O.fld_ref (o' := 0) rfl Try.underlying25 rfl (m := 0) (by kernel_rfl) rfl rfl Taken.no) ?_
  refine SL.val (O.ld1 (PtI.ref rfl rfl) rfl Try.underlying22 rfl rfl Taken.no) ?_
  refine SL.memS (O.call (rn []) [] rfl rfl rfl (open_h (l := a9) (by decide)) (.cons (ArgOk.same rfl) .nil) SubS.nil rfl rfl rfl rfl rfl (.inl rfl) hcallOk11 (r' := .tup [.agg [.u _, .u _], .u _]) rfl rfl Taken.no) rfl rfl (S' := _) rfl ?_
  refine SL.as (i' := .tup [.agg [vL 1 (a9.map eB), vI 9], vL 1 (([[97]] : List (List UInt8)).map eL)]) 29 rfl (by rw [w9]; rfl) ?_
  refine SL.val (O.move rfl rfl Taken.no) ?_
  refine SL.val (O.extract rfl rfl rfl Taken.no) ?_
  refine SL.val (O.extract rfl rfl rfl Taken.no) ?_
  refine SL.memS (O.alloc (z := .agg #[.slice none 0 0, .int .i64 0]) (is := [.u (.sc (.slice none 0 0)), .u (.sc (.int .i64 0))]) 104 (by kernel_rfl) rfl rfl rfl Taken.no) rfl rfl (S' := (104, _) :: _) rfl ?_
  refine SL.effS (O.st_ref (m := 2) rfl rfl rfl (js := [_, _]) rfl rfl (by kernel_rfl) (by simp) (Nat.le_of_ble_eq_true rfl) rfl (is' := [_, _]) rfl Taken.no) (S' := (104, _) :: _) rfl ?_
  refine SL.val (O.assign rfl rfl Taken.no) ?_
  refine SL.nil ?_
  refine E.to ?_
  refine W.seq ?_
  refine W.region ?_
  refine SL.val (O.move rfl rfl Taken.no) ?_
  refine SL.val (O.det (fun _ => G.R.mv (G.R.eql rfl rfl) (congrArg Value.bool (decide_eq_true (by decide)))) rfl Taken.no) ?_
  refine SL.val (O.move rfl rfl Taken.no) ?_
  have hg1 : true = true := by decide
  refine SL.val (O.move rfl rfl (Taken.yes rfl rfl hg1)) ?_
  refine SL.val (O.det (fun _ => G.R.mv (G.R.eql rfl rfl) (congrArg Value.bool (decide_eq_true (by decide)))) rfl (Taken.yes rfl rfl hg1)) ?_
  refine SL.val (O.pick_t rfl rfl rfl rfl Taken.no) ?_
  refine SL.val (O.move rfl rfl Taken.no) ?_
  have hg2 : true = true := by decide
  refine SL.val (O.fld_ref (o' := 0) rfl Try.underlying25 rfl (m := 0) (by kernel_rfl) rfl rfl (Taken.yes rfl rfl hg2)) ?_
  refine SL.val (O.ld1 (PtI.ref rfl rfl) rfl Try.underlying22 rfl rfl (Taken.yes rfl rfl hg2)) ?_
  refine SL.val (O.lenE (SlOf.fz rfl (by decide)) (by first | exact List.length_map _ | rfl) Try.underlying22 rfl (Taken.yes rfl rfl hg2)) ?_
  refine SL.val (O.det (fun _ => G.R.mv (G.R.eql rfl rfl) (congrArg Value.bool (decide_eq_true (by decide)))) rfl (Taken.yes rfl rfl hg2)) ?_
  refine SL.val (O.pick_t rfl rfl rfl rfl Taken.no) ?_
  refine SL.val (O.move rfl rfl Taken.no) ?_
  have hg3 : true = true := by decide
  refine SL.val (O.move rfl rfl (Taken.yes rfl rfl hg3)) ?_
  refine SL.val (O.lenE (SlOf.fz rfl (by decide)) (by first | exact List.length_map _ | rfl) Try.underlying26 rfl (Taken.yes rfl rfl hg3)) ?_
  refine SL.val (O.det (fun _ => G.R.mv (G.R.eql rfl rfl) (congrArg Value.bool (decide_eq_true (by decide)))) rfl (Taken.yes rfl rfl hg3)) ?_
  refine SL.val (O.pick_t rfl rfl rfl rfl Taken.no) ?_
  refine SL.val (O.move rfl rfl Taken.no) ?_
  have hg4 : true = true := by decide
  refine SL.val (O.move rfl rfl (Taken.yes rfl rfl hg4)) ?_
  refine SL.val (O.lenE (SlOf.fz rfl (by decide)) (by first | exact List.length_map _ | rfl) Try.underlying26 rfl (Taken.yes rfl rfl hg4)) ?_
  refine SL.val (O.det (fun _ => G.R.mv (G.R.eql rfl rfl) (congrArg Value.bool (decide_eq_true (by decide)))) rfl (Taken.yes rfl rfl hg4)) ?_
  refine SL.val (O.pick_t rfl rfl rfl rfl Taken.no) ?_
  refine SL.val (O.move rfl rfl Taken.no) ?_
  have hg5 : true = true := by decide
  refine SL.val (O.move rfl rfl (Taken.yes rfl rfl hg5)) ?_
  refine SL.val (O.idx_fz (i := 0) rfl rfl (rfl) (row_get (by decide)) Try.underlying26 hi22 hs22 rfl (Taken.yes rfl rfl hg5)) ?_
  refine SL.val (O.ld1 (PtI.ofU (PtU.fz rfl)) rfl Try.underlying22 rfl rfl (Taken.yes rfl rfl hg5)) ?_
  refine SL.val (O.b2s (SlOf.fz rfl (by decide)) Try.underlying22 Try.underlying5 Try.underlying9 rfl (Taken.yes rfl rfl hg5)) ?_
  refine SL.val (O.det (fun _ => G.R.mv (G.R.streq rfl rfl) (congrArg Value.bool (decide_eq_true (by rfl)))) rfl (Taken.yes rfl rfl hg5)) ?_
  refine SL.val (O.pick_t rfl rfl rfl rfl Taken.no) ?_
  refine SL.val (O.move rfl rfl Taken.no) ?_
  have hg6 : true = true := by decide
  refine SL.val (O.fld_ref (o' := 1) rfl Try.underlying25 rfl (m := 0) (by kernel_rfl) rfl rfl (Taken.yes rfl rfl hg6)) ?_
  refine SL.val (O.ld1 (PtI.ref rfl rfl) rfl Try.underlying3 rfl rfl (Taken.yes rfl rfl hg6)) ?_
  refine SL.val (O.det (fun _ => G.R.mv (G.R.eql rfl rfl) (congrArg Value.bool (decide_eq_true (by decide)))) rfl (Taken.yes rfl rfl hg6)) ?_
  refine SL.val (O.pick_t rfl rfl rfl rfl Taken.no) ?_
  refine SL.val (O.move rfl rfl Taken.no) ?_
  have hg7 : true = true := by decide
  refine SL.val (O.ldN (m := 2) (PtI.ref rfl rfl) (js := [_, _]) rfl (Nat.le_of_ble_eq_true rfl) Try.underlying25 rfl (by kernel_rfl) rfl (Taken.yes rfl rfl hg7)) ?_
  refine SL.val (O.callp rfl rfl rfl (valid_h (l := a9) 0 (by decide)) (.cons (ArgOk.aggU (.cons (ArgOk.same rfl) (.cons (ArgOk.same rfl) .nil))) .nil) hcallOk15 rfl (Taken.yes rfl rfl hg7)) ?_
  refine SL.as (i' := vB true) 68 rfl (by rw [decide_eq_true v9]) ?_
  refine SL.val (O.pick_t rfl rfl rfl rfl Taken.no) ?_
  refine SL.val (O.assign rfl rfl Taken.no) ?_
  refine SL.nil ?_
  refine E.to ?_
  refine W.pick (.cons (t := 0) rfl .nil) (.cons (t := 102) rfl (.cons (t := 103) rfl (.cons (t := 104) rfl .nil))) ?_
  refine W.ret ?_
  refine E.fin (rs := [_]) (rn []) (.inl rfl) rfl (.cons (ResOne.tmp rfl) .nil) ?_ ?_ rfl (fixL_spec rfl)
  · skip
    rfl
  · exact SubS.nil

/-- bookplate/bookplatelaw20.WalCrash. -/
theorem walCrash_h (n k : Int) {l : List UInt8} (hn : -9223372036854775808 ≤ n ∧ n ≤ 9223372036854775807) (hk : -9223372036854775808 ≤ k ∧ k ≤ 9223372036854775807) :
    Con Try.prog 4 [vA [.sl 1 (l.map eB), uI n], vI k] [] (vB true) [] := by
  refine Con.enterL (n := 35) Try.func4 rfl rfl rfl (fun τ w ok vs hin => ?_)
  have hl0_0 := hin.lenA (i := 0) (j := 0) rfl rfl
  try rw [List.length_map] at hl0_0
  clear hin
  refine W.seq ?_
  refine W.region ?_
  refine SL.memS (O.box (is := [_, _]) 101 rfl rfl (by simp) rfl rfl Taken.no) rfl rfl (S' := (101, _) :: _) rfl ?_
  refine SL.val (O.assign rfl rfl Taken.no) ?_
  refine SL.nil ?_
  refine E.to ?_
  refine W.seq ?_
  refine W.seq ?_
  refine W.region ?_
  refine SL.val (O.callp rfl rfl rfl (awake_h) .nil hcallOk10 rfl Taken.no) ?_
  refine SL.as (i' := vB true) 9 rfl (by exact iv_bool (rfl)) ?_
  refine SL.val (O.det (fun _ => G.R.mv (G.R.not rfl) rfl) rfl Taken.no) ?_
  refine SL.nil ?_
  refine E.to ?_
  refine W.cond_f rfl ?_
  refine W.skip ?_
  refine E.to ?_
  refine W.seq ?_
  refine W.seq ?_
  refine W.region ?_
  refine SL.val (O.fld_ref (o' := 0) rfl Try.underlying29 rfl (m := 0) (by kernel_rfl) rfl rfl Taken.no) ?_
  refine SL.val (O.ld1 (PtI.ref rfl rfl) rfl Try.underlying22 rfl rfl Taken.no) ?_
  refine SL.val (O.lenE (SlOf.fz rfl (by decide)) (by first | exact List.length_map _ | rfl) Try.underlying22 rfl Taken.no) ?_
  refine SL.val (O.det (fun _ => G.R.gtr rfl rfl) rfl Taken.no) ?_
  refine SL.nil ?_
  refine E.to ?_
  first | refine W.cond_d rfl (fun hc1 => ?_) (fun hc1 => ?_) | refine W.cond_nd rfl (fun hc1 => ?_) (fun hc1 => ?_) | refine W.cond rfl (fun hc1 => ?_) (fun hc1 => ?_)
  · skip
    refine W.seq ?_
    refine W.region ?_
    refine SL.val (O.assign rfl rfl Taken.no) ?_
    refine SL.nil ?_
    refine E.to ?_
    refine W.ret ?_
    refine E.thr ?_
    refine E.fin (rs := [_]) (rn []) (.inl rfl) rfl (.cons (ResOne.tmp rfl) .nil) ?_ ?_ rfl (fixL_spec rfl)
    · skip
      rfl
    · exact SubS.nil
  · skip
    refine W.skip ?_
    refine E.to ?_
    refine W.seq ?_
    refine W.region ?_
    refine SL.val (O.ldN (m := 2) (PtI.ref rfl rfl) (js := [_, _]) rfl (Nat.le_of_ble_eq_true rfl) Try.underlying29 rfl (by kernel_rfl) rfl Taken.no) ?_
    refine SL.val (O.move rfl rfl Taken.no) ?_
    refine SL.memS (O.call (rn []) [] rfl rfl rfl (crash_h _ _ (by omega) (by omega) (by omega)) (.cons (ArgOk.aggU (.cons (ArgOk.same rfl) (.cons (ArgOk.same rfl) .nil))) (.cons (ArgOk.same rfl) .nil)) SubS.nil rfl rfl rfl rfl rfl (.inl rfl) hcallOk16 (r' := .tup [.u _, .u _]) rfl rfl Taken.no) rfl rfl (S' := _) rfl ?_
    refine SL.val (O.move rfl rfl Taken.no) ?_
    refine SL.val (O.extract rfl rfl rfl Taken.no) ?_
    refine SL.val (O.extract rfl rfl rfl Taken.no) ?_
    refine SL.val (O.assign rfl rfl Taken.no) ?_
    refine SL.val (O.assign rfl rfl Taken.no) ?_
    refine SL.nil ?_
    refine E.to ?_
    refine W.seq ?_
    refine W.region ?_
    refine SL.val (O.ldN (m := 2) (PtI.ref rfl rfl) (js := [_, _]) rfl (Nat.le_of_ble_eq_true rfl) Try.underlying29 rfl (by kernel_rfl) rfl Taken.no) ?_
    refine SL.val (O.move rfl rfl Taken.no) ?_
    refine SL.memS (O.call (rn []) [] rfl rfl rfl (refcrash_h _ _ (by omega) (by omega) (by omega)) (.cons (ArgOk.aggU (.cons (ArgOk.same rfl) (.cons (ArgOk.same rfl) .nil))) (.cons (ArgOk.same rfl) .nil)) SubS.nil rfl rfl rfl rfl rfl (.inl rfl) hcallOk17 (r' := .tup [.u _, .u _]) rfl rfl Taken.no) rfl rfl (S' := _) rfl ?_
    refine SL.val (O.move rfl rfl Taken.no) ?_
    refine SL.val (O.extract rfl rfl rfl Taken.no) ?_
    refine SL.val (O.extract rfl rfl rfl Taken.no) ?_
    refine SL.val (O.assign rfl rfl Taken.no) ?_
    refine SL.val (O.assign rfl rfl Taken.no) ?_
    refine SL.nil ?_
    refine E.to ?_
    refine W.pick (.cons (t := 4) rfl (.cons (t := 5) rfl (.cons (t := 6) rfl (.cons (t := 7) rfl (.cons (t := 8) rfl .nil))))) (.cons (t := 101) rfl .nil) ?_
    refine W.seq ?_
    refine W.region ?_
    refine SL.val (O.move rfl rfl Taken.no) ?_
    refine SL.val (O.move rfl rfl Taken.no) ?_
    refine SL.val (O.callp rfl rfl rfl (bequal_h) (.cons (ArgOk.same rfl) (.cons (ArgOk.same rfl) .nil)) hcallOk18 rfl Taken.no) ?_
    refine SL.as (i' := vB true) 29 rfl (by exact iv_bool (decide_eq_true rfl)) ?_
    refine SL.val (O.move rfl rfl Taken.no) ?_
    have hg2 : true = true := by decide
    refine SL.val (O.move rfl rfl (Taken.yes rfl rfl hg2)) ?_
    refine SL.val (O.move rfl rfl (Taken.yes rfl rfl hg2)) ?_
    refine SL.val (O.det (fun _ => G.R.mv (G.R.eql rfl rfl) (congrArg Value.bool (decide_eq_true (by rfl)))) rfl (Taken.yes rfl rfl hg2)) ?_
    refine SL.val (O.pick_t rfl rfl rfl rfl Taken.no) ?_
    refine SL.val (O.assign rfl rfl Taken.no) ?_
    refine SL.nil ?_
    refine E.to ?_
    refine W.ret ?_
    refine E.fin (rs := [_]) (rn []) (.inl rfl) rfl (.cons (ResOne.tmp rfl) .nil) ?_ ?_ rfl (fixL_spec rfl)
    · skip
      rfl
    · exact SubS.nil

/-- bookplate/bookplatelaw20.WalAppend. -/
theorem walAppend_h (n : Int) {l p : List UInt8} (hn : -9223372036854775808 ≤ n ∧ n ≤ 9223372036854775807) :
    Con Try.prog 8 [vA [.sl 1 (l.map eB), uI n], vL 1 (p.map eB)] [] (vB true) [] := by
  refine Con.enterL (n := 78) Try.func8 rfl rfl rfl (fun τ w ok vs hin => ?_)
  have hl0_0 := hin.lenA (i := 0) (j := 0) rfl rfl
  try rw [List.length_map] at hl0_0
  have hl1 := hin.len (i := 1) rfl
  try rw [List.length_map] at hl1
  clear hin
  refine W.seq ?_
  refine W.region ?_
  refine SL.memS (O.box (is := [_, _]) 101 rfl rfl (by simp) rfl rfl Taken.no) rfl rfl (S' := (101, _) :: _) rfl ?_
  refine SL.val (O.assign rfl rfl Taken.no) ?_
  refine SL.nil ?_
  refine E.to ?_
  refine W.seq ?_
  refine W.seq ?_
  refine W.region ?_
  refine SL.val (O.callp rfl rfl rfl (awake_h) .nil hcallOk10 rfl Taken.no) ?_
  refine SL.as (i' := vB true) 13 rfl (by exact iv_bool (rfl)) ?_
  refine SL.val (O.det (fun _ => G.R.mv (G.R.not rfl) rfl) rfl Taken.no) ?_
  refine SL.nil ?_
  refine E.to ?_
  refine W.cond_f rfl ?_
  refine W.skip ?_
  refine E.to ?_
  refine W.seq ?_
  refine W.seq ?_
  refine W.region ?_
  refine SL.val (O.fld_ref (o' := 0) rfl Try.underlying29 rfl (m := 0) (by kernel_rfl) rfl rfl Taken.no) ?_
  refine SL.val (O.ld1 (PtI.ref rfl rfl) rfl Try.underlying22 rfl rfl Taken.no) ?_
  refine SL.val (O.lenE (SlOf.fz rfl (by decide)) (by first | exact List.length_map _ | rfl) Try.underlying22 rfl Taken.no) ?_
  refine SL.val (O.det (fun _ => G.R.gtr rfl rfl) rfl Taken.no) ?_
  refine SL.val (O.move rfl rfl Taken.no) ?_
  refine SL.case (j := 4) (g := 19) (want := false) rfl rfl (fun hg1 => ?_) (fun hg1 => ?_)
  · skip
    first | have hg1p := G.gA3 hg1 | have hg1p := G.gA4 hg1 | have hg1p := hg1
    refine SL.val (O.move rfl rfl (Taken.yes rfl rfl hg1)) ?_
    refine SL.val (O.lenE (SlOf.fz rfl (by decide)) (by first | exact List.length_map _ | rfl) Try.underlying22 rfl (Taken.yes rfl rfl hg1)) ?_
    refine SL.val (O.det (fun _ => G.R.gtr rfl rfl) rfl (Taken.yes rfl rfl hg1)) ?_
    refine SL.val (O.pick_f rfl hg1 rfl rfl Taken.no) ?_
    refine SL.nil ?_
    refine E.to ?_
    first | refine W.cond_d rfl (fun hc2 => ?_) (fun hc2 => ?_) | refine W.cond_nd rfl (fun hc2 => ?_) (fun hc2 => ?_) | refine W.cond rfl (fun hc2 => ?_) (fun hc2 => ?_)
    · skip
      refine W.seq ?_
      refine W.region ?_
      refine SL.val (O.assign rfl rfl Taken.no) ?_
      refine SL.nil ?_
      refine E.to ?_
      refine W.ret ?_
      refine E.thr ?_
      refine E.fin (rs := [_]) (rn []) (.inl rfl) rfl (.cons (ResOne.tmp rfl) .nil) ?_ ?_ rfl (fixL_spec rfl)
      · skip
        rfl
      · exact SubS.nil
    · skip
      refine W.skip ?_
      refine E.to ?_
      refine W.seq ?_
      refine W.region ?_
      refine SL.val (O.ldN (m := 2) (PtI.ref rfl rfl) (js := [_, _]) rfl (Nat.le_of_ble_eq_true rfl) Try.underlying29 rfl (by kernel_rfl) rfl Taken.no) ?_
      refine SL.val (O.move rfl rfl Taken.no) ?_
      refine SL.memS (O.call (rn []) [] rfl rfl rfl (append_h _ (by omega) (by omega)) (.cons (ArgOk.aggU (.cons (ArgOk.same rfl) (.cons (ArgOk.same rfl) .nil))) (.cons (ArgOk.same rfl) .nil)) SubS.nil rfl rfl rfl rfl rfl (.inl rfl) hcallOk21 (r' := .tup [.agg [.u _, .u _], .u _]) rfl rfl Taken.no) rfl rfl (S' := _) rfl ?_
      refine SL.val (O.move rfl rfl Taken.no) ?_
      refine SL.val (O.extract rfl rfl rfl Taken.no) ?_
      refine SL.val (O.extract rfl rfl rfl Taken.no) ?_
      refine SL.memS (O.alloc (z := .agg #[.slice none 0 0, .int .i64 0]) (is := [.u (.sc (.slice none 0 0)), .u (.sc (.int .i64 0))]) 102 (by kernel_rfl) rfl rfl rfl Taken.no) rfl rfl (S' := (102, _) :: _) rfl ?_
      refine SL.effS (O.st_ref (m := 2) rfl rfl rfl (js := [_, _]) rfl rfl (by kernel_rfl) (by simp) (Nat.le_of_ble_eq_true rfl) rfl (is' := [_, _]) rfl Taken.no) (S' := (102, _) :: _) rfl ?_
      refine SL.val (O.assign rfl rfl Taken.no) ?_
      refine SL.nil ?_
      refine E.to ?_
      refine W.seq ?_
      refine W.region ?_
      refine SL.val (O.ldN (m := 2) (PtI.ref rfl rfl) (js := [_, _]) rfl (Nat.le_of_ble_eq_true rfl) Try.underlying29 rfl (by kernel_rfl) rfl Taken.no) ?_
      refine SL.val (O.move rfl rfl Taken.no) ?_
      refine SL.memS (O.call (rn []) [] rfl rfl rfl (refappend_h _ (by omega) (by omega)) (.cons (ArgOk.aggU (.cons (ArgOk.same rfl) (.cons (ArgOk.same rfl) .nil))) (.cons (ArgOk.same rfl) .nil)) SubS.nil rfl rfl rfl rfl rfl (.inl rfl) hcallOk22 (r' := .tup [.agg [.u _, .u _], .u _]) rfl rfl Taken.no) rfl rfl (S' := _) rfl ?_
      refine SL.val (O.move rfl rfl Taken.no) ?_
      refine SL.val (O.extract rfl rfl rfl Taken.no) ?_
      refine SL.val (O.extract rfl rfl rfl Taken.no) ?_
      refine SL.memS (O.alloc (z := .agg #[.slice none 0 0, .int .i64 0]) (is := [.u (.sc (.slice none 0 0)), .u (.sc (.int .i64 0))]) 103 (by kernel_rfl) rfl rfl rfl Taken.no) rfl rfl (S' := (103, _) :: _) rfl ?_
      refine SL.effS (O.st_ref (m := 2) rfl rfl rfl (js := [_, _]) rfl rfl (by kernel_rfl) (by simp) (Nat.le_of_ble_eq_true rfl) rfl (is' := [_, _]) rfl Taken.no) (S' := (103, _) :: _) rfl ?_
      refine SL.val (O.assign rfl rfl Taken.no) ?_
      refine SL.nil ?_
      refine E.to ?_
      refine W.pick (.cons (t := 2) rfl (.cons (t := 4) rfl (.cons (t := 5) rfl (.cons (t := 6) rfl (.cons (t := 7) rfl (.cons (t := 8) rfl .nil)))))) (.cons (t := 101) rfl (.cons (t := 102) rfl (.cons (t := 103) rfl .nil))) ?_
      refine W.seq ?_
      refine W.region ?_
      refine SL.val (O.ldN (m := 2) (PtI.ref rfl rfl) (js := [_, _]) rfl (Nat.le_of_ble_eq_true rfl) Try.underlying29 rfl (by kernel_rfl) rfl Taken.no) ?_
      refine SL.memS (O.call (rn []) [] rfl rfl rfl (sync_h _ (by omega)) (.cons (ArgOk.aggU (.cons (ArgOk.same rfl) (.cons (ArgOk.same rfl) .nil))) .nil) SubS.nil rfl rfl rfl rfl rfl (.inl rfl) hcallOk23 (r' := .tup [.agg [.u _, .u _], .u _]) rfl rfl Taken.no) rfl rfl (S' := _) rfl ?_
      refine SL.val (O.move rfl rfl Taken.no) ?_
      refine SL.val (O.extract rfl rfl rfl Taken.no) ?_
      refine SL.val (O.extract rfl rfl rfl Taken.no) ?_
      refine SL.memS (O.alloc (z := .agg #[.slice none 0 0, .int .i64 0]) (is := [.u (.sc (.slice none 0 0)), .u (.sc (.int .i64 0))]) 104 (by kernel_rfl) rfl rfl rfl Taken.no) rfl rfl (S' := (104, _) :: _) rfl ?_
      refine SL.effS (O.st_ref (m := 2) rfl rfl rfl (js := [_, _]) rfl rfl (by kernel_rfl) (by simp) (Nat.le_of_ble_eq_true rfl) rfl (is' := [_, _]) rfl Taken.no) (S' := (104, _) :: _) rfl ?_
      refine SL.val (O.assign rfl rfl Taken.no) ?_
      refine SL.nil ?_
      refine E.to ?_
      refine W.seq ?_
      refine W.region ?_
      refine SL.val (O.ldN (m := 2) (PtI.ref rfl rfl) (js := [_, _]) rfl (Nat.le_of_ble_eq_true rfl) Try.underlying29 rfl (by kernel_rfl) rfl Taken.no) ?_
      refine SL.memS (O.call (rn []) [] rfl rfl rfl (refsync_h _ (by omega)) (.cons (ArgOk.aggU (.cons (ArgOk.same rfl) (.cons (ArgOk.same rfl) .nil))) .nil) SubS.nil rfl rfl rfl rfl rfl (.inl rfl) hcallOk24 (r' := .tup [.agg [.u _, .u _], .u _]) rfl rfl Taken.no) rfl rfl (S' := _) rfl ?_
      refine SL.val (O.move rfl rfl Taken.no) ?_
      refine SL.val (O.extract rfl rfl rfl Taken.no) ?_
      refine SL.val (O.extract rfl rfl rfl Taken.no) ?_
      refine SL.memS (O.alloc (z := .agg #[.slice none 0 0, .int .i64 0]) (is := [.u (.sc (.slice none 0 0)), .u (.sc (.int .i64 0))]) 105 (by kernel_rfl) rfl rfl rfl Taken.no) rfl rfl (S' := (105, _) :: _) rfl ?_
      refine SL.effS (O.st_ref (m := 2) rfl rfl rfl (js := [_, _]) rfl rfl (by kernel_rfl) (by simp) (Nat.le_of_ble_eq_true rfl) rfl (is' := [_, _]) rfl Taken.no) (S' := (105, _) :: _) rfl ?_
      refine SL.val (O.assign rfl rfl Taken.no) ?_
      refine SL.nil ?_
      refine E.to ?_
      refine W.seq ?_
      refine W.draw [⟨[102], [], []⟩, ⟨[103], [], []⟩, ⟨[], [], []⟩, ⟨[], [], []⟩, ⟨[], [], []⟩, ⟨[], [], []⟩, ⟨[], [], []⟩, ⟨[], [], []⟩, ⟨[], [], []⟩, ⟨[104], [], []⟩, ⟨[105], [], []⟩, ⟨[], [], []⟩, ⟨[], [], []⟩, ⟨[], [], []⟩, ⟨[], [], []⟩, ⟨[], [], []⟩, ⟨[], [], []⟩, ⟨[], [], []⟩, ⟨[], [], []⟩, ⟨[101], [], []⟩, ⟨[], [], []⟩, ⟨[101], [], []⟩, ⟨[], [], []⟩, ⟨[], [], []⟩, ⟨[], [], []⟩, ⟨[], [], []⟩, ⟨[101], [], []⟩, ⟨[], [], []⟩, ⟨[101], [], []⟩, ⟨[], [], []⟩, ⟨[], [], []⟩, ⟨[], [], []⟩, ⟨[], [], []⟩] rfl (by kernel_rfl) (by kernel_rfl) rfl rfl ?_
      refine WH.val (O.ldN (m := 2) (PtI.ref rfl rfl) (js := [_, _]) rfl (Nat.le_of_ble_eq_true rfl) Try.underlying25 rfl (by kernel_rfl) rfl Taken.no) rfl rfl ?_
      refine WH.val (O.ldN (m := 2) (PtI.ref rfl rfl) (js := [_, _]) rfl (Nat.le_of_ble_eq_true rfl) Try.underlying29 rfl (by kernel_rfl) rfl Taken.no) rfl rfl ?_
      refine WH.val (OpOk.re (i' := vB true) (O.callp rfl rfl rfl (samelog_h _ _) (.cons (ArgOk.aggU (.cons (ArgOk.same rfl) (.cons (ArgOk.same rfl) .nil))) (.cons (ArgOk.aggU (.cons (ArgOk.same rfl) (.cons (ArgOk.same rfl) .nil))) .nil)) hcallOk13 rfl Taken.no) (by exact iv_bool (decide_eq_true ⟨rfl, rfl⟩))) rfl rfl ?_
      refine WH.val (O.move rfl rfl Taken.no) rfl rfl ?_
      have hg3 : true = true := by decide
      refine WH.val (O.move rfl rfl (Taken.yes rfl rfl hg3)) rfl rfl ?_
      refine WH.val (O.move rfl rfl (Taken.yes rfl rfl hg3)) rfl rfl ?_
      refine WH.val (O.det (fun _ => G.R.mv (G.R.eql rfl rfl) (congrArg Value.bool (decide_eq_true (by rfl)))) rfl (Taken.yes rfl rfl hg3)) rfl rfl ?_
      refine WH.val (O.pick_t rfl rfl rfl rfl Taken.no) rfl rfl ?_
      refine WH.val (O.move rfl rfl Taken.no) rfl rfl ?_
      have hg4 : true = true := by decide
      refine WH.val (O.ldN (m := 2) (PtI.ref rfl rfl) (js := [_, _]) rfl (Nat.le_of_ble_eq_true rfl) Try.underlying25 rfl (by kernel_rfl) rfl (Taken.yes rfl rfl hg4)) rfl rfl ?_
      refine WH.val (O.ldN (m := 2) (PtI.ref rfl rfl) (js := [_, _]) rfl (Nat.le_of_ble_eq_true rfl) Try.underlying29 rfl (by kernel_rfl) rfl (Taken.yes rfl rfl hg4)) rfl rfl ?_
      refine WH.val (OpOk.re (i' := vB true) (O.callp rfl rfl rfl (samelog_h _ _) (.cons (ArgOk.aggU (.cons (ArgOk.same rfl) (.cons (ArgOk.same rfl) .nil))) (.cons (ArgOk.aggU (.cons (ArgOk.same rfl) (.cons (ArgOk.same rfl) .nil))) .nil)) hcallOk13 rfl (Taken.yes rfl rfl hg4)) (by exact iv_bool (decide_eq_true ⟨rfl, rfl⟩))) rfl rfl ?_
      refine WH.val (O.pick_t rfl rfl rfl rfl Taken.no) rfl rfl ?_
      refine WH.val (O.move rfl rfl Taken.no) rfl rfl ?_
      have hg5 : true = true := by decide
      refine WH.val (O.move rfl rfl (Taken.yes rfl rfl hg5)) rfl rfl ?_
      refine WH.val (O.move rfl rfl (Taken.yes rfl rfl hg5)) rfl rfl ?_
      refine WH.val (O.det (fun _ => G.R.mv (G.R.eql rfl rfl) (congrArg Value.bool (decide_eq_true (by rfl)))) rfl (Taken.yes rfl rfl hg5)) rfl rfl ?_
      refine WH.val (O.pick_t rfl rfl rfl rfl Taken.no) rfl rfl ?_
      refine WH.val (O.move rfl rfl Taken.no) rfl rfl ?_
      have hg6 : true = true := by decide
      refine WH.val (O.ldN (m := 2) (PtI.ref rfl rfl) (js := [_, _]) rfl (Nat.le_of_ble_eq_true rfl) Try.underlying29 rfl (by kernel_rfl) rfl (Taken.yes rfl rfl hg6)) rfl rfl ?_
      refine WH.val (O.callp rfl rfl rfl (valid_h _ (by omega)) (.cons (ArgOk.aggU (.cons (ArgOk.same rfl) (.cons (ArgOk.same rfl) .nil))) .nil) hcallOk15 rfl (Taken.yes rfl rfl hg6)) rfl rfl ?_
      refine WH.val (O.ldN (m := 2) (PtI.ref rfl rfl) (js := [_, _]) rfl (Nat.le_of_ble_eq_true rfl) Try.underlying29 rfl (by kernel_rfl) rfl (Taken.yes rfl rfl hg6)) rfl rfl ?_
      refine WH.val (O.callp rfl rfl rfl (refvalid_h _ (by omega)) (.cons (ArgOk.aggU (.cons (ArgOk.same rfl) (.cons (ArgOk.same rfl) .nil))) .nil) hcallOk25 rfl (Taken.yes rfl rfl hg6)) rfl rfl ?_
      refine WH.val (O.det (fun _ => G.R.mv (G.R.booleql rfl rfl Try.underlying4) (congrArg Value.bool (beq_self_eq_true _))) rfl (Taken.yes rfl rfl hg6)) rfl rfl ?_
      refine WH.val (O.pick_t rfl rfl rfl rfl Taken.no) rfl rfl ?_
      refine WH.val (O.move rfl rfl Taken.no) rfl rfl ?_
      have hg7 : true = true := by decide
      refine WH.val (O.ldN (m := 2) (PtI.ref rfl rfl) (js := [_, _]) rfl (Nat.le_of_ble_eq_true rfl) Try.underlying29 rfl (by kernel_rfl) rfl (Taken.yes rfl rfl hg7)) rfl rfl ?_
      refine WH.val (O.callp rfl rfl rfl (payloads_h _ (by omega)) (.cons (ArgOk.aggU (.cons (ArgOk.same rfl) (.cons (ArgOk.same rfl) .nil))) .nil) hcallOk26 rfl (Taken.yes rfl rfl hg7)) rfl rfl ?_
      refine WH.val (O.ldN (m := 2) (PtI.ref rfl rfl) (js := [_, _]) rfl (Nat.le_of_ble_eq_true rfl) Try.underlying29 rfl (by kernel_rfl) rfl (Taken.yes rfl rfl hg7)) rfl rfl ?_
      refine WH.val (O.callp rfl rfl rfl (refpayloads_h _ (by omega)) (.cons (ArgOk.aggU (.cons (ArgOk.same rfl) (.cons (ArgOk.same rfl) .nil))) .nil) hcallOk27 rfl (Taken.yes rfl rfl hg7)) rfl rfl ?_
      refine WH.val (OpOk.re (i' := vB true) (O.callp rfl rfl rfl (same_h) (.cons (ArgOk.same rfl) (.cons (ArgOk.same rfl) .nil)) hcallOk14 rfl (Taken.yes rfl rfl hg7)) (by exact iv_bool (decide_eq_true rfl))) rfl rfl ?_
      refine WH.val (O.pick_t rfl rfl rfl rfl Taken.no) rfl rfl ?_
      refine WH.val (O.assign rfl rfl Taken.no) rfl rfl ?_
      refine WH.nil ?_
      refine E.to ?_
      refine W.pick (.cons (t := 4) rfl .nil) (.cons (t := 101) rfl (.cons (t := 102) rfl (.cons (t := 103) rfl (.cons (t := 104) rfl (.cons (t := 105) rfl .nil))))) ?_
      refine W.ret ?_
      refine E.fin (rs := [_]) (rn []) (.inl rfl) rfl (.cons (ResOne.tmp rfl) .nil) ?_ ?_ rfl (fixL_spec rfl)
      · skip
        rfl
      · exact SubS.nil
  · skip
    first | have hg1p := G.gA7 hg1 | have hg1p := G.gA8 hg1 | have hg1p := hg1
    refine SL.skip (OpOk.not rfl rfl rfl hg1) ?_
    refine SL.skip (OpOk.not rfl rfl rfl hg1) ?_
    refine SL.skip (OpOk.not rfl rfl rfl hg1) ?_
    refine SL.val (O.pick_t rfl (G.ne_f hg1) rfl rfl Taken.no) ?_
    refine SL.nil ?_
    refine E.to ?_
    refine W.cond_t rfl ?_
    refine W.seq ?_
    refine W.region ?_
    refine SL.val (O.assign rfl rfl Taken.no) ?_
    refine SL.nil ?_
    refine E.to ?_
    refine W.ret ?_
    refine E.thr ?_
    refine E.fin (rs := [_]) (rn []) (.inl rfl) rfl (.cons (ResOne.tmp rfl) .nil) ?_ ?_ rfl (fixL_spec rfl)
    · skip
      rfl
    · exact SubS.nil

end Go.Proofs.Ytnmngpmdphkcpaa
