/-
  The walks.
-/
import Derived.Test.YtlodmhiemndegaaH12
import Derived.Test.YtlodmhiemndegaaH10
namespace Go.Proofs.Ytlodmhiemndegaa
open Go Go.RowKit Go.H Go.D57

theorem hcallOk9 : G.callOk Try.prog 9 = true := by kernel_rfl
theorem hcallOk10 : G.callOk Try.prog 10 = true := by kernel_rfl
theorem hcallOk12 : G.callOk Try.prog 12 = true := by kernel_rfl
theorem hcallOk13 : G.callOk Try.prog 13 = true := by kernel_rfl
theorem hcallOk15 : G.callOk Try.prog 15 = true := by kernel_rfl
theorem hcallOk19 : G.callOk Try.prog 19 = true := by kernel_rfl
theorem hcallOk20 : G.callOk Try.prog 20 = true := by kernel_rfl
theorem hcallOk21 : G.callOk Try.prog 21 = true := by kernel_rfl
theorem hcallOk26 : G.callOk Try.prog 26 = true := by kernel_rfl
theorem hcallOk27 : G.callOk Try.prog 27 = true := by kernel_rfl
theorem hcallOk28 : G.callOk Try.prog 28 = true := by kernel_rfl
theorem hcallOk29 : G.callOk Try.prog 29 = true := by kernel_rfl

/-- bookplate/bookplatelaw57.HoldChanges. -/
theorem holdChanges_h {q : List Hd} {h : Hd} (id : Int) :
    Con Try.prog 6 [vL 5 (q.map eH), vA (eH h), vI id] [] (vB true) [] := by
  refine Con.enterL (n := 77) Try.func6 rfl rfl rfl (fun τ w ok vs hin => ?_)
  have hl0 := hin.len (i := 0) rfl
  try rw [List.length_map] at hl0
  clear hin
  refine W.seq ?_
  refine W.region ?_
  refine SL.memS (O.box (is := [_, _, _, _, _]) 101 rfl rfl (by simp) rfl rfl Taken.no) rfl rfl (S' := (101, _) :: _) rfl ?_
  refine SL.val (O.assign rfl rfl Taken.no) ?_
  refine SL.nil ?_
  refine E.to ?_
  refine W.seq ?_
  refine W.seq ?_
  refine W.region ?_
  refine SL.val (O.callp rfl rfl rfl (awake_h) .nil hcallOk9 rfl Taken.no) ?_
  refine SL.as (i' := vB true) 15 rfl (by exact iv_bool (rfl)) ?_
  refine SL.val (O.det (fun _ => G.R.mv (G.R.not rfl) rfl) rfl Taken.no) ?_
  refine SL.val (O.move rfl rfl Taken.no) ?_
  have hg1 : false = false := by decide
  refine SL.val (O.move rfl rfl (Taken.yes rfl rfl hg1)) ?_
  refine SL.val (O.callp rfl rfl rfl (few_h) (.cons (ArgOk.same rfl) .nil) hcallOk10 rfl (Taken.yes rfl rfl hg1)) ?_
  refine SL.val (O.det (fun _ => G.R.not rfl) rfl (Taken.yes rfl rfl hg1)) ?_
  refine SL.val (O.pick_f rfl rfl rfl rfl Taken.no) ?_
  refine SL.nil ?_
  refine E.to ?_
  first | refine W.cond_d rfl (fun hc2 => ?_) (fun hc2 => ?_) | refine W.cond_nd rfl (fun hc2 => ?_) (fun hc2 => ?_) | refine W.cond rfl (fun hc2 => ?_) (fun hc2 => ?_)
  · skip
    refine W.seq ?_
    refine W.region ?_
    refine SL.val (O.callp rfl rfl rfl (awake_h) .nil hcallOk9 rfl Taken.no) ?_
    refine SL.as (i' := vB true) 22 rfl (by exact iv_bool (rfl)) ?_
    refine SL.val (O.assign rfl rfl Taken.no) ?_
    refine SL.nil ?_
    refine E.to ?_
    refine W.ret ?_
    refine E.thr ?_
    refine E.fin (rs := [_]) (rn []) (.inl rfl) rfl (.cons (ResOne.tmp rfl) .nil) ?_ ?_ rfl (fixL_spec rfl)
    · skip
      rfl
    · exact SubS.nil
  · skip
    have hfw : fewQ q := by first | assumption | (rename_i z; simpa using z)
    have h61 : q.length ≤ 61 := by unfold fewQ at hfw; omega
    have hpu := putQ_len q h
    have hca := canQ_len q id
    refine W.skip ?_
    refine E.to ?_
    refine W.seq ?_
    refine W.draw [⟨[], [], []⟩, ⟨[], [], []⟩, ⟨[101], [], []⟩, ⟨[], [], []⟩, ⟨[], [], []⟩, ⟨[], [], []⟩, ⟨[], [], []⟩, ⟨[], [], []⟩, ⟨[], [], []⟩] rfl (by kernel_rfl) (by kernel_rfl) rfl rfl ?_
    refine WH.val (O.move rfl rfl Taken.no) rfl rfl ?_
    refine WH.val (O.callp rfl rfl rfl (own_h (by omega)) (.cons (ArgOk.same rfl) .nil) hcallOk12 rfl Taken.no) rfl rfl ?_
    refine WH.val (O.ldN (m := 5) (PtI.ref rfl rfl) (js := [_, _, _, _, _]) rfl (Nat.le_of_ble_eq_true rfl) Try.underlying32 rfl (by kernel_rfl) rfl Taken.no) rfl rfl ?_
    refine WH.memS (O.call (rn []) [] rfl rfl rfl (holdPut_h (q := q) (h := h)) (.cons (ArgOk.same rfl) (.cons (ArgOk.aggU (.cons (ArgOk.same rfl) (.cons (ArgOk.same rfl) (.cons (ArgOk.same rfl) (.cons (ArgOk.same rfl) (.cons (ArgOk.same rfl) .nil)))))) .nil)) SubS.nil rfl rfl rfl rfl rfl (.inl rfl) hcallOk26 (r' := .tup [.u _, .u _]) rfl rfl Taken.no) rfl rfl rfl rfl rfl (S' := _) rfl ?_
    refine WH.val (O.move rfl rfl Taken.no) rfl rfl ?_
    refine WH.val (O.extract rfl rfl rfl Taken.no) rfl rfl ?_
    refine WH.val (O.extract rfl rfl rfl Taken.no) rfl rfl ?_
    refine WH.val (O.assign rfl rfl Taken.no) rfl rfl ?_
    refine WH.val (O.assign rfl rfl Taken.no) rfl rfl ?_
    refine WH.nil ?_
    refine E.to ?_
    refine W.seq ?_
    refine W.region ?_
    refine SL.val (O.move rfl rfl Taken.no) ?_
    refine SL.val (O.ldN (m := 5) (PtI.ref rfl rfl) (js := [_, _, _, _, _]) rfl (Nat.le_of_ble_eq_true rfl) Try.underlying32 rfl (by kernel_rfl) rfl Taken.no) ?_
    refine SL.memS (O.call (rn []) [] rfl rfl rfl (refPut_h (q := q) (h := h)) (.cons (ArgOk.same rfl) (.cons (ArgOk.aggU (.cons (ArgOk.same rfl) (.cons (ArgOk.same rfl) (.cons (ArgOk.same rfl) (.cons (ArgOk.same rfl) (.cons (ArgOk.same rfl) .nil)))))) .nil)) SubS.nil rfl rfl rfl rfl rfl (.inl rfl) hcallOk27 (r' := .tup [.u _, .u _]) rfl rfl Taken.no) rfl rfl (S' := _) rfl ?_
    refine SL.val (O.move rfl rfl Taken.no) ?_
    refine SL.val (O.extract rfl rfl rfl Taken.no) ?_
    refine SL.val (O.extract rfl rfl rfl Taken.no) ?_
    refine SL.val (O.assign rfl rfl Taken.no) ?_
    refine SL.val (O.assign rfl rfl Taken.no) ?_
    refine SL.nil ?_
    refine E.to ?_
    refine W.pick (.cons (t := 0) rfl (.cons (t := 2) rfl (.cons (t := 6) rfl (.cons (t := 7) rfl (.cons (t := 8) rfl (.cons (t := 9) rfl (.cons (t := 10) rfl .nil))))))) (.cons (t := 101) rfl .nil) ?_
    refine W.seq ?_
    refine W.region ?_
    refine SL.val (O.move rfl rfl Taken.no) ?_
    refine SL.val (O.callp rfl rfl rfl (own_h (by omega)) (.cons (ArgOk.same rfl) .nil) hcallOk12 rfl Taken.no) ?_
    refine SL.val (O.move rfl rfl Taken.no) ?_
    refine SL.memS (O.call (rn []) [] rfl rfl rfl (holdCancel_h _) (.cons (ArgOk.same rfl) (.cons (ArgOk.same rfl) .nil)) SubS.nil rfl rfl rfl rfl rfl (.inl rfl) hcallOk28 (r' := .tup [.u _, .u _]) rfl rfl Taken.no) rfl rfl (S' := _) rfl ?_
    refine SL.val (O.move rfl rfl Taken.no) ?_
    refine SL.val (O.extract rfl rfl rfl Taken.no) ?_
    refine SL.val (O.extract rfl rfl rfl Taken.no) ?_
    refine SL.val (O.assign rfl rfl Taken.no) ?_
    refine SL.val (O.assign rfl rfl Taken.no) ?_
    refine SL.nil ?_
    refine E.to ?_
    refine W.seq ?_
    refine W.region ?_
    refine SL.val (O.move rfl rfl Taken.no) ?_
    refine SL.val (O.move rfl rfl Taken.no) ?_
    refine SL.memS (O.call (rn []) [] rfl rfl rfl (refCancel_h _) (.cons (ArgOk.same rfl) (.cons (ArgOk.same rfl) .nil)) SubS.nil rfl rfl rfl rfl rfl (.inl rfl) hcallOk29 (r' := .tup [.u _, .u _]) rfl rfl Taken.no) rfl rfl (S' := _) rfl ?_
    refine SL.val (O.move rfl rfl Taken.no) ?_
    refine SL.val (O.extract rfl rfl rfl Taken.no) ?_
    refine SL.val (O.extract rfl rfl rfl Taken.no) ?_
    refine SL.val (O.assign rfl rfl Taken.no) ?_
    refine SL.val (O.assign rfl rfl Taken.no) ?_
    refine SL.nil ?_
    refine E.to ?_
    refine W.seq ?_
    refine W.region ?_
    refine SL.val (O.move rfl rfl Taken.no) ?_
    refine SL.val (O.callp rfl rfl rfl (theirs_h (q := putQ q h) (by omega)) (.cons (ArgOk.same rfl) .nil) hcallOk21 rfl Taken.no) ?_
    refine SL.val (O.move rfl rfl Taken.no) ?_
    refine SL.val (O.callp rfl rfl rfl (same_h (a := putQ q h) (b := putQ q h)) (.cons (ArgOk.same rfl) (.cons (ArgOk.same rfl) .nil)) hcallOk20 rfl Taken.no) ?_
    refine SL.as (i' := vB true) 52 rfl (by exact iv_bool (decide_eq_true rfl)) ?_
    refine SL.val (O.move rfl rfl Taken.no) ?_
    have hg3 : true = true := by decide
    refine SL.val (O.move rfl rfl (Taken.yes rfl rfl hg3)) ?_
    refine SL.val (O.move rfl rfl (Taken.yes rfl rfl hg3)) ?_
    refine SL.val (O.det (fun _ => G.R.mv (G.R.eql rfl rfl) (congrArg Value.bool (decide_eq_true (by rfl)))) rfl (Taken.yes rfl rfl hg3)) ?_
    refine SL.val (O.pick_t rfl rfl rfl rfl Taken.no) ?_
    refine SL.val (O.move rfl rfl Taken.no) ?_
    have hg4 : true = true := by decide
    refine SL.val (O.move rfl rfl (Taken.yes rfl rfl hg4)) ?_
    refine SL.val (O.callp rfl rfl rfl (theirs_h (q := canQ q id) (by omega)) (.cons (ArgOk.same rfl) .nil) hcallOk21 rfl (Taken.yes rfl rfl hg4)) ?_
    refine SL.val (O.move rfl rfl (Taken.yes rfl rfl hg4)) ?_
    refine SL.val (O.callp rfl rfl rfl (same_h (a := canQ q id) (b := canQ q id)) (.cons (ArgOk.same rfl) (.cons (ArgOk.same rfl) .nil)) hcallOk20 rfl (Taken.yes rfl rfl hg4)) ?_
    refine SL.as (i' := vB true) 62 rfl (by exact iv_bool (decide_eq_true rfl)) ?_
    refine SL.val (O.pick_t rfl rfl rfl rfl Taken.no) ?_
    refine SL.val (O.move rfl rfl Taken.no) ?_
    have hg5 : true = true := by decide
    refine SL.val (O.move rfl rfl (Taken.yes rfl rfl hg5)) ?_
    refine SL.val (O.move rfl rfl (Taken.yes rfl rfl hg5)) ?_
    refine SL.val (O.det (fun _ => G.R.mv (G.R.eql rfl rfl) (congrArg Value.bool (decide_eq_true (by rfl)))) rfl (Taken.yes rfl rfl hg5)) ?_
    refine SL.val (O.pick_t rfl rfl rfl rfl Taken.no) ?_
    refine SL.val (O.move rfl rfl Taken.no) ?_
    have hg6 : true = true := by decide
    refine SL.val (O.move rfl rfl (Taken.yes rfl rfl hg6)) ?_
    refine SL.val (O.callp rfl rfl rfl (own_h (by omega)) (.cons (ArgOk.same rfl) .nil) hcallOk12 rfl (Taken.yes rfl rfl hg6)) ?_
    refine SL.val (O.callp rfl rfl rfl (valid_h) (.cons (ArgOk.same rfl) .nil) hcallOk23 rfl (Taken.yes rfl rfl hg6)) ?_
    refine SL.val (O.move rfl rfl (Taken.yes rfl rfl hg6)) ?_
    refine SL.val (O.callp rfl rfl rfl (refvalid_h) (.cons (ArgOk.same rfl) .nil) hcallOk24 rfl (Taken.yes rfl rfl hg6)) ?_
    refine SL.val (O.det (fun _ => G.R.mv (G.R.booleql rfl rfl Try.underlying4) (congrArg Value.bool (beq_self_eq_true _))) rfl (Taken.yes rfl rfl hg6)) ?_
    refine SL.val (O.pick_t rfl rfl rfl rfl Taken.no) ?_
    refine SL.val (O.assign rfl rfl Taken.no) ?_
    refine SL.nil ?_
    refine E.to ?_
    refine W.pick (.cons (t := 6) rfl .nil) (.cons (t := 101) rfl .nil) ?_
    refine W.ret ?_
    refine E.fin (rs := [_]) (rn []) (.inl rfl) rfl (.cons (ResOne.tmp rfl) .nil) ?_ ?_ rfl (fixL_spec rfl)
    · skip
      rfl
    · exact SubS.nil

/-- bookplate/bookplatelaw57.HoldServes. -/
theorem holdServes_h {q : List Hd} (id : Int) :
    Con Try.prog 3 [vL 5 (q.map eH), vI id] [] (vB true) [] := by
  refine Con.enterL (n := 131) Try.func3 rfl rfl rfl (fun τ w ok vs hin => ?_)
  have hl0 := hin.len (i := 0) rfl
  try rw [List.length_map] at hl0
  clear hin
  refine W.seq ?_
  refine W.region ?_
  refine SL.val (O.assign rfl rfl Taken.no) ?_
  refine SL.nil ?_
  refine E.to ?_
  refine W.seq ?_
  refine W.seq ?_
  refine W.region ?_
  refine SL.val (O.callp rfl rfl rfl (awake_h) .nil hcallOk9 rfl Taken.no) ?_
  refine SL.as (i' := vB true) 23 rfl (by exact iv_bool (rfl)) ?_
  refine SL.val (O.det (fun _ => G.R.mv (G.R.not rfl) rfl) rfl Taken.no) ?_
  refine SL.val (O.move rfl rfl Taken.no) ?_
  have hg1 : false = false := by decide
  refine SL.val (O.move rfl rfl (Taken.yes rfl rfl hg1)) ?_
  refine SL.val (O.callp rfl rfl rfl (few_h) (.cons (ArgOk.same rfl) .nil) hcallOk10 rfl (Taken.yes rfl rfl hg1)) ?_
  refine SL.val (O.det (fun _ => G.R.not rfl) rfl (Taken.yes rfl rfl hg1)) ?_
  refine SL.val (O.pick_f rfl rfl rfl rfl Taken.no) ?_
  refine SL.nil ?_
  refine E.to ?_
  first | refine W.cond_d rfl (fun hc2 => ?_) (fun hc2 => ?_) | refine W.cond_nd rfl (fun hc2 => ?_) (fun hc2 => ?_) | refine W.cond rfl (fun hc2 => ?_) (fun hc2 => ?_)
  · skip
    refine W.seq ?_
    refine W.region ?_
    refine SL.val (O.callp rfl rfl rfl (awake_h) .nil hcallOk9 rfl Taken.no) ?_
    refine SL.as (i' := vB true) 30 rfl (by exact iv_bool (rfl)) ?_
    refine SL.val (O.assign rfl rfl Taken.no) ?_
    refine SL.nil ?_
    refine E.to ?_
    refine W.ret ?_
    refine E.thr ?_
    refine E.fin (rs := [_]) (rn []) (.inl rfl) rfl (.cons (ResOne.tmp rfl) .nil) ?_ ?_ rfl (fixL_spec rfl)
    · skip
      first | rfl | simp_all
    · exact SubS.nil
  · skip
    have hfw : fewQ q := by first | assumption | (rename_i z; simpa using z)
    have h61 : q.length ≤ 61 := by unfold fewQ at hfw; omega
    have hsr := srvQ_len q
    refine W.skip ?_
    refine E.to ?_
    refine W.seq ?_
    refine W.region ?_
    refine SL.val (O.move rfl rfl Taken.no) ?_
    refine SL.val (O.callp rfl rfl rfl (own_h (by omega)) (.cons (ArgOk.same rfl) .nil) hcallOk12 rfl Taken.no) ?_
    refine SL.memS (O.call (rn []) [] rfl rfl rfl (holdNext_h) (.cons (ArgOk.same rfl) .nil) SubS.nil rfl rfl rfl rfl rfl (.inl rfl) hcallOk11 (r' := .tup [.agg [.u _, .u _, .u _, .u _, .u _], .u _]) rfl rfl Taken.no) rfl rfl (S' := _) rfl ?_
    refine SL.val (O.move rfl rfl Taken.no) ?_
    refine SL.val (O.extract rfl rfl rfl Taken.no) ?_
    refine SL.val (O.extract rfl rfl rfl Taken.no) ?_
    refine SL.memS (O.alloc (z := .agg #[.int .i64 0, .int .i64 0, .int .i64 0, .int .i64 0, .int .i64 0]) (is := [.u (.sc (.int .i64 0)), .u (.sc (.int .i64 0)), .u (.sc (.int .i64 0)), .u (.sc (.int .i64 0)), .u (.sc (.int .i64 0))]) 101 (by kernel_rfl) rfl rfl rfl Taken.no) rfl rfl (S' := (101, _) :: _) rfl ?_
    refine SL.effS (O.st_ref (m := 5) rfl rfl rfl (js := [_, _, _, _, _]) rfl rfl (by kernel_rfl) (by simp) (Nat.le_of_ble_eq_true rfl) rfl (is' := [_, _, _, _, _]) rfl Taken.no) (S' := (101, _) :: _) rfl ?_
    refine SL.val (O.assign rfl rfl Taken.no) ?_
    refine SL.nil ?_
    refine E.to ?_
    refine W.seq ?_
    refine W.region ?_
    refine SL.val (O.move rfl rfl Taken.no) ?_
    refine SL.memS (O.call (rn []) [] rfl rfl rfl (refNext_h) (.cons (ArgOk.same rfl) .nil) SubS.nil rfl rfl rfl rfl rfl (.inl rfl) hcallOk13 (r' := .tup [.agg [.u _, .u _, .u _, .u _, .u _], .u _]) rfl rfl Taken.no) rfl rfl (S' := _) rfl ?_
    refine SL.val (O.move rfl rfl Taken.no) ?_
    refine SL.val (O.extract rfl rfl rfl Taken.no) ?_
    refine SL.val (O.extract rfl rfl rfl Taken.no) ?_
    refine SL.memS (O.alloc (z := .agg #[.int .i64 0, .int .i64 0, .int .i64 0, .int .i64 0, .int .i64 0]) (is := [.u (.sc (.int .i64 0)), .u (.sc (.int .i64 0)), .u (.sc (.int .i64 0)), .u (.sc (.int .i64 0)), .u (.sc (.int .i64 0))]) 102 (by kernel_rfl) rfl rfl rfl Taken.no) rfl rfl (S' := (102, _) :: _) rfl ?_
    refine SL.effS (O.st_ref (m := 5) rfl rfl rfl (js := [_, _, _, _, _]) rfl rfl (by kernel_rfl) (by simp) (Nat.le_of_ble_eq_true rfl) rfl (is' := [_, _, _, _, _]) rfl Taken.no) (S' := (102, _) :: _) rfl ?_
    refine SL.val (O.assign rfl rfl Taken.no) ?_
    refine SL.nil ?_
    refine E.to ?_
    refine W.pick (.cons (t := 0) rfl (.cons (t := 1) rfl (.cons (t := 4) rfl (.cons (t := 5) rfl (.cons (t := 6) rfl (.cons (t := 7) rfl (.cons (t := 8) rfl .nil))))))) (.cons (t := 101) rfl (.cons (t := 102) rfl .nil)) ?_
    refine W.seq ?_
    refine W.region ?_
    refine SL.val (O.move rfl rfl Taken.no) ?_
    refine SL.val (O.callp rfl rfl rfl (own_h (by omega)) (.cons (ArgOk.same rfl) .nil) hcallOk12 rfl Taken.no) ?_
    refine SL.memS (O.call (rn []) [] rfl rfl rfl (holdServe_h) (.cons (ArgOk.same rfl) .nil) SubS.nil rfl rfl rfl rfl rfl (.inl rfl) hcallOk14 (r' := .tup [.agg [.u _, .u _, .u _, .u _, .u _], .u _, .u _]) rfl rfl Taken.no) rfl rfl (S' := _) rfl ?_
    refine SL.val (O.move rfl rfl Taken.no) ?_
    refine SL.val (O.extract rfl rfl rfl Taken.no) ?_
    refine SL.val (O.extract rfl rfl rfl Taken.no) ?_
    refine SL.val (O.extract rfl rfl rfl Taken.no) ?_
    refine SL.memS (O.alloc (z := .agg #[.int .i64 0, .int .i64 0, .int .i64 0, .int .i64 0, .int .i64 0]) (is := [.u (.sc (.int .i64 0)), .u (.sc (.int .i64 0)), .u (.sc (.int .i64 0)), .u (.sc (.int .i64 0)), .u (.sc (.int .i64 0))]) 103 (by kernel_rfl) rfl rfl rfl Taken.no) rfl rfl (S' := (103, _) :: _) rfl ?_
    refine SL.effS (O.st_ref (m := 5) rfl rfl rfl (js := [_, _, _, _, _]) rfl rfl (by kernel_rfl) (by simp) (Nat.le_of_ble_eq_true rfl) rfl (is' := [_, _, _, _, _]) rfl Taken.no) (S' := (103, _) :: _) rfl ?_
    refine SL.val (O.assign rfl rfl Taken.no) ?_
    refine SL.val (O.assign rfl rfl Taken.no) ?_
    refine SL.nil ?_
    refine E.to ?_
    refine W.seq ?_
    refine W.region ?_
    refine SL.val (O.move rfl rfl Taken.no) ?_
    refine SL.memS (O.call (rn []) [] rfl rfl rfl (refServe_h) (.cons (ArgOk.same rfl) .nil) SubS.nil rfl rfl rfl rfl rfl (.inl rfl) hcallOk15 (r' := .tup [.agg [.u _, .u _, .u _, .u _, .u _], .u _, .u _]) rfl rfl Taken.no) rfl rfl (S' := _) rfl ?_
    refine SL.val (O.move rfl rfl Taken.no) ?_
    refine SL.val (O.extract rfl rfl rfl Taken.no) ?_
    refine SL.val (O.extract rfl rfl rfl Taken.no) ?_
    refine SL.val (O.extract rfl rfl rfl Taken.no) ?_
    refine SL.memS (O.alloc (z := .agg #[.int .i64 0, .int .i64 0, .int .i64 0, .int .i64 0, .int .i64 0]) (is := [.u (.sc (.int .i64 0)), .u (.sc (.int .i64 0)), .u (.sc (.int .i64 0)), .u (.sc (.int .i64 0)), .u (.sc (.int .i64 0))]) 104 (by kernel_rfl) rfl rfl rfl Taken.no) rfl rfl (S' := (104, _) :: _) rfl ?_
    refine SL.effS (O.st_ref (m := 5) rfl rfl rfl (js := [_, _, _, _, _]) rfl rfl (by kernel_rfl) (by simp) (Nat.le_of_ble_eq_true rfl) rfl (is' := [_, _, _, _, _]) rfl Taken.no) (S' := (104, _) :: _) rfl ?_
    refine SL.val (O.assign rfl rfl Taken.no) ?_
    refine SL.val (O.assign rfl rfl Taken.no) ?_
    refine SL.nil ?_
    refine E.to ?_
    refine W.pick (.cons (t := 0) rfl (.cons (t := 1) rfl (.cons (t := 4) rfl (.cons (t := 5) rfl (.cons (t := 6) rfl (.cons (t := 7) rfl (.cons (t := 8) rfl (.cons (t := 9) rfl (.cons (t := 10) rfl (.cons (t := 11) rfl (.cons (t := 12) rfl (.cons (t := 13) rfl (.cons (t := 14) rfl .nil))))))))))))) (.cons (t := 101) rfl (.cons (t := 102) rfl (.cons (t := 103) rfl (.cons (t := 104) rfl .nil)))) ?_
    refine W.seq ?_
    refine W.region ?_
    refine SL.val (O.move rfl rfl Taken.no) ?_
    refine SL.val (O.callp rfl rfl rfl (own_h (by omega)) (.cons (ArgOk.same rfl) .nil) hcallOk12 rfl Taken.no) ?_
    refine SL.memS (O.call (rn []) [] rfl rfl rfl (holdOrder_h) (.cons (ArgOk.same rfl) .nil) SubS.nil rfl rfl rfl rfl rfl (.inl rfl) hcallOk16 (r' := .tup [.u _, .u _]) rfl rfl Taken.no) rfl rfl (S' := _) rfl ?_
    refine SL.val (O.move rfl rfl Taken.no) ?_
    refine SL.val (O.extract rfl rfl rfl Taken.no) ?_
    refine SL.val (O.extract rfl rfl rfl Taken.no) ?_
    refine SL.val (O.assign rfl rfl Taken.no) ?_
    refine SL.val (O.assign rfl rfl Taken.no) ?_
    refine SL.nil ?_
    refine E.to ?_
    refine W.seq ?_
    refine W.region ?_
    refine SL.val (O.move rfl rfl Taken.no) ?_
    refine SL.memS (O.call (rn []) [] rfl rfl rfl (refOrder_h) (.cons (ArgOk.same rfl) .nil) SubS.nil rfl rfl rfl rfl rfl (.inl rfl) hcallOk17 (r' := .tup [.u _, .u _]) rfl rfl Taken.no) rfl rfl (S' := _) rfl ?_
    refine SL.val (O.move rfl rfl Taken.no) ?_
    refine SL.val (O.extract rfl rfl rfl Taken.no) ?_
    refine SL.val (O.extract rfl rfl rfl Taken.no) ?_
    refine SL.val (O.assign rfl rfl Taken.no) ?_
    refine SL.val (O.assign rfl rfl Taken.no) ?_
    refine SL.nil ?_
    refine E.to ?_
    refine W.pick (.cons (t := 0) rfl (.cons (t := 1) rfl (.cons (t := 4) rfl (.cons (t := 5) rfl (.cons (t := 6) rfl (.cons (t := 7) rfl (.cons (t := 8) rfl (.cons (t := 9) rfl (.cons (t := 10) rfl (.cons (t := 11) rfl (.cons (t := 12) rfl (.cons (t := 13) rfl (.cons (t := 14) rfl (.cons (t := 15) rfl (.cons (t := 16) rfl (.cons (t := 17) rfl (.cons (t := 18) rfl .nil))))))))))))))))) (.cons (t := 101) rfl (.cons (t := 102) rfl (.cons (t := 103) rfl (.cons (t := 104) rfl .nil)))) ?_
    refine W.seq ?_
    refine W.region ?_
    refine SL.val (O.move rfl rfl Taken.no) ?_
    refine SL.val (O.callp rfl rfl rfl (own_h (by omega)) (.cons (ArgOk.same rfl) .nil) hcallOk12 rfl Taken.no) ?_
    refine SL.val (O.move rfl rfl Taken.no) ?_
    refine SL.memS (O.call (rn []) [] rfl rfl rfl (holdRank_h _) (.cons (ArgOk.same rfl) (.cons (ArgOk.same rfl) .nil)) SubS.nil rfl rfl rfl rfl rfl (.inl rfl) hcallOk18 (r' := .tup [.u _, .u _]) rfl rfl Taken.no) rfl rfl (S' := _) rfl ?_
    refine SL.val (O.move rfl rfl Taken.no) ?_
    refine SL.val (O.extract rfl rfl rfl Taken.no) ?_
    refine SL.val (O.extract rfl rfl rfl Taken.no) ?_
    refine SL.val (O.assign rfl rfl Taken.no) ?_
    refine SL.val (O.assign rfl rfl Taken.no) ?_
    refine SL.nil ?_
    refine E.to ?_
    refine W.pick (.cons (t := 0) rfl (.cons (t := 1) rfl (.cons (t := 4) rfl (.cons (t := 5) rfl (.cons (t := 6) rfl (.cons (t := 7) rfl (.cons (t := 8) rfl (.cons (t := 9) rfl (.cons (t := 10) rfl (.cons (t := 11) rfl (.cons (t := 12) rfl (.cons (t := 13) rfl (.cons (t := 14) rfl (.cons (t := 15) rfl (.cons (t := 16) rfl (.cons (t := 17) rfl (.cons (t := 18) rfl (.cons (t := 19) rfl (.cons (t := 20) rfl .nil))))))))))))))))))) (.cons (t := 101) rfl (.cons (t := 102) rfl (.cons (t := 103) rfl (.cons (t := 104) rfl .nil)))) ?_
    refine W.seq ?_
    refine W.region ?_
    refine SL.val (O.move rfl rfl Taken.no) ?_
    refine SL.val (O.move rfl rfl Taken.no) ?_
    refine SL.memS (O.call (rn []) [] rfl rfl rfl (refRank_h _) (.cons (ArgOk.same rfl) (.cons (ArgOk.same rfl) .nil)) SubS.nil rfl rfl rfl rfl rfl (.inl rfl) hcallOk19 (r' := .tup [.u _, .u _]) rfl rfl Taken.no) rfl rfl (S' := _) rfl ?_
    refine SL.val (O.move rfl rfl Taken.no) ?_
    refine SL.val (O.extract rfl rfl rfl Taken.no) ?_
    refine SL.val (O.extract rfl rfl rfl Taken.no) ?_
    refine SL.val (O.assign rfl rfl Taken.no) ?_
    refine SL.val (O.assign rfl rfl Taken.no) ?_
    refine SL.nil ?_
    refine E.to ?_
    refine W.pick (.cons (t := 4) rfl (.cons (t := 5) rfl (.cons (t := 6) rfl (.cons (t := 7) rfl (.cons (t := 8) rfl (.cons (t := 9) rfl (.cons (t := 10) rfl (.cons (t := 11) rfl (.cons (t := 12) rfl (.cons (t := 13) rfl (.cons (t := 14) rfl (.cons (t := 15) rfl (.cons (t := 16) rfl (.cons (t := 17) rfl (.cons (t := 18) rfl (.cons (t := 19) rfl (.cons (t := 20) rfl (.cons (t := 21) rfl (.cons (t := 22) rfl .nil))))))))))))))))))) (.cons (t := 101) rfl (.cons (t := 102) rfl (.cons (t := 103) rfl (.cons (t := 104) rfl .nil)))) ?_
    refine W.seq ?_
    refine W.region ?_
    refine SL.val (O.ldN (m := 5) (PtI.ref rfl rfl) (js := [_, _, _, _, _]) rfl (Nat.le_of_ble_eq_true rfl) Try.underlying26 rfl (by kernel_rfl) rfl Taken.no) ?_
    refine SL.val (O.ldN (m := 5) (PtI.ref rfl rfl) (js := [_, _, _, _, _]) rfl (Nat.le_of_ble_eq_true rfl) Try.underlying32 rfl (by kernel_rfl) rfl Taken.no) ?_
    refine SL.val (O.eqAgg (ls := (hV (nextH q))) (ms := (hV (nextH q))) (r := true) (.inr rfl) (.inr rfl) (by kernel_rfl) (by kernel_rfl) (by kernel_rfl) (by kernel_rfl) (by rw [eqH, decide_eq_true rfl]) rfl Taken.no) ?_
    refine SL.val (O.move rfl rfl Taken.no) ?_
    have hg3 : true = true := by decide
    refine SL.val (O.move rfl rfl (Taken.yes rfl rfl hg3)) ?_
    refine SL.val (O.move rfl rfl (Taken.yes rfl rfl hg3)) ?_
    refine SL.val (O.det (fun _ => G.R.mv (G.R.booleql rfl rfl Try.underlying4) (congrArg Value.bool (beq_self_eq_true _))) rfl (Taken.yes rfl rfl hg3)) ?_
    refine SL.val (O.pick_t rfl rfl rfl rfl Taken.no) ?_
    refine SL.val (O.move rfl rfl Taken.no) ?_
    have hg4 : true = true := by decide
    refine SL.val (O.ldN (m := 5) (PtI.ref rfl rfl) (js := [_, _, _, _, _]) rfl (Nat.le_of_ble_eq_true rfl) Try.underlying26 rfl (by kernel_rfl) rfl (Taken.yes rfl rfl hg4)) ?_
    refine SL.val (O.ldN (m := 5) (PtI.ref rfl rfl) (js := [_, _, _, _, _]) rfl (Nat.le_of_ble_eq_true rfl) Try.underlying32 rfl (by kernel_rfl) rfl (Taken.yes rfl rfl hg4)) ?_
    refine SL.val (O.eqAgg (ls := (hV (nextH q))) (ms := (hV (nextH q))) (r := true) (.inr rfl) (.inr rfl) (by kernel_rfl) (by kernel_rfl) (by kernel_rfl) (by kernel_rfl) (by rw [eqH, decide_eq_true rfl]) rfl (Taken.yes rfl rfl hg4)) ?_
    refine SL.val (O.pick_t rfl rfl rfl rfl Taken.no) ?_
    refine SL.val (O.move rfl rfl Taken.no) ?_
    have hg5 : true = true := by decide
    refine SL.val (O.move rfl rfl (Taken.yes rfl rfl hg5)) ?_
    refine SL.val (O.callp rfl rfl rfl (theirs_h (q := srvQ q) (by omega)) (.cons (ArgOk.same rfl) .nil) hcallOk21 rfl (Taken.yes rfl rfl hg5)) ?_
    refine SL.val (O.move rfl rfl (Taken.yes rfl rfl hg5)) ?_
    refine SL.val (O.callp rfl rfl rfl (same_h (a := srvQ q) (b := srvQ q)) (.cons (ArgOk.same rfl) (.cons (ArgOk.same rfl) .nil)) hcallOk20 rfl (Taken.yes rfl rfl hg5)) ?_
    refine SL.as (i' := vB true) 96 rfl (by exact iv_bool (decide_eq_true rfl)) ?_
    refine SL.val (O.pick_t rfl rfl rfl rfl Taken.no) ?_
    refine SL.val (O.move rfl rfl Taken.no) ?_
    have hg6 : true = true := by decide
    refine SL.val (O.move rfl rfl (Taken.yes rfl rfl hg6)) ?_
    refine SL.val (O.move rfl rfl (Taken.yes rfl rfl hg6)) ?_
    refine SL.val (O.det (fun _ => G.R.mv (G.R.eql rfl rfl) (congrArg Value.bool (decide_eq_true (by rfl)))) rfl (Taken.yes rfl rfl hg6)) ?_
    refine SL.val (O.pick_t rfl rfl rfl rfl Taken.no) ?_
    refine SL.val (O.move rfl rfl Taken.no) ?_
    have hg7 : true = true := by decide
    refine SL.val (O.move rfl rfl (Taken.yes rfl rfl hg7)) ?_
    refine SL.val (O.move rfl rfl (Taken.yes rfl rfl hg7)) ?_
    refine SL.val (O.callp rfl rfl rfl (equal_h (a := ordQ q) (b := ordQ q)) (.cons (ArgOk.same rfl) (.cons (ArgOk.same rfl) .nil)) hcallOk22 rfl (Taken.yes rfl rfl hg7)) ?_
    refine SL.as (i' := vB true) 106 rfl (by exact iv_bool (decide_eq_true rfl)) ?_
    refine SL.val (O.pick_t rfl rfl rfl rfl Taken.no) ?_
    refine SL.val (O.move rfl rfl Taken.no) ?_
    have hg8 : true = true := by decide
    refine SL.val (O.move rfl rfl (Taken.yes rfl rfl hg8)) ?_
    refine SL.val (O.move rfl rfl (Taken.yes rfl rfl hg8)) ?_
    refine SL.val (O.det (fun _ => G.R.mv (G.R.eql rfl rfl) (congrArg Value.bool (decide_eq_true (by rfl)))) rfl (Taken.yes rfl rfl hg8)) ?_
    refine SL.val (O.pick_t rfl rfl rfl rfl Taken.no) ?_
    refine SL.val (O.move rfl rfl Taken.no) ?_
    have hg9 : true = true := by decide
    refine SL.val (O.move rfl rfl (Taken.yes rfl rfl hg9)) ?_
    refine SL.val (O.move rfl rfl (Taken.yes rfl rfl hg9)) ?_
    refine SL.val (O.det (fun _ => G.R.mv (G.R.eql rfl rfl) (congrArg Value.bool (decide_eq_true (by rfl)))) rfl (Taken.yes rfl rfl hg9)) ?_
    refine SL.val (O.pick_t rfl rfl rfl rfl Taken.no) ?_
    refine SL.val (O.move rfl rfl Taken.no) ?_
    have hg10 : true = true := by decide
    refine SL.val (O.move rfl rfl (Taken.yes rfl rfl hg10)) ?_
    refine SL.val (O.move rfl rfl (Taken.yes rfl rfl hg10)) ?_
    refine SL.val (O.det (fun _ => G.R.mv (G.R.eql rfl rfl) (congrArg Value.bool (decide_eq_true (by rfl)))) rfl (Taken.yes rfl rfl hg10)) ?_
    refine SL.val (O.pick_t rfl rfl rfl rfl Taken.no) ?_
    refine SL.val (O.move rfl rfl Taken.no) ?_
    have hg11 : true = true := by decide
    refine SL.val (O.move rfl rfl (Taken.yes rfl rfl hg11)) ?_
    refine SL.val (O.det (fun _ => G.R.neq rfl rfl) rfl (Taken.yes rfl rfl hg11)) ?_
    refine SL.val (O.move rfl rfl (Taken.yes rfl rfl hg11)) ?_
    refine SL.case (j := 47) (g := 126) (want := false) rfl rfl (fun hg12 => ?_) (fun hg12 => ?_)
    · skip
      first | have hg12p := G.gA3 hg12 | have hg12p := G.gA4 hg12 | have hg12p := hg12
      have hsv : validQ (srvQ q) := srvQ_valid (by first | assumption | simp_all)
      refine SL.val (O.move rfl rfl (Taken.yes rfl rfl hg12)) ?_
      refine SL.val (O.callp rfl rfl rfl (valid_h (q := srvQ q)) (.cons (ArgOk.same rfl) .nil) hcallOk23 rfl (Taken.yes rfl rfl hg12)) ?_
      refine SL.as (i' := vB true) 128 rfl (by exact iv_bool (decide_eq_true hsv)) ?_
      refine SL.val (O.pick_f rfl hg12 rfl rfl (Taken.yes rfl rfl hg11)) ?_
      refine SL.val (O.pick_t rfl rfl rfl rfl Taken.no) ?_
      refine SL.val (O.assign rfl rfl Taken.no) ?_
      refine SL.nil ?_
      refine E.to ?_
      refine W.pick (.cons (t := 4) rfl .nil) (.cons (t := 101) rfl (.cons (t := 102) rfl (.cons (t := 103) rfl (.cons (t := 104) rfl .nil)))) ?_
      refine W.ret ?_
      refine E.fin (rs := [_]) (rn []) (.inl rfl) rfl (.cons (ResOne.tmp rfl) .nil) ?_ ?_ rfl (fixL_spec rfl)
      · skip
        first | rfl | simp_all
      · exact SubS.nil
    · skip
      first | have hg12p := G.gA7 hg12 | have hg12p := G.gA8 hg12 | have hg12p := hg12
      refine SL.skip (OpOk.not rfl rfl rfl hg12) ?_
      refine SL.skip (OpOk.not rfl rfl rfl hg12) ?_
      refine SL.val (O.pick_t rfl (G.ne_f hg12) rfl rfl (Taken.yes rfl rfl hg11)) ?_
      refine SL.val (O.pick_t rfl rfl rfl rfl Taken.no) ?_
      refine SL.val (O.assign rfl rfl Taken.no) ?_
      refine SL.nil ?_
      refine E.to ?_
      refine W.pick (.cons (t := 4) rfl .nil) (.cons (t := 101) rfl (.cons (t := 102) rfl (.cons (t := 103) rfl (.cons (t := 104) rfl .nil)))) ?_
      refine W.ret ?_
      refine E.fin (rs := [_]) (rn []) (.inl rfl) rfl (.cons (ResOne.tmp rfl) .nil) ?_ ?_ rfl (fixL_spec rfl)
      · skip
        first | rfl | simp_all
      · exact SubS.nil

/-- bookplate/bookplatelaw57.HoldClasses. -/
theorem holdClasses_h {q : List Hd} :
    Con Try.prog 4 [vL 5 (q.map eH)] [] (vB true) [] := by
  obtain ⟨i32, hi32, hz32, hs32, hb32⟩ := hinf32
  refine Con.enterL (n := 85) Try.func4 rfl rfl rfl (fun τ w ok vs hin => ?_)
  have hl0 := hin.len (i := 0) rfl
  try rw [List.length_map] at hl0
  clear hin
  refine W.seq ?_
  refine W.region ?_
  refine SL.val (O.assign rfl rfl Taken.no) ?_
  refine SL.nil ?_
  refine E.to ?_
  refine W.seq ?_
  refine W.seq ?_
  refine W.region ?_
  refine SL.val (O.callp rfl rfl rfl (awake_h) .nil hcallOk9 rfl Taken.no) ?_
  refine SL.as (i' := vB true) 10 rfl (by exact iv_bool (rfl)) ?_
  refine SL.val (O.det (fun _ => G.R.mv (G.R.not rfl) rfl) rfl Taken.no) ?_
  refine SL.val (O.move rfl rfl Taken.no) ?_
  have hg1 : false = false := by decide
  refine SL.val (O.move rfl rfl (Taken.yes rfl rfl hg1)) ?_
  refine SL.val (O.callp rfl rfl rfl (few_h) (.cons (ArgOk.same rfl) .nil) hcallOk10 rfl (Taken.yes rfl rfl hg1)) ?_
  refine SL.val (O.det (fun _ => G.R.not rfl) rfl (Taken.yes rfl rfl hg1)) ?_
  refine SL.val (O.pick_f rfl rfl rfl rfl Taken.no) ?_
  refine SL.val (O.move rfl rfl Taken.no) ?_
  refine SL.case (j := 7) (g := 17) (want := false) rfl rfl (fun hg2 => ?_) (fun hg2 => ?_)
  · skip
    first | have hg2p := G.gA3 hg2 | have hg2p := G.gA4 hg2 | have hg2p := hg2
    refine SL.val (O.move rfl rfl (Taken.yes rfl rfl hg2)) ?_
    refine SL.val (O.callp rfl rfl rfl (refvalid_h) (.cons (ArgOk.same rfl) .nil) hcallOk24 rfl (Taken.yes rfl rfl hg2)) ?_
    refine SL.val (O.det (fun _ => G.R.not rfl) rfl (Taken.yes rfl rfl hg2)) ?_
    refine SL.val (O.pick_f rfl hg2 rfl rfl Taken.no) ?_
    refine SL.val (O.move rfl rfl Taken.no) ?_
    refine SL.case (j := 12) (g := 22) (want := false) rfl rfl (fun hg3 => ?_) (fun hg3 => ?_)
    · skip
      first | have hg3p := G.gA3 hg3 | have hg3p := G.gA4 hg3 | have hg3p := hg3
      refine SL.val (O.move rfl rfl (Taken.yes rfl rfl hg3)) ?_
      refine SL.val (O.lenE (SlOf.fz rfl (by decide)) (by first | exact List.length_map _ | rfl) Try.underlying22 rfl (Taken.yes rfl rfl hg3)) ?_
      refine SL.val (O.det (fun _ => G.R.eql rfl rfl) rfl (Taken.yes rfl rfl hg3)) ?_
      refine SL.val (O.pick_f rfl hg3 rfl rfl Taken.no) ?_
      refine SL.nil ?_
      refine E.to ?_
      first | refine W.cond_d rfl (fun hc4 => ?_) (fun hc4 => ?_) | refine W.cond_nd rfl (fun hc4 => ?_) (fun hc4 => ?_) | refine W.cond rfl (fun hc4 => ?_) (fun hc4 => ?_)
      · skip
        refine W.seq ?_
        refine W.region ?_
        refine SL.val (O.callp rfl rfl rfl (awake_h) .nil hcallOk9 rfl Taken.no) ?_
        refine SL.as (i' := vB true) 27 rfl (by exact iv_bool (rfl)) ?_
        refine SL.val (O.assign rfl rfl Taken.no) ?_
        refine SL.nil ?_
        refine E.to ?_
        refine W.ret ?_
        refine E.thr ?_
        refine E.fin (rs := [_]) (rn []) (.inl rfl) rfl (.cons (ResOne.tmp rfl) .nil) ?_ ?_ rfl (fixL_spec rfl)
        · skip
          rfl
        · exact SubS.nil
      · skip
        have hv : validQ q := by first | assumption | (rename_i z; simpa using z)
        have h61 := hv.2
        have hl : 0 < q.length := by omega
        refine W.skip ?_
        refine E.to ?_
        refine W.seq ?_
        refine W.region ?_
        refine SL.val (O.move rfl rfl Taken.no) ?_
        refine SL.val (O.callp rfl rfl rfl (own_h (by omega)) (.cons (ArgOk.same rfl) .nil) hcallOk12 rfl Taken.no) ?_
        refine SL.memS (O.call (rn []) [] rfl rfl rfl (holdNext_h (q := q)) (.cons (ArgOk.same rfl) .nil) SubS.nil rfl rfl rfl rfl rfl (.inl rfl) hcallOk11 (r' := .tup [.agg [.u _, .u _, .u _, .u _, .u _], .u _]) rfl rfl Taken.no) rfl rfl (S' := _) rfl ?_
        refine SL.as (i' := .tup [.agg [.u (uI (nextH q).id), .u (uI (nextH q).pat), .u (uI (nextH q).cls), .u (uI (nextH q).tim), .u (uI (nextH q).ov)], vB true]) 31 rfl (by rw [decide_eq_true ⟨hv, hl⟩]) ?_
        refine SL.val (O.move rfl rfl Taken.no) ?_
        refine SL.val (O.extract rfl rfl rfl Taken.no) ?_
        refine SL.val (O.extract rfl rfl rfl Taken.no) ?_
        refine SL.memS (O.alloc (z := .agg #[.int .i64 0, .int .i64 0, .int .i64 0, .int .i64 0, .int .i64 0]) (is := [.u (.sc (.int .i64 0)), .u (.sc (.int .i64 0)), .u (.sc (.int .i64 0)), .u (.sc (.int .i64 0)), .u (.sc (.int .i64 0))]) 101 (by kernel_rfl) rfl rfl rfl Taken.no) rfl rfl (S' := (101, _) :: _) rfl ?_
        refine SL.effS (O.st_ref (m := 5) rfl rfl rfl (js := [_, _, _, _, _]) rfl rfl (by kernel_rfl) (by simp) (Nat.le_of_ble_eq_true rfl) rfl (is' := [_, _, _, _, _]) rfl Taken.no) (S' := (101, _) :: _) rfl ?_
        refine SL.val (O.assign rfl rfl Taken.no) ?_
        refine SL.nil ?_
        refine E.to ?_
        refine W.pick (.cons (t := 0) rfl (.cons (t := 2) rfl (.cons (t := 3) rfl (.cons (t := 4) rfl .nil)))) (.cons (t := 101) rfl .nil) ?_
        refine W.seq ?_
        refine W.seq ?_
        refine W.region ?_
        refine SL.val (O.move rfl rfl Taken.no) ?_
        refine SL.val (O.det (fun _ => G.R.mv (G.R.not rfl) rfl) rfl Taken.no) ?_
        refine SL.nil ?_
        refine E.to ?_
        refine W.cond_f rfl ?_
        refine W.skip ?_
        refine E.to ?_
        refine W.seq ?_
        refine W.region ?_
        refine SL.val (O.assign rfl rfl Taken.no) ?_
        refine SL.nil ?_
        refine E.to ?_
        refine W.seq ?_
        refine W.seq ?_
        refine W.region ?_
        refine SL.val (O.move rfl rfl Taken.no) ?_
        refine SL.val (O.lenE (SlOf.fz rfl (by decide)) (by first | exact List.length_map _ | rfl) Try.underlying22 rfl Taken.no) ?_
        refine SL.val (O.move rfl rfl Taken.no) ?_
        refine SL.nil ?_
        refine E.to ?_
        refine W.block ?_
        refine W.loopx1 (fun (k : Nat) => [(5, vB (ovd q k)), (38, vI (k : Int))]) (fun (k : Nat) => []) (fun (k : Nat) => k ≤ q.length) (fun (k : Nat) => q.length - k) (0) (rn []) (.cons (t := 0) rfl (.cons (t := 2) rfl (.cons (t := 3) rfl (.cons (t := 36) rfl (.cons (t := 37) rfl .nil))))) (.cons (t := 101) rfl .nil) rfl ?_ ?_ rfl rfl ?_ ?_
        · exact (SubF.cons rfl (SubF.cons rfl SubF.nil))
        · exact SubS.nil
        · skip
          omega
        intro k hinv
        have hk := hinv
        refine W.seq ?_
        refine W.region ?_
        refine SL.val (O.det (fun _ => G.R.lss rfl rfl) rfl Taken.no) ?_
        refine SL.nil ?_
        refine E.to ?_
        refine W.seq ?_
        first | refine W.cond_d rfl (fun hc5 => ?_) (fun hc5 => ?_) | refine W.cond_nd rfl (fun hc5 => ?_) (fun hc5 => ?_) | refine W.cond rfl (fun hc5 => ?_) (fun hc5 => ?_)
        · skip
          refine W.skip ?_
          refine E.to ?_
          refine W.seq ?_
          refine W.block ?_
          refine W.seq ?_
          refine W.region ?_
          refine SL.val (O.idx_fz rfl rfl (rfl) (row_get (by omega)) Try.underlying22 hi32 hs32 rfl Taken.no) ?_
          refine SL.val (O.ldU (m := 5) (PtU.fz rfl) rfl Try.underlying32 rfl (by kernel_rfl) rfl Taken.no) ?_
          refine SL.memS (O.alloc (z := .agg #[.int .i64 0, .int .i64 0, .int .i64 0, .int .i64 0, .int .i64 0]) (is := [.u (.sc (.int .i64 0)), .u (.sc (.int .i64 0)), .u (.sc (.int .i64 0)), .u (.sc (.int .i64 0)), .u (.sc (.int .i64 0))]) 102 (by kernel_rfl) rfl rfl rfl Taken.no) rfl rfl (S' := (102, _) :: _) rfl ?_
          refine SL.effS (O.st_ref (m := 5) rfl rfl rfl (js := [_, _, _, _, _]) rfl rfl (by kernel_rfl) (by simp) (Nat.le_of_ble_eq_true rfl) rfl (is' := [_, _, _, _, _]) rfl Taken.no) (S' := (102, _) :: _) rfl ?_
          refine SL.nil ?_
          refine E.to ?_
          refine W.region ?_
          refine SL.val (O.move rfl rfl Taken.no) ?_
          refine SL.val (O.move rfl rfl Taken.no) ?_
          refine SL.case (j := 1) (g := 43) (want := false) rfl rfl (fun hg6 => ?_) (fun hg6 => ?_)
          · skip
            first | have hg6p := G.gA3 hg6 | have hg6p := G.gA4 hg6 | have hg6p := hg6
            refine SL.val (O.fld_ref (o' := 4) rfl Try.underlying32 rfl (m := 0) (by kernel_rfl) rfl rfl (Taken.yes rfl rfl hg6)) ?_
            refine SL.val (O.ld1 (PtI.ref rfl rfl) rfl Try.underlying3 rfl rfl (Taken.yes rfl rfl hg6)) ?_
            refine SL.val (O.det (fun _ => G.R.eql rfl rfl) rfl (Taken.yes rfl rfl hg6)) ?_
            refine SL.val (O.pick_f rfl hg6 rfl rfl Taken.no) ?_
            refine SL.val (O.assign rfl rfl Taken.no) ?_
            refine SL.nil ?_
            refine E.inn ?_
            refine E.to ?_
            refine W.region ?_
            refine SL.val (O.det (fun _ => by first | exact G.R.add64 rfl rfl (by omega) | exact G.R.add rfl rfl) rfl Taken.no) ?_
            refine SL.val (O.move rfl rfl Taken.no) ?_
            refine SL.nil ?_
            refine E.again ((k + 1)) (rn []) ?_ ?_ rfl (fixL_spec rfl) ?_ ?_
            · exact (SubF.val rfl (by (try dsimp only); exact iv_bool (by rw [ovd_succ (by omega)]; simp_all)) (SubF.cons rfl (SubF.cons rfl (SubF.cons rfl (SubF.cons rfl (SubF.cons rfl (SubF.cons rfl SubF.nil)))))))
            · exact (SubS.cons rfl SubS.nil)
            · try dsimp only
              omega
            · (try dsimp only); omega
          · skip
            first | have hg6p := G.gA7 hg6 | have hg6p := G.gA8 hg6 | have hg6p := hg6
            refine SL.skip (OpOk.not rfl rfl rfl hg6) ?_
            refine SL.skip (OpOk.not rfl rfl rfl hg6) ?_
            refine SL.skip (OpOk.not rfl rfl rfl hg6) ?_
            refine SL.val (O.pick_t rfl (G.ne_f hg6) rfl rfl Taken.no) ?_
            refine SL.val (O.assign rfl rfl Taken.no) ?_
            refine SL.nil ?_
            refine E.inn ?_
            refine E.to ?_
            refine W.region ?_
            refine SL.val (O.det (fun _ => by first | exact G.R.add64 rfl rfl (by omega) | exact G.R.add rfl rfl) rfl Taken.no) ?_
            refine SL.val (O.move rfl rfl Taken.no) ?_
            refine SL.nil ?_
            refine E.again ((k + 1)) (rn []) ?_ ?_ rfl (fixL_spec rfl) ?_ ?_
            · exact (SubF.val rfl (by (try dsimp only); exact iv_bool (by rw [ovd_succ (by omega)]; simp_all)) (SubF.cons rfl (SubF.cons rfl (SubF.cons rfl (SubF.cons rfl (SubF.cons rfl (SubF.cons rfl SubF.nil)))))))
            · exact (SubS.cons rfl SubS.nil)
            · try dsimp only
              omega
            · (try dsimp only); omega
        · skip
          refine W.exit ?_
          refine E.th ?_
          refine E.th ?_
          refine E.hit ?_
          refine E.to ?_
          refine W.seq ?_
          refine W.seq ?_
          refine W.region ?_
          refine SL.val (O.move rfl rfl Taken.no) ?_
          refine SL.val (O.lenE (SlOf.fz rfl (by decide)) (by first | exact List.length_map _ | rfl) Try.underlying22 rfl Taken.no) ?_
          refine SL.val (O.move rfl rfl Taken.no) ?_
          refine SL.nil ?_
          refine E.to ?_
          refine W.block ?_
          obtain rfl : k = q.length := by omega
          refine W.loopx1 (fun (j : Nat) => [(51, vI (j : Int))]) (fun (j : Nat) => []) (fun (j : Nat) => j ≤ q.length) (fun (j : Nat) => q.length - j) (0) (rn []) (.cons (t := 3) rfl (.cons (t := 5) rfl (.cons (t := 49) rfl (.cons (t := 50) rfl .nil)))) (.cons (t := 101) rfl .nil) rfl ?_ ?_ rfl rfl ?_ ?_
          · exact (SubF.cons rfl SubF.nil)
          · exact SubS.nil
          · skip
            omega
          intro j hinv
          have hj := hinv
          refine W.seq ?_
          refine W.region ?_
          refine SL.val (O.det (fun _ => G.R.lss rfl rfl) rfl Taken.no) ?_
          refine SL.nil ?_
          refine E.to ?_
          refine W.seq ?_
          first | refine W.cond_d rfl (fun hc7 => ?_) (fun hc7 => ?_) | refine W.cond_nd rfl (fun hc7 => ?_) (fun hc7 => ?_) | refine W.cond rfl (fun hc7 => ?_) (fun hc7 => ?_)
          · skip
            refine W.skip ?_
            refine E.to ?_
            refine W.seq ?_
            refine W.block ?_
            refine W.seq ?_
            refine W.region ?_
            refine SL.val (O.idx_fz rfl rfl (rfl) (row_get (by omega)) Try.underlying22 hi32 hs32 rfl Taken.no) ?_
            refine SL.val (O.ldU (m := 5) (PtU.fz rfl) rfl Try.underlying32 rfl (by kernel_rfl) rfl Taken.no) ?_
            refine SL.memS (O.alloc (z := .agg #[.int .i64 0, .int .i64 0, .int .i64 0, .int .i64 0, .int .i64 0]) (is := [.u (.sc (.int .i64 0)), .u (.sc (.int .i64 0)), .u (.sc (.int .i64 0)), .u (.sc (.int .i64 0)), .u (.sc (.int .i64 0))]) 103 (by kernel_rfl) rfl rfl rfl Taken.no) rfl rfl (S' := (103, _) :: _) rfl ?_
            refine SL.effS (O.st_ref (m := 5) rfl rfl rfl (js := [_, _, _, _, _]) rfl rfl (by kernel_rfl) (by simp) (Nat.le_of_ble_eq_true rfl) rfl (is' := [_, _, _, _, _]) rfl Taken.no) (S' := (103, _) :: _) rfl ?_
            refine SL.nil ?_
            refine E.to ?_
            refine W.seq ?_
            refine W.region ?_
            refine SL.val (O.ldN (m := 5) (PtI.ref rfl rfl) (js := [_, _, _, _, _]) rfl (Nat.le_of_ble_eq_true rfl) Try.underlying32 rfl (by kernel_rfl) rfl Taken.no) ?_
            refine SL.val (O.ldN (m := 5) (PtI.ref rfl rfl) (js := [_, _, _, _, _]) rfl (Nat.le_of_ble_eq_true rfl) Try.underlying26 rfl (by kernel_rfl) rfl Taken.no) ?_
            refine SL.val (O.callp rfl rfl rfl (earlier_h (a := q[j]!) (b := nextH q)) (.cons (ArgOk.aggU (.cons (ArgOk.same rfl) (.cons (ArgOk.same rfl) (.cons (ArgOk.same rfl) (.cons (ArgOk.same rfl) (.cons (ArgOk.same rfl) .nil)))))) (.cons (ArgOk.aggU (.cons (ArgOk.same rfl) (.cons (ArgOk.same rfl) (.cons (ArgOk.same rfl) (.cons (ArgOk.same rfl) (.cons (ArgOk.same rfl) .nil)))))) .nil)) hcallOk25 rfl Taken.no) ?_
            refine SL.val (O.move rfl rfl Taken.no) ?_
            refine SL.case (j := 3) (g := 58) (want := true) rfl rfl (fun hg8 => ?_) (fun hg8 => ?_)
            · skip
              first | have hg8p := G.gA1 hg8 | have hg8p := G.gA2 hg8 | have hg8p := hg8
              refine SL.val (O.move rfl rfl (Taken.yes rfl rfl hg8)) ?_
              refine SL.val (O.move rfl rfl (Taken.yes rfl rfl hg8)) ?_
              refine SL.case (j := 5) (g := 60) (want := true) rfl rfl (fun hg9 => ?_) (fun hg9 => ?_)
              · skip
                first | have hg9p := G.gA1 hg9 | have hg9p := G.gA2 hg9 | have hg9p := hg9
                refine SL.val (O.fld_ref (o' := 4) rfl Try.underlying32 rfl (m := 0) (by kernel_rfl) rfl rfl (Taken.yes rfl rfl hg9)) ?_
                refine SL.val (O.ld1 (PtI.ref rfl rfl) rfl Try.underlying3 rfl rfl (Taken.yes rfl rfl hg9)) ?_
                refine SL.val (O.det (fun _ => G.R.eql rfl rfl) rfl (Taken.yes rfl rfl hg9)) ?_
                refine SL.val (O.pick_t rfl hg9 rfl rfl (Taken.yes rfl rfl hg8)) ?_
                refine SL.val (O.move rfl rfl (Taken.yes rfl rfl hg8)) ?_
                refine SL.case (j := 10) (g := 65) (want := false) rfl rfl (fun hg10 => ?_) (fun hg10 => ?_)
                · skip
                  first | have hg10p := G.gA3 hg10 | have hg10p := G.gA4 hg10 | have hg10p := hg10
                  refine SL.val (O.move rfl rfl (Taken.yes rfl rfl hg10)) ?_
                  refine SL.val (O.det (fun _ => G.R.not rfl) rfl (Taken.yes rfl rfl hg10)) ?_
                  refine SL.val (O.move rfl rfl (Taken.yes rfl rfl hg10)) ?_
                  refine SL.case (j := 13) (g := 68) (want := true) rfl rfl (fun hg11 => ?_) (fun hg11 => ?_)
                  · skip
                    first | have hg11p := G.gA1 hg11 | have hg11p := G.gA2 hg11 | have hg11p := hg11
                    refine SL.val (O.fld_ref (o' := 2) rfl Try.underlying32 rfl (m := 0) (by kernel_rfl) rfl rfl (Taken.yes rfl rfl hg11)) ?_
                    refine SL.val (O.ld1 (PtI.ref rfl rfl) rfl Try.underlying3 rfl rfl (Taken.yes rfl rfl hg11)) ?_
                    refine SL.val (O.fld_ref (o' := 2) rfl Try.underlying26 rfl (m := 0) (by kernel_rfl) rfl rfl (Taken.yes rfl rfl hg11)) ?_
                    refine SL.val (O.ld1 (PtI.ref rfl rfl) rfl Try.underlying3 rfl rfl (Taken.yes rfl rfl hg11)) ?_
                    refine SL.val (O.det (fun _ => G.R.leq rfl rfl) rfl (Taken.yes rfl rfl hg11)) ?_
                    refine SL.val (O.pick_t rfl hg11 rfl rfl (Taken.yes rfl rfl hg10)) ?_
                    refine SL.val (O.pick_f rfl hg10 rfl rfl (Taken.yes rfl rfl hg8)) ?_
                    refine SL.val (O.pick_t rfl hg8 rfl rfl Taken.no) ?_
                    refine SL.nil ?_
                    refine E.to ?_
                    refine W.pick (.cons (t := 3) rfl (.cons (t := 5) rfl (.cons (t := 9) rfl (.cons (t := 49) rfl (.cons (t := 50) rfl (.cons (t := 51) rfl (.cons (t := 52) rfl (.cons (t := 53) rfl (.cons (t := 54) rfl (.cons (t := 55) rfl (.cons (t := 56) rfl (.cons (t := 57) rfl (.cons (t := 58) rfl (.cons (t := 59) rfl (.cons (t := 60) rfl (.cons (t := 61) rfl (.cons (t := 62) rfl (.cons (t := 63) rfl (.cons (t := 64) rfl (.cons (t := 65) rfl (.cons (t := 66) rfl (.cons (t := 67) rfl (.cons (t := 68) rfl (.cons (t := 69) rfl (.cons (t := 70) rfl (.cons (t := 71) rfl (.cons (t := 72) rfl (.cons (t := 73) rfl (.cons (t := 74) rfl (.cons (t := 75) rfl (.cons (t := 76) rfl .nil))))))))))))))))))))))))))))))) (.cons (t := 101) rfl (.cons (t := 103) rfl .nil)) ?_
                    first | refine W.cond_d rfl (fun hc12 => ?_) (fun hc12 => ?_) | refine W.cond_nd rfl (fun hc12 => ?_) (fun hc12 => ?_) | refine W.cond rfl (fun hc12 => ?_) (fun hc12 => ?_)
                    · skip
                      refine W.seq ?_
                      refine W.region ?_
                      refine SL.val (O.assign rfl rfl Taken.no) ?_
                      refine SL.nil ?_
                      refine E.to ?_
                      refine W.pick (.cons (t := 2) rfl (.cons (t := 3) rfl (.cons (t := 5) rfl (.cons (t := 9) rfl (.cons (t := 49) rfl (.cons (t := 50) rfl (.cons (t := 51) rfl (.cons (t := 52) rfl (.cons (t := 53) rfl (.cons (t := 54) rfl (.cons (t := 55) rfl (.cons (t := 56) rfl (.cons (t := 57) rfl (.cons (t := 58) rfl (.cons (t := 59) rfl (.cons (t := 60) rfl (.cons (t := 61) rfl (.cons (t := 62) rfl (.cons (t := 63) rfl (.cons (t := 64) rfl (.cons (t := 65) rfl (.cons (t := 66) rfl (.cons (t := 67) rfl (.cons (t := 68) rfl (.cons (t := 69) rfl (.cons (t := 70) rfl (.cons (t := 71) rfl (.cons (t := 72) rfl (.cons (t := 73) rfl (.cons (t := 74) rfl (.cons (t := 75) rfl (.cons (t := 76) rfl .nil)))))))))))))))))))))))))))))))) (.cons (t := 101) rfl (.cons (t := 103) rfl .nil)) ?_
                      refine W.ret ?_
                      refine E.inr ?_
                      refine E.thr ?_
                      refine E.thr ?_
                      refine E.inr ?_
                      refine E.thr ?_
                      refine E.fin (rs := [_]) (rn []) (.inl rfl) rfl (.cons (ResOne.tmp rfl) .nil) ?_ ?_ rfl (fixL_spec rfl)
                      · skip
                        exfalso
                        have hcl := classes hv (k := j) (by omega) (by simp_all)
                        first | exact hcl (.inl (by simp_all)) | exact hcl (.inr (by simp_all))
                      · exact SubS.nil
                    · skip
                      refine W.skip ?_
                      refine E.inn ?_
                      refine E.to ?_
                      refine W.pick (.cons (t := 3) rfl (.cons (t := 5) rfl (.cons (t := 9) rfl (.cons (t := 49) rfl (.cons (t := 50) rfl (.cons (t := 51) rfl (.cons (t := 52) rfl (.cons (t := 53) rfl (.cons (t := 54) rfl (.cons (t := 55) rfl (.cons (t := 56) rfl (.cons (t := 57) rfl (.cons (t := 58) rfl (.cons (t := 59) rfl (.cons (t := 60) rfl (.cons (t := 61) rfl (.cons (t := 62) rfl (.cons (t := 63) rfl (.cons (t := 64) rfl (.cons (t := 65) rfl (.cons (t := 66) rfl (.cons (t := 67) rfl (.cons (t := 68) rfl (.cons (t := 69) rfl (.cons (t := 70) rfl (.cons (t := 71) rfl (.cons (t := 72) rfl (.cons (t := 73) rfl (.cons (t := 74) rfl (.cons (t := 75) rfl (.cons (t := 76) rfl .nil))))))))))))))))))))))))))))))) (.cons (t := 101) rfl (.cons (t := 103) rfl .nil)) ?_
                      refine W.region ?_
                      refine SL.val (O.det (fun _ => by first | exact G.R.add64 rfl rfl (by omega) | exact G.R.add rfl rfl) rfl Taken.no) ?_
                      refine SL.val (O.move rfl rfl Taken.no) ?_
                      refine SL.nil ?_
                      refine E.again ((j + 1)) (rn []) ?_ ?_ rfl (fixL_spec rfl) ?_ ?_
                      · exact (SubF.cons rfl (SubF.cons rfl (SubF.cons rfl (SubF.cons rfl (SubF.cons rfl SubF.nil)))))
                      · exact (SubS.cons rfl SubS.nil)
                      · try dsimp only
                        omega
                      · (try dsimp only); omega
                  · skip
                    first | have hg11p := G.gA5 hg11 | have hg11p := G.gA6 hg11 | have hg11p := hg11
                    refine SL.skip (OpOk.not rfl rfl rfl hg11) ?_
                    refine SL.skip (OpOk.not rfl rfl rfl hg11) ?_
                    refine SL.skip (OpOk.not rfl rfl rfl hg11) ?_
                    refine SL.skip (OpOk.not rfl rfl rfl hg11) ?_
                    refine SL.skip (OpOk.not rfl rfl rfl hg11) ?_
                    refine SL.val (O.pick_f rfl (G.ne_t hg11) rfl rfl (Taken.yes rfl rfl hg10)) ?_
                    refine SL.val (O.pick_f rfl hg10 rfl rfl (Taken.yes rfl rfl hg8)) ?_
                    refine SL.val (O.pick_t rfl hg8 rfl rfl Taken.no) ?_
                    refine SL.nil ?_
                    refine E.to ?_
                    refine W.pick (.cons (t := 3) rfl (.cons (t := 5) rfl (.cons (t := 9) rfl (.cons (t := 49) rfl (.cons (t := 50) rfl (.cons (t := 51) rfl (.cons (t := 52) rfl (.cons (t := 53) rfl (.cons (t := 54) rfl (.cons (t := 55) rfl (.cons (t := 56) rfl (.cons (t := 57) rfl (.cons (t := 58) rfl (.cons (t := 59) rfl (.cons (t := 60) rfl (.cons (t := 61) rfl (.cons (t := 62) rfl (.cons (t := 63) rfl (.cons (t := 64) rfl (.cons (t := 65) rfl (.cons (t := 66) rfl (.cons (t := 67) rfl (.cons (t := 68) rfl (.cons (t := 69) rfl (.cons (t := 70) rfl (.cons (t := 71) rfl (.cons (t := 72) rfl (.cons (t := 73) rfl (.cons (t := 74) rfl (.cons (t := 75) rfl (.cons (t := 76) rfl .nil))))))))))))))))))))))))))))))) (.cons (t := 101) rfl (.cons (t := 103) rfl .nil)) ?_
                    refine W.cond_f rfl ?_
                    refine W.skip ?_
                    refine E.inn ?_
                    refine E.to ?_
                    refine W.pick (.cons (t := 3) rfl (.cons (t := 5) rfl (.cons (t := 9) rfl (.cons (t := 49) rfl (.cons (t := 50) rfl (.cons (t := 51) rfl (.cons (t := 52) rfl (.cons (t := 53) rfl (.cons (t := 54) rfl (.cons (t := 55) rfl (.cons (t := 56) rfl (.cons (t := 57) rfl (.cons (t := 58) rfl (.cons (t := 59) rfl (.cons (t := 60) rfl (.cons (t := 61) rfl (.cons (t := 62) rfl (.cons (t := 63) rfl (.cons (t := 64) rfl (.cons (t := 65) rfl (.cons (t := 66) rfl (.cons (t := 67) rfl (.cons (t := 68) rfl (.cons (t := 69) rfl (.cons (t := 70) rfl (.cons (t := 71) rfl (.cons (t := 72) rfl (.cons (t := 73) rfl (.cons (t := 74) rfl (.cons (t := 75) rfl (.cons (t := 76) rfl .nil))))))))))))))))))))))))))))))) (.cons (t := 101) rfl (.cons (t := 103) rfl .nil)) ?_
                    refine W.region ?_
                    refine SL.val (O.det (fun _ => by first | exact G.R.add64 rfl rfl (by omega) | exact G.R.add rfl rfl) rfl Taken.no) ?_
                    refine SL.val (O.move rfl rfl Taken.no) ?_
                    refine SL.nil ?_
                    refine E.again ((j + 1)) (rn []) ?_ ?_ rfl (fixL_spec rfl) ?_ ?_
                    · exact (SubF.cons rfl (SubF.cons rfl (SubF.cons rfl (SubF.cons rfl (SubF.cons rfl SubF.nil)))))
                    · exact (SubS.cons rfl SubS.nil)
                    · try dsimp only
                      omega
                    · (try dsimp only); omega
                · skip
                  first | have hg10p := G.gA7 hg10 | have hg10p := G.gA8 hg10 | have hg10p := hg10
                  refine SL.skip (OpOk.not rfl rfl rfl hg10) ?_
                  refine SL.skip (OpOk.not rfl rfl rfl hg10) ?_
                  refine SL.skip (OpOk.not rfl rfl rfl hg10) ?_
                  refine SL.skip (OpOk.not2 rfl rfl rfl) ?_
                  refine SL.skip (OpOk.not2 rfl rfl rfl) ?_
                  refine SL.skip (OpOk.not2 rfl rfl rfl) ?_
                  refine SL.skip (OpOk.not2 rfl rfl rfl) ?_
                  refine SL.skip (OpOk.not2 rfl rfl rfl) ?_
                  refine SL.skip (OpOk.not rfl rfl rfl hg10) ?_
                  refine SL.val (O.pick_t rfl (G.ne_f hg10) rfl rfl (Taken.yes rfl rfl hg8)) ?_
                  refine SL.val (O.pick_t rfl hg8 rfl rfl Taken.no) ?_
                  refine SL.nil ?_
                  refine E.to ?_
                  refine W.pick (.cons (t := 3) rfl (.cons (t := 5) rfl (.cons (t := 9) rfl (.cons (t := 49) rfl (.cons (t := 50) rfl (.cons (t := 51) rfl (.cons (t := 52) rfl (.cons (t := 53) rfl (.cons (t := 54) rfl (.cons (t := 55) rfl (.cons (t := 56) rfl (.cons (t := 57) rfl (.cons (t := 58) rfl (.cons (t := 59) rfl (.cons (t := 60) rfl (.cons (t := 61) rfl (.cons (t := 62) rfl (.cons (t := 63) rfl (.cons (t := 64) rfl (.cons (t := 65) rfl (.cons (t := 66) rfl (.cons (t := 67) rfl (.cons (t := 68) rfl (.cons (t := 69) rfl (.cons (t := 70) rfl (.cons (t := 71) rfl (.cons (t := 72) rfl (.cons (t := 73) rfl (.cons (t := 74) rfl (.cons (t := 75) rfl (.cons (t := 76) rfl .nil))))))))))))))))))))))))))))))) (.cons (t := 101) rfl (.cons (t := 103) rfl .nil)) ?_
                  refine W.cond_t rfl ?_
                  refine W.seq ?_
                  refine W.region ?_
                  refine SL.val (O.assign rfl rfl Taken.no) ?_
                  refine SL.nil ?_
                  refine E.to ?_
                  refine W.pick (.cons (t := 2) rfl (.cons (t := 3) rfl (.cons (t := 5) rfl (.cons (t := 9) rfl (.cons (t := 49) rfl (.cons (t := 50) rfl (.cons (t := 51) rfl (.cons (t := 52) rfl (.cons (t := 53) rfl (.cons (t := 54) rfl (.cons (t := 55) rfl (.cons (t := 56) rfl (.cons (t := 57) rfl (.cons (t := 58) rfl (.cons (t := 59) rfl (.cons (t := 60) rfl (.cons (t := 61) rfl (.cons (t := 62) rfl (.cons (t := 63) rfl (.cons (t := 64) rfl (.cons (t := 65) rfl (.cons (t := 66) rfl (.cons (t := 67) rfl (.cons (t := 68) rfl (.cons (t := 69) rfl (.cons (t := 70) rfl (.cons (t := 71) rfl (.cons (t := 72) rfl (.cons (t := 73) rfl (.cons (t := 74) rfl (.cons (t := 75) rfl (.cons (t := 76) rfl .nil)))))))))))))))))))))))))))))))) (.cons (t := 101) rfl (.cons (t := 103) rfl .nil)) ?_
                  refine W.ret ?_
                  refine E.inr ?_
                  refine E.thr ?_
                  refine E.thr ?_
                  refine E.inr ?_
                  refine E.thr ?_
                  refine E.fin (rs := [_]) (rn []) (.inl rfl) rfl (.cons (ResOne.tmp rfl) .nil) ?_ ?_ rfl (fixL_spec rfl)
                  · skip
                    exfalso
                    have hcl := classes hv (k := j) (by omega) (by simp_all)
                    first | exact hcl (.inl (by simp_all)) | exact hcl (.inr (by simp_all))
                  · exact SubS.nil
              · skip
                first | have hg9p := G.gA5 hg9 | have hg9p := G.gA6 hg9 | have hg9p := hg9
                refine SL.skip (OpOk.not rfl rfl rfl hg9) ?_
                refine SL.skip (OpOk.not rfl rfl rfl hg9) ?_
                refine SL.skip (OpOk.not rfl rfl rfl hg9) ?_
                refine SL.val (O.pick_f rfl (G.ne_t hg9) rfl rfl (Taken.yes rfl rfl hg8)) ?_
                refine SL.val (O.move rfl rfl (Taken.yes rfl rfl hg8)) ?_
                have hg13 : false = false := by decide
                refine SL.val (O.move rfl rfl (Taken.yes rfl rfl hg13)) ?_
                refine SL.val (O.det (fun _ => G.R.not rfl) rfl (Taken.yes rfl rfl hg13)) ?_
                refine SL.val (O.move rfl rfl (Taken.yes rfl rfl hg13)) ?_
                refine SL.case (j := 13) (g := 68) (want := true) rfl rfl (fun hg14 => ?_) (fun hg14 => ?_)
                · skip
                  first | have hg14p := G.gA1 hg14 | have hg14p := G.gA2 hg14 | have hg14p := hg14
                  refine SL.val (O.fld_ref (o' := 2) rfl Try.underlying32 rfl (m := 0) (by kernel_rfl) rfl rfl (Taken.yes rfl rfl hg14)) ?_
                  refine SL.val (O.ld1 (PtI.ref rfl rfl) rfl Try.underlying3 rfl rfl (Taken.yes rfl rfl hg14)) ?_
                  refine SL.val (O.fld_ref (o' := 2) rfl Try.underlying26 rfl (m := 0) (by kernel_rfl) rfl rfl (Taken.yes rfl rfl hg14)) ?_
                  refine SL.val (O.ld1 (PtI.ref rfl rfl) rfl Try.underlying3 rfl rfl (Taken.yes rfl rfl hg14)) ?_
                  refine SL.val (O.det (fun _ => G.R.leq rfl rfl) rfl (Taken.yes rfl rfl hg14)) ?_
                  refine SL.val (O.pick_t rfl hg14 rfl rfl (Taken.yes rfl rfl hg13)) ?_
                  refine SL.val (O.pick_f rfl rfl rfl rfl (Taken.yes rfl rfl hg8)) ?_
                  refine SL.val (O.pick_t rfl hg8 rfl rfl Taken.no) ?_
                  refine SL.nil ?_
                  refine E.to ?_
                  refine W.pick (.cons (t := 3) rfl (.cons (t := 5) rfl (.cons (t := 9) rfl (.cons (t := 49) rfl (.cons (t := 50) rfl (.cons (t := 51) rfl (.cons (t := 52) rfl (.cons (t := 53) rfl (.cons (t := 54) rfl (.cons (t := 55) rfl (.cons (t := 56) rfl (.cons (t := 57) rfl (.cons (t := 58) rfl (.cons (t := 59) rfl (.cons (t := 60) rfl (.cons (t := 61) rfl (.cons (t := 62) rfl (.cons (t := 63) rfl (.cons (t := 64) rfl (.cons (t := 65) rfl (.cons (t := 66) rfl (.cons (t := 67) rfl (.cons (t := 68) rfl (.cons (t := 69) rfl (.cons (t := 70) rfl (.cons (t := 71) rfl (.cons (t := 72) rfl (.cons (t := 73) rfl (.cons (t := 74) rfl (.cons (t := 75) rfl (.cons (t := 76) rfl .nil))))))))))))))))))))))))))))))) (.cons (t := 101) rfl (.cons (t := 103) rfl .nil)) ?_
                  first | refine W.cond_d rfl (fun hc15 => ?_) (fun hc15 => ?_) | refine W.cond_nd rfl (fun hc15 => ?_) (fun hc15 => ?_) | refine W.cond rfl (fun hc15 => ?_) (fun hc15 => ?_)
                  · skip
                    refine W.seq ?_
                    refine W.region ?_
                    refine SL.val (O.assign rfl rfl Taken.no) ?_
                    refine SL.nil ?_
                    refine E.to ?_
                    refine W.pick (.cons (t := 2) rfl (.cons (t := 3) rfl (.cons (t := 5) rfl (.cons (t := 9) rfl (.cons (t := 49) rfl (.cons (t := 50) rfl (.cons (t := 51) rfl (.cons (t := 52) rfl (.cons (t := 53) rfl (.cons (t := 54) rfl (.cons (t := 55) rfl (.cons (t := 56) rfl (.cons (t := 57) rfl (.cons (t := 58) rfl (.cons (t := 59) rfl (.cons (t := 60) rfl (.cons (t := 61) rfl (.cons (t := 62) rfl (.cons (t := 63) rfl (.cons (t := 64) rfl (.cons (t := 65) rfl (.cons (t := 66) rfl (.cons (t := 67) rfl (.cons (t := 68) rfl (.cons (t := 69) rfl (.cons (t := 70) rfl (.cons (t := 71) rfl (.cons (t := 72) rfl (.cons (t := 73) rfl (.cons (t := 74) rfl (.cons (t := 75) rfl (.cons (t := 76) rfl .nil)))))))))))))))))))))))))))))))) (.cons (t := 101) rfl (.cons (t := 103) rfl .nil)) ?_
                    refine W.ret ?_
                    refine E.inr ?_
                    refine E.thr ?_
                    refine E.thr ?_
                    refine E.inr ?_
                    refine E.thr ?_
                    refine E.fin (rs := [_]) (rn []) (.inl rfl) rfl (.cons (ResOne.tmp rfl) .nil) ?_ ?_ rfl (fixL_spec rfl)
                    · skip
                      exfalso
                      have hcl := classes hv (k := j) (by omega) (by simp_all)
                      first | exact hcl (.inl (by simp_all)) | exact hcl (.inr (by simp_all))
                    · exact SubS.nil
                  · skip
                    refine W.skip ?_
                    refine E.inn ?_
                    refine E.to ?_
                    refine W.pick (.cons (t := 3) rfl (.cons (t := 5) rfl (.cons (t := 9) rfl (.cons (t := 49) rfl (.cons (t := 50) rfl (.cons (t := 51) rfl (.cons (t := 52) rfl (.cons (t := 53) rfl (.cons (t := 54) rfl (.cons (t := 55) rfl (.cons (t := 56) rfl (.cons (t := 57) rfl (.cons (t := 58) rfl (.cons (t := 59) rfl (.cons (t := 60) rfl (.cons (t := 61) rfl (.cons (t := 62) rfl (.cons (t := 63) rfl (.cons (t := 64) rfl (.cons (t := 65) rfl (.cons (t := 66) rfl (.cons (t := 67) rfl (.cons (t := 68) rfl (.cons (t := 69) rfl (.cons (t := 70) rfl (.cons (t := 71) rfl (.cons (t := 72) rfl (.cons (t := 73) rfl (.cons (t := 74) rfl (.cons (t := 75) rfl (.cons (t := 76) rfl .nil))))))))))))))))))))))))))))))) (.cons (t := 101) rfl (.cons (t := 103) rfl .nil)) ?_
                    refine W.region ?_
                    refine SL.val (O.det (fun _ => by first | exact G.R.add64 rfl rfl (by omega) | exact G.R.add rfl rfl) rfl Taken.no) ?_
                    refine SL.val (O.move rfl rfl Taken.no) ?_
                    refine SL.nil ?_
                    refine E.again ((j + 1)) (rn []) ?_ ?_ rfl (fixL_spec rfl) ?_ ?_
                    · exact (SubF.cons rfl (SubF.cons rfl (SubF.cons rfl (SubF.cons rfl (SubF.cons rfl SubF.nil)))))
                    · exact (SubS.cons rfl SubS.nil)
                    · try dsimp only
                      omega
                    · (try dsimp only); omega
                · skip
                  first | have hg14p := G.gA5 hg14 | have hg14p := G.gA6 hg14 | have hg14p := hg14
                  refine SL.skip (OpOk.not rfl rfl rfl hg14) ?_
                  refine SL.skip (OpOk.not rfl rfl rfl hg14) ?_
                  refine SL.skip (OpOk.not rfl rfl rfl hg14) ?_
                  refine SL.skip (OpOk.not rfl rfl rfl hg14) ?_
                  refine SL.skip (OpOk.not rfl rfl rfl hg14) ?_
                  refine SL.val (O.pick_f rfl (G.ne_t hg14) rfl rfl (Taken.yes rfl rfl hg13)) ?_
                  refine SL.val (O.pick_f rfl rfl rfl rfl (Taken.yes rfl rfl hg8)) ?_
                  refine SL.val (O.pick_t rfl hg8 rfl rfl Taken.no) ?_
                  refine SL.nil ?_
                  refine E.to ?_
                  refine W.pick (.cons (t := 3) rfl (.cons (t := 5) rfl (.cons (t := 9) rfl (.cons (t := 49) rfl (.cons (t := 50) rfl (.cons (t := 51) rfl (.cons (t := 52) rfl (.cons (t := 53) rfl (.cons (t := 54) rfl (.cons (t := 55) rfl (.cons (t := 56) rfl (.cons (t := 57) rfl (.cons (t := 58) rfl (.cons (t := 59) rfl (.cons (t := 60) rfl (.cons (t := 61) rfl (.cons (t := 62) rfl (.cons (t := 63) rfl (.cons (t := 64) rfl (.cons (t := 65) rfl (.cons (t := 66) rfl (.cons (t := 67) rfl (.cons (t := 68) rfl (.cons (t := 69) rfl (.cons (t := 70) rfl (.cons (t := 71) rfl (.cons (t := 72) rfl (.cons (t := 73) rfl (.cons (t := 74) rfl (.cons (t := 75) rfl (.cons (t := 76) rfl .nil))))))))))))))))))))))))))))))) (.cons (t := 101) rfl (.cons (t := 103) rfl .nil)) ?_
                  refine W.cond_f rfl ?_
                  refine W.skip ?_
                  refine E.inn ?_
                  refine E.to ?_
                  refine W.pick (.cons (t := 3) rfl (.cons (t := 5) rfl (.cons (t := 9) rfl (.cons (t := 49) rfl (.cons (t := 50) rfl (.cons (t := 51) rfl (.cons (t := 52) rfl (.cons (t := 53) rfl (.cons (t := 54) rfl (.cons (t := 55) rfl (.cons (t := 56) rfl (.cons (t := 57) rfl (.cons (t := 58) rfl (.cons (t := 59) rfl (.cons (t := 60) rfl (.cons (t := 61) rfl (.cons (t := 62) rfl (.cons (t := 63) rfl (.cons (t := 64) rfl (.cons (t := 65) rfl (.cons (t := 66) rfl (.cons (t := 67) rfl (.cons (t := 68) rfl (.cons (t := 69) rfl (.cons (t := 70) rfl (.cons (t := 71) rfl (.cons (t := 72) rfl (.cons (t := 73) rfl (.cons (t := 74) rfl (.cons (t := 75) rfl (.cons (t := 76) rfl .nil))))))))))))))))))))))))))))))) (.cons (t := 101) rfl (.cons (t := 103) rfl .nil)) ?_
                  refine W.region ?_
                  refine SL.val (O.det (fun _ => by first | exact G.R.add64 rfl rfl (by omega) | exact G.R.add rfl rfl) rfl Taken.no) ?_
                  refine SL.val (O.move rfl rfl Taken.no) ?_
                  refine SL.nil ?_
                  refine E.again ((j + 1)) (rn []) ?_ ?_ rfl (fixL_spec rfl) ?_ ?_
                  · exact (SubF.cons rfl (SubF.cons rfl (SubF.cons rfl (SubF.cons rfl (SubF.cons rfl SubF.nil)))))
                  · exact (SubS.cons rfl SubS.nil)
                  · try dsimp only
                    omega
                  · (try dsimp only); omega
            · skip
              first | have hg8p := G.gA5 hg8 | have hg8p := G.gA6 hg8 | have hg8p := hg8
              refine SL.skip (OpOk.not rfl rfl rfl hg8) ?_
              refine SL.skip (OpOk.not rfl rfl rfl hg8) ?_
              refine SL.skip (OpOk.not2 rfl rfl rfl) ?_
              refine SL.skip (OpOk.not2 rfl rfl rfl) ?_
              refine SL.skip (OpOk.not2 rfl rfl rfl) ?_
              refine SL.skip (OpOk.not rfl rfl rfl hg8) ?_
              refine SL.skip (OpOk.not rfl rfl rfl hg8) ?_
              refine SL.skip (OpOk.not2 rfl rfl rfl) ?_
              refine SL.skip (OpOk.not2 rfl rfl rfl) ?_
              refine SL.skip (OpOk.not2 rfl rfl rfl) ?_
              refine SL.skip (OpOk.not2 rfl rfl rfl) ?_
              refine SL.skip (OpOk.not2 rfl rfl rfl) ?_
              refine SL.skip (OpOk.not2 rfl rfl rfl) ?_
              refine SL.skip (OpOk.not2 rfl rfl rfl) ?_
              refine SL.skip (OpOk.not2 rfl rfl rfl) ?_
              refine SL.skip (OpOk.not2 rfl rfl rfl) ?_
              refine SL.skip (OpOk.not rfl rfl rfl hg8) ?_
              refine SL.val (O.pick_f rfl (G.ne_t hg8) rfl rfl Taken.no) ?_
              refine SL.nil ?_
              refine E.to ?_
              refine W.pick (.cons (t := 3) rfl (.cons (t := 5) rfl (.cons (t := 9) rfl (.cons (t := 49) rfl (.cons (t := 50) rfl (.cons (t := 51) rfl (.cons (t := 52) rfl (.cons (t := 53) rfl (.cons (t := 54) rfl (.cons (t := 55) rfl (.cons (t := 56) rfl (.cons (t := 57) rfl (.cons (t := 58) rfl (.cons (t := 59) rfl (.cons (t := 60) rfl (.cons (t := 61) rfl (.cons (t := 62) rfl (.cons (t := 63) rfl (.cons (t := 64) rfl (.cons (t := 65) rfl (.cons (t := 66) rfl (.cons (t := 67) rfl (.cons (t := 68) rfl (.cons (t := 69) rfl (.cons (t := 70) rfl (.cons (t := 71) rfl (.cons (t := 72) rfl (.cons (t := 73) rfl (.cons (t := 74) rfl (.cons (t := 75) rfl (.cons (t := 76) rfl .nil))))))))))))))))))))))))))))))) (.cons (t := 101) rfl (.cons (t := 103) rfl .nil)) ?_
              refine W.cond_f rfl ?_
              refine W.skip ?_
              refine E.inn ?_
              refine E.to ?_
              refine W.pick (.cons (t := 3) rfl (.cons (t := 5) rfl (.cons (t := 9) rfl (.cons (t := 49) rfl (.cons (t := 50) rfl (.cons (t := 51) rfl (.cons (t := 52) rfl (.cons (t := 53) rfl (.cons (t := 54) rfl (.cons (t := 55) rfl (.cons (t := 56) rfl (.cons (t := 57) rfl (.cons (t := 58) rfl (.cons (t := 59) rfl (.cons (t := 60) rfl (.cons (t := 61) rfl (.cons (t := 62) rfl (.cons (t := 63) rfl (.cons (t := 64) rfl (.cons (t := 65) rfl (.cons (t := 66) rfl (.cons (t := 67) rfl (.cons (t := 68) rfl (.cons (t := 69) rfl (.cons (t := 70) rfl (.cons (t := 71) rfl (.cons (t := 72) rfl (.cons (t := 73) rfl (.cons (t := 74) rfl (.cons (t := 75) rfl (.cons (t := 76) rfl .nil))))))))))))))))))))))))))))))) (.cons (t := 101) rfl (.cons (t := 103) rfl .nil)) ?_
              refine W.region ?_
              refine SL.val (O.det (fun _ => by first | exact G.R.add64 rfl rfl (by omega) | exact G.R.add rfl rfl) rfl Taken.no) ?_
              refine SL.val (O.move rfl rfl Taken.no) ?_
              refine SL.nil ?_
              refine E.again ((j + 1)) (rn []) ?_ ?_ rfl (fixL_spec rfl) ?_ ?_
              · exact (SubF.cons rfl (SubF.cons rfl (SubF.cons rfl (SubF.cons rfl (SubF.cons rfl SubF.nil)))))
              · exact (SubS.cons rfl SubS.nil)
              · try dsimp only
                omega
              · (try dsimp only); omega
          · skip
            refine W.exit ?_
            refine E.th ?_
            refine E.th ?_
            refine E.hit ?_
            refine E.to ?_
            refine W.seq ?_
            refine W.region ?_
            refine SL.val (O.move rfl rfl Taken.no) ?_
            refine SL.val (O.det (fun _ => G.R.not rfl) rfl Taken.no) ?_
            refine SL.val (O.move rfl rfl Taken.no) ?_
            refine SL.case (j := 2) (g := 80) (want := false) rfl rfl (fun hg16 => ?_) (fun hg16 => ?_)
            · skip
              first | have hg16p := G.gA3 hg16 | have hg16p := G.gA4 hg16 | have hg16p := hg16
              refine SL.val (O.fld_ref (o' := 4) rfl Try.underlying26 rfl (m := 0) (by kernel_rfl) rfl rfl (Taken.yes rfl rfl hg16)) ?_
              refine SL.val (O.ld1 (PtI.ref rfl rfl) rfl Try.underlying3 rfl rfl (Taken.yes rfl rfl hg16)) ?_
              refine SL.val (O.det (fun _ => G.R.eql rfl rfl) rfl (Taken.yes rfl rfl hg16)) ?_
              refine SL.val (O.pick_f rfl hg16 rfl rfl Taken.no) ?_
              refine SL.val (O.assign rfl rfl Taken.no) ?_
              refine SL.nil ?_
              refine E.to ?_
              refine W.ret ?_
              refine E.fin (rs := [_]) (rn []) (.inl rfl) rfl (.cons (ResOne.tmp rfl) .nil) ?_ ?_ rfl (fixL_spec rfl)
              · skip
                have hno := next_ov hv hl
                first | rfl | (exact iv_bool (by simp_all))
              · exact SubS.nil
            · skip
              first | have hg16p := G.gA7 hg16 | have hg16p := G.gA8 hg16 | have hg16p := hg16
              refine SL.skip (OpOk.not rfl rfl rfl hg16) ?_
              refine SL.skip (OpOk.not rfl rfl rfl hg16) ?_
              refine SL.skip (OpOk.not rfl rfl rfl hg16) ?_
              refine SL.val (O.pick_t rfl (G.ne_f hg16) rfl rfl Taken.no) ?_
              refine SL.val (O.assign rfl rfl Taken.no) ?_
              refine SL.nil ?_
              refine E.to ?_
              refine W.ret ?_
              refine E.fin (rs := [_]) (rn []) (.inl rfl) rfl (.cons (ResOne.tmp rfl) .nil) ?_ ?_ rfl (fixL_spec rfl)
              · skip
                have hno := next_ov hv hl
                first | rfl | (exact iv_bool (by simp_all))
              · exact SubS.nil
    · skip
      first | have hg3p := G.gA7 hg3 | have hg3p := G.gA8 hg3 | have hg3p := hg3
      refine SL.skip (OpOk.not rfl rfl rfl hg3) ?_
      refine SL.skip (OpOk.not rfl rfl rfl hg3) ?_
      refine SL.skip (OpOk.not rfl rfl rfl hg3) ?_
      refine SL.val (O.pick_t rfl (G.ne_f hg3) rfl rfl Taken.no) ?_
      refine SL.nil ?_
      refine E.to ?_
      refine W.cond_t rfl ?_
      refine W.seq ?_
      refine W.region ?_
      refine SL.val (O.callp rfl rfl rfl (awake_h) .nil hcallOk9 rfl Taken.no) ?_
      refine SL.as (i' := vB true) 27 rfl (by exact iv_bool (rfl)) ?_
      refine SL.val (O.assign rfl rfl Taken.no) ?_
      refine SL.nil ?_
      refine E.to ?_
      refine W.ret ?_
      refine E.thr ?_
      refine E.fin (rs := [_]) (rn []) (.inl rfl) rfl (.cons (ResOne.tmp rfl) .nil) ?_ ?_ rfl (fixL_spec rfl)
      · skip
        rfl
      · exact SubS.nil
  · skip
    first | have hg2p := G.gA7 hg2 | have hg2p := G.gA8 hg2 | have hg2p := hg2
    refine SL.skip (OpOk.not rfl rfl rfl hg2) ?_
    refine SL.skip (OpOk.not rfl rfl rfl hg2) ?_
    refine SL.skip (OpOk.not rfl rfl rfl hg2) ?_
    refine SL.val (O.pick_t rfl (G.ne_f hg2) rfl rfl Taken.no) ?_
    refine SL.val (O.move rfl rfl Taken.no) ?_
    have hg17 : true ≠ false := by decide
    refine SL.skip (OpOk.not rfl rfl rfl hg17) ?_
    refine SL.skip (OpOk.not rfl rfl rfl hg17) ?_
    refine SL.skip (OpOk.not rfl rfl rfl hg17) ?_
    refine SL.val (O.pick_t rfl rfl rfl rfl Taken.no) ?_
    refine SL.nil ?_
    refine E.to ?_
    refine W.cond_t rfl ?_
    refine W.seq ?_
    refine W.region ?_
    refine SL.val (O.callp rfl rfl rfl (awake_h) .nil hcallOk9 rfl Taken.no) ?_
    refine SL.as (i' := vB true) 27 rfl (by exact iv_bool (rfl)) ?_
    refine SL.val (O.assign rfl rfl Taken.no) ?_
    refine SL.nil ?_
    refine E.to ?_
    refine W.ret ?_
    refine E.thr ?_
    refine E.fin (rs := [_]) (rn []) (.inl rfl) rfl (.cons (ResOne.tmp rfl) .nil) ?_ ?_ rfl (fixL_spec rfl)
    · skip
      rfl
    · exact SubS.nil

theorem drop4 {L : Nat → Int} : ∀ {c : Nat}, c < 4 → ([vI (L 0), vI (L 1), vI (L 2), vI (L 3)] : List IV).drop (0 + c * 1) = vI (L c) :: ([vI (L 0), vI (L 1), vI (L 2), vI (L 3)] : List IV).drop (c + 1)
  | 0, _ => rfl
  | 1, _ => rfl
  | 2, _ => rfl
  | 3, _ => rfl
theorem set4 {L : Nat → Int} {v : Int} : ∀ {c : Nat}, c < 4 → ([vI (L 0), vI (L 1), vI (L 2), vI (L 3)] : List IV).take (0 + c * 1) ++ [vI v] ++ ([vI (L 0), vI (L 1), vI (L 2), vI (L 3)] : List IV).drop (0 + c * 1 + 1) = [vI (upd L c v 0), vI (upd L c v 1), vI (upd L c v 2), vI (upd L c v 3)]
  | 0, _ => rfl
  | 1, _ => rfl
  | 2, _ => rfl
  | 3, _ => rfl

/-- bookplate/bookplatelaw57.HoldEveryone. -/
theorem holdEveryone_h {q : List Hd} :
    Con Try.prog 5 [vL 5 (q.map eH)] [] (vB true) [] := by
  obtain ⟨i3, hi3, hz3, hs3, hb3⟩ := hinf3
  obtain ⟨i32, hi32, hz32, hs32, hb32⟩ := hinf32
  refine Con.enterL (n := 120) Try.func5 rfl rfl rfl (fun τ w ok vs hin => ?_)
  have hl0 := hin.len (i := 0) rfl
  try rw [List.length_map] at hl0
  clear hin
  refine W.seq ?_
  refine W.region ?_
  refine SL.val (O.assign rfl rfl Taken.no) ?_
  refine SL.nil ?_
  refine E.to ?_
  refine W.seq ?_
  refine W.seq ?_
  refine W.region ?_
  refine SL.val (O.callp rfl rfl rfl (awake_h) .nil hcallOk9 rfl Taken.no) ?_
  refine SL.as (i' := vB true) 16 rfl (by exact iv_bool (rfl)) ?_
  refine SL.val (O.det (fun _ => G.R.mv (G.R.not rfl) rfl) rfl Taken.no) ?_
  refine SL.val (O.move rfl rfl Taken.no) ?_
  have hg1 : false = false := by decide
  refine SL.val (O.move rfl rfl (Taken.yes rfl rfl hg1)) ?_
  refine SL.val (O.callp rfl rfl rfl (few_h) (.cons (ArgOk.same rfl) .nil) hcallOk10 rfl (Taken.yes rfl rfl hg1)) ?_
  refine SL.val (O.det (fun _ => G.R.not rfl) rfl (Taken.yes rfl rfl hg1)) ?_
  refine SL.val (O.pick_f rfl rfl rfl rfl Taken.no) ?_
  refine SL.val (O.move rfl rfl Taken.no) ?_
  refine SL.case (j := 7) (g := 23) (want := false) rfl rfl (fun hg2 => ?_) (fun hg2 => ?_)
  · skip
    first | have hg2p := G.gA3 hg2 | have hg2p := G.gA4 hg2 | have hg2p := hg2
    refine SL.val (O.move rfl rfl (Taken.yes rfl rfl hg2)) ?_
    refine SL.val (O.callp rfl rfl rfl (refvalid_h) (.cons (ArgOk.same rfl) .nil) hcallOk24 rfl (Taken.yes rfl rfl hg2)) ?_
    refine SL.val (O.det (fun _ => G.R.not rfl) rfl (Taken.yes rfl rfl hg2)) ?_
    refine SL.val (O.pick_f rfl hg2 rfl rfl Taken.no) ?_
    refine SL.nil ?_
    refine E.to ?_
    first | refine W.cond_d rfl (fun hc3 => ?_) (fun hc3 => ?_) | refine W.cond_nd rfl (fun hc3 => ?_) (fun hc3 => ?_) | refine W.cond rfl (fun hc3 => ?_) (fun hc3 => ?_)
    · skip
      refine W.seq ?_
      refine W.region ?_
      refine SL.val (O.callp rfl rfl rfl (awake_h) .nil hcallOk9 rfl Taken.no) ?_
      refine SL.as (i' := vB true) 28 rfl (by exact iv_bool (rfl)) ?_
      refine SL.val (O.assign rfl rfl Taken.no) ?_
      refine SL.nil ?_
      refine E.to ?_
      refine W.ret ?_
      refine E.thr ?_
      refine E.fin (rs := [_]) (rn []) (.inl rfl) rfl (.cons (ResOne.tmp rfl) .nil) ?_ ?_ rfl (fixL_spec rfl)
      · skip
        rfl
      · exact SubS.nil
    · skip
      have hv : validQ q := by first | assumption | (rename_i z; simpa using z)
      have h61 := hv.2
      have hol := ordQ_length hv
      refine W.skip ?_
      refine E.to ?_
      refine W.seq ?_
      refine W.region ?_
      refine SL.val (O.move rfl rfl Taken.no) ?_
      refine SL.val (O.callp rfl rfl rfl (own_h (by omega)) (.cons (ArgOk.same rfl) .nil) hcallOk12 rfl Taken.no) ?_
      refine SL.memS (O.call (rn []) [] rfl rfl rfl (holdOrder_h (q := q)) (.cons (ArgOk.same rfl) .nil) SubS.nil rfl rfl rfl rfl rfl (.inl rfl) hcallOk16 (r' := .tup [.u _, .u _]) rfl rfl Taken.no) rfl rfl (S' := _) rfl ?_
      refine SL.as (i' := .tup [vL 1 ((ordQ q).map eI), vI 0]) 32 rfl (by rw [ordE, if_pos hv]) ?_
      refine SL.val (O.move rfl rfl Taken.no) ?_
      refine SL.val (O.extract rfl rfl rfl Taken.no) ?_
      refine SL.val (O.extract rfl rfl rfl Taken.no) ?_
      refine SL.val (O.assign rfl rfl Taken.no) ?_
      refine SL.val (O.assign rfl rfl Taken.no) ?_
      refine SL.nil ?_
      refine E.to ?_
      refine W.seq ?_
      refine W.seq ?_
      refine W.region ?_
      refine SL.val (O.move rfl rfl Taken.no) ?_
      refine SL.val (O.det (fun _ => G.R.mv (G.R.neq rfl rfl) (congrArg Value.bool (decide_eq_false (by decide)))) rfl Taken.no) ?_
      refine SL.val (O.move rfl rfl Taken.no) ?_
      have hg4 : false = false := by decide
      refine SL.val (O.move rfl rfl (Taken.yes rfl rfl hg4)) ?_
      refine SL.val (O.lenE (SlOf.fz rfl (by decide)) (by first | exact List.length_map _ | rfl) Try.underlying40 rfl (Taken.yes rfl rfl hg4)) ?_
      refine SL.val (O.move rfl rfl (Taken.yes rfl rfl hg4)) ?_
      refine SL.val (O.lenE (SlOf.fz rfl (by decide)) (by first | exact List.length_map _ | rfl) Try.underlying22 rfl (Taken.yes rfl rfl hg4)) ?_
      refine SL.val (O.det (fun _ => G.R.mv (G.R.neq rfl rfl) (congrArg Value.bool (decide_eq_false (by omega)))) rfl (Taken.yes rfl rfl hg4)) ?_
      refine SL.val (O.pick_f rfl rfl rfl rfl Taken.no) ?_
      refine SL.nil ?_
      refine E.to ?_
      refine W.pick (.cons (t := 0) rfl (.cons (t := 2) rfl (.cons (t := 3) rfl (.cons (t := 43) rfl .nil)))) .nil ?_
      refine W.cond_f rfl ?_
      refine W.skip ?_
      refine E.to ?_
      refine W.seq ?_
      refine W.region ?_
      refine SL.val (O.assign rfl rfl Taken.no) ?_
      refine SL.nil ?_
      refine E.to ?_
      refine W.seq ?_
      refine W.seq ?_
      refine W.region ?_
      refine SL.val (O.move rfl rfl Taken.no) ?_
      refine SL.val (O.lenE (SlOf.fz rfl (by decide)) (by first | exact List.length_map _ | rfl) Try.underlying22 rfl Taken.no) ?_
      refine SL.val (O.move rfl rfl Taken.no) ?_
      refine SL.nil ?_
      refine E.to ?_
      refine W.block ?_
      refine W.loopx1 (fun (k : Nat) => [(5, vB (frsh q k)), (46, vI (k : Int))]) (fun (k : Nat) => []) (fun (k : Nat) => k ≤ q.length) (fun (k : Nat) => q.length - k) (0) (rn []) (.cons (t := 0) rfl (.cons (t := 2) rfl (.cons (t := 3) rfl (.cons (t := 44) rfl (.cons (t := 45) rfl .nil))))) .nil rfl ?_ ?_ rfl rfl ?_ ?_
      · exact (SubF.cons rfl (SubF.cons rfl SubF.nil))
      · exact SubS.nil
      · skip
        omega
      intro k hinv
      have hk := hinv
      refine W.seq ?_
      refine W.region ?_
      refine SL.val (O.det (fun _ => G.R.lss rfl rfl) rfl Taken.no) ?_
      refine SL.nil ?_
      refine E.to ?_
      refine W.seq ?_
      first | refine W.cond_d rfl (fun hc5 => ?_) (fun hc5 => ?_) | refine W.cond_nd rfl (fun hc5 => ?_) (fun hc5 => ?_) | refine W.cond rfl (fun hc5 => ?_) (fun hc5 => ?_)
      · skip
        refine W.skip ?_
        refine E.to ?_
        refine W.seq ?_
        refine W.block ?_
        refine W.seq ?_
        refine W.region ?_
        refine SL.val (O.idx_fz rfl rfl (rfl) (row_get (by omega)) Try.underlying22 hi32 hs32 rfl Taken.no) ?_
        refine SL.val (O.ldU (m := 5) (PtU.fz rfl) rfl Try.underlying32 rfl (by kernel_rfl) rfl Taken.no) ?_
        refine SL.memS (O.alloc (z := .agg #[.int .i64 0, .int .i64 0, .int .i64 0, .int .i64 0, .int .i64 0]) (is := [.u (.sc (.int .i64 0)), .u (.sc (.int .i64 0)), .u (.sc (.int .i64 0)), .u (.sc (.int .i64 0)), .u (.sc (.int .i64 0))]) 101 (by kernel_rfl) rfl rfl rfl Taken.no) rfl rfl (S' := (101, _) :: _) rfl ?_
        refine SL.effS (O.st_ref (m := 5) rfl rfl rfl (js := [_, _, _, _, _]) rfl rfl (by kernel_rfl) (by simp) (Nat.le_of_ble_eq_true rfl) rfl (is' := [_, _, _, _, _]) rfl Taken.no) (S' := (101, _) :: _) rfl ?_
        refine SL.nil ?_
        refine E.to ?_
        refine W.region ?_
        refine SL.val (O.move rfl rfl Taken.no) ?_
        refine SL.val (O.move rfl rfl Taken.no) ?_
        refine SL.case (j := 1) (g := 51) (want := true) rfl rfl (fun hg6 => ?_) (fun hg6 => ?_)
        · skip
          first | have hg6p := G.gA1 hg6 | have hg6p := G.gA2 hg6 | have hg6p := hg6
          refine SL.val (O.fld_ref (o' := 4) rfl Try.underlying32 rfl (m := 0) (by kernel_rfl) rfl rfl (Taken.yes rfl rfl hg6)) ?_
          refine SL.val (O.ld1 (PtI.ref rfl rfl) rfl Try.underlying3 rfl rfl (Taken.yes rfl rfl hg6)) ?_
          refine SL.val (O.det (fun _ => G.R.eql rfl rfl) rfl (Taken.yes rfl rfl hg6)) ?_
          refine SL.val (O.pick_t rfl hg6 rfl rfl Taken.no) ?_
          refine SL.val (O.assign rfl rfl Taken.no) ?_
          refine SL.nil ?_
          refine E.inn ?_
          refine E.to ?_
          refine W.region ?_
          refine SL.val (O.det (fun _ => by first | exact G.R.add64 rfl rfl (by omega) | exact G.R.add rfl rfl) rfl Taken.no) ?_
          refine SL.val (O.move rfl rfl Taken.no) ?_
          refine SL.nil ?_
          refine E.again ((k + 1)) (rn []) ?_ ?_ rfl (fixL_spec rfl) ?_ ?_
          · exact (SubF.val rfl (by (try dsimp only); exact iv_bool (by rw [frsh_succ (by omega)]; simp_all)) (SubF.cons rfl (SubF.cons rfl (SubF.cons rfl (SubF.cons rfl (SubF.cons rfl (SubF.cons rfl SubF.nil)))))))
          · exact SubS.nil
          · try dsimp only
            omega
          · (try dsimp only); omega
        · skip
          first | have hg6p := G.gA5 hg6 | have hg6p := G.gA6 hg6 | have hg6p := hg6
          refine SL.skip (OpOk.not rfl rfl rfl hg6) ?_
          refine SL.skip (OpOk.not rfl rfl rfl hg6) ?_
          refine SL.skip (OpOk.not rfl rfl rfl hg6) ?_
          refine SL.val (O.pick_f rfl (G.ne_t hg6) rfl rfl Taken.no) ?_
          refine SL.val (O.assign rfl rfl Taken.no) ?_
          refine SL.nil ?_
          refine E.inn ?_
          refine E.to ?_
          refine W.region ?_
          refine SL.val (O.det (fun _ => by first | exact G.R.add64 rfl rfl (by omega) | exact G.R.add rfl rfl) rfl Taken.no) ?_
          refine SL.val (O.move rfl rfl Taken.no) ?_
          refine SL.nil ?_
          refine E.again ((k + 1)) (rn []) ?_ ?_ rfl (fixL_spec rfl) ?_ ?_
          · exact (SubF.val rfl (by (try dsimp only); exact iv_bool (by rw [frsh_succ (by omega)]; simp_all)) (SubF.cons rfl (SubF.cons rfl (SubF.cons rfl (SubF.cons rfl (SubF.cons rfl (SubF.cons rfl SubF.nil)))))))
          · exact SubS.nil
          · try dsimp only
            omega
          · (try dsimp only); omega
      · skip
        refine W.exit ?_
        refine E.th ?_
        refine E.th ?_
        refine E.hit ?_
        refine E.to ?_
        refine W.seq ?_
        refine W.region ?_
        refine SL.memS (O.alloc (z := .agg #[.int .i64 0, .int .i64 0, .int .i64 0, .int .i64 0]) (is := [.u (.sc (.int .i64 0)), .u (.sc (.int .i64 0)), .u (.sc (.int .i64 0)), .u (.sc (.int .i64 0))]) 102 (by kernel_rfl) rfl rfl rfl Taken.no) rfl rfl (S' := (102, _) :: _) rfl ?_
        refine SL.nil ?_
        refine E.to ?_
        refine W.seq ?_
        refine W.seq ?_
        refine W.region ?_
        refine SL.val (O.move rfl rfl Taken.no) ?_
        refine SL.val (O.lenE (SlOf.fz rfl (by decide)) (by first | exact List.length_map _ | rfl) Try.underlying40 rfl Taken.no) ?_
        refine SL.val (O.move rfl rfl Taken.no) ?_
        refine SL.nil ?_
        refine E.to ?_
        refine W.block ?_
        obtain rfl : k = q.length := by omega
        refine W.loopx2 (fun (i : Nat) (L : Nat → Int) => [(59, vI (i : Int))]) (fun (i : Nat) (L : Nat → Int) => [(102, .cells 53 [vI (L 0), vI (L 1), vI (L 2), vI (L 3)])]) (fun (i : Nat) (L : Nat → Int) => i ≤ q.length ∧ lastOk q L i) (fun (i : Nat) (L : Nat → Int) => q.length - i) (0) (fun _ => 0) (rn []) (.cons (t := 0) rfl (.cons (t := 5) rfl (.cons (t := 8) rfl (.cons (t := 57) rfl (.cons (t := 58) rfl .nil))))) .nil rfl ?_ ?_ rfl rfl ?_ ?_
        · exact (SubF.cons rfl SubF.nil)
        · exact (SubS.cons rfl SubS.nil)
        · skip
          exact ⟨by omega, last_0 q⟩
        intro i L hinv
        obtain ⟨hi, hL⟩ := hinv
        refine W.seq ?_
        refine W.region ?_
        refine SL.val (O.det (fun _ => G.R.lss rfl rfl) rfl Taken.no) ?_
        refine SL.nil ?_
        refine E.to ?_
        refine W.seq ?_
        first | refine W.cond_d rfl (fun hc7 => ?_) (fun hc7 => ?_) | refine W.cond_nd rfl (fun hc7 => ?_) (fun hc7 => ?_) | refine W.cond rfl (fun hc7 => ?_) (fun hc7 => ?_)
        · skip
          refine W.skip ?_
          refine E.to ?_
          refine W.seq ?_
          refine W.block ?_
          refine W.seq ?_
          refine W.region ?_
          have hiq : i < q.length := by omega
          obtain ⟨a, ha, hai, _⟩ := ord_idx hv hiq
          have hgo := ordQ_get hv hiq
          have hcl := (hv.1 a ha).1
          unfold goodH at hcl
          have hfa : fnd q (ordAt q i) q.length = a := by rw [← hai]; exact fnd_is hv ha ha (Nat.le_refl _)
          refine SL.val (O.move rfl rfl Taken.no) ?_
          refine SL.val (O.idx_fz rfl rfl (rfl) (row_get (by omega)) Try.underlying40 hi3 hs3 rfl Taken.no) ?_
          refine SL.val (O.ld1 (PtI.ofU (PtU.fz rfl)) rfl Try.underlying3 rfl rfl Taken.no) ?_
          refine SL.val (O.assign rfl rfl Taken.no) ?_
          refine SL.val (O.assign rfl rfl Taken.no) ?_
          refine SL.nil ?_
          refine E.to ?_
          refine W.seq ?_
          refine W.region ?_
          refine SL.val (O.move rfl rfl Taken.no) ?_
          refine SL.val (O.callp rfl rfl rfl (own_h (by omega)) (.cons (ArgOk.same rfl) .nil) hcallOk12 rfl Taken.no) ?_
          refine SL.val (O.move rfl rfl Taken.no) ?_
          refine SL.memS (O.call (rn []) [] rfl rfl rfl (holdRank_h (q := q) (ordQ q)[i]!) (.cons (ArgOk.same rfl) (.cons (ArgOk.same rfl) .nil)) SubS.nil rfl rfl rfl rfl rfl (.inl rfl) hcallOk18 (r' := .tup [.u _, .u _]) rfl rfl Taken.no) rfl rfl (S' := _) rfl ?_
          refine SL.as (i' := .tup [vI (i : Int), vI 0]) 68 rfl (by rw [hgo, (rank_is hv hiq).1, (rank_is hv hiq).2]) ?_
          refine SL.val (O.move rfl rfl Taken.no) ?_
          refine SL.val (O.extract rfl rfl rfl Taken.no) ?_
          refine SL.val (O.extract rfl rfl rfl Taken.no) ?_
          refine SL.val (O.assign rfl rfl Taken.no) ?_
          refine SL.val (O.assign rfl rfl Taken.no) ?_
          refine SL.nil ?_
          refine E.to ?_
          refine W.seq ?_
          refine W.region ?_
          refine SL.val (O.assign rfl rfl Taken.no) ?_
          refine SL.nil ?_
          refine E.to ?_
          refine W.seq ?_
          refine W.seq ?_
          refine W.region ?_
          refine SL.val (O.move rfl rfl Taken.no) ?_
          refine SL.val (O.lenE (SlOf.fz rfl (by decide)) (by first | exact List.length_map _ | rfl) Try.underlying22 rfl Taken.no) ?_
          refine SL.val (O.move rfl rfl Taken.no) ?_
          refine SL.nil ?_
          refine E.to ?_
          refine W.pick (.cons (t := 0) rfl (.cons (t := 5) rfl (.cons (t := 8) rfl (.cons (t := 9) rfl (.cons (t := 10) rfl (.cons (t := 11) rfl (.cons (t := 12) rfl (.cons (t := 13) rfl (.cons (t := 57) rfl (.cons (t := 58) rfl (.cons (t := 59) rfl (.cons (t := 60) rfl (.cons (t := 61) rfl (.cons (t := 62) rfl (.cons (t := 63) rfl (.cons (t := 64) rfl (.cons (t := 65) rfl (.cons (t := 66) rfl (.cons (t := 67) rfl (.cons (t := 68) rfl (.cons (t := 69) rfl (.cons (t := 70) rfl (.cons (t := 71) rfl (.cons (t := 72) rfl (.cons (t := 73) rfl .nil))))))))))))))))))))))))) (.cons (t := 102) rfl .nil) ?_
          refine W.block ?_
          refine W.loopx1 (fun (m : Nat) => [(13, vI (fnd q (ordQ q)[i]! m)), (73, vI (m : Int))]) (fun (m : Nat) => []) (fun (m : Nat) => m ≤ q.length) (fun (m : Nat) => q.length - m) (0) (rn []) (.cons (t := 0) rfl (.cons (t := 5) rfl (.cons (t := 8) rfl (.cons (t := 9) rfl (.cons (t := 10) rfl (.cons (t := 11) rfl (.cons (t := 12) rfl (.cons (t := 57) rfl (.cons (t := 58) rfl (.cons (t := 59) rfl (.cons (t := 60) rfl (.cons (t := 61) rfl (.cons (t := 62) rfl (.cons (t := 63) rfl (.cons (t := 64) rfl (.cons (t := 65) rfl (.cons (t := 66) rfl (.cons (t := 67) rfl (.cons (t := 68) rfl (.cons (t := 69) rfl (.cons (t := 70) rfl (.cons (t := 71) rfl (.cons (t := 72) rfl .nil))))))))))))))))))))))) (.cons (t := 102) rfl .nil) rfl ?_ ?_ rfl rfl ?_ ?_
          · exact (SubF.cons rfl (SubF.cons rfl SubF.nil))
          · exact SubS.nil
          · skip
            omega
          intro m hinv
          have hm := hinv
          refine W.seq ?_
          refine W.region ?_
          refine SL.val (O.det (fun _ => G.R.lss rfl rfl) rfl Taken.no) ?_
          refine SL.nil ?_
          refine E.to ?_
          refine W.pick (.cons (t := 0) rfl (.cons (t := 5) rfl (.cons (t := 8) rfl (.cons (t := 9) rfl (.cons (t := 10) rfl (.cons (t := 11) rfl (.cons (t := 12) rfl (.cons (t := 13) rfl (.cons (t := 57) rfl (.cons (t := 58) rfl (.cons (t := 59) rfl (.cons (t := 60) rfl (.cons (t := 61) rfl (.cons (t := 62) rfl (.cons (t := 63) rfl (.cons (t := 64) rfl (.cons (t := 65) rfl (.cons (t := 66) rfl (.cons (t := 67) rfl (.cons (t := 68) rfl (.cons (t := 69) rfl (.cons (t := 70) rfl (.cons (t := 71) rfl (.cons (t := 72) rfl (.cons (t := 73) rfl (.cons (t := 74) rfl .nil)))))))))))))))))))))))))) (.cons (t := 102) rfl .nil) ?_
          refine W.seq ?_
          first | refine W.cond_d rfl (fun hc8 => ?_) (fun hc8 => ?_) | refine W.cond_nd rfl (fun hc8 => ?_) (fun hc8 => ?_) | refine W.cond rfl (fun hc8 => ?_) (fun hc8 => ?_)
          · skip
            refine W.skip ?_
            refine E.to ?_
            refine W.pick (.cons (t := 0) rfl (.cons (t := 5) rfl (.cons (t := 8) rfl (.cons (t := 9) rfl (.cons (t := 10) rfl (.cons (t := 11) rfl (.cons (t := 12) rfl (.cons (t := 13) rfl (.cons (t := 57) rfl (.cons (t := 58) rfl (.cons (t := 59) rfl (.cons (t := 60) rfl (.cons (t := 61) rfl (.cons (t := 62) rfl (.cons (t := 63) rfl (.cons (t := 64) rfl (.cons (t := 65) rfl (.cons (t := 66) rfl (.cons (t := 67) rfl (.cons (t := 68) rfl (.cons (t := 69) rfl (.cons (t := 70) rfl (.cons (t := 71) rfl (.cons (t := 72) rfl (.cons (t := 73) rfl (.cons (t := 74) rfl .nil)))))))))))))))))))))))))) (.cons (t := 102) rfl .nil) ?_
            refine W.seq ?_
            refine W.block ?_
            refine W.seq ?_
            refine W.region ?_
            refine SL.val (O.move rfl rfl Taken.no) ?_
            refine SL.val (O.assign rfl rfl Taken.no) ?_
            refine SL.nil ?_
            refine E.to ?_
            refine W.pick (.cons (t := 0) rfl (.cons (t := 5) rfl (.cons (t := 8) rfl (.cons (t := 9) rfl (.cons (t := 10) rfl (.cons (t := 11) rfl (.cons (t := 12) rfl (.cons (t := 13) rfl (.cons (t := 14) rfl (.cons (t := 57) rfl (.cons (t := 58) rfl (.cons (t := 59) rfl (.cons (t := 60) rfl (.cons (t := 61) rfl (.cons (t := 62) rfl (.cons (t := 63) rfl (.cons (t := 64) rfl (.cons (t := 65) rfl (.cons (t := 66) rfl (.cons (t := 67) rfl (.cons (t := 68) rfl (.cons (t := 69) rfl (.cons (t := 70) rfl (.cons (t := 71) rfl (.cons (t := 72) rfl (.cons (t := 73) rfl (.cons (t := 74) rfl (.cons (t := 75) rfl .nil)))))))))))))))))))))))))))) (.cons (t := 102) rfl .nil) ?_
            refine W.seq ?_
            refine W.region ?_
            refine SL.val (O.move rfl rfl Taken.no) ?_
            refine SL.val (O.move rfl rfl Taken.no) ?_
            refine SL.val (O.idx_fz rfl rfl (rfl) (row_get (by omega)) Try.underlying22 hi32 hs32 rfl Taken.no) ?_
            refine SL.val (O.fld_fz rfl Try.underlying32 rfl (m := 0) (by kernel_rfl) rfl rfl Taken.no) ?_
            refine SL.val (O.ld1 (PtI.ofU (PtU.fz rfl)) rfl Try.underlying3 rfl rfl Taken.no) ?_
            refine SL.val (O.move rfl rfl Taken.no) ?_
            refine SL.val (O.det (fun _ => G.R.eql rfl rfl) rfl Taken.no) ?_
            refine SL.nil ?_
            refine E.to ?_
            refine W.pick (.cons (t := 0) rfl (.cons (t := 5) rfl (.cons (t := 8) rfl (.cons (t := 9) rfl (.cons (t := 10) rfl (.cons (t := 11) rfl (.cons (t := 12) rfl (.cons (t := 13) rfl (.cons (t := 14) rfl (.cons (t := 57) rfl (.cons (t := 58) rfl (.cons (t := 59) rfl (.cons (t := 60) rfl (.cons (t := 61) rfl (.cons (t := 62) rfl (.cons (t := 63) rfl (.cons (t := 64) rfl (.cons (t := 65) rfl (.cons (t := 66) rfl (.cons (t := 67) rfl (.cons (t := 68) rfl (.cons (t := 69) rfl (.cons (t := 70) rfl (.cons (t := 71) rfl (.cons (t := 72) rfl (.cons (t := 73) rfl (.cons (t := 74) rfl (.cons (t := 75) rfl (.cons (t := 76) rfl (.cons (t := 77) rfl (.cons (t := 78) rfl (.cons (t := 79) rfl (.cons (t := 80) rfl (.cons (t := 81) rfl (.cons (t := 82) rfl .nil))))))))))))))))))))))))))))))))))) (.cons (t := 102) rfl .nil) ?_
            first | refine W.cond_d rfl (fun hc9 => ?_) (fun hc9 => ?_) | refine W.cond_nd rfl (fun hc9 => ?_) (fun hc9 => ?_) | refine W.cond rfl (fun hc9 => ?_) (fun hc9 => ?_)
            · skip
              refine W.region ?_
              refine SL.val (O.move rfl rfl Taken.no) ?_
              refine SL.val (O.assign rfl rfl Taken.no) ?_
              refine SL.nil ?_
              refine E.inn ?_
              refine E.to ?_
              refine W.pick (.cons (t := 0) rfl (.cons (t := 5) rfl (.cons (t := 8) rfl (.cons (t := 9) rfl (.cons (t := 10) rfl (.cons (t := 11) rfl (.cons (t := 12) rfl (.cons (t := 13) rfl (.cons (t := 14) rfl (.cons (t := 57) rfl (.cons (t := 58) rfl (.cons (t := 59) rfl (.cons (t := 60) rfl (.cons (t := 61) rfl (.cons (t := 62) rfl (.cons (t := 63) rfl (.cons (t := 64) rfl (.cons (t := 65) rfl (.cons (t := 66) rfl (.cons (t := 67) rfl (.cons (t := 68) rfl (.cons (t := 69) rfl (.cons (t := 70) rfl (.cons (t := 71) rfl (.cons (t := 72) rfl (.cons (t := 73) rfl (.cons (t := 74) rfl (.cons (t := 75) rfl (.cons (t := 76) rfl (.cons (t := 77) rfl (.cons (t := 78) rfl (.cons (t := 79) rfl (.cons (t := 80) rfl (.cons (t := 81) rfl (.cons (t := 82) rfl (.cons (t := 83) rfl .nil)))))))))))))))))))))))))))))))))))) (.cons (t := 102) rfl .nil) ?_
              refine W.region ?_
              refine SL.val (O.det (fun _ => by first | exact G.R.add64 rfl rfl (by omega) | exact G.R.add rfl rfl) rfl Taken.no) ?_
              refine SL.val (O.move rfl rfl Taken.no) ?_
              refine SL.nil ?_
              refine E.again ((m + 1)) (rn []) ?_ ?_ rfl (fixL_spec rfl) ?_ ?_
              · exact (SubF.val rfl (by (try dsimp only); first | exact iv_int (by rw [fnd, if_pos (by assumption)]) | exact iv_int (by rw [fnd, if_neg (by assumption)])) (SubF.cons rfl (SubF.cons rfl (SubF.cons rfl (SubF.cons rfl (SubF.cons rfl (SubF.cons rfl (SubF.cons rfl (SubF.cons rfl (SubF.cons rfl (SubF.cons rfl (SubF.cons rfl (SubF.cons rfl (SubF.cons rfl (SubF.cons rfl (SubF.cons rfl (SubF.cons rfl (SubF.cons rfl (SubF.cons rfl (SubF.cons rfl (SubF.cons rfl (SubF.cons rfl (SubF.cons rfl (SubF.cons rfl (SubF.cons rfl SubF.nil)))))))))))))))))))))))))
              · exact (SubS.cons rfl SubS.nil)
              · try dsimp only
                omega
              · (try dsimp only); omega
            · skip
              refine W.skip ?_
              refine E.inn ?_
              refine E.to ?_
              refine W.pick (.cons (t := 0) rfl (.cons (t := 5) rfl (.cons (t := 8) rfl (.cons (t := 9) rfl (.cons (t := 10) rfl (.cons (t := 11) rfl (.cons (t := 12) rfl (.cons (t := 13) rfl (.cons (t := 14) rfl (.cons (t := 57) rfl (.cons (t := 58) rfl (.cons (t := 59) rfl (.cons (t := 60) rfl (.cons (t := 61) rfl (.cons (t := 62) rfl (.cons (t := 63) rfl (.cons (t := 64) rfl (.cons (t := 65) rfl (.cons (t := 66) rfl (.cons (t := 67) rfl (.cons (t := 68) rfl (.cons (t := 69) rfl (.cons (t := 70) rfl (.cons (t := 71) rfl (.cons (t := 72) rfl (.cons (t := 73) rfl (.cons (t := 74) rfl (.cons (t := 75) rfl (.cons (t := 76) rfl (.cons (t := 77) rfl (.cons (t := 78) rfl (.cons (t := 79) rfl (.cons (t := 80) rfl (.cons (t := 81) rfl (.cons (t := 82) rfl .nil))))))))))))))))))))))))))))))))))) (.cons (t := 102) rfl .nil) ?_
              refine W.region ?_
              refine SL.val (O.det (fun _ => by first | exact G.R.add64 rfl rfl (by omega) | exact G.R.add rfl rfl) rfl Taken.no) ?_
              refine SL.val (O.move rfl rfl Taken.no) ?_
              refine SL.nil ?_
              refine E.again ((m + 1)) (rn []) ?_ ?_ rfl (fixL_spec rfl) ?_ ?_
              · exact (SubF.val rfl (by (try dsimp only); first | exact iv_int (by rw [fnd, if_pos (by assumption)]) | exact iv_int (by rw [fnd, if_neg (by assumption)])) (SubF.cons rfl (SubF.cons rfl (SubF.cons rfl (SubF.cons rfl (SubF.cons rfl (SubF.cons rfl (SubF.cons rfl (SubF.cons rfl (SubF.cons rfl (SubF.cons rfl (SubF.cons rfl (SubF.cons rfl (SubF.cons rfl (SubF.cons rfl (SubF.cons rfl (SubF.cons rfl (SubF.cons rfl (SubF.cons rfl (SubF.cons rfl (SubF.cons rfl (SubF.cons rfl (SubF.cons rfl (SubF.cons rfl (SubF.cons rfl SubF.nil)))))))))))))))))))))))))
              · exact (SubS.cons rfl SubS.nil)
              · try dsimp only
                omega
              · (try dsimp only); omega
          · skip
            refine W.exit ?_
            refine E.th ?_
            refine E.th ?_
            refine E.hit ?_
            refine E.to ?_
            refine W.pick (.cons (t := 0) rfl (.cons (t := 5) rfl (.cons (t := 8) rfl (.cons (t := 9) rfl (.cons (t := 10) rfl (.cons (t := 11) rfl (.cons (t := 12) rfl (.cons (t := 13) rfl (.cons (t := 57) rfl (.cons (t := 58) rfl (.cons (t := 59) rfl (.cons (t := 60) rfl (.cons (t := 61) rfl (.cons (t := 62) rfl (.cons (t := 63) rfl (.cons (t := 64) rfl (.cons (t := 65) rfl (.cons (t := 66) rfl (.cons (t := 67) rfl (.cons (t := 68) rfl (.cons (t := 69) rfl (.cons (t := 70) rfl (.cons (t := 71) rfl (.cons (t := 72) rfl (.cons (t := 73) rfl (.cons (t := 74) rfl .nil)))))))))))))))))))))))))) (.cons (t := 102) rfl .nil) ?_
            refine W.seq ?_
            refine W.seq ?_
            refine W.region ?_
            obtain rfl : m = q.length := by omega
            rw [hgo, hfa]
            refine SL.val (O.move rfl rfl Taken.no) ?_
            refine SL.val (O.det (fun _ => G.R.mv (G.R.neq rfl rfl) (congrArg Value.bool (decide_eq_false (by decide)))) rfl Taken.no) ?_
            refine SL.val (O.move rfl rfl Taken.no) ?_
            have hg10 : false = false := by decide
            refine SL.val (O.move rfl rfl (Taken.yes rfl rfl hg10)) ?_
            refine SL.val (O.move rfl rfl (Taken.yes rfl rfl hg10)) ?_
            refine SL.val (O.det (fun _ => G.R.mv (G.R.neq rfl rfl) (congrArg Value.bool (decide_eq_false (by simp)))) rfl (Taken.yes rfl rfl hg10)) ?_
            refine SL.val (O.pick_f rfl rfl rfl rfl Taken.no) ?_
            refine SL.val (O.move rfl rfl Taken.no) ?_
            have hg11 : false = false := by decide
            refine SL.val (O.move rfl rfl (Taken.yes rfl rfl hg11)) ?_
            refine SL.val (O.det (fun _ => G.R.mv (G.R.lss rfl rfl) (congrArg Value.bool (decide_eq_false (by omega)))) rfl (Taken.yes rfl rfl hg11)) ?_
            refine SL.val (O.pick_f rfl rfl rfl rfl Taken.no) ?_
            refine SL.nil ?_
            refine E.to ?_
            refine W.pick (.cons (t := 0) rfl (.cons (t := 5) rfl (.cons (t := 8) rfl (.cons (t := 9) rfl (.cons (t := 10) rfl (.cons (t := 11) rfl (.cons (t := 12) rfl (.cons (t := 13) rfl (.cons (t := 57) rfl (.cons (t := 58) rfl (.cons (t := 59) rfl (.cons (t := 60) rfl (.cons (t := 61) rfl (.cons (t := 62) rfl (.cons (t := 63) rfl (.cons (t := 64) rfl (.cons (t := 65) rfl (.cons (t := 66) rfl (.cons (t := 67) rfl (.cons (t := 68) rfl (.cons (t := 69) rfl (.cons (t := 70) rfl (.cons (t := 71) rfl (.cons (t := 72) rfl (.cons (t := 73) rfl (.cons (t := 74) rfl (.cons (t := 85) rfl (.cons (t := 86) rfl (.cons (t := 87) rfl (.cons (t := 88) rfl (.cons (t := 89) rfl (.cons (t := 90) rfl (.cons (t := 91) rfl (.cons (t := 92) rfl (.cons (t := 93) rfl (.cons (t := 94) rfl (.cons (t := 95) rfl .nil))))))))))))))))))))))))))))))))))))) (.cons (t := 102) rfl .nil) ?_
            refine W.cond_f rfl ?_
            refine W.skip ?_
            refine E.to ?_
            refine W.pick (.cons (t := 0) rfl (.cons (t := 5) rfl (.cons (t := 8) rfl (.cons (t := 9) rfl (.cons (t := 10) rfl (.cons (t := 11) rfl (.cons (t := 12) rfl (.cons (t := 13) rfl (.cons (t := 57) rfl (.cons (t := 58) rfl (.cons (t := 59) rfl (.cons (t := 60) rfl (.cons (t := 61) rfl (.cons (t := 62) rfl (.cons (t := 63) rfl (.cons (t := 64) rfl (.cons (t := 65) rfl (.cons (t := 66) rfl (.cons (t := 67) rfl (.cons (t := 68) rfl (.cons (t := 69) rfl (.cons (t := 70) rfl (.cons (t := 71) rfl (.cons (t := 72) rfl (.cons (t := 73) rfl (.cons (t := 74) rfl (.cons (t := 85) rfl (.cons (t := 86) rfl (.cons (t := 87) rfl (.cons (t := 88) rfl (.cons (t := 89) rfl (.cons (t := 90) rfl (.cons (t := 91) rfl (.cons (t := 92) rfl (.cons (t := 93) rfl (.cons (t := 94) rfl (.cons (t := 95) rfl .nil))))))))))))))))))))))))))))))))))))) (.cons (t := 102) rfl .nil) ?_
            refine W.seq ?_
            refine W.region ?_
            refine SL.val (O.move rfl rfl Taken.no) ?_
            refine SL.val (O.move rfl rfl Taken.no) ?_
            refine SL.val (O.idx_fz (i := a) rfl rfl (rfl) (row_get (by omega)) Try.underlying22 hi32 hs32 rfl Taken.no) ?_
            refine SL.val (O.fld_fz rfl Try.underlying32 rfl (m := 0) (by kernel_rfl) rfl rfl Taken.no) ?_
            refine SL.val (O.ld1 (PtI.ofU (PtU.fz rfl)) rfl Try.underlying3 rfl rfl Taken.no) ?_
            refine SL.val (O.assign rfl rfl Taken.no) ?_
            refine SL.nil ?_
            refine E.to ?_
            refine W.pick (.cons (t := 0) rfl (.cons (t := 5) rfl (.cons (t := 8) rfl (.cons (t := 9) rfl (.cons (t := 10) rfl (.cons (t := 11) rfl (.cons (t := 12) rfl (.cons (t := 13) rfl (.cons (t := 15) rfl (.cons (t := 57) rfl (.cons (t := 58) rfl (.cons (t := 59) rfl (.cons (t := 60) rfl (.cons (t := 61) rfl (.cons (t := 62) rfl (.cons (t := 63) rfl (.cons (t := 64) rfl (.cons (t := 65) rfl (.cons (t := 66) rfl (.cons (t := 67) rfl (.cons (t := 68) rfl (.cons (t := 69) rfl (.cons (t := 70) rfl (.cons (t := 71) rfl (.cons (t := 72) rfl (.cons (t := 73) rfl (.cons (t := 74) rfl (.cons (t := 85) rfl (.cons (t := 86) rfl (.cons (t := 87) rfl (.cons (t := 88) rfl (.cons (t := 89) rfl (.cons (t := 90) rfl (.cons (t := 91) rfl (.cons (t := 92) rfl (.cons (t := 93) rfl (.cons (t := 94) rfl (.cons (t := 95) rfl (.cons (t := 96) rfl (.cons (t := 97) rfl (.cons (t := 98) rfl (.cons (t := 99) rfl (.cons (t := 100) rfl .nil))))))))))))))))))))))))))))))))))))))))))) (.cons (t := 102) rfl .nil) ?_
            refine W.seq ?_
            refine W.seq ?_
            refine W.region ?_
            refine SL.val (O.move rfl rfl Taken.no) ?_
            refine SL.val (O.move rfl rfl Taken.no) ?_
            refine SL.case (j := 1) (g := 102) (want := true) rfl rfl (fun hg12 => ?_) (fun hg12 => ?_)
            · skip
              first | have hg12p := G.gA1 hg12 | have hg12p := G.gA2 hg12 | have hg12p := hg12
              refine SL.val (O.move rfl rfl (Taken.yes rfl rfl hg12)) ?_
              refine SL.val (O.det (fun _ => by first | exact G.R.add64 rfl rfl (by omega) | exact G.R.add rfl rfl) rfl (Taken.yes rfl rfl hg12)) ?_
              refine SL.val (O.move rfl rfl (Taken.yes rfl rfl hg12)) ?_
              refine SL.val (O.idx_ref (i := q[a]!.cls.toNat) (m := 1) rfl rfl (by omega) (by omega) Try.underlying53 (by kernel_rfl) rfl rfl (Taken.yes rfl rfl hg12)) ?_
              refine SL.val (O.ld1 ((PtI.ref rfl rfl).eq (by exact drop4 (by omega))) rfl Try.underlying3 rfl rfl (Taken.yes rfl rfl hg12)) ?_
              refine SL.val (O.det (fun _ => G.R.mv (G.R.leq rfl rfl) (congrArg Value.bool (decide_eq_false (by exact last_lt hv hL hiq ha hai (by assumption) (by omega))))) rfl (Taken.yes rfl rfl hg12)) ?_
              refine SL.val (O.pick_t rfl hg12 rfl rfl Taken.no) ?_
              refine SL.val (O.move rfl rfl Taken.no) ?_
              have hg13 : false = false := by decide
              refine SL.val (O.move rfl rfl (Taken.yes rfl rfl hg13)) ?_
              refine SL.val (O.move rfl rfl (Taken.yes rfl rfl hg13)) ?_
              refine SL.val (O.det (fun _ => G.R.mv (G.R.neq rfl rfl) (congrArg Value.bool (decide_eq_false (by simp)))) rfl (Taken.yes rfl rfl hg13)) ?_
              refine SL.val (O.pick_f rfl rfl rfl rfl Taken.no) ?_
              refine SL.nil ?_
              refine E.to ?_
              refine W.pick (.cons (t := 0) rfl (.cons (t := 5) rfl (.cons (t := 8) rfl (.cons (t := 9) rfl (.cons (t := 10) rfl (.cons (t := 11) rfl (.cons (t := 12) rfl (.cons (t := 13) rfl (.cons (t := 15) rfl (.cons (t := 57) rfl (.cons (t := 58) rfl (.cons (t := 59) rfl (.cons (t := 60) rfl (.cons (t := 61) rfl (.cons (t := 62) rfl (.cons (t := 63) rfl (.cons (t := 64) rfl (.cons (t := 65) rfl (.cons (t := 66) rfl (.cons (t := 67) rfl (.cons (t := 68) rfl (.cons (t := 69) rfl (.cons (t := 70) rfl (.cons (t := 71) rfl (.cons (t := 72) rfl (.cons (t := 73) rfl (.cons (t := 74) rfl (.cons (t := 85) rfl (.cons (t := 86) rfl (.cons (t := 87) rfl (.cons (t := 88) rfl (.cons (t := 89) rfl (.cons (t := 90) rfl (.cons (t := 91) rfl (.cons (t := 92) rfl (.cons (t := 93) rfl (.cons (t := 94) rfl (.cons (t := 95) rfl (.cons (t := 96) rfl (.cons (t := 97) rfl (.cons (t := 98) rfl (.cons (t := 99) rfl (.cons (t := 100) rfl (.cons (t := 101) rfl (.cons (t := 102) rfl (.cons (t := 103) rfl (.cons (t := 104) rfl (.cons (t := 105) rfl (.cons (t := 106) rfl (.cons (t := 107) rfl (.cons (t := 108) rfl (.cons (t := 109) rfl (.cons (t := 110) rfl (.cons (t := 111) rfl (.cons (t := 112) rfl (.cons (t := 113) rfl (.cons (t := 114) rfl .nil))))))))))))))))))))))))))))))))))))))))))))))))))))))))) (.cons (t := 102) rfl .nil) ?_
              refine W.cond_f rfl ?_
              refine W.skip ?_
              refine E.to ?_
              refine W.pick (.cons (t := 0) rfl (.cons (t := 5) rfl (.cons (t := 8) rfl (.cons (t := 9) rfl (.cons (t := 10) rfl (.cons (t := 11) rfl (.cons (t := 12) rfl (.cons (t := 13) rfl (.cons (t := 15) rfl (.cons (t := 57) rfl (.cons (t := 58) rfl (.cons (t := 59) rfl (.cons (t := 60) rfl (.cons (t := 61) rfl (.cons (t := 62) rfl (.cons (t := 63) rfl (.cons (t := 64) rfl (.cons (t := 65) rfl (.cons (t := 66) rfl (.cons (t := 67) rfl (.cons (t := 68) rfl (.cons (t := 69) rfl (.cons (t := 70) rfl (.cons (t := 71) rfl (.cons (t := 72) rfl (.cons (t := 73) rfl (.cons (t := 74) rfl (.cons (t := 85) rfl (.cons (t := 86) rfl (.cons (t := 87) rfl (.cons (t := 88) rfl (.cons (t := 89) rfl (.cons (t := 90) rfl (.cons (t := 91) rfl (.cons (t := 92) rfl (.cons (t := 93) rfl (.cons (t := 94) rfl (.cons (t := 95) rfl (.cons (t := 96) rfl (.cons (t := 97) rfl (.cons (t := 98) rfl (.cons (t := 99) rfl (.cons (t := 100) rfl (.cons (t := 101) rfl (.cons (t := 102) rfl (.cons (t := 103) rfl (.cons (t := 104) rfl (.cons (t := 105) rfl (.cons (t := 106) rfl (.cons (t := 107) rfl (.cons (t := 108) rfl (.cons (t := 109) rfl (.cons (t := 110) rfl (.cons (t := 111) rfl (.cons (t := 112) rfl (.cons (t := 113) rfl (.cons (t := 114) rfl .nil))))))))))))))))))))))))))))))))))))))))))))))))))))))))) (.cons (t := 102) rfl .nil) ?_
              refine W.region ?_
              refine SL.val (O.move rfl rfl Taken.no) ?_
              refine SL.val (O.move rfl rfl Taken.no) ?_
              refine SL.val (O.det (fun _ => by first | exact G.R.add64 rfl rfl (by omega) | exact G.R.add rfl rfl) rfl Taken.no) ?_
              refine SL.val (O.idx_ref (i := q[a]!.cls.toNat) (m := 1) rfl rfl (by omega) (by omega) Try.underlying53 (by kernel_rfl) rfl rfl Taken.no) ?_
              refine SL.effS (O.st_ref (m := 1) rfl rfl rfl (js := [_]) rfl rfl (by kernel_rfl) (by simp) (by exact (show 0 + q[a]!.cls.toNat * 1 + 1 ≤ 4 by omega)) rfl (is' := [vI (upd L q[a]!.cls.toNat (a + 1) 0), vI (upd L q[a]!.cls.toNat (a + 1) 1), vI (upd L q[a]!.cls.toNat (a + 1) 2), vI (upd L q[a]!.cls.toNat (a + 1) 3)]) (by exact set4 (by omega)) Taken.no) (S' := (102, _) :: _) rfl ?_
              refine SL.nil ?_
              refine E.inn ?_
              refine E.to ?_
              refine W.pick (.cons (t := 0) rfl (.cons (t := 5) rfl (.cons (t := 8) rfl (.cons (t := 9) rfl (.cons (t := 10) rfl (.cons (t := 11) rfl (.cons (t := 12) rfl (.cons (t := 13) rfl (.cons (t := 15) rfl (.cons (t := 57) rfl (.cons (t := 58) rfl (.cons (t := 59) rfl (.cons (t := 60) rfl (.cons (t := 61) rfl (.cons (t := 62) rfl (.cons (t := 63) rfl (.cons (t := 64) rfl (.cons (t := 65) rfl (.cons (t := 66) rfl (.cons (t := 67) rfl (.cons (t := 68) rfl (.cons (t := 69) rfl (.cons (t := 70) rfl (.cons (t := 71) rfl (.cons (t := 72) rfl (.cons (t := 73) rfl (.cons (t := 74) rfl (.cons (t := 85) rfl (.cons (t := 86) rfl (.cons (t := 87) rfl (.cons (t := 88) rfl (.cons (t := 89) rfl (.cons (t := 90) rfl (.cons (t := 91) rfl (.cons (t := 92) rfl (.cons (t := 93) rfl (.cons (t := 94) rfl (.cons (t := 95) rfl (.cons (t := 96) rfl (.cons (t := 97) rfl (.cons (t := 98) rfl (.cons (t := 99) rfl (.cons (t := 100) rfl (.cons (t := 101) rfl (.cons (t := 102) rfl (.cons (t := 103) rfl (.cons (t := 104) rfl (.cons (t := 105) rfl (.cons (t := 106) rfl (.cons (t := 107) rfl (.cons (t := 108) rfl (.cons (t := 109) rfl (.cons (t := 110) rfl (.cons (t := 111) rfl (.cons (t := 112) rfl (.cons (t := 113) rfl (.cons (t := 114) rfl (.cons (t := 115) rfl (.cons (t := 116) rfl (.cons (t := 117) rfl (.cons (t := 118) rfl .nil))))))))))))))))))))))))))))))))))))))))))))))))))))))))))))) (.cons (t := 102) rfl .nil) ?_
              refine W.region ?_
              refine SL.val (O.det (fun _ => by first | exact G.R.add64 rfl rfl (by omega) | exact G.R.add rfl rfl) rfl Taken.no) ?_
              refine SL.val (O.move rfl rfl Taken.no) ?_
              refine SL.nil ?_
              refine E.again ((i + 1), (upd L q[a]!.cls.toNat (a + 1))) (rn []) ?_ ?_ rfl (fixL_spec rfl) ?_ ?_
              · exact (SubF.cons rfl (SubF.cons rfl (SubF.cons rfl (SubF.cons rfl (SubF.cons rfl (SubF.cons rfl SubF.nil))))))
              · exact (SubS.cons rfl SubS.nil)
              · try dsimp only
                exact ⟨by omega, last_up hL ha hai (by omega)⟩
              · (try dsimp only); omega
            · skip
              first | have hg12p := G.gA5 hg12 | have hg12p := G.gA6 hg12 | have hg12p := hg12
              refine SL.skip (OpOk.not rfl rfl rfl hg12) ?_
              refine SL.skip (OpOk.not rfl rfl rfl hg12) ?_
              refine SL.skip (OpOk.not rfl rfl rfl hg12) ?_
              refine SL.skip (OpOk.not rfl rfl rfl hg12) ?_
              refine SL.skip (OpOk.not rfl rfl rfl hg12) ?_
              refine SL.skip (OpOk.not rfl rfl rfl hg12) ?_
              refine SL.val (O.pick_f rfl (G.ne_t hg12) rfl rfl Taken.no) ?_
              refine SL.val (O.move rfl rfl Taken.no) ?_
              have hg14 : false = false := by decide
              refine SL.val (O.move rfl rfl (Taken.yes rfl rfl hg14)) ?_
              refine SL.val (O.move rfl rfl (Taken.yes rfl rfl hg14)) ?_
              refine SL.val (O.det (fun _ => G.R.mv (G.R.neq rfl rfl) (congrArg Value.bool (decide_eq_false (by simp)))) rfl (Taken.yes rfl rfl hg14)) ?_
              refine SL.val (O.pick_f rfl rfl rfl rfl Taken.no) ?_
              refine SL.nil ?_
              refine E.to ?_
              refine W.pick (.cons (t := 0) rfl (.cons (t := 5) rfl (.cons (t := 8) rfl (.cons (t := 9) rfl (.cons (t := 10) rfl (.cons (t := 11) rfl (.cons (t := 12) rfl (.cons (t := 13) rfl (.cons (t := 15) rfl (.cons (t := 57) rfl (.cons (t := 58) rfl (.cons (t := 59) rfl (.cons (t := 60) rfl (.cons (t := 61) rfl (.cons (t := 62) rfl (.cons (t := 63) rfl (.cons (t := 64) rfl (.cons (t := 65) rfl (.cons (t := 66) rfl (.cons (t := 67) rfl (.cons (t := 68) rfl (.cons (t := 69) rfl (.cons (t := 70) rfl (.cons (t := 71) rfl (.cons (t := 72) rfl (.cons (t := 73) rfl (.cons (t := 74) rfl (.cons (t := 85) rfl (.cons (t := 86) rfl (.cons (t := 87) rfl (.cons (t := 88) rfl (.cons (t := 89) rfl (.cons (t := 90) rfl (.cons (t := 91) rfl (.cons (t := 92) rfl (.cons (t := 93) rfl (.cons (t := 94) rfl (.cons (t := 95) rfl (.cons (t := 96) rfl (.cons (t := 97) rfl (.cons (t := 98) rfl (.cons (t := 99) rfl (.cons (t := 100) rfl (.cons (t := 101) rfl (.cons (t := 102) rfl (.cons (t := 103) rfl (.cons (t := 104) rfl (.cons (t := 105) rfl (.cons (t := 106) rfl (.cons (t := 107) rfl (.cons (t := 108) rfl (.cons (t := 109) rfl (.cons (t := 110) rfl (.cons (t := 111) rfl (.cons (t := 112) rfl (.cons (t := 113) rfl (.cons (t := 114) rfl .nil))))))))))))))))))))))))))))))))))))))))))))))))))))))))) (.cons (t := 102) rfl .nil) ?_
              refine W.cond_f rfl ?_
              refine W.skip ?_
              refine E.to ?_
              refine W.pick (.cons (t := 0) rfl (.cons (t := 5) rfl (.cons (t := 8) rfl (.cons (t := 9) rfl (.cons (t := 10) rfl (.cons (t := 11) rfl (.cons (t := 12) rfl (.cons (t := 13) rfl (.cons (t := 15) rfl (.cons (t := 57) rfl (.cons (t := 58) rfl (.cons (t := 59) rfl (.cons (t := 60) rfl (.cons (t := 61) rfl (.cons (t := 62) rfl (.cons (t := 63) rfl (.cons (t := 64) rfl (.cons (t := 65) rfl (.cons (t := 66) rfl (.cons (t := 67) rfl (.cons (t := 68) rfl (.cons (t := 69) rfl (.cons (t := 70) rfl (.cons (t := 71) rfl (.cons (t := 72) rfl (.cons (t := 73) rfl (.cons (t := 74) rfl (.cons (t := 85) rfl (.cons (t := 86) rfl (.cons (t := 87) rfl (.cons (t := 88) rfl (.cons (t := 89) rfl (.cons (t := 90) rfl (.cons (t := 91) rfl (.cons (t := 92) rfl (.cons (t := 93) rfl (.cons (t := 94) rfl (.cons (t := 95) rfl (.cons (t := 96) rfl (.cons (t := 97) rfl (.cons (t := 98) rfl (.cons (t := 99) rfl (.cons (t := 100) rfl (.cons (t := 101) rfl (.cons (t := 102) rfl (.cons (t := 103) rfl (.cons (t := 104) rfl (.cons (t := 105) rfl (.cons (t := 106) rfl (.cons (t := 107) rfl (.cons (t := 108) rfl (.cons (t := 109) rfl (.cons (t := 110) rfl (.cons (t := 111) rfl (.cons (t := 112) rfl (.cons (t := 113) rfl (.cons (t := 114) rfl .nil))))))))))))))))))))))))))))))))))))))))))))))))))))))))) (.cons (t := 102) rfl .nil) ?_
              refine W.region ?_
              refine SL.val (O.move rfl rfl Taken.no) ?_
              refine SL.val (O.move rfl rfl Taken.no) ?_
              refine SL.val (O.det (fun _ => by first | exact G.R.add64 rfl rfl (by omega) | exact G.R.add rfl rfl) rfl Taken.no) ?_
              refine SL.val (O.idx_ref (i := q[a]!.cls.toNat) (m := 1) rfl rfl (by omega) (by omega) Try.underlying53 (by kernel_rfl) rfl rfl Taken.no) ?_
              refine SL.effS (O.st_ref (m := 1) rfl rfl rfl (js := [_]) rfl rfl (by kernel_rfl) (by simp) (by exact (show 0 + q[a]!.cls.toNat * 1 + 1 ≤ 4 by omega)) rfl (is' := [vI (upd L q[a]!.cls.toNat (a + 1) 0), vI (upd L q[a]!.cls.toNat (a + 1) 1), vI (upd L q[a]!.cls.toNat (a + 1) 2), vI (upd L q[a]!.cls.toNat (a + 1) 3)]) (by exact set4 (by omega)) Taken.no) (S' := (102, _) :: _) rfl ?_
              refine SL.nil ?_
              refine E.inn ?_
              refine E.to ?_
              refine W.pick (.cons (t := 0) rfl (.cons (t := 5) rfl (.cons (t := 8) rfl (.cons (t := 9) rfl (.cons (t := 10) rfl (.cons (t := 11) rfl (.cons (t := 12) rfl (.cons (t := 13) rfl (.cons (t := 15) rfl (.cons (t := 57) rfl (.cons (t := 58) rfl (.cons (t := 59) rfl (.cons (t := 60) rfl (.cons (t := 61) rfl (.cons (t := 62) rfl (.cons (t := 63) rfl (.cons (t := 64) rfl (.cons (t := 65) rfl (.cons (t := 66) rfl (.cons (t := 67) rfl (.cons (t := 68) rfl (.cons (t := 69) rfl (.cons (t := 70) rfl (.cons (t := 71) rfl (.cons (t := 72) rfl (.cons (t := 73) rfl (.cons (t := 74) rfl (.cons (t := 85) rfl (.cons (t := 86) rfl (.cons (t := 87) rfl (.cons (t := 88) rfl (.cons (t := 89) rfl (.cons (t := 90) rfl (.cons (t := 91) rfl (.cons (t := 92) rfl (.cons (t := 93) rfl (.cons (t := 94) rfl (.cons (t := 95) rfl (.cons (t := 96) rfl (.cons (t := 97) rfl (.cons (t := 98) rfl (.cons (t := 99) rfl (.cons (t := 100) rfl (.cons (t := 101) rfl (.cons (t := 102) rfl (.cons (t := 103) rfl (.cons (t := 104) rfl (.cons (t := 105) rfl (.cons (t := 106) rfl (.cons (t := 107) rfl (.cons (t := 108) rfl (.cons (t := 109) rfl (.cons (t := 110) rfl (.cons (t := 111) rfl (.cons (t := 112) rfl (.cons (t := 113) rfl (.cons (t := 114) rfl (.cons (t := 115) rfl (.cons (t := 116) rfl (.cons (t := 117) rfl (.cons (t := 118) rfl .nil))))))))))))))))))))))))))))))))))))))))))))))))))))))))))))) (.cons (t := 102) rfl .nil) ?_
              refine W.region ?_
              refine SL.val (O.det (fun _ => by first | exact G.R.add64 rfl rfl (by omega) | exact G.R.add rfl rfl) rfl Taken.no) ?_
              refine SL.val (O.move rfl rfl Taken.no) ?_
              refine SL.nil ?_
              refine E.again ((i + 1), (upd L q[a]!.cls.toNat (a + 1))) (rn []) ?_ ?_ rfl (fixL_spec rfl) ?_ ?_
              · exact (SubF.cons rfl (SubF.cons rfl (SubF.cons rfl (SubF.cons rfl (SubF.cons rfl (SubF.cons rfl SubF.nil))))))
              · exact (SubS.cons rfl SubS.nil)
              · try dsimp only
                exact ⟨by omega, last_up hL ha hai (by omega)⟩
              · (try dsimp only); omega
        · skip
          refine W.exit ?_
          refine E.th ?_
          refine E.th ?_
          refine E.hit ?_
          refine E.to ?_
          refine W.seq ?_
          refine W.region ?_
          refine SL.val (O.assign rfl rfl Taken.no) ?_
          refine SL.nil ?_
          refine E.to ?_
          refine W.ret ?_
          refine E.fin (rs := [_]) (rn []) (.inl rfl) rfl (.cons (ResOne.tmp rfl) .nil) ?_ ?_ rfl (fixL_spec rfl)
          · skip
            rfl
          · exact SubS.nil
  · skip
    first | have hg2p := G.gA7 hg2 | have hg2p := G.gA8 hg2 | have hg2p := hg2
    refine SL.skip (OpOk.not rfl rfl rfl hg2) ?_
    refine SL.skip (OpOk.not rfl rfl rfl hg2) ?_
    refine SL.skip (OpOk.not rfl rfl rfl hg2) ?_
    refine SL.val (O.pick_t rfl (G.ne_f hg2) rfl rfl Taken.no) ?_
    refine SL.nil ?_
    refine E.to ?_
    refine W.cond_t rfl ?_
    refine W.seq ?_
    refine W.region ?_
    refine SL.val (O.callp rfl rfl rfl (awake_h) .nil hcallOk9 rfl Taken.no) ?_
    refine SL.as (i' := vB true) 28 rfl (by exact iv_bool (rfl)) ?_
    refine SL.val (O.assign rfl rfl Taken.no) ?_
    refine SL.nil ?_
    refine E.to ?_
    refine W.ret ?_
    refine E.thr ?_
    refine E.fin (rs := [_]) (rn []) (.inl rfl) rfl (.cons (ResOne.tmp rfl) .nil) ?_ ?_ rfl (fixL_spec rfl)
    · skip
      rfl
    · exact SubS.nil

end Go.Proofs.Ytlodmhiemndegaa
