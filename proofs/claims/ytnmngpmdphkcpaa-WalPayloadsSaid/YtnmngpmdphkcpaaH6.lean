/-
  The walks.
-/
import Derived.Test.YtnmngpmdphkcpaaH5
import Derived.Test.YtnmngpmdphkcpaaP20
namespace Go.Proofs.Ytnmngpmdphkcpaa
open Go Go.RowKit Go.H Go.D20 Go.D02

theorem hcallOk12 : G.callOk Try.prog 12 = true := by kernel_rfl
theorem hcallOk19 : G.callOk Try.prog 19 = true := by kernel_rfl
theorem hcallOk20 : G.callOk Try.prog 20 = true := by kernel_rfl

/-- bookplate/bookplatelaw20.WalOpen. -/
theorem walOpen_h {l : List UInt8} :
    Con Try.prog 3 [vL 1 (l.map eB)] [] (vB true) [] := by
  have hr := endW_range l
  refine Con.enterL (n := 52) Try.func3 rfl rfl rfl (fun τ w ok vs hin => ?_)
  have hl0 := hin.len (i := 0) rfl
  try rw [List.length_map] at hl0
  clear hin
  refine W.seq ?_
  refine W.region ?_
  refine SL.val (O.assign rfl rfl Taken.no) ?_
  refine SL.nil ?_
  refine E.to ?_
  refine W.seq ?_
  refine W.seq ?_
  refine W.region ?_
  refine SL.val (O.callp rfl rfl rfl (awake_h) .nil hcallOk10 rfl Taken.no) ?_
  refine SL.as (i' := vB true) 9 rfl (by exact iv_bool (rfl)) ?_
  refine SL.val (O.det (fun _ => G.R.mv (G.R.not rfl) rfl) rfl Taken.no) ?_
  refine SL.nil ?_
  refine E.to ?_
  refine W.cond_f rfl ?_
  refine W.skip ?_
  refine E.to ?_
  refine W.seq ?_
  refine W.seq ?_
  refine W.region ?_
  refine SL.val (O.move rfl rfl Taken.no) ?_
  refine SL.val (O.lenE (SlOf.fz rfl (by decide)) (by first | exact List.length_map _ | rfl) Try.underlying22 rfl Taken.no) ?_
  refine SL.val (O.det (fun _ => G.R.gtr rfl rfl) rfl Taken.no) ?_
  refine SL.nil ?_
  refine E.to ?_
  first | refine W.cond_d rfl (fun hc1 => ?_) (fun hc1 => ?_) | refine W.cond_nd rfl (fun hc1 => ?_) (fun hc1 => ?_) | refine W.cond rfl (fun hc1 => ?_) (fun hc1 => ?_)
  · skip
    refine W.seq ?_
    refine W.region ?_
    refine SL.val (O.assign rfl rfl Taken.no) ?_
    refine SL.nil ?_
    refine E.to ?_
    refine W.ret ?_
    refine E.thr ?_
    refine E.fin (rs := [_]) (rn []) (.inl rfl) rfl (.cons (ResOne.tmp rfl) .nil) ?_ ?_ rfl (fixL_spec rfl)
    · skip
      rfl
    · exact SubS.nil
  · skip
    refine W.skip ?_
    refine E.to ?_
    refine W.seq ?_
    refine W.region ?_
    refine SL.val (O.move rfl rfl Taken.no) ?_
    refine SL.memS (O.call (rn []) [] rfl rfl rfl (open_h (by omega)) (.cons (ArgOk.same rfl) .nil) SubS.nil rfl rfl rfl rfl rfl (.inl rfl) hcallOk11 (r' := .tup [.agg [.u _, .u _], .u _]) rfl rfl Taken.no) rfl rfl (S' := _) rfl ?_
    refine SL.val (O.move rfl rfl Taken.no) ?_
    refine SL.val (O.extract rfl rfl rfl Taken.no) ?_
    refine SL.val (O.extract rfl rfl rfl Taken.no) ?_
    refine SL.memS (O.alloc (z := .agg #[.slice none 0 0, .int .i64 0]) (is := [.u (.sc (.slice none 0 0)), .u (.sc (.int .i64 0))]) 101 (by kernel_rfl) rfl rfl rfl Taken.no) rfl rfl (S' := (101, _) :: _) rfl ?_
    refine SL.effS (O.st_ref (m := 2) rfl rfl rfl (js := [_, _]) rfl rfl (by kernel_rfl) (by simp) (Nat.le_of_ble_eq_true rfl) rfl (is' := [_, _]) rfl Taken.no) (S' := (101, _) :: _) rfl ?_
    refine SL.val (O.assign rfl rfl Taken.no) ?_
    refine SL.nil ?_
    refine E.to ?_
    refine W.seq ?_
    refine W.region ?_
    refine SL.val (O.move rfl rfl Taken.no) ?_
    refine SL.memS (O.call (rn []) [] rfl rfl rfl (refopen_h (by omega)) (.cons (ArgOk.same rfl) .nil) SubS.nil rfl rfl rfl rfl rfl (.inl rfl) hcallOk12 (r' := .tup [.agg [.u _, .u _], .u _]) rfl rfl Taken.no) rfl rfl (S' := _) rfl ?_
    refine SL.val (O.move rfl rfl Taken.no) ?_
    refine SL.val (O.extract rfl rfl rfl Taken.no) ?_
    refine SL.val (O.extract rfl rfl rfl Taken.no) ?_
    refine SL.memS (O.alloc (z := .agg #[.slice none 0 0, .int .i64 0]) (is := [.u (.sc (.slice none 0 0)), .u (.sc (.int .i64 0))]) 102 (by kernel_rfl) rfl rfl rfl Taken.no) rfl rfl (S' := (102, _) :: _) rfl ?_
    refine SL.effS (O.st_ref (m := 2) rfl rfl rfl (js := [_, _]) rfl rfl (by kernel_rfl) (by simp) (Nat.le_of_ble_eq_true rfl) rfl (is' := [_, _]) rfl Taken.no) (S' := (102, _) :: _) rfl ?_
    refine SL.val (O.assign rfl rfl Taken.no) ?_
    refine SL.nil ?_
    refine E.to ?_
    refine W.seq ?_
    refine W.region ?_
    refine SL.val (O.fld_ref (o' := 0) rfl Try.underlying25 rfl (m := 0) (by kernel_rfl) rfl rfl Taken.no) ?_
    refine SL.val (O.ld1 (PtI.ref rfl rfl) rfl Try.underlying22 rfl rfl Taken.no) ?_
    refine SL.memS (O.call (rn []) [] rfl rfl rfl (open_h (l := l.take (endI (wholeL l).2).toNat) (by rw [List.length_take]; omega)) (.cons (ArgOk.same rfl) .nil) SubS.nil rfl rfl rfl rfl rfl (.inl rfl) hcallOk11 (r' := .tup [.agg [.u _, .u _], .u _]) rfl rfl Taken.no) rfl rfl (S' := _) rfl ?_
    refine SL.as (i' := .tup [.agg [vL 1 ((l.take (endI (wholeL l).2).toNat).map eB), vI (endI (wholeL l).2)], vL 1 ((wholeL l).1.map eL)]) 27 rfl (by rw [cut_open l, (whole_cut l).1]) ?_
    refine SL.val (O.move rfl rfl Taken.no) ?_
    refine SL.val (O.extract rfl rfl rfl Taken.no) ?_
    refine SL.val (O.extract rfl rfl rfl Taken.no) ?_
    refine SL.memS (O.alloc (z := .agg #[.slice none 0 0, .int .i64 0]) (is := [.u (.sc (.slice none 0 0)), .u (.sc (.int .i64 0))]) 103 (by kernel_rfl) rfl rfl rfl Taken.no) rfl rfl (S' := (103, _) :: _) rfl ?_
    refine SL.effS (O.st_ref (m := 2) rfl rfl rfl (js := [_, _]) rfl rfl (by kernel_rfl) (by simp) (Nat.le_of_ble_eq_true rfl) rfl (is' := [_, _]) rfl Taken.no) (S' := (103, _) :: _) rfl ?_
    refine SL.val (O.assign rfl rfl Taken.no) ?_
    refine SL.nil ?_
    refine E.to ?_
    refine W.pick (.cons (t := 2) rfl (.cons (t := 3) rfl (.cons (t := 4) rfl (.cons (t := 5) rfl (.cons (t := 6) rfl (.cons (t := 7) rfl (.cons (t := 8) rfl .nil))))))) (.cons (t := 101) rfl (.cons (t := 102) rfl (.cons (t := 103) rfl .nil))) ?_
    refine W.seq ?_
    refine W.region ?_
    refine SL.val (O.ldN (m := 2) (PtI.ref rfl rfl) (js := [_, _]) rfl (Nat.le_of_ble_eq_true rfl) Try.underlying25 rfl (by kernel_rfl) rfl Taken.no) ?_
    refine SL.val (O.ldN (m := 2) (PtI.ref rfl rfl) (js := [_, _]) rfl (Nat.le_of_ble_eq_true rfl) Try.underlying29 rfl (by kernel_rfl) rfl Taken.no) ?_
    refine SL.val (O.callp rfl rfl rfl (samelog_h _ _) (.cons (ArgOk.aggU (.cons (ArgOk.same rfl) (.cons (ArgOk.same rfl) .nil))) (.cons (ArgOk.aggU (.cons (ArgOk.same rfl) (.cons (ArgOk.same rfl) .nil))) .nil)) hcallOk13 rfl Taken.no) ?_
    refine SL.as (i' := vB true) 32 rfl (by exact iv_bool (decide_eq_true ⟨rfl, rfl⟩)) ?_
    refine SL.val (O.move rfl rfl Taken.no) ?_
    have hg2 : true = true := by decide
    refine SL.val (O.move rfl rfl (Taken.yes rfl rfl hg2)) ?_
    refine SL.val (O.move rfl rfl (Taken.yes rfl rfl hg2)) ?_
    refine SL.val (O.callp rfl rfl rfl (same_h) (.cons (ArgOk.same rfl) (.cons (ArgOk.same rfl) .nil)) hcallOk14 rfl (Taken.yes rfl rfl hg2)) ?_
    refine SL.as (i' := vB true) 36 rfl (by exact iv_bool (decide_eq_true rfl)) ?_
    refine SL.val (O.pick_t rfl rfl rfl rfl Taken.no) ?_
    refine SL.val (O.move rfl rfl Taken.no) ?_
    have hg3 : true = true := by decide
    refine SL.val (O.ldN (m := 2) (PtI.ref rfl rfl) (js := [_, _]) rfl (Nat.le_of_ble_eq_true rfl) Try.underlying25 rfl (by kernel_rfl) rfl (Taken.yes rfl rfl hg3)) ?_
    refine SL.val (O.ldN (m := 2) (PtI.ref rfl rfl) (js := [_, _]) rfl (Nat.le_of_ble_eq_true rfl) Try.underlying29 rfl (by kernel_rfl) rfl (Taken.yes rfl rfl hg3)) ?_
    refine SL.val (O.callp rfl rfl rfl (samelog_h _ _) (.cons (ArgOk.aggU (.cons (ArgOk.same rfl) (.cons (ArgOk.same rfl) .nil))) (.cons (ArgOk.aggU (.cons (ArgOk.same rfl) (.cons (ArgOk.same rfl) .nil))) .nil)) hcallOk13 rfl (Taken.yes rfl rfl hg3)) ?_
    refine SL.as (i' := vB true) 41 rfl (by exact iv_bool (decide_eq_true ⟨rfl, rfl⟩)) ?_
    refine SL.val (O.pick_t rfl rfl rfl rfl Taken.no) ?_
    refine SL.val (O.move rfl rfl Taken.no) ?_
    have hg4 : true = true := by decide
    refine SL.val (O.move rfl rfl (Taken.yes rfl rfl hg4)) ?_
    refine SL.val (O.move rfl rfl (Taken.yes rfl rfl hg4)) ?_
    refine SL.val (O.callp rfl rfl rfl (same_h) (.cons (ArgOk.same rfl) (.cons (ArgOk.same rfl) .nil)) hcallOk14 rfl (Taken.yes rfl rfl hg4)) ?_
    refine SL.as (i' := vB true) 46 rfl (by exact iv_bool (decide_eq_true rfl)) ?_
    refine SL.val (O.pick_t rfl rfl rfl rfl Taken.no) ?_
    refine SL.val (O.move rfl rfl Taken.no) ?_
    have hg5 : true = true := by decide
    refine SL.val (O.ldN (m := 2) (PtI.ref rfl rfl) (js := [_, _]) rfl (Nat.le_of_ble_eq_true rfl) Try.underlying25 rfl (by kernel_rfl) rfl (Taken.yes rfl rfl hg5)) ?_
    refine SL.val (O.callp rfl rfl rfl (valid_h (l := l.take (endI (wholeL l).2).toNat) _ (by rw [List.length_take]; omega)) (.cons (ArgOk.aggU (.cons (ArgOk.same rfl) (.cons (ArgOk.same rfl) .nil))) .nil) hcallOk15 rfl (Taken.yes rfl rfl hg5)) ?_
    refine SL.as (i' := vB true) 50 rfl (by rw [decide_eq_true (cut_valid l)]) ?_
    refine SL.val (O.pick_t rfl rfl rfl rfl Taken.no) ?_
    refine SL.val (O.assign rfl rfl Taken.no) ?_
    refine SL.nil ?_
    refine E.to ?_
    refine W.pick (.cons (t := 2) rfl .nil) (.cons (t := 101) rfl (.cons (t := 102) rfl (.cons (t := 103) rfl .nil))) ?_
    refine W.ret ?_
    refine E.fin (rs := [_]) (rn []) (.inl rfl) rfl (.cons (ResOne.tmp rfl) .nil) ?_ ?_ rfl (fixL_spec rfl)
    · skip
      rfl
    · exact SubS.nil

/-- bookplate/bookplatelaw20.small. -/
theorem small_h {ps : List (List UInt8)} :
    Con Try.prog 19 [vL 1 (ps.map eL)] [] (vB (decide (smallL ps))) [] := by
  obtain ⟨i22, hi22, hz22, hs22, hb22⟩ := hinf22
  refine Con.enterL (n := 18) Try.func19 rfl rfl rfl (fun τ w ok vs hin => ?_)
  have hl0 := hin.len (i := 0) rfl
  try rw [List.length_map] at hl0
  clear hin
  refine W.seq ?_
  refine W.region ?_
  refine SL.val (O.assign rfl rfl Taken.no) ?_
  refine SL.nil ?_
  refine E.to ?_
  refine W.seq ?_
  refine W.seq ?_
  refine W.region ?_
  refine SL.val (O.move rfl rfl Taken.no) ?_
  refine SL.val (O.lenE (SlOf.fz rfl (by decide)) (by first | exact List.length_map _ | rfl) Try.underlying26 rfl Taken.no) ?_
  refine SL.val (O.move rfl rfl Taken.no) ?_
  refine SL.nil ?_
  refine E.to ?_
  refine W.block ?_
  refine W.loopx1 (fun (k : Nat) => [(7, vI (k : Int))]) (fun (k : Nat) => []) (fun (k : Nat) => k ≤ ps.length ∧ ∀ j, j < k → ps[j]!.length ≤ 40) (fun (k : Nat) => ps.length - k) (0) (rn []) (.cons (t := 0) rfl (.cons (t := 5) rfl (.cons (t := 6) rfl .nil))) .nil rfl ?_ ?_ rfl rfl ?_ ?_
  · exact (SubF.cons rfl SubF.nil)
  · exact SubS.nil
  · skip
    exact ⟨by omega, fun j h => by omega⟩
  intro k hinv
  obtain ⟨hk, hp⟩ := hinv
  refine W.seq ?_
  refine W.region ?_
  refine SL.val (O.det (fun _ => G.R.lss rfl rfl) rfl Taken.no) ?_
  refine SL.nil ?_
  refine E.to ?_
  refine W.seq ?_
  first | refine W.cond_d rfl (fun hc1 => ?_) (fun hc1 => ?_) | refine W.cond_nd rfl (fun hc1 => ?_) (fun hc1 => ?_) | refine W.cond rfl (fun hc1 => ?_) (fun hc1 => ?_)
  · skip
    refine W.skip ?_
    refine E.to ?_
    refine W.seq ?_
    refine W.block ?_
    refine W.seq ?_
    refine W.region ?_
    refine SL.val (O.idx_fz rfl rfl (rfl) (row_get (by omega)) Try.underlying26 hi22 hs22 rfl Taken.no) ?_
    refine SL.val (O.ld1 (PtI.ofU (PtU.fz rfl)) rfl Try.underlying22 rfl rfl Taken.no) ?_
    refine SL.val (O.assign rfl rfl Taken.no) ?_
    refine SL.nil ?_
    refine E.to ?_
    refine W.seq ?_
    refine W.region ?_
    refine SL.val (O.move rfl rfl Taken.no) ?_
    refine SL.val (O.lenE (SlOf.fz rfl (by decide)) (by first | exact List.length_map _ | rfl) Try.underlying22 rfl Taken.no) ?_
    refine SL.val (O.det (fun _ => G.R.gtr rfl rfl) rfl Taken.no) ?_
    refine SL.nil ?_
    refine E.to ?_
    first | refine W.cond_d rfl (fun hc2 => ?_) (fun hc2 => ?_) | refine W.cond_nd rfl (fun hc2 => ?_) (fun hc2 => ?_) | refine W.cond rfl (fun hc2 => ?_) (fun hc2 => ?_)
    · skip
      refine W.seq ?_
      refine W.region ?_
      refine SL.val (O.assign rfl rfl Taken.no) ?_
      refine SL.nil ?_
      refine E.to ?_
      refine W.ret ?_
      refine E.inr ?_
      refine E.thr ?_
      refine E.thr ?_
      refine E.inr ?_
      refine E.thr ?_
      refine E.fin (rs := [_]) (rn []) (.inl rfl) rfl (.cons (ResOne.tmp rfl) .nil) ?_ ?_ rfl (fixL_spec rfl)
      · skip
        exact iv_bool (small_f (k := k) (by omega) (by assumption)).symm
      · exact SubS.nil
    · skip
      refine W.skip ?_
      refine E.inn ?_
      refine E.to ?_
      refine W.region ?_
      refine SL.val (O.det (fun _ => by first | exact G.R.add64 rfl rfl (by omega) | exact G.R.add rfl rfl) rfl Taken.no) ?_
      refine SL.val (O.move rfl rfl Taken.no) ?_
      refine SL.nil ?_
      refine E.again ((k + 1)) (rn []) ?_ ?_ rfl (fixL_spec rfl) ?_ ?_
      · exact (SubF.cons rfl (SubF.cons rfl (SubF.cons rfl (SubF.cons rfl SubF.nil))))
      · exact SubS.nil
      · try dsimp only
        exact ⟨by omega, fun j hj => by rcases Nat.lt_succ_iff_lt_or_eq.1 hj with h | h; exact hp j h; subst h; omega⟩
      · (try dsimp only); omega
  · skip
    refine W.exit ?_
    refine E.th ?_
    refine E.th ?_
    refine E.hit ?_
    refine E.to ?_
    refine W.seq ?_
    refine W.region ?_
    refine SL.val (O.move rfl rfl Taken.no) ?_
    refine SL.val (O.lenE (SlOf.fz rfl (by decide)) (by first | exact List.length_map _ | rfl) Try.underlying26 rfl Taken.no) ?_
    refine SL.val (O.det (fun _ => G.R.leq rfl rfl) rfl Taken.no) ?_
    refine SL.val (O.assign rfl rfl Taken.no) ?_
    refine SL.nil ?_
    refine E.to ?_
    refine W.ret ?_
    refine E.fin (rs := [_]) (rn []) (.inl rfl) rfl (.cons (ResOne.tmp rfl) .nil) ?_ ?_ rfl (fixL_spec rfl)
    · skip
      exact iv_bool (small_t (fun j hj => hp j (by omega))).symm
    · exact SubS.nil

/-- bookplate/bookplatelaw20.written. -/
theorem written_h (s : Int) {ps : List (List UInt8)} (hs : smallL ps) :
    Con Try.prog 20 [vL 1 (ps.map eL), vI s] [] (.tup [.agg [vL 1 ((wrW [] ps ps.length).map eB), vI (syW ps s ps.length)], vB true]) [] := by
  have h10 := hs.2
  obtain ⟨i22, hi22, hz22, hs22, hb22⟩ := hinf22
  refine Con.enterL (n := 42) Try.func20 rfl rfl rfl (fun τ w ok vs hin => ?_)
  have hl0 := hin.len (i := 0) rfl
  try rw [List.length_map] at hl0
  clear hin
  refine W.seq ?_
  refine W.region ?_
  refine SL.memS (O.alloc (z := .agg #[.slice none 0 0, .int .i64 0]) (is := [.u (.sc (.slice none 0 0)), .u (.sc (.int .i64 0))]) 101 (by kernel_rfl) rfl rfl rfl Taken.no) rfl rfl (S' := (101, _) :: _) rfl ?_
  refine SL.val (O.assign rfl rfl Taken.no) ?_
  refine SL.nil ?_
  refine E.to ?_
  refine W.seq ?_
  refine W.region ?_
  refine SL.memS (O.alloc (z := .agg #[.slice none 0 0, .int .i64 0]) (is := [.u (.sc (.slice none 0 0)), .u (.sc (.int .i64 0))]) 102 (by kernel_rfl) rfl rfl rfl Taken.no) rfl rfl (S' := (102, _) :: _) rfl ?_
  refine SL.nil ?_
  refine E.to ?_
  refine W.seq ?_
  refine W.seq ?_
  refine W.region ?_
  refine SL.val (O.move rfl rfl Taken.no) ?_
  refine SL.val (O.lenE (SlOf.fz rfl (by decide)) (by first | exact List.length_map _ | rfl) Try.underlying26 rfl Taken.no) ?_
  refine SL.val (O.move rfl rfl Taken.no) ?_
  refine SL.nil ?_
  refine E.to ?_
  refine W.block ?_
  refine W.nilslC 102 0 1 (is' := [_, _]) rfl rfl rfl ?_
  refine W.loopx1 (fun (k : Nat) => [(13, vI (k : Int))]) (fun (k : Nat) => [(102, .cells 25 [vL 1 ((wrW [] ps k).map eB), vI (syW ps s k)])]) (fun (k : Nat) => k ≤ ps.length) (fun (k : Nat) => ps.length - k) (0) (rn []) (.cons (t := 1) rfl (.cons (t := 4) rfl (.cons (t := 6) rfl (.cons (t := 11) rfl (.cons (t := 12) rfl .nil))))) (.cons (t := 101) rfl .nil) rfl ?_ ?_ rfl rfl ?_ ?_
  · exact (SubF.cons rfl SubF.nil)
  · exact (SubS.val rfl (by rw [syW_0]; rfl) SubS.nil)
  · skip
    omega
  intro k hinv
  have hk := hinv
  have h480 := (wr_0 hs (k := k) (by omega)).2.2.2
  refine W.seq ?_
  refine W.region ?_
  refine SL.val (O.det (fun _ => G.R.lss rfl rfl) rfl Taken.no) ?_
  refine SL.nil ?_
  refine E.to ?_
  refine W.seq ?_
  first | refine W.cond_d rfl (fun hc1 => ?_) (fun hc1 => ?_) | refine W.cond_nd rfl (fun hc1 => ?_) (fun hc1 => ?_) | refine W.cond rfl (fun hc1 => ?_) (fun hc1 => ?_)
  · skip
    refine W.skip ?_
    refine E.to ?_
    refine W.seq ?_
    refine W.block ?_
    refine W.seq ?_
    refine W.region ?_
    refine SL.val (O.move rfl rfl Taken.no) ?_
    refine SL.val (O.idx_fz rfl rfl (rfl) (row_get (by omega)) Try.underlying26 hi22 hs22 rfl Taken.no) ?_
    refine SL.val (O.ld1 (PtI.ofU (PtU.fz rfl)) rfl Try.underlying22 rfl rfl Taken.no) ?_
    refine SL.val (O.assign rfl rfl Taken.no) ?_
    refine SL.val (O.assign rfl rfl Taken.no) ?_
    refine SL.nil ?_
    refine E.to ?_
    refine W.seq ?_
    refine W.region ?_
    refine SL.val (O.ldN (m := 2) (PtI.ref rfl rfl) (js := [_, _]) rfl (Nat.le_of_ble_eq_true rfl) Try.underlying25 rfl (by kernel_rfl) rfl Taken.no) ?_
    refine SL.val (O.move rfl rfl Taken.no) ?_
    refine SL.memS (O.call (rn []) [] rfl rfl rfl (append_h (l := (wrW [] ps k)) (p := ps[k]!) _ (by omega) (by have := small_get hs (k := k) (by omega); omega)) (.cons (ArgOk.aggU (.cons (ArgOk.same rfl) (.cons (ArgOk.same rfl) .nil))) (.cons (ArgOk.same rfl) .nil)) SubS.nil rfl rfl rfl rfl rfl (.inl rfl) hcallOk21 (r' := .tup [.agg [.u _, .u _], .u _]) rfl rfl Taken.no) rfl rfl (S' := _) rfl ?_
    refine SL.as (i' := .tup [.agg [vL 1 ((wrW [] ps (k + 1)).map eB), vI (syW ps s k)], vI 0]) 21 rfl (by rw [(wr_app hs (by omega)).1, (wr_app hs (by omega)).2.1, (wr_app hs (by omega)).2.2]) ?_
    refine SL.val (O.move rfl rfl Taken.no) ?_
    refine SL.val (O.extract rfl rfl rfl Taken.no) ?_
    refine SL.val (O.extract rfl rfl rfl Taken.no) ?_
    refine SL.memS (O.alloc (z := .agg #[.slice none 0 0, .int .i64 0]) (is := [.u (.sc (.slice none 0 0)), .u (.sc (.int .i64 0))]) 103 (by kernel_rfl) rfl rfl rfl Taken.no) rfl rfl (S' := (103, _) :: _) rfl ?_
    refine SL.effS (O.st_ref (m := 2) rfl rfl rfl (js := [_, _]) rfl rfl (by kernel_rfl) (by simp) (Nat.le_of_ble_eq_true rfl) rfl (is' := [_, _]) rfl Taken.no) (S' := (103, _) :: _) rfl ?_
    refine SL.val (O.assign rfl rfl Taken.no) ?_
    refine SL.nil ?_
    refine E.to ?_
    refine W.seq ?_
    refine W.seq ?_
    refine W.region ?_
    refine SL.val (O.move rfl rfl Taken.no) ?_
    refine SL.val (O.det (fun _ => G.R.mv (G.R.neq rfl rfl) (congrArg Value.bool (decide_eq_false (by decide)))) rfl Taken.no) ?_
    refine SL.nil ?_
    refine E.to ?_
    refine W.cond_f rfl ?_
    refine W.skip ?_
    refine E.to ?_
    refine W.seq ?_
    refine W.region ?_
    refine SL.val (O.ldN (m := 2) (PtI.ref rfl rfl) (js := [_, _]) rfl (Nat.le_of_ble_eq_true rfl) Try.underlying25 rfl (by kernel_rfl) rfl Taken.no) ?_
    refine SL.effS (O.st_ref (m := 2) rfl rfl rfl (js := [_, _]) rfl rfl (by kernel_rfl) (by simp) (Nat.le_of_ble_eq_true rfl) rfl (is' := [_, _]) rfl Taken.no) (S' := (102, _) :: _) rfl ?_
    refine SL.nil ?_
    refine E.to ?_
    refine W.seq ?_
    refine W.region ?_
    refine SL.val (O.move rfl rfl Taken.no) ?_
    refine SL.val (O.det (fun _ => by first | exact G.R.add64 rfl rfl (by omega) | exact G.R.add rfl rfl) rfl Taken.no) ?_
    refine SL.val (O.move rfl rfl Taken.no) ?_
    refine SL.val (O.det (fun _ => G.R.eql rfl rfl) rfl Taken.no) ?_
    refine SL.nil ?_
    refine E.to ?_
    refine W.pick (.cons (t := 1) rfl (.cons (t := 4) rfl (.cons (t := 6) rfl (.cons (t := 7) rfl (.cons (t := 8) rfl (.cons (t := 9) rfl (.cons (t := 10) rfl (.cons (t := 11) rfl (.cons (t := 12) rfl (.cons (t := 13) rfl (.cons (t := 14) rfl (.cons (t := 15) rfl (.cons (t := 16) rfl (.cons (t := 17) rfl (.cons (t := 18) rfl (.cons (t := 19) rfl (.cons (t := 20) rfl (.cons (t := 21) rfl (.cons (t := 22) rfl (.cons (t := 23) rfl (.cons (t := 24) rfl (.cons (t := 25) rfl (.cons (t := 27) rfl (.cons (t := 28) rfl (.cons (t := 29) rfl (.cons (t := 30) rfl (.cons (t := 31) rfl .nil))))))))))))))))))))))))))) (.cons (t := 101) rfl (.cons (t := 102) rfl (.cons (t := 103) rfl .nil))) ?_
    first | refine W.cond_d rfl (fun hc2 => ?_) (fun hc2 => ?_) | refine W.cond_nd rfl (fun hc2 => ?_) (fun hc2 => ?_) | refine W.cond rfl (fun hc2 => ?_) (fun hc2 => ?_)
    · skip
      refine W.seq ?_
      refine W.region ?_
      refine SL.val (O.ldN (m := 2) (PtI.ref rfl rfl) (js := [_, _]) rfl (Nat.le_of_ble_eq_true rfl) Try.underlying25 rfl (by kernel_rfl) rfl Taken.no) ?_
      refine SL.memS (O.call (rn []) [] rfl rfl rfl (sync_h (l := (wrW [] ps (k + 1))) _ (by have := (wr_0 hs (k := k + 1) (by omega)).2.2.2; omega)) (.cons (ArgOk.aggU (.cons (ArgOk.same rfl) (.cons (ArgOk.same rfl) .nil))) .nil) SubS.nil rfl rfl rfl rfl rfl (.inl rfl) hcallOk23 (r' := .tup [.agg [.u _, .u _], .u _]) rfl rfl Taken.no) rfl rfl (S' := _) rfl ?_
      refine SL.as (i' := .tup [.agg [vL 1 ((wrW [] ps (k + 1)).map eB), vI (((wrW [] ps (k + 1)).length : Nat) : Int)], vI 0]) 34 rfl (by rw [(wr_sync hs (by omega)).1, (wr_sync hs (by omega)).2]) ?_
      refine SL.val (O.move rfl rfl Taken.no) ?_
      refine SL.val (O.extract rfl rfl rfl Taken.no) ?_
      refine SL.val (O.extract rfl rfl rfl Taken.no) ?_
      refine SL.effS (O.st_ref (m := 2) rfl rfl rfl (js := [_, _]) rfl rfl (by kernel_rfl) (by simp) (Nat.le_of_ble_eq_true rfl) rfl (is' := [_, _]) rfl Taken.no) (S' := (102, _) :: _) rfl ?_
      refine SL.val (O.assign rfl rfl Taken.no) ?_
      refine SL.nil ?_
      refine E.to ?_
      refine W.pick (.cons (t := 1) rfl (.cons (t := 4) rfl (.cons (t := 6) rfl (.cons (t := 7) rfl (.cons (t := 8) rfl (.cons (t := 9) rfl (.cons (t := 10) rfl (.cons (t := 11) rfl (.cons (t := 12) rfl (.cons (t := 13) rfl (.cons (t := 14) rfl (.cons (t := 15) rfl (.cons (t := 16) rfl (.cons (t := 17) rfl (.cons (t := 18) rfl (.cons (t := 19) rfl (.cons (t := 20) rfl (.cons (t := 21) rfl (.cons (t := 22) rfl (.cons (t := 23) rfl (.cons (t := 24) rfl (.cons (t := 25) rfl (.cons (t := 27) rfl (.cons (t := 28) rfl (.cons (t := 29) rfl (.cons (t := 30) rfl (.cons (t := 31) rfl (.cons (t := 32) rfl (.cons (t := 33) rfl (.cons (t := 34) rfl (.cons (t := 35) rfl (.cons (t := 36) rfl .nil)))))))))))))))))))))))))))))))) (.cons (t := 101) rfl (.cons (t := 102) rfl (.cons (t := 103) rfl .nil))) ?_
      refine W.seq ?_
      refine W.region ?_
      refine SL.val (O.move rfl rfl Taken.no) ?_
      refine SL.val (O.det (fun _ => G.R.mv (G.R.neq rfl rfl) (congrArg Value.bool (decide_eq_false (by decide)))) rfl Taken.no) ?_
      refine SL.nil ?_
      refine E.to ?_
      refine W.pick (.cons (t := 1) rfl (.cons (t := 4) rfl (.cons (t := 6) rfl (.cons (t := 7) rfl (.cons (t := 8) rfl (.cons (t := 9) rfl (.cons (t := 10) rfl (.cons (t := 11) rfl (.cons (t := 12) rfl (.cons (t := 13) rfl (.cons (t := 14) rfl (.cons (t := 15) rfl (.cons (t := 16) rfl (.cons (t := 17) rfl (.cons (t := 18) rfl (.cons (t := 19) rfl (.cons (t := 20) rfl (.cons (t := 21) rfl (.cons (t := 22) rfl (.cons (t := 23) rfl (.cons (t := 24) rfl (.cons (t := 25) rfl (.cons (t := 27) rfl (.cons (t := 28) rfl (.cons (t := 29) rfl (.cons (t := 30) rfl (.cons (t := 31) rfl (.cons (t := 32) rfl (.cons (t := 33) rfl (.cons (t := 34) rfl (.cons (t := 35) rfl (.cons (t := 36) rfl (.cons (t := 37) rfl (.cons (t := 38) rfl .nil)))))))))))))))))))))))))))))))))) (.cons (t := 101) rfl (.cons (t := 102) rfl (.cons (t := 103) rfl .nil))) ?_
      refine W.cond_f rfl ?_
      refine W.skip ?_
      refine E.inn ?_
      refine E.to ?_
      refine W.pick (.cons (t := 1) rfl (.cons (t := 4) rfl (.cons (t := 6) rfl (.cons (t := 7) rfl (.cons (t := 8) rfl (.cons (t := 9) rfl (.cons (t := 10) rfl (.cons (t := 11) rfl (.cons (t := 12) rfl (.cons (t := 13) rfl (.cons (t := 14) rfl (.cons (t := 15) rfl (.cons (t := 16) rfl (.cons (t := 17) rfl (.cons (t := 18) rfl (.cons (t := 19) rfl (.cons (t := 20) rfl (.cons (t := 21) rfl (.cons (t := 22) rfl (.cons (t := 23) rfl (.cons (t := 24) rfl (.cons (t := 25) rfl (.cons (t := 27) rfl (.cons (t := 28) rfl (.cons (t := 29) rfl (.cons (t := 30) rfl (.cons (t := 31) rfl (.cons (t := 32) rfl (.cons (t := 33) rfl (.cons (t := 34) rfl (.cons (t := 35) rfl (.cons (t := 36) rfl (.cons (t := 37) rfl (.cons (t := 38) rfl .nil)))))))))))))))))))))))))))))))))) (.cons (t := 101) rfl (.cons (t := 102) rfl (.cons (t := 103) rfl .nil))) ?_
      refine W.region ?_
      refine SL.val (O.det (fun _ => by first | exact G.R.add64 rfl rfl (by omega) | exact G.R.add rfl rfl) rfl Taken.no) ?_
      refine SL.val (O.move rfl rfl Taken.no) ?_
      refine SL.nil ?_
      refine E.again ((k + 1)) (rn []) ?_ ?_ rfl (fixL_spec rfl) ?_ ?_
      · exact (SubF.cons rfl (SubF.cons rfl (SubF.cons rfl (SubF.cons rfl (SubF.cons rfl (SubF.cons rfl SubF.nil))))))
      · exact (SubS.val rfl (by (try dsimp only); first | (rw [syW_no (by omega)]; rfl) | (rw [syW_at (by omega)]; rfl)) (SubS.cons rfl SubS.nil))
      · try dsimp only
        omega
      · (try dsimp only); omega
    · skip
      refine W.skip ?_
      refine E.inn ?_
      refine E.to ?_
      refine W.pick (.cons (t := 1) rfl (.cons (t := 4) rfl (.cons (t := 6) rfl (.cons (t := 7) rfl (.cons (t := 8) rfl (.cons (t := 9) rfl (.cons (t := 10) rfl (.cons (t := 11) rfl (.cons (t := 12) rfl (.cons (t := 13) rfl (.cons (t := 14) rfl (.cons (t := 15) rfl (.cons (t := 16) rfl (.cons (t := 17) rfl (.cons (t := 18) rfl (.cons (t := 19) rfl (.cons (t := 20) rfl (.cons (t := 21) rfl (.cons (t := 22) rfl (.cons (t := 23) rfl (.cons (t := 24) rfl (.cons (t := 25) rfl (.cons (t := 27) rfl (.cons (t := 28) rfl (.cons (t := 29) rfl (.cons (t := 30) rfl (.cons (t := 31) rfl .nil))))))))))))))))))))))))))) (.cons (t := 101) rfl (.cons (t := 102) rfl (.cons (t := 103) rfl .nil))) ?_
      refine W.region ?_
      refine SL.val (O.det (fun _ => by first | exact G.R.add64 rfl rfl (by omega) | exact G.R.add rfl rfl) rfl Taken.no) ?_
      refine SL.val (O.move rfl rfl Taken.no) ?_
      refine SL.nil ?_
      refine E.again ((k + 1)) (rn []) ?_ ?_ rfl (fixL_spec rfl) ?_ ?_
      · exact (SubF.cons rfl (SubF.cons rfl (SubF.cons rfl (SubF.cons rfl (SubF.cons rfl (SubF.cons rfl SubF.nil))))))
      · exact (SubS.val rfl (by (try dsimp only); first | (rw [syW_no (by omega)]; rfl) | (rw [syW_at (by omega)]; rfl)) (SubS.cons rfl SubS.nil))
      · try dsimp only
        omega
      · (try dsimp only); omega
  · skip
    refine W.exit ?_
    refine E.th ?_
    refine E.th ?_
    refine E.hit ?_
    refine E.to ?_
    refine W.seq ?_
    refine W.region ?_
    refine SL.val (O.ldN (m := 2) (PtI.ref rfl rfl) (js := [_, _]) rfl (Nat.le_of_ble_eq_true rfl) Try.underlying25 rfl (by kernel_rfl) rfl Taken.no) ?_
    refine SL.effS (O.st_ref (m := 2) rfl rfl rfl (js := [_, _]) rfl rfl (by kernel_rfl) (by simp) (Nat.le_of_ble_eq_true rfl) rfl (is' := [_, _]) rfl Taken.no) (S' := (101, _) :: _) rfl ?_
    refine SL.val (O.assign rfl rfl Taken.no) ?_
    refine SL.nil ?_
    refine E.to ?_
    refine W.ret ?_
    refine E.fin (rs := [_, _]) (rn []) (.inl rfl) rfl (.cons (ResOne.cellN (m := 2) (PtI.ref rfl rfl) (js := [_, _]) rfl (Nat.le_of_ble_eq_true rfl) Try.underlying25 rfl (by kernel_rfl)) (.cons (ResOne.tmp rfl) .nil)) ?_ ?_ rfl (fixL_spec rfl)
    · skip
      first | rfl | (obtain rfl : k = ps.length := (by omega); rfl)
    · exact SubS.nil

/-- bookplate/bookplatelaw20.WalPayloads. -/
theorem walPayloads_h (s : Int) {ps : List (List UInt8)} (hn : 0 ≤ s ∧ s ≤ 255) :
    Con Try.prog 9 [vL 1 (ps.map eL), vN .u8 s] [] (vB true) [] := by
  refine Con.enterL (n := 51) Try.func9 rfl rfl rfl (fun τ w ok vs hin => ?_)
  have hl0 := hin.len (i := 0) rfl
  try rw [List.length_map] at hl0
  clear hin
  refine W.seq ?_
  refine W.region ?_
  refine SL.val (O.assign rfl rfl Taken.no) ?_
  refine SL.nil ?_
  refine E.to ?_
  refine W.seq ?_
  refine W.seq ?_
  refine W.region ?_
  refine SL.val (O.callp rfl rfl rfl (awake_h) .nil hcallOk10 rfl Taken.no) ?_
  refine SL.as (i' := vB true) 9 rfl (by exact iv_bool (rfl)) ?_
  refine SL.val (O.det (fun _ => G.R.mv (G.R.not rfl) rfl) rfl Taken.no) ?_
  refine SL.nil ?_
  refine E.to ?_
  refine W.cond_f rfl ?_
  refine W.skip ?_
  refine E.to ?_
  refine W.seq ?_
  refine W.seq ?_
  refine W.region ?_
  refine SL.val (O.move rfl rfl Taken.no) ?_
  refine SL.val (O.callp rfl rfl rfl (small_h) (.cons (ArgOk.same rfl) .nil) hcallOk19 rfl Taken.no) ?_
  refine SL.val (O.det (fun _ => G.R.not rfl) rfl Taken.no) ?_
  refine SL.nil ?_
  refine E.to ?_
  first | refine W.cond_d rfl (fun hc1 => ?_) (fun hc1 => ?_) | refine W.cond_nd rfl (fun hc1 => ?_) (fun hc1 => ?_) | refine W.cond rfl (fun hc1 => ?_) (fun hc1 => ?_)
  · skip
    refine W.seq ?_
    refine W.region ?_
    refine SL.val (O.assign rfl rfl Taken.no) ?_
    refine SL.nil ?_
    refine E.to ?_
    refine W.ret ?_
    refine E.thr ?_
    refine E.fin (rs := [_]) (rn []) (.inl rfl) rfl (.cons (ResOne.tmp rfl) .nil) ?_ ?_ rfl (fixL_spec rfl)
    · skip
      rfl
    · exact SubS.nil
  · skip
    have hs : smallL ps := by first | assumption | (rename_i q; simpa using q)
    obtain ⟨w1, w2, w3, w4⟩ := wr_0 hs (k := ps.length) (Nat.le_refl _)
    rw [List.take_length] at w2
    have hv := wr_valid (s := s) hs (Nat.le_refl ps.length)
    refine W.skip ?_
    refine E.to ?_
    refine W.seq ?_
    refine W.region ?_
    refine SL.val (O.move rfl rfl Taken.no) ?_
    refine SL.val (O.move rfl rfl Taken.no) ?_
    refine SL.val (O.det (fun _ => G.R.mv (G.R.conv64 rfl Try.underlying5 Try.underlying3 (by omega)) rfl) rfl Taken.no) ?_
    refine SL.memS (O.call (rn []) [] rfl rfl rfl (written_h s hs) (.cons (ArgOk.same rfl) (.cons (ArgOk.same rfl) .nil)) SubS.nil rfl rfl rfl rfl rfl (.inl rfl) hcallOk20 (r' := .tup [.agg [.u _, .u _], .u _]) rfl rfl Taken.no) rfl rfl (S' := _) rfl ?_
    refine SL.val (O.move rfl rfl Taken.no) ?_
    refine SL.val (O.extract rfl rfl rfl Taken.no) ?_
    refine SL.val (O.extract rfl rfl rfl Taken.no) ?_
    refine SL.memS (O.alloc (z := .agg #[.slice none 0 0, .int .i64 0]) (is := [.u (.sc (.slice none 0 0)), .u (.sc (.int .i64 0))]) 101 (by kernel_rfl) rfl rfl rfl Taken.no) rfl rfl (S' := (101, _) :: _) rfl ?_
    refine SL.effS (O.st_ref (m := 2) rfl rfl rfl (js := [_, _]) rfl rfl (by kernel_rfl) (by simp) (Nat.le_of_ble_eq_true rfl) rfl (is' := [_, _]) rfl Taken.no) (S' := (101, _) :: _) rfl ?_
    refine SL.val (O.assign rfl rfl Taken.no) ?_
    refine SL.nil ?_
    refine E.to ?_
    refine W.seq ?_
    refine W.region ?_
    refine SL.val (O.fld_ref (o' := 0) rfl Try.underlying25 rfl (m := 0) (by kernel_rfl) rfl rfl Taken.no) ?_
    refine SL.val (O.ld1 (PtI.ref rfl rfl) rfl Try.underlying22 rfl rfl Taken.no) ?_
    refine SL.memS (O.call (rn []) [] rfl rfl rfl (open_h (l := (wrW [] ps ps.length)) (by omega)) (.cons (ArgOk.same rfl) .nil) SubS.nil rfl rfl rfl rfl rfl (.inl rfl) hcallOk11 (r' := .tup [.agg [.u _, .u _], .u _]) rfl rfl Taken.no) rfl rfl (S' := _) rfl ?_
    refine SL.as (i' := .tup [.agg [vL 1 ((wrW [] ps ps.length).map eB), vI (((wrW [] ps ps.length).length : Nat) : Int)], vL 1 (ps.map eL)]) 24 rfl (by rw [full_open w1, w1, w2]) ?_
    refine SL.val (O.move rfl rfl Taken.no) ?_
    refine SL.val (O.extract rfl rfl rfl Taken.no) ?_
    refine SL.val (O.extract rfl rfl rfl Taken.no) ?_
    refine SL.memS (O.alloc (z := .agg #[.slice none 0 0, .int .i64 0]) (is := [.u (.sc (.slice none 0 0)), .u (.sc (.int .i64 0))]) 102 (by kernel_rfl) rfl rfl rfl Taken.no) rfl rfl (S' := (102, _) :: _) rfl ?_
    refine SL.effS (O.st_ref (m := 2) rfl rfl rfl (js := [_, _]) rfl rfl (by kernel_rfl) (by simp) (Nat.le_of_ble_eq_true rfl) rfl (is' := [_, _]) rfl Taken.no) (S' := (102, _) :: _) rfl ?_
    refine SL.val (O.assign rfl rfl Taken.no) ?_
    refine SL.nil ?_
    refine E.to ?_
    refine W.pick (.cons (t := 0) rfl (.cons (t := 4) rfl (.cons (t := 5) rfl (.cons (t := 6) rfl (.cons (t := 7) rfl (.cons (t := 8) rfl .nil)))))) (.cons (t := 101) rfl (.cons (t := 102) rfl .nil)) ?_
    refine W.seq ?_
    refine W.region ?_
    refine SL.val (O.move rfl rfl Taken.no) ?_
    refine SL.val (O.move rfl rfl Taken.no) ?_
    have hg2 : true = true := by decide
    refine SL.val (O.ldN (m := 2) (PtI.ref rfl rfl) (js := [_, _]) rfl (Nat.le_of_ble_eq_true rfl) Try.underlying25 rfl (by kernel_rfl) rfl (Taken.yes rfl rfl hg2)) ?_
    refine SL.val (O.callp rfl rfl rfl (payloads_h (l := (wrW [] ps ps.length)) _ (by omega)) (.cons (ArgOk.aggU (.cons (ArgOk.same rfl) (.cons (ArgOk.same rfl) .nil))) .nil) hcallOk26 rfl (Taken.yes rfl rfl hg2)) ?_
    refine SL.as (i' := vL 1 (ps.map eL)) 30 rfl (by rw [if_pos hv, w2]) ?_
    refine SL.val (O.move rfl rfl (Taken.yes rfl rfl hg2)) ?_
    refine SL.val (O.callp rfl rfl rfl (same_h) (.cons (ArgOk.same rfl) (.cons (ArgOk.same rfl) .nil)) hcallOk14 rfl (Taken.yes rfl rfl hg2)) ?_
    refine SL.as (i' := vB true) 32 rfl (by exact iv_bool (decide_eq_true rfl)) ?_
    refine SL.val (O.pick_t rfl rfl rfl rfl Taken.no) ?_
    refine SL.val (O.move rfl rfl Taken.no) ?_
    have hg3 : true = true := by decide
    refine SL.val (O.move rfl rfl (Taken.yes rfl rfl hg3)) ?_
    refine SL.val (O.move rfl rfl (Taken.yes rfl rfl hg3)) ?_
    refine SL.val (O.callp rfl rfl rfl (same_h) (.cons (ArgOk.same rfl) (.cons (ArgOk.same rfl) .nil)) hcallOk14 rfl (Taken.yes rfl rfl hg3)) ?_
    refine SL.as (i' := vB true) 37 rfl (by exact iv_bool (decide_eq_true rfl)) ?_
    refine SL.val (O.pick_t rfl rfl rfl rfl Taken.no) ?_
    refine SL.val (O.move rfl rfl Taken.no) ?_
    have hg4 : true = true := by decide
    refine SL.val (O.ldN (m := 2) (PtI.ref rfl rfl) (js := [_, _]) rfl (Nat.le_of_ble_eq_true rfl) Try.underlying25 rfl (by kernel_rfl) rfl (Taken.yes rfl rfl hg4)) ?_
    refine SL.val (O.callp rfl rfl rfl (valid_h (l := (wrW [] ps ps.length)) _ (by omega)) (.cons (ArgOk.aggU (.cons (ArgOk.same rfl) (.cons (ArgOk.same rfl) .nil))) .nil) hcallOk15 rfl (Taken.yes rfl rfl hg4)) ?_
    refine SL.as (i' := vB true) 41 rfl (by rw [decide_eq_true hv]) ?_
    refine SL.val (O.pick_t rfl rfl rfl rfl Taken.no) ?_
    refine SL.val (O.move rfl rfl Taken.no) ?_
    have hg5 : true = true := by decide
    refine SL.val (O.fld_ref (o' := 1) rfl Try.underlying25 rfl (m := 0) (by kernel_rfl) rfl rfl (Taken.yes rfl rfl hg5)) ?_
    refine SL.val (O.ld1 (PtI.ref rfl rfl) rfl Try.underlying3 rfl rfl (Taken.yes rfl rfl hg5)) ?_
    refine SL.val (O.fld_ref (o' := 0) rfl Try.underlying25 rfl (m := 0) (by kernel_rfl) rfl rfl (Taken.yes rfl rfl hg5)) ?_
    refine SL.val (O.ld1 (PtI.ref rfl rfl) rfl Try.underlying22 rfl rfl (Taken.yes rfl rfl hg5)) ?_
    refine SL.val (O.lenE (SlOf.fz rfl (by decide)) (by first | exact List.length_map _ | rfl) Try.underlying22 rfl (Taken.yes rfl rfl hg5)) ?_
    refine SL.val (O.det (fun _ => G.R.mv (G.R.eql rfl rfl) (congrArg Value.bool (decide_eq_true (by rfl)))) rfl (Taken.yes rfl rfl hg5)) ?_
    refine SL.val (O.pick_t rfl rfl rfl rfl Taken.no) ?_
    refine SL.val (O.assign rfl rfl Taken.no) ?_
    refine SL.nil ?_
    refine E.to ?_
    refine W.pick (.cons (t := 4) rfl .nil) (.cons (t := 101) rfl (.cons (t := 102) rfl .nil)) ?_
    refine W.ret ?_
    refine E.fin (rs := [_]) (rn []) (.inl rfl) rfl (.cons (ResOne.tmp rfl) .nil) ?_ ?_ rfl (fixL_spec rfl)
    · skip
      rfl
    · exact SubS.nil

/-- bookplate/bookplatelaw20.WalRecovers. -/
theorem walRecovers_h (s keep : Int) {ps : List (List UInt8)} (hn : 0 ≤ s ∧ s ≤ 255) (hm : 0 ≤ keep ∧ keep ≤ 65535) :
    Con Try.prog 5 [vL 1 (ps.map eL), vN .u8 s, vN .u16 keep] [] (vB true) [] := by
  obtain ⟨i22, hi22, hz22, hs22, hb22⟩ := hinf22
  refine Con.enterL (n := 78) Try.func5 rfl rfl rfl (fun τ w ok vs hin => ?_)
  have hl0 := hin.len (i := 0) rfl
  try rw [List.length_map] at hl0
  clear hin
  refine W.seq ?_
  refine W.region ?_
  refine SL.val (O.assign rfl rfl Taken.no) ?_
  refine SL.nil ?_
  refine E.to ?_
  refine W.seq ?_
  refine W.seq ?_
  refine W.region ?_
  refine SL.val (O.callp rfl rfl rfl (awake_h) .nil hcallOk10 rfl Taken.no) ?_
  refine SL.as (i' := vB true) 14 rfl (by exact iv_bool (rfl)) ?_
  refine SL.val (O.det (fun _ => G.R.mv (G.R.not rfl) rfl) rfl Taken.no) ?_
  refine SL.nil ?_
  refine E.to ?_
  refine W.cond_f rfl ?_
  refine W.skip ?_
  refine E.to ?_
  refine W.seq ?_
  refine W.seq ?_
  refine W.region ?_
  refine SL.val (O.move rfl rfl Taken.no) ?_
  refine SL.val (O.callp rfl rfl rfl (small_h) (.cons (ArgOk.same rfl) .nil) hcallOk19 rfl Taken.no) ?_
  refine SL.val (O.det (fun _ => G.R.not rfl) rfl Taken.no) ?_
  refine SL.nil ?_
  refine E.to ?_
  first | refine W.cond_d rfl (fun hc1 => ?_) (fun hc1 => ?_) | refine W.cond_nd rfl (fun hc1 => ?_) (fun hc1 => ?_) | refine W.cond rfl (fun hc1 => ?_) (fun hc1 => ?_)
  · skip
    refine W.seq ?_
    refine W.region ?_
    refine SL.val (O.assign rfl rfl Taken.no) ?_
    refine SL.nil ?_
    refine E.to ?_
    refine W.ret ?_
    refine E.thr ?_
    refine E.fin (rs := [_]) (rn []) (.inl rfl) rfl (.cons (ResOne.tmp rfl) .nil) ?_ ?_ rfl (fixL_spec rfl)
    · skip
      rfl
    · exact SubS.nil
  · skip
    have hs : smallL ps := by first | assumption | (rename_i q; simpa using q)
    obtain ⟨w1, w2, w3, w4⟩ := wr_0 hs (k := ps.length) (Nat.le_refl _)
    have hsy := sy_range (s := s) hs
    have hr0 := Int.emod_nonneg keep (show ((wrW [] ps ps.length).length : Int) - syW ps s ps.length + 1 ≠ 0 by omega)
    have hr1 := Int.emod_lt_of_pos keep (show 0 < ((wrW [] ps ps.length).length : Int) - syW ps s ps.length + 1 by omega)
    obtain ⟨M, hM⟩ : ∃ M, M = (syW ps s ps.length + (keep % (((wrW [] ps ps.length).length : Int) - syW ps s ps.length + 1))).toNat := ⟨_, rfl⟩
    obtain ⟨c, c1, c2, c3⟩ := recovers (M := M) hs hn.1 (by omega) (by omega)
    have hcl : (ps.take c).length = c := by rw [List.length_take]; omega
    refine W.skip ?_
    refine E.to ?_
    refine W.seq ?_
    refine W.region ?_
    refine SL.val (O.move rfl rfl Taken.no) ?_
    refine SL.val (O.move rfl rfl Taken.no) ?_
    refine SL.val (O.det (fun _ => G.R.mv (G.R.conv64 rfl Try.underlying5 Try.underlying3 (by omega)) rfl) rfl Taken.no) ?_
    refine SL.memS (O.call (rn []) [] rfl rfl rfl (written_h s hs) (.cons (ArgOk.same rfl) (.cons (ArgOk.same rfl) .nil)) SubS.nil rfl rfl rfl rfl rfl (.inl rfl) hcallOk20 (r' := .tup [.agg [.u _, .u _], .u _]) rfl rfl Taken.no) rfl rfl (S' := _) rfl ?_
    refine SL.val (O.move rfl rfl Taken.no) ?_
    refine SL.val (O.extract rfl rfl rfl Taken.no) ?_
    refine SL.val (O.extract rfl rfl rfl Taken.no) ?_
    refine SL.memS (O.alloc (z := .agg #[.slice none 0 0, .int .i64 0]) (is := [.u (.sc (.slice none 0 0)), .u (.sc (.int .i64 0))]) 101 (by kernel_rfl) rfl rfl rfl Taken.no) rfl rfl (S' := (101, _) :: _) rfl ?_
    refine SL.effS (O.st_ref (m := 2) rfl rfl rfl (js := [_, _]) rfl rfl (by kernel_rfl) (by simp) (Nat.le_of_ble_eq_true rfl) rfl (is' := [_, _]) rfl Taken.no) (S' := (101, _) :: _) rfl ?_
    refine SL.val (O.assign rfl rfl Taken.no) ?_
    refine SL.nil ?_
    refine E.to ?_
    refine W.seq ?_
    refine W.seq ?_
    refine W.region ?_
    refine SL.val (O.move rfl rfl Taken.no) ?_
    refine SL.val (O.det (fun _ => G.R.mv (G.R.not rfl) rfl) rfl Taken.no) ?_
    refine SL.nil ?_
    refine E.to ?_
    refine W.cond_f rfl ?_
    refine W.skip ?_
    refine E.to ?_
    refine W.seq ?_
    refine W.draw [⟨[101], [], []⟩, ⟨[], [], []⟩, ⟨[], [], []⟩, ⟨[101], [], []⟩, ⟨[101], [], []⟩, ⟨[], [], []⟩, ⟨[101], [], []⟩, ⟨[101], [], []⟩, ⟨[], [], []⟩, ⟨[], [], []⟩, ⟨[], [], []⟩, ⟨[], [], []⟩, ⟨[], [], []⟩, ⟨[], [], []⟩, ⟨[], [], []⟩, ⟨[], [], []⟩, ⟨[], [], []⟩] rfl (by kernel_rfl) (by kernel_rfl) rfl rfl ?_
    refine WH.val (O.ldN (m := 2) (PtI.ref rfl rfl) (js := [_, _]) rfl (Nat.le_of_ble_eq_true rfl) Try.underlying25 rfl (by kernel_rfl) rfl Taken.no) rfl rfl ?_
    refine WH.val (O.move rfl rfl Taken.no) rfl rfl ?_
    refine WH.val (O.det (fun _ => G.R.mv (G.R.conv64 rfl Try.underlying42 Try.underlying3 (by omega)) rfl) rfl Taken.no) rfl rfl ?_
    refine WH.val (O.fld_ref (o' := 0) rfl Try.underlying25 rfl (m := 0) (by kernel_rfl) rfl rfl Taken.no) rfl rfl ?_
    refine WH.val (O.ld1 (PtI.ref rfl rfl) rfl Try.underlying22 rfl rfl Taken.no) rfl rfl ?_
    refine WH.val (O.lenE (SlOf.fz rfl (by decide)) (by first | exact List.length_map _ | rfl) Try.underlying22 rfl Taken.no) rfl rfl ?_
    refine WH.val (O.fld_ref (o' := 1) rfl Try.underlying25 rfl (m := 0) (by kernel_rfl) rfl rfl Taken.no) rfl rfl ?_
    refine WH.val (O.ld1 (PtI.ref rfl rfl) rfl Try.underlying3 rfl rfl Taken.no) rfl rfl ?_
    refine WH.val (O.det (fun _ => by first | exact G.R.sub64 rfl rfl (by omega) | exact G.R.sub rfl rfl) rfl Taken.no) rfl rfl ?_
    refine WH.val (O.det (fun _ => by first | exact G.R.add64 rfl rfl (by omega) | exact G.R.add rfl rfl) rfl Taken.no) rfl rfl ?_
    refine WH.val (O.det (fun _ => by first | exact G.R.rem0 rfl rfl (by omega) (by omega) | exact G.R.rem rfl rfl (by omega)) rfl Taken.no) rfl rfl ?_
    refine WH.memS (OpOk.re (i' := .tup [vL 1 (((wrW [] ps ps.length).take M).map eB), vI 0]) (O.call (rn []) [] rfl rfl rfl (crash_h (l := (wrW [] ps ps.length)) (syW ps s ps.length) (keep % (((wrW [] ps ps.length).length : Int) - syW ps s ps.length + 1)) (by omega) (by omega) (by omega)) (.cons (ArgOk.aggU (.cons (ArgOk.same rfl) (.cons (ArgOk.same rfl) .nil))) (.cons (ArgOk.same rfl) .nil)) SubS.nil rfl rfl rfl rfl rfl (.inl rfl) hcallOk16 (r' := .tup [.u _, .u _]) rfl rfl Taken.no) (by rw [(rec_crash hs (by omega) (by omega)).1, (rec_crash hs (by omega) (by omega)).2, hM])) rfl rfl rfl rfl rfl (S' := _) rfl ?_
    refine WH.val (O.move rfl rfl Taken.no) rfl rfl ?_
    refine WH.val (O.extract rfl rfl rfl Taken.no) rfl rfl ?_
    refine WH.val (O.extract rfl rfl rfl Taken.no) rfl rfl ?_
    refine WH.val (O.assign rfl rfl Taken.no) rfl rfl ?_
    refine WH.val (O.assign rfl rfl Taken.no) rfl rfl ?_
    refine WH.nil ?_
    refine E.to ?_
    refine W.pick (.cons (t := 0) rfl (.cons (t := 1) rfl (.cons (t := 6) rfl (.cons (t := 9) rfl (.cons (t := 10) rfl .nil))))) (.cons (t := 101) rfl .nil) ?_
    refine W.seq ?_
    refine W.region ?_
    refine SL.val (O.move rfl rfl Taken.no) ?_
    refine SL.memS (O.call (rn []) [] rfl rfl rfl (open_h (l := ((wrW [] ps ps.length).take M)) (by rw [List.length_take]; omega)) (.cons (ArgOk.same rfl) .nil) SubS.nil rfl rfl rfl rfl rfl (.inl rfl) hcallOk11 (r' := .tup [.agg [.u _, .u _], .u _]) rfl rfl Taken.no) rfl rfl (S' := _) rfl ?_
    refine SL.as (i' := .tup [.agg [vL 1 ((((wrW [] ps ps.length).take M).take (endI (wholeL ((wrW [] ps ps.length).take M)).2).toNat).map eB), vI (endI (wholeL ((wrW [] ps ps.length).take M)).2)], vL 1 ((ps.take c).map eL)]) 45 rfl (by rw [c2]) ?_
    refine SL.val (O.move rfl rfl Taken.no) ?_
    refine SL.val (O.extract rfl rfl rfl Taken.no) ?_
    refine SL.val (O.extract rfl rfl rfl Taken.no) ?_
    refine SL.memS (O.alloc (z := .agg #[.slice none 0 0, .int .i64 0]) (is := [.u (.sc (.slice none 0 0)), .u (.sc (.int .i64 0))]) 102 (by kernel_rfl) rfl rfl rfl Taken.no) rfl rfl (S' := (102, _) :: _) rfl ?_
    refine SL.effS (O.st_ref (m := 2) rfl rfl rfl (js := [_, _]) rfl rfl (by kernel_rfl) (by simp) (Nat.le_of_ble_eq_true rfl) rfl (is' := [_, _]) rfl Taken.no) (S' := (102, _) :: _) rfl ?_
    refine SL.val (O.assign rfl rfl Taken.no) ?_
    refine SL.nil ?_
    refine E.to ?_
    refine W.seq ?_
    refine W.region ?_
    refine SL.val (O.assign rfl rfl Taken.no) ?_
    refine SL.nil ?_
    refine E.to ?_
    refine W.seq ?_
    refine W.seq ?_
    refine W.region ?_
    refine SL.val (O.move rfl rfl Taken.no) ?_
    refine SL.val (O.det (fun _ => G.R.mv (G.R.conv64 rfl Try.underlying5 Try.underlying3 (by omega)) rfl) rfl Taken.no) ?_
    refine SL.val (O.move rfl rfl Taken.no) ?_
    refine SL.val (O.lenE (SlOf.fz rfl (by decide)) (by first | exact List.length_map _ | rfl) Try.underlying26 rfl Taken.no) ?_
    refine SL.val (O.det (fun _ => G.R.leq rfl rfl) rfl Taken.no) ?_
    refine SL.nil ?_
    refine E.to ?_
    first | refine W.cond_d rfl (fun hc2 => ?_) (fun hc2 => ?_) | refine W.cond_nd rfl (fun hc2 => ?_) (fun hc2 => ?_) | refine W.cond rfl (fun hc2 => ?_) (fun hc2 => ?_)
    · skip
      refine W.region ?_
      refine SL.val (O.move rfl rfl Taken.no) ?_
      refine SL.val (O.det (fun _ => G.R.mv (G.R.conv64 rfl Try.underlying5 Try.underlying3 (by omega)) rfl) rfl Taken.no) ?_
      refine SL.val (O.assign rfl rfl Taken.no) ?_
      refine SL.nil ?_
      refine E.to ?_
      refine W.seq ?_
      refine W.region ?_
      refine SL.val (O.move rfl rfl Taken.no) ?_
      refine SL.val (O.det (fun _ => G.R.mv (G.R.eql rfl rfl) (congrArg Value.bool (decide_eq_true (by rfl)))) rfl Taken.no) ?_
      refine SL.val (O.move rfl rfl Taken.no) ?_
      have hg3 : true = true := by decide
      refine SL.val (O.move rfl rfl (Taken.yes rfl rfl hg3)) ?_
      refine SL.val (O.lenE (SlOf.fz rfl (by decide)) (by first | exact List.length_map _ | rfl) Try.underlying26 rfl (Taken.yes rfl rfl hg3)) ?_
      refine SL.val (O.move rfl rfl (Taken.yes rfl rfl hg3)) ?_
      refine SL.val (O.lenE (SlOf.fz rfl (by decide)) (by first | exact List.length_map _ | rfl) Try.underlying26 rfl (Taken.yes rfl rfl hg3)) ?_
      refine SL.val (O.det (fun _ => G.R.mv (G.R.leq rfl rfl) (congrArg Value.bool (decide_eq_true (by omega)))) rfl (Taken.yes rfl rfl hg3)) ?_
      refine SL.val (O.pick_t rfl rfl rfl rfl Taken.no) ?_
      refine SL.val (O.move rfl rfl Taken.no) ?_
      have hg4 : true = true := by decide
      refine SL.val (O.move rfl rfl (Taken.yes rfl rfl hg4)) ?_
      refine SL.val (O.lenE (SlOf.fz rfl (by decide)) (by first | exact List.length_map _ | rfl) Try.underlying26 rfl (Taken.yes rfl rfl hg4)) ?_
      refine SL.val (O.move rfl rfl (Taken.yes rfl rfl hg4)) ?_
      refine SL.val (O.det (fun _ => G.R.mv (G.R.geq rfl rfl) (congrArg Value.bool (decide_eq_true (by omega)))) rfl (Taken.yes rfl rfl hg4)) ?_
      refine SL.val (O.pick_t rfl rfl rfl rfl Taken.no) ?_
      refine SL.val (O.move rfl rfl Taken.no) ?_
      have hg5 : true = true := by decide
      refine SL.val (O.move rfl rfl (Taken.yes rfl rfl hg5)) ?_
      refine SL.val (O.move rfl rfl (Taken.yes rfl rfl hg5)) ?_
      refine SL.val (O.move rfl rfl (Taken.yes rfl rfl hg5)) ?_
      refine SL.val (O.lenE (SlOf.fz rfl (by decide)) (by first | exact List.length_map _ | rfl) Try.underlying26 rfl (Taken.yes rfl rfl hg5)) ?_
      refine SL.val (O.sub_fz (j := c) rfl Bnd.no (Bnd.at rfl (by rw [hcl])) (by first | omega | (simp only [List.length_map, Nat.le_refl, Nat.zero_le] <;> omega) | (simp <;> omega)) (by first | omega | (simp only [List.length_map, Nat.le_refl, Nat.zero_le] <;> omega) | (simp <;> omega)) sub_hi Try.underlying26 hi22 hs22 rfl (Taken.yes rfl rfl hg5)) ?_
      refine SL.val (O.callp rfl rfl rfl (same_h) (.cons (ArgOk.same rfl) (.cons (ArgOk.same rfl) .nil)) hcallOk14 rfl (Taken.yes rfl rfl hg5)) ?_
      refine SL.as (i' := vB true) 76 rfl (by exact iv_bool (decide_eq_true rfl)) ?_
      refine SL.val (O.pick_t rfl rfl rfl rfl Taken.no) ?_
      refine SL.val (O.assign rfl rfl Taken.no) ?_
      refine SL.nil ?_
      refine E.to ?_
      refine W.pick (.cons (t := 6) rfl .nil) (.cons (t := 101) rfl (.cons (t := 102) rfl .nil)) ?_
      refine W.ret ?_
      refine E.fin (rs := [_]) (rn []) (.inl rfl) rfl (.cons (ResOne.tmp rfl) .nil) ?_ ?_ rfl (fixL_spec rfl)
      · skip
        rfl
      · exact SubS.nil
    · skip
      refine W.skip ?_
      refine E.to ?_
      refine W.seq ?_
      refine W.region ?_
      refine SL.val (O.move rfl rfl Taken.no) ?_
      refine SL.val (O.det (fun _ => G.R.mv (G.R.eql rfl rfl) (congrArg Value.bool (decide_eq_true (by rfl)))) rfl Taken.no) ?_
      refine SL.val (O.move rfl rfl Taken.no) ?_
      have hg6 : true = true := by decide
      refine SL.val (O.move rfl rfl (Taken.yes rfl rfl hg6)) ?_
      refine SL.val (O.lenE (SlOf.fz rfl (by decide)) (by first | exact List.length_map _ | rfl) Try.underlying26 rfl (Taken.yes rfl rfl hg6)) ?_
      refine SL.val (O.move rfl rfl (Taken.yes rfl rfl hg6)) ?_
      refine SL.val (O.lenE (SlOf.fz rfl (by decide)) (by first | exact List.length_map _ | rfl) Try.underlying26 rfl (Taken.yes rfl rfl hg6)) ?_
      refine SL.val (O.det (fun _ => G.R.mv (G.R.leq rfl rfl) (congrArg Value.bool (decide_eq_true (by omega)))) rfl (Taken.yes rfl rfl hg6)) ?_
      refine SL.val (O.pick_t rfl rfl rfl rfl Taken.no) ?_
      refine SL.val (O.move rfl rfl Taken.no) ?_
      have hg7 : true = true := by decide
      refine SL.val (O.move rfl rfl (Taken.yes rfl rfl hg7)) ?_
      refine SL.val (O.lenE (SlOf.fz rfl (by decide)) (by first | exact List.length_map _ | rfl) Try.underlying26 rfl (Taken.yes rfl rfl hg7)) ?_
      refine SL.val (O.move rfl rfl (Taken.yes rfl rfl hg7)) ?_
      refine SL.val (O.det (fun _ => G.R.mv (G.R.geq rfl rfl) (congrArg Value.bool (decide_eq_true (by omega)))) rfl (Taken.yes rfl rfl hg7)) ?_
      refine SL.val (O.pick_t rfl rfl rfl rfl Taken.no) ?_
      refine SL.val (O.move rfl rfl Taken.no) ?_
      have hg8 : true = true := by decide
      refine SL.val (O.move rfl rfl (Taken.yes rfl rfl hg8)) ?_
      refine SL.val (O.move rfl rfl (Taken.yes rfl rfl hg8)) ?_
      refine SL.val (O.move rfl rfl (Taken.yes rfl rfl hg8)) ?_
      refine SL.val (O.lenE (SlOf.fz rfl (by decide)) (by first | exact List.length_map _ | rfl) Try.underlying26 rfl (Taken.yes rfl rfl hg8)) ?_
      refine SL.val (O.sub_fz (j := c) rfl Bnd.no (Bnd.at rfl (by rw [hcl])) (by first | omega | (simp only [List.length_map, Nat.le_refl, Nat.zero_le] <;> omega) | (simp <;> omega)) (by first | omega | (simp only [List.length_map, Nat.le_refl, Nat.zero_le] <;> omega) | (simp <;> omega)) sub_hi Try.underlying26 hi22 hs22 rfl (Taken.yes rfl rfl hg8)) ?_
      refine SL.val (O.callp rfl rfl rfl (same_h) (.cons (ArgOk.same rfl) (.cons (ArgOk.same rfl) .nil)) hcallOk14 rfl (Taken.yes rfl rfl hg8)) ?_
      refine SL.as (i' := vB true) 76 rfl (by exact iv_bool (decide_eq_true rfl)) ?_
      refine SL.val (O.pick_t rfl rfl rfl rfl Taken.no) ?_
      refine SL.val (O.assign rfl rfl Taken.no) ?_
      refine SL.nil ?_
      refine E.to ?_
      refine W.pick (.cons (t := 6) rfl .nil) (.cons (t := 101) rfl (.cons (t := 102) rfl .nil)) ?_
      refine W.ret ?_
      refine E.fin (rs := [_]) (rn []) (.inl rfl) rfl (.cons (ResOne.tmp rfl) .nil) ?_ ?_ rfl (fixL_spec rfl)
      · skip
        rfl
      · exact SubS.nil

theorem row_take {ps : List (List UInt8)} {K j : Nat} (h : j < K) (hK : K ≤ ps.length) : ((ps.take K).map eL)[j]? = some (eL ps[j]!) := by
  rw [List.getElem?_map, List.getElem?_take_of_lt h, getElem!_pos ps j (by omega), List.getElem?_eq_getElem (by omega)]; rfl

/-- bookplate/bookplatelaw20.WalDamage. -/
theorem walDamage_h (t b : Int) {ps : List (List UInt8)} (ht : 0 ≤ t ∧ t ≤ 255) (hb : 0 ≤ b ∧ b ≤ 255) :
    Con Try.prog 6 [vL 1 (ps.map eL), vN .u8 t, vN .u8 b] [] (vB true) [] := by
  obtain ⟨c, rfl⟩ : ∃ c : UInt8, b = ((c.toNat : Nat) : Int) := ⟨UInt8.ofNat b.toNat, by simp [UInt8.toNat_ofNat']; omega⟩
  obtain ⟨i5, hi5, hz5, hs5, hb5⟩ := hinf5
  obtain ⟨i22, hi22, hz22, hs22, hb22⟩ := hinf22
  refine Con.enterL (n := 103) Try.func6 rfl rfl rfl (fun τ w ok vs hin => ?_)
  have hl0 := hin.len (i := 0) rfl
  try rw [List.length_map] at hl0
  clear hin
  refine W.seq ?_
  refine W.region ?_
  refine SL.val (O.assign rfl rfl Taken.no) ?_
  refine SL.nil ?_
  refine E.to ?_
  refine W.seq ?_
  refine W.seq ?_
  refine W.region ?_
  refine SL.val (O.callp rfl rfl rfl (awake_h) .nil hcallOk10 rfl Taken.no) ?_
  refine SL.as (i' := vB true) 16 rfl (by exact iv_bool (rfl)) ?_
  refine SL.val (O.det (fun _ => G.R.mv (G.R.not rfl) rfl) rfl Taken.no) ?_
  refine SL.nil ?_
  refine E.to ?_
  refine W.cond_f rfl ?_
  refine W.skip ?_
  refine E.to ?_
  refine W.seq ?_
  refine W.seq ?_
  refine W.region ?_
  refine SL.val (O.move rfl rfl Taken.no) ?_
  refine SL.val (O.callp rfl rfl rfl (small_h) (.cons (ArgOk.same rfl) .nil) hcallOk19 rfl Taken.no) ?_
  refine SL.val (O.det (fun _ => G.R.not rfl) rfl Taken.no) ?_
  refine SL.val (O.move rfl rfl Taken.no) ?_
  refine SL.case (j := 3) (g := 21) (want := false) rfl rfl (fun hg1 => ?_) (fun hg1 => ?_)
  · skip
    first | have hg1p := G.gA3 hg1 | have hg1p := G.gA4 hg1 | have hg1p := hg1
    refine SL.val (O.move rfl rfl (Taken.yes rfl rfl hg1)) ?_
    refine SL.val (O.lenE (SlOf.fz rfl (by decide)) (by first | exact List.length_map _ | rfl) Try.underlying26 rfl (Taken.yes rfl rfl hg1)) ?_
    refine SL.val (O.det (fun _ => G.R.eql rfl rfl) rfl (Taken.yes rfl rfl hg1)) ?_
    refine SL.val (O.pick_f rfl hg1 rfl rfl Taken.no) ?_
    refine SL.val (O.move rfl rfl Taken.no) ?_
    refine SL.case (j := 8) (g := 26) (want := false) rfl rfl (fun hg2 => ?_) (fun hg2 => ?_)
    · skip
      first | have hg2p := G.gA3 hg2 | have hg2p := G.gA4 hg2 | have hg2p := hg2
      refine SL.val (O.move rfl rfl (Taken.yes rfl rfl hg2)) ?_
      refine SL.val (O.det (fun _ => G.R.eql rfl rfl) rfl (Taken.yes rfl rfl hg2)) ?_
      refine SL.val (O.pick_f rfl hg2 rfl rfl Taken.no) ?_
      refine SL.nil ?_
      refine E.to ?_
      first | refine W.cond_d rfl (fun hc3 => ?_) (fun hc3 => ?_) | refine W.cond_nd rfl (fun hc3 => ?_) (fun hc3 => ?_) | refine W.cond rfl (fun hc3 => ?_) (fun hc3 => ?_)
      · skip
        refine W.seq ?_
        refine W.region ?_
        refine SL.val (O.assign rfl rfl Taken.no) ?_
        refine SL.nil ?_
        refine E.to ?_
        refine W.ret ?_
        refine E.thr ?_
        refine E.fin (rs := [_]) (rn []) (.inl rfl) rfl (.cons (ResOne.tmp rfl) .nil) ?_ ?_ rfl (fixL_spec rfl)
        · skip
          rfl
        · exact SubS.nil
      · skip
        have hs : smallL ps := by first | assumption | (rename_i q; simpa using q)
        have hps : 0 < ps.length := by omega
        have hc0 : c ≠ 0 := fun e => by subst e; simp_all
        have hm0 := Int.emod_nonneg t (show (ps.length : Int) ≠ 0 by omega)
        have hm1 := Int.emod_lt_of_pos t (show 0 < (ps.length : Int) by omega)
        obtain ⟨K, hK⟩ : ∃ K : Nat, t % (ps.length : Int) = K := ⟨(t % (ps.length : Int)).toNat, by omega⟩
        have h40 := small_get hs (k := K) (by omega)
        obtain ⟨w1, w2, w3, w4⟩ := wr_0 hs (k := ps.length) (Nat.le_refl _)
        have hdl := dam_len (ps := ps) (k := K) (by omega)
        have hlK : (ps.take K).length = K := by rw [List.length_take]; omega
        obtain ⟨r, hr⟩ : ∃ r : Nat, t / 16 % (4 + (ps[K]!.length : Int)) = r := ⟨(t / 16 % (4 + (ps[K]!.length : Int))).toNat, by have := Int.emod_nonneg (t / 16) (show 4 + (ps[K]!.length : Int) ≠ 0 by omega); omega⟩
        have hr1 := Int.emod_lt_of_pos (t / 16) (show 0 < 4 + (ps[K]!.length : Int) by omega)
        refine W.skip ?_
        refine E.to ?_
        refine W.seq ?_
        refine W.region ?_
        refine SL.val (O.move rfl rfl Taken.no) ?_
        refine SL.val (O.det (fun _ => G.R.mv (G.R.conv64 rfl Try.underlying5 Try.underlying3 (by omega)) rfl) rfl Taken.no) ?_
        refine SL.val (O.move rfl rfl Taken.no) ?_
        refine SL.val (O.lenE (SlOf.fz rfl (by decide)) (by first | exact List.length_map _ | rfl) Try.underlying26 rfl Taken.no) ?_
        refine SL.val (O.det (fun _ => G.R.mv (G.R.rem0 rfl rfl (by omega) (by omega)) (congrArg (Value.int .i64) hK)) rfl Taken.no) ?_
        refine SL.val (O.assign rfl rfl Taken.no) ?_
        refine SL.nil ?_
        refine E.to ?_
        refine W.pick (.cons (t := 0) rfl (.cons (t := 1) rfl (.cons (t := 2) rfl (.cons (t := 6) rfl (.cons (t := 7) rfl .nil))))) .nil ?_
        refine W.seq ?_
        refine W.region ?_
        refine SL.val (O.move rfl rfl Taken.no) ?_
        refine SL.memS (O.call (rn []) [] rfl rfl rfl (written_h 0 hs) (.cons (ArgOk.same rfl) (.cons (ArgOk.same rfl) .nil)) SubS.nil rfl rfl rfl rfl rfl (.inl rfl) hcallOk20 (r' := .tup [.agg [.u _, .u _], .u _]) rfl rfl Taken.no) rfl rfl (S' := _) rfl ?_
        refine SL.as (i' := .tup [.agg [vL 1 ((wrW [] ps ps.length).map eB), vI 0], vB true]) 37 rfl (by rw [syW_z]) ?_
        refine SL.val (O.move rfl rfl Taken.no) ?_
        refine SL.val (O.extract rfl rfl rfl Taken.no) ?_
        refine SL.val (O.extract rfl rfl rfl Taken.no) ?_
        refine SL.memS (O.alloc (z := .agg #[.slice none 0 0, .int .i64 0]) (is := [.u (.sc (.slice none 0 0)), .u (.sc (.int .i64 0))]) 101 (by kernel_rfl) rfl rfl rfl Taken.no) rfl rfl (S' := (101, _) :: _) rfl ?_
        refine SL.effS (O.st_ref (m := 2) rfl rfl rfl (js := [_, _]) rfl rfl (by kernel_rfl) (by simp) (Nat.le_of_ble_eq_true rfl) rfl (is' := [_, _]) rfl Taken.no) (S' := (101, _) :: _) rfl ?_
        refine SL.val (O.assign rfl rfl Taken.no) ?_
        refine SL.nil ?_
        refine E.to ?_
        refine W.seq ?_
        refine W.region ?_
        refine SL.val (O.assign rfl rfl Taken.no) ?_
        refine SL.nil ?_
        refine E.to ?_
        refine W.seq ?_
        refine W.seq ?_
        refine W.region ?_
        refine SL.val (O.move rfl rfl Taken.no) ?_
        refine SL.val (O.move rfl rfl Taken.no) ?_
        refine SL.val (O.sub_fz (j := K) rfl Bnd.no (Bnd.at rfl (by first | rfl | omega)) (by first | omega | (simp only [List.length_map, Nat.le_refl, Nat.zero_le] <;> omega) | (simp <;> omega)) (by first | omega | (simp only [List.length_map, Nat.le_refl, Nat.zero_le] <;> omega) | (simp <;> omega)) sub_hi Try.underlying26 hi22 hs22 rfl Taken.no) ?_
        refine SL.val (O.lenE (SlOf.fz rfl (by decide)) (by first | exact List.length_map _ | rfl) Try.underlying26 rfl Taken.no) ?_
        refine SL.val (O.move rfl rfl Taken.no) ?_
        refine SL.nil ?_
        refine E.to ?_
        refine W.block ?_
        refine W.loopx1 (fun (k : Nat) => [(10, vI ((wrW [] ps k).length : Nat)), (44, vI (k : Int))]) (fun (k : Nat) => []) (fun (k : Nat) => k ≤ K) (fun (k : Nat) => K - k) (0) (rn []) (.cons (t := 0) rfl (.cons (t := 1) rfl (.cons (t := 2) rfl (.cons (t := 6) rfl (.cons (t := 7) rfl (.cons (t := 8) rfl (.cons (t := 9) rfl (.cons (t := 42) rfl (.cons (t := 43) rfl .nil))))))))) (.cons (t := 101) rfl .nil) rfl ?_ ?_ rfl rfl ?_ ?_
        · exact (SubF.cons rfl (SubF.cons rfl SubF.nil))
        · exact SubS.nil
        · skip
          omega
        intro k hinv
        have hk := hinv
        have hw480 := (wr_0 hs (k := k) (by omega)).2.2.2
        have hk40 : k < ps.length → ps[k]!.length ≤ 40 := fun q => small_get hs q
        refine W.seq ?_
        refine W.region ?_
        refine SL.val (O.det (fun _ => G.R.lss rfl rfl) rfl Taken.no) ?_
        refine SL.nil ?_
        refine E.to ?_
        refine W.seq ?_
        first | refine W.cond_d rfl (fun hc4 => ?_) (fun hc4 => ?_) | refine W.cond_nd rfl (fun hc4 => ?_) (fun hc4 => ?_) | refine W.cond rfl (fun hc4 => ?_) (fun hc4 => ?_)
        · skip
          refine W.skip ?_
          refine E.to ?_
          refine W.seq ?_
          refine W.block ?_
          refine W.seq ?_
          refine W.region ?_
          refine SL.val (O.idx_fz rfl rfl (rfl) (row_take (j := k) (by omega) (by omega)) Try.underlying26 hi22 hs22 rfl Taken.no) ?_
          refine SL.val (O.ld1 (PtI.ofU (PtU.fz rfl)) rfl Try.underlying22 rfl rfl Taken.no) ?_
          refine SL.val (O.assign rfl rfl Taken.no) ?_
          refine SL.nil ?_
          refine E.to ?_
          refine W.region ?_
          refine SL.val (O.move rfl rfl Taken.no) ?_
          refine SL.val (O.move rfl rfl Taken.no) ?_
          refine SL.val (O.lenE (SlOf.fz rfl (by decide)) (by first | exact List.length_map _ | rfl) Try.underlying22 rfl Taken.no) ?_
          refine SL.val (O.det (fun _ => by first | exact G.R.add64 rfl rfl (by omega) | exact G.R.add rfl rfl) rfl Taken.no) ?_
          refine SL.val (O.det (fun _ => by first | exact G.R.add64 rfl rfl (by omega) | exact G.R.add rfl rfl) rfl Taken.no) ?_
          refine SL.val (O.assign rfl rfl Taken.no) ?_
          refine SL.nil ?_
          refine E.inn ?_
          refine E.to ?_
          refine W.region ?_
          refine SL.val (O.det (fun _ => by first | exact G.R.add64 rfl rfl (by omega) | exact G.R.add rfl rfl) rfl Taken.no) ?_
          refine SL.val (O.move rfl rfl Taken.no) ?_
          refine SL.nil ?_
          refine E.again ((k + 1)) (rn []) ?_ ?_ rfl (fixL_spec rfl) ?_ ?_
          · exact (SubF.val rfl (by (try dsimp only); exact iv_int (by rw [wrW_succ (by omega), addW_len]; omega)) (SubF.cons rfl (SubF.cons rfl (SubF.cons rfl (SubF.cons rfl (SubF.cons rfl (SubF.cons rfl (SubF.cons rfl (SubF.cons rfl (SubF.cons rfl (SubF.cons rfl SubF.nil)))))))))))
          · exact (SubS.cons rfl SubS.nil)
          · try dsimp only
            omega
          · (try dsimp only); omega
        · skip
          refine W.exit ?_
          refine E.th ?_
          refine E.th ?_
          refine E.hit ?_
          refine E.to ?_
          refine W.seq ?_
          refine W.seq ?_
          refine W.draw [⟨[], [], []⟩, ⟨[], [], []⟩, ⟨[], [], []⟩, ⟨[101], [], []⟩, ⟨[101], [], []⟩, ⟨[], [], []⟩, ⟨[], [], []⟩, ⟨[], [], []⟩, ⟨[], [], []⟩, ⟨[], [], []⟩, ⟨[], [], []⟩, ⟨[], [], []⟩, ⟨[], [], []⟩, ⟨[], [], []⟩, ⟨[], [], []⟩, ⟨[], [], []⟩] rfl (by kernel_rfl) (by kernel_rfl) rfl rfl ?_
          obtain rfl : K = k := by omega
          refine WH.val (O.move rfl rfl Taken.no) rfl rfl ?_
          refine WH.val (O.det (fun _ => G.R.mv (G.R.not rfl) rfl) rfl Taken.no) rfl rfl ?_
          refine WH.val (O.move rfl rfl Taken.no) rfl rfl ?_
          have hg5 : false = false := by decide
          refine WH.val (O.fld_ref (o' := 0) rfl Try.underlying25 rfl (m := 0) (by kernel_rfl) rfl rfl (Taken.yes rfl rfl hg5)) rfl rfl ?_
          refine WH.val (O.ld1 (PtI.ref rfl rfl) rfl Try.underlying22 rfl rfl (Taken.yes rfl rfl hg5)) rfl rfl ?_
          refine WH.val (O.lenE (SlOf.fz rfl (by decide)) (by first | exact List.length_map _ | rfl) Try.underlying22 rfl (Taken.yes rfl rfl hg5)) rfl rfl ?_
          refine WH.val (O.move rfl rfl (Taken.yes rfl rfl hg5)) rfl rfl ?_
          refine WH.val (O.det (fun _ => by first | exact G.R.add64 rfl rfl (by omega) | exact G.R.add rfl rfl) rfl (Taken.yes rfl rfl hg5)) rfl rfl ?_
          refine WH.val (O.move rfl rfl (Taken.yes rfl rfl hg5)) rfl rfl ?_
          refine WH.val (O.move rfl rfl (Taken.yes rfl rfl hg5)) rfl rfl ?_
          refine WH.val (O.idx_fz (i := K) rfl rfl (rfl) (row_get (by omega)) Try.underlying26 hi22 hs22 rfl (Taken.yes rfl rfl hg5)) rfl rfl ?_
          refine WH.val (O.ld1 (PtI.ofU (PtU.fz rfl)) rfl Try.underlying22 rfl rfl (Taken.yes rfl rfl hg5)) rfl rfl ?_
          refine WH.val (O.lenE (SlOf.fz rfl (by decide)) (by first | exact List.length_map _ | rfl) Try.underlying22 rfl (Taken.yes rfl rfl hg5)) rfl rfl ?_
          refine WH.val (O.det (fun _ => by first | exact G.R.add64 rfl rfl (by omega) | exact G.R.add rfl rfl) rfl (Taken.yes rfl rfl hg5)) rfl rfl ?_
          refine WH.val (O.det (fun _ => G.R.mv (G.R.lss rfl rfl) (congrArg Value.bool (decide_eq_false (by omega)))) rfl (Taken.yes rfl rfl hg5)) rfl rfl ?_
          refine WH.val (O.pick_f rfl rfl rfl rfl Taken.no) rfl rfl ?_
          refine WH.nil ?_
          refine E.to ?_
          refine W.pick (.cons (t := 0) rfl (.cons (t := 1) rfl (.cons (t := 2) rfl (.cons (t := 6) rfl (.cons (t := 7) rfl (.cons (t := 8) rfl (.cons (t := 10) rfl (.cons (t := 69) rfl .nil)))))))) (.cons (t := 101) rfl .nil) ?_
          refine W.cond_f rfl ?_
          refine W.skip ?_
          refine E.to ?_
          refine W.seq ?_
          refine W.region ?_
          refine SL.memS (O.buildSlice 102 rfl rfl Try.underlying22 hi5 hz5 hs5 (by decide) rfl (by decide) rfl rfl rfl Taken.no) rfl rfl (S' := (102, _) :: _) rfl ?_
          refine SL.val (O.fld_ref (o' := 0) rfl Try.underlying25 rfl (m := 0) (by kernel_rfl) rfl rfl Taken.no) ?_
          refine SL.val (O.ld1 (PtI.ref rfl rfl) rfl Try.underlying22 rfl rfl Taken.no) ?_
          refine SL.memS (O.app (k' := 103) rfl rfl (SlOf.fz rfl (by decide)) Try.underlying22 hi5 hz5 hs5 rfl rfl (by first | exact map_snoc rfl | exact app_map | exact List.nil_append _ | rfl) (by rw [hb5]; first | omega | (simp only [List.length_map]; omega) | (simp <;> omega)) (by first | omega | (simp only [List.length_map]; omega) | (simp <;> omega)) rfl Taken.no) rfl rfl (S' := (103, _) :: (102, .dead) :: _) rfl ?_
          refine SL.val (O.assign rfl rfl Taken.no) ?_
          refine SL.nil ?_
          refine E.to ?_
          refine W.seq ?_
          refine W.region ?_
          refine SL.val (O.move rfl rfl Taken.no) ?_
          refine SL.val (O.move rfl rfl Taken.no) ?_
          refine SL.val (O.det (fun _ => by first | exact G.R.add64 rfl rfl (by omega) | exact G.R.add rfl rfl) rfl Taken.no) ?_
          refine SL.val (O.move rfl rfl Taken.no) ?_
          refine SL.val (O.det (fun _ => G.R.mv (G.R.quo rfl rfl (by decide)) (congrArg (Value.int .u8) (show _ = t / 16 by rw [IntKind.wrap_u8, Int.tdiv_eq_ediv_of_nonneg (by omega)]; omega))) rfl Taken.no) ?_
          refine SL.val (O.det (fun _ => G.R.mv (G.R.conv64 rfl Try.underlying5 Try.underlying3 (by omega)) rfl) rfl Taken.no) ?_
          refine SL.val (O.move rfl rfl Taken.no) ?_
          refine SL.val (O.move rfl rfl Taken.no) ?_
          refine SL.val (O.idx_fz (i := K) rfl rfl (rfl) (row_get (by omega)) Try.underlying26 hi22 hs22 rfl Taken.no) ?_
          refine SL.val (O.ld1 (PtI.ofU (PtU.fz rfl)) rfl Try.underlying22 rfl rfl Taken.no) ?_
          refine SL.val (O.lenE (SlOf.fz rfl (by decide)) (by first | exact List.length_map _ | rfl) Try.underlying22 rfl Taken.no) ?_
          refine SL.val (O.det (fun _ => by first | exact G.R.add64 rfl rfl (by omega) | exact G.R.add rfl rfl) rfl Taken.no) ?_
          refine SL.val (O.det (fun _ => G.R.mv (G.R.rem0 rfl rfl (by omega) (by omega)) (congrArg (Value.int .i64) hr)) rfl Taken.no) ?_
          refine SL.val (O.det (fun _ => by first | exact G.R.add64 rfl rfl (by omega) | exact G.R.add rfl rfl) rfl Taken.no) ?_
          refine SL.val (O.idx_own (i := ((wrW [] ps K).length + 4 + r)) rfl rfl rfl (rfl) (by rw [List.length_map]; omega) Try.underlying22 hi5 hs5 rfl Taken.no) ?_
          refine SL.val (O.ld1 (PtI.ofU (PtU.el rfl rfl (row_get (by omega)))) rfl Try.underlying5 rfl rfl Taken.no) ?_
          refine SL.val (O.move rfl rfl Taken.no) ?_
          refine SL.val (O.det (fun _ => G.R.mv (G.R.xor rfl rfl) (congrArg (Value.int .u8) (xor8 _ _))) rfl Taken.no) ?_
          refine SL.val (O.idx_own (i := ((wrW [] ps K).length + 4 + r)) rfl rfl rfl (rfl) (by rw [List.length_map]; omega) Try.underlying22 hi5 hs5 rfl Taken.no) ?_
          refine SL.effS (O.st_els (m := 1) rfl rfl rfl (us := [_]) rfl rfl (by kernel_rfl) (by simp) (row_get (by omega)) (by exact Nat.le_of_ble_eq_true rfl) rfl rfl (rows' := ((wrW [] ps ps.length).set ((wrW [] ps K).length + 4 + r) ((wrW [] ps ps.length)[(wrW [] ps K).length + 4 + r]! ^^^ c)).map eB) (by exact set_map rfl) Taken.no) (S' := (103, _) :: _) rfl ?_
          refine SL.nil ?_
          refine E.to ?_
          refine W.pick (.cons (t := 0) rfl (.cons (t := 6) rfl (.cons (t := 7) rfl (.cons (t := 13) rfl .nil)))) (.cons (t := 101) rfl (.cons (t := 103) rfl .nil)) ?_
          refine W.seq ?_
          refine W.region ?_
          refine SL.val (O.move rfl rfl Taken.no) ?_
          refine SL.freeze 103 rfl (F' := [(13, _), (94, _)]) (⟨⟨_, rfl, rfl⟩, ⟨_, rfl, rfl⟩, trivial⟩) ?_
          refine SL.memS (O.call (rn []) [] rfl rfl rfl (open_h (l := (wrW [] ps ps.length).set ((wrW [] ps K).length + 4 + r) ((wrW [] ps ps.length)[(wrW [] ps K).length + 4 + r]! ^^^ c)) (by rw [List.length_set]; omega)) (.cons (ArgOk.same rfl) .nil) SubS.nil rfl rfl rfl rfl rfl (.inl rfl) hcallOk11 (r' := .tup [.agg [.u _, .u _], .u _]) rfl rfl Taken.no) rfl rfl (S' := _) rfl ?_
          refine SL.val (O.move rfl rfl Taken.no) ?_
          refine SL.val (O.extract rfl rfl rfl Taken.no) ?_
          refine SL.val (O.extract rfl rfl rfl Taken.no) ?_
          refine SL.memS (O.alloc (z := .agg #[.slice none 0 0, .int .i64 0]) (is := [.u (.sc (.slice none 0 0)), .u (.sc (.int .i64 0))]) 104 (by kernel_rfl) rfl rfl rfl Taken.no) rfl rfl (S' := (104, _) :: _) rfl ?_
          refine SL.effS (O.st_ref (m := 2) rfl rfl rfl (js := [_, _]) rfl rfl (by kernel_rfl) (by simp) (Nat.le_of_ble_eq_true rfl) rfl (is' := [_, _]) rfl Taken.no) (S' := (104, _) :: _) rfl ?_
          refine SL.val (O.assign rfl rfl Taken.no) ?_
          refine SL.nil ?_
          refine E.to ?_
          refine W.seq ?_
          refine W.region ?_
          refine SL.val (O.move rfl rfl Taken.no) ?_
          refine SL.val (O.move rfl rfl Taken.no) ?_
          refine SL.val (O.move rfl rfl Taken.no) ?_
          refine SL.val (O.sub_fz (j := K) rfl Bnd.no (Bnd.at rfl (by first | rfl | omega)) (by first | omega | (simp only [List.length_map, Nat.le_refl, Nat.zero_le] <;> omega) | (simp <;> omega)) (by first | omega | (simp only [List.length_map, Nat.le_refl, Nat.zero_le] <;> omega) | (simp <;> omega)) sub_hi Try.underlying26 hi22 hs22 rfl Taken.no) ?_
          refine SL.val (O.callp rfl rfl rfl (same_h) (.cons (ArgOk.same rfl) (.cons (ArgOk.same rfl) .nil)) hcallOk14 rfl Taken.no) ?_
          refine SL.as (i' := vB true) 102 rfl (by exact iv_bool (decide_eq_true (damage hs (by omega) (by omega) hc0))) ?_
          refine SL.val (O.assign rfl rfl Taken.no) ?_
          refine SL.nil ?_
          refine E.to ?_
          refine W.ret ?_
          refine E.fin (rs := [_]) (rn []) (.inl rfl) rfl (.cons (ResOne.tmp rfl) .nil) ?_ ?_ rfl (fixL_spec rfl)
          · skip
            rfl
          · exact SubS.nil
    · skip
      first | have hg2p := G.gA7 hg2 | have hg2p := G.gA8 hg2 | have hg2p := hg2
      refine SL.skip (OpOk.not rfl rfl rfl hg2) ?_
      refine SL.skip (OpOk.not rfl rfl rfl hg2) ?_
      refine SL.val (O.pick_t rfl (G.ne_f hg2) rfl rfl Taken.no) ?_
      refine SL.nil ?_
      refine E.to ?_
      refine W.cond_t rfl ?_
      refine W.seq ?_
      refine W.region ?_
      refine SL.val (O.assign rfl rfl Taken.no) ?_
      refine SL.nil ?_
      refine E.to ?_
      refine W.ret ?_
      refine E.thr ?_
      refine E.fin (rs := [_]) (rn []) (.inl rfl) rfl (.cons (ResOne.tmp rfl) .nil) ?_ ?_ rfl (fixL_spec rfl)
      · skip
        rfl
      · exact SubS.nil
  · skip
    first | have hg1p := G.gA7 hg1 | have hg1p := G.gA8 hg1 | have hg1p := hg1
    refine SL.skip (OpOk.not rfl rfl rfl hg1) ?_
    refine SL.skip (OpOk.not rfl rfl rfl hg1) ?_
    refine SL.skip (OpOk.not rfl rfl rfl hg1) ?_
    refine SL.val (O.pick_t rfl (G.ne_f hg1) rfl rfl Taken.no) ?_
    refine SL.val (O.move rfl rfl Taken.no) ?_
    have hg6 : true ≠ false := by decide
    refine SL.skip (OpOk.not rfl rfl rfl hg6) ?_
    refine SL.skip (OpOk.not rfl rfl rfl hg6) ?_
    refine SL.val (O.pick_t rfl rfl rfl rfl Taken.no) ?_
    refine SL.nil ?_
    refine E.to ?_
    refine W.cond_t rfl ?_
    refine W.seq ?_
    refine W.region ?_
    refine SL.val (O.assign rfl rfl Taken.no) ?_
    refine SL.nil ?_
    refine E.to ?_
    refine W.ret ?_
    refine E.thr ?_
    refine E.fin (rs := [_]) (rn []) (.inl rfl) rfl (.cons (ResOne.tmp rfl) .nil) ?_ ?_ rfl (fixL_spec rfl)
    · skip
      rfl
    · exact SubS.nil

/-- bookplate/bookplatelaw20.WalMore. -/
theorem walMore_h (keep : Int) {ps more : List (List UInt8)} (hm : 0 ≤ keep ∧ keep ≤ 65535) :
    Con Try.prog 7 [vL 1 (ps.map eL), vN .u16 keep, vL 1 (more.map eL)] [] (vB true) [] := by
  obtain ⟨i22, hi22, hz22, hs22, hb22⟩ := hinf22
  refine Con.enterL (n := 82) Try.func7 rfl rfl rfl (fun τ w ok vs hin => ?_)
  have hl0 := hin.len (i := 0) rfl
  try rw [List.length_map] at hl0
  have hl2 := hin.len (i := 2) rfl
  try rw [List.length_map] at hl2
  clear hin
  refine W.seq ?_
  refine W.region ?_
  refine SL.val (O.assign rfl rfl Taken.no) ?_
  refine SL.nil ?_
  refine E.to ?_
  refine W.seq ?_
  refine W.seq ?_
  refine W.region ?_
  refine SL.val (O.callp rfl rfl rfl (awake_h) .nil hcallOk10 rfl Taken.no) ?_
  refine SL.as (i' := vB true) 19 rfl (by exact iv_bool (rfl)) ?_
  refine SL.val (O.det (fun _ => G.R.mv (G.R.not rfl) rfl) rfl Taken.no) ?_
  refine SL.nil ?_
  refine E.to ?_
  refine W.cond_f rfl ?_
  refine W.skip ?_
  refine E.to ?_
  refine W.seq ?_
  refine W.seq ?_
  refine W.region ?_
  refine SL.val (O.move rfl rfl Taken.no) ?_
  refine SL.val (O.callp rfl rfl rfl (small_h) (.cons (ArgOk.same rfl) .nil) hcallOk19 rfl Taken.no) ?_
  refine SL.val (O.det (fun _ => G.R.not rfl) rfl Taken.no) ?_
  refine SL.val (O.move rfl rfl Taken.no) ?_
  refine SL.case (j := 3) (g := 24) (want := false) rfl rfl (fun hg1 => ?_) (fun hg1 => ?_)
  · skip
    first | have hg1p := G.gA3 hg1 | have hg1p := G.gA4 hg1 | have hg1p := hg1
    refine SL.val (O.move rfl rfl (Taken.yes rfl rfl hg1)) ?_
    refine SL.val (O.callp rfl rfl rfl (small_h) (.cons (ArgOk.same rfl) .nil) hcallOk19 rfl (Taken.yes rfl rfl hg1)) ?_
    refine SL.val (O.det (fun _ => G.R.not rfl) rfl (Taken.yes rfl rfl hg1)) ?_
    refine SL.val (O.pick_f rfl hg1 rfl rfl Taken.no) ?_
    refine SL.nil ?_
    refine E.to ?_
    first | refine W.cond_d rfl (fun hc2 => ?_) (fun hc2 => ?_) | refine W.cond_nd rfl (fun hc2 => ?_) (fun hc2 => ?_) | refine W.cond rfl (fun hc2 => ?_) (fun hc2 => ?_)
    · skip
      refine W.seq ?_
      refine W.region ?_
      refine SL.val (O.assign rfl rfl Taken.no) ?_
      refine SL.nil ?_
      refine E.to ?_
      refine W.ret ?_
      refine E.thr ?_
      refine E.fin (rs := [_]) (rn []) (.inl rfl) rfl (.cons (ResOne.tmp rfl) .nil) ?_ ?_ rfl (fixL_spec rfl)
      · skip
        rfl
      · exact SubS.nil
    · skip
      have hs : smallL ps := by first | assumption | (rename_i q; simpa using q)
      have hmo : smallL more := by first | assumption | (rename_i q _; simpa using q) | (rename_i q; simpa using q)
      obtain ⟨w1, w2, w3, w4⟩ := wr_0 hs (k := ps.length) (Nat.le_refl _)
      have hr0 := Int.emod_nonneg keep (show ((wrW [] ps ps.length).length : Int) + 1 ≠ 0 by omega)
      have hr1 := Int.emod_lt_of_pos keep (show 0 < ((wrW [] ps ps.length).length : Int) + 1 by omega)
      obtain ⟨M, hM⟩ : ∃ M : Nat, (keep % (((wrW [] ps ps.length).length : Int) + 1)) = M := ⟨(keep % (((wrW [] ps ps.length).length : Int) + 1)).toNat, by omega⟩
      have hMl : ((wrW [] ps ps.length).take M).length = M := by rw [List.length_take]; omega
      have hmo10 := hmo.2
      have hcr := rec_crash (s := 0) (m := M) hs (by omega) (by rw [syW_z]; omega)
      rw [syW_z, Int.zero_add, Int.toNat_natCast] at hcr
      refine W.skip ?_
      refine E.to ?_
      refine W.seq ?_
      refine W.region ?_
      refine SL.val (O.move rfl rfl Taken.no) ?_
      refine SL.memS (O.call (rn []) [] rfl rfl rfl (written_h 0 hs) (.cons (ArgOk.same rfl) (.cons (ArgOk.same rfl) .nil)) SubS.nil rfl rfl rfl rfl rfl (.inl rfl) hcallOk20 (r' := .tup [.agg [.u _, .u _], .u _]) rfl rfl Taken.no) rfl rfl (S' := _) rfl ?_
      refine SL.as (i' := .tup [.agg [vL 1 ((wrW [] ps ps.length).map eB), vI 0], vB true]) 31 rfl (by rw [syW_z]) ?_
      refine SL.val (O.move rfl rfl Taken.no) ?_
      refine SL.val (O.extract rfl rfl rfl Taken.no) ?_
      refine SL.val (O.extract rfl rfl rfl Taken.no) ?_
      refine SL.memS (O.alloc (z := .agg #[.slice none 0 0, .int .i64 0]) (is := [.u (.sc (.slice none 0 0)), .u (.sc (.int .i64 0))]) 101 (by kernel_rfl) rfl rfl rfl Taken.no) rfl rfl (S' := (101, _) :: _) rfl ?_
      refine SL.effS (O.st_ref (m := 2) rfl rfl rfl (js := [_, _]) rfl rfl (by kernel_rfl) (by simp) (Nat.le_of_ble_eq_true rfl) rfl (is' := [_, _]) rfl Taken.no) (S' := (101, _) :: _) rfl ?_
      refine SL.val (O.assign rfl rfl Taken.no) ?_
      refine SL.nil ?_
      refine E.to ?_
      refine W.seq ?_
      refine W.seq ?_
      refine W.region ?_
      refine SL.val (O.move rfl rfl Taken.no) ?_
      refine SL.val (O.det (fun _ => G.R.mv (G.R.not rfl) rfl) rfl Taken.no) ?_
      refine SL.nil ?_
      refine E.to ?_
      refine W.pick (.cons (t := 1) rfl (.cons (t := 2) rfl (.cons (t := 6) rfl (.cons (t := 7) rfl (.cons (t := 35) rfl .nil))))) (.cons (t := 101) rfl .nil) ?_
      refine W.cond_f rfl ?_
      refine W.skip ?_
      refine E.to ?_
      refine W.seq ?_
      refine W.draw [⟨[101], [], []⟩, ⟨[], [], []⟩, ⟨[], [], []⟩, ⟨[101], [], []⟩, ⟨[101], [], []⟩, ⟨[], [], []⟩, ⟨[], [], []⟩, ⟨[], [], []⟩, ⟨[], [], []⟩, ⟨[], [], []⟩, ⟨[], [], []⟩, ⟨[], [], []⟩, ⟨[], [], []⟩, ⟨[], [], []⟩] rfl (by kernel_rfl) (by kernel_rfl) rfl rfl ?_
      refine WH.val (O.ldN (m := 2) (PtI.ref rfl rfl) (js := [_, _]) rfl (Nat.le_of_ble_eq_true rfl) Try.underlying25 rfl (by kernel_rfl) rfl Taken.no) rfl rfl ?_
      refine WH.val (O.move rfl rfl Taken.no) rfl rfl ?_
      refine WH.val (O.det (fun _ => G.R.mv (G.R.conv64 rfl Try.underlying42 Try.underlying3 (by omega)) rfl) rfl Taken.no) rfl rfl ?_
      refine WH.val (O.fld_ref (o' := 0) rfl Try.underlying25 rfl (m := 0) (by kernel_rfl) rfl rfl Taken.no) rfl rfl ?_
      refine WH.val (O.ld1 (PtI.ref rfl rfl) rfl Try.underlying22 rfl rfl Taken.no) rfl rfl ?_
      refine WH.val (O.lenE (SlOf.fz rfl (by decide)) (by first | exact List.length_map _ | rfl) Try.underlying22 rfl Taken.no) rfl rfl ?_
      refine WH.val (O.det (fun _ => by first | exact G.R.add64 rfl rfl (by omega) | exact G.R.add rfl rfl) rfl Taken.no) rfl rfl ?_
      refine WH.val (O.det (fun _ => G.R.mv (G.R.rem0 rfl rfl (by omega) (by omega)) (congrArg (Value.int .i64) hM)) rfl Taken.no) rfl rfl ?_
      refine WH.memS (OpOk.re (i' := .tup [vL 1 (((wrW [] ps ps.length).take M).map eB), vI 0]) (O.call (rn []) [] rfl rfl rfl (crash_h (l := (wrW [] ps ps.length)) 0 M (by omega) (by omega) (by omega)) (.cons (ArgOk.aggU (.cons (ArgOk.same rfl) (.cons (ArgOk.same rfl) .nil))) (.cons (ArgOk.same rfl) .nil)) SubS.nil rfl rfl rfl rfl rfl (.inl rfl) hcallOk16 (r' := .tup [.u _, .u _]) rfl rfl Taken.no) (by rw [hcr.1, hcr.2])) rfl rfl rfl rfl rfl (S' := _) rfl ?_
      refine WH.val (O.move rfl rfl Taken.no) rfl rfl ?_
      refine WH.val (O.extract rfl rfl rfl Taken.no) rfl rfl ?_
      refine WH.val (O.extract rfl rfl rfl Taken.no) rfl rfl ?_
      refine WH.val (O.assign rfl rfl Taken.no) rfl rfl ?_
      refine WH.val (O.assign rfl rfl Taken.no) rfl rfl ?_
      refine WH.nil ?_
      refine E.to ?_
      refine W.seq ?_
      refine W.region ?_
      refine SL.val (O.move rfl rfl Taken.no) ?_
      refine SL.memS (O.call (rn []) [] rfl rfl rfl (open_h (l := ((wrW [] ps ps.length).take M)) (by omega)) (.cons (ArgOk.same rfl) .nil) SubS.nil rfl rfl rfl rfl rfl (.inl rfl) hcallOk11 (r' := .tup [.agg [.u _, .u _], .u _]) rfl rfl Taken.no) rfl rfl (S' := _) rfl ?_
      refine SL.val (O.move rfl rfl Taken.no) ?_
      refine SL.val (O.extract rfl rfl rfl Taken.no) ?_
      refine SL.val (O.extract rfl rfl rfl Taken.no) ?_
      refine SL.memS (O.alloc (z := .agg #[.slice none 0 0, .int .i64 0]) (is := [.u (.sc (.slice none 0 0)), .u (.sc (.int .i64 0))]) 102 (by kernel_rfl) rfl rfl rfl Taken.no) rfl rfl (S' := (102, _) :: _) rfl ?_
      refine SL.effS (O.st_ref (m := 2) rfl rfl rfl (js := [_, _]) rfl rfl (by kernel_rfl) (by simp) (Nat.le_of_ble_eq_true rfl) rfl (is' := [_, _]) rfl Taken.no) (S' := (102, _) :: _) rfl ?_
      refine SL.val (O.assign rfl rfl Taken.no) ?_
      refine SL.nil ?_
      refine E.to ?_
      refine W.pick (.cons (t := 2) rfl (.cons (t := 6) rfl (.cons (t := 11) rfl (.cons (t := 12) rfl .nil)))) (.cons (t := 101) rfl (.cons (t := 102) rfl .nil)) ?_
      refine W.seq ?_
      refine W.seq ?_
      refine W.region ?_
      refine SL.val (O.move rfl rfl Taken.no) ?_
      refine SL.val (O.lenE (SlOf.fz rfl (by decide)) (by first | exact List.length_map _ | rfl) Try.underlying26 rfl Taken.no) ?_
      refine SL.val (O.move rfl rfl Taken.no) ?_
      refine SL.nil ?_
      refine E.to ?_
      refine W.block ?_
      refine W.loopx1 (fun (k : Nat) => [(55, vI (k : Int))]) (fun (k : Nat) => [(102, .cells 25 [vL 1 ((wrW (cutW ((wrW [] ps ps.length).take M)) more k).map eB), vI (endI (wholeL ((wrW [] ps ps.length).take M)).2)])]) (fun (k : Nat) => k ≤ more.length) (fun (k : Nat) => more.length - k) (0) (rn []) (.cons (t := 2) rfl (.cons (t := 11) rfl (.cons (t := 12) rfl (.cons (t := 53) rfl (.cons (t := 54) rfl .nil))))) (.cons (t := 101) rfl .nil) rfl ?_ ?_ rfl rfl ?_ ?_
      · exact (SubF.cons rfl SubF.nil)
      · exact (SubS.cons rfl SubS.nil)
      · skip
        omega
      intro k hinv
      have hk := hinv
      have hml := (more_all (l := ((wrW [] ps ps.length).take M)) (by omega) hmo hk).2.2.2
      refine W.seq ?_
      refine W.region ?_
      refine SL.val (O.det (fun _ => G.R.lss rfl rfl) rfl Taken.no) ?_
      refine SL.nil ?_
      refine E.to ?_
      refine W.seq ?_
      first | refine W.cond_d rfl (fun hc3 => ?_) (fun hc3 => ?_) | refine W.cond_nd rfl (fun hc3 => ?_) (fun hc3 => ?_) | refine W.cond rfl (fun hc3 => ?_) (fun hc3 => ?_)
      · skip
        refine W.skip ?_
        refine E.to ?_
        refine W.seq ?_
        refine W.block ?_
        refine W.seq ?_
        refine W.region ?_
        refine SL.val (O.idx_fz rfl rfl (rfl) (row_get (by omega)) Try.underlying26 hi22 hs22 rfl Taken.no) ?_
        refine SL.val (O.ld1 (PtI.ofU (PtU.fz rfl)) rfl Try.underlying22 rfl rfl Taken.no) ?_
        refine SL.val (O.assign rfl rfl Taken.no) ?_
        refine SL.nil ?_
        refine E.to ?_
        refine W.seq ?_
        refine W.region ?_
        refine SL.val (O.ldN (m := 2) (PtI.ref rfl rfl) (js := [_, _]) rfl (Nat.le_of_ble_eq_true rfl) Try.underlying25 rfl (by kernel_rfl) rfl Taken.no) ?_
        refine SL.val (O.move rfl rfl Taken.no) ?_
        refine SL.memS (O.call (rn []) [] rfl rfl rfl (append_h (l := (wrW (cutW ((wrW [] ps ps.length).take M)) more k)) (p := more[k]!) _ (by omega) (by have := small_get hmo (k := k) (by omega); omega)) (.cons (ArgOk.aggU (.cons (ArgOk.same rfl) (.cons (ArgOk.same rfl) .nil))) (.cons (ArgOk.same rfl) .nil)) SubS.nil rfl rfl rfl rfl rfl (.inl rfl) hcallOk21 (r' := .tup [.agg [.u _, .u _], .u _]) rfl rfl Taken.no) rfl rfl (S' := _) rfl ?_
        refine SL.as (i' := .tup [.agg [vL 1 ((wrW (cutW ((wrW [] ps ps.length).take M)) more (k + 1)).map eB), vI (endI (wholeL ((wrW [] ps ps.length).take M)).2)], vI 0]) 62 rfl (by rw [(more_app (by omega) hmo (by omega)).1, (more_app (by omega) hmo (by omega)).2.1, (more_app (by omega) hmo (by omega)).2.2]) ?_
        refine SL.val (O.move rfl rfl Taken.no) ?_
        refine SL.val (O.extract rfl rfl rfl Taken.no) ?_
        refine SL.val (O.extract rfl rfl rfl Taken.no) ?_
        refine SL.memS (O.alloc (z := .agg #[.slice none 0 0, .int .i64 0]) (is := [.u (.sc (.slice none 0 0)), .u (.sc (.int .i64 0))]) 103 (by kernel_rfl) rfl rfl rfl Taken.no) rfl rfl (S' := (103, _) :: _) rfl ?_
        refine SL.effS (O.st_ref (m := 2) rfl rfl rfl (js := [_, _]) rfl rfl (by kernel_rfl) (by simp) (Nat.le_of_ble_eq_true rfl) rfl (is' := [_, _]) rfl Taken.no) (S' := (103, _) :: _) rfl ?_
        refine SL.val (O.assign rfl rfl Taken.no) ?_
        refine SL.nil ?_
        refine E.to ?_
        refine W.seq ?_
        refine W.seq ?_
        refine W.region ?_
        refine SL.val (O.move rfl rfl Taken.no) ?_
        refine SL.val (O.det (fun _ => G.R.mv (G.R.neq rfl rfl) (congrArg Value.bool (decide_eq_false (by decide)))) rfl Taken.no) ?_
        refine SL.nil ?_
        refine E.to ?_
        refine W.cond_f rfl ?_
        refine W.skip ?_
        refine E.to ?_
        refine W.region ?_
        refine SL.val (O.ldN (m := 2) (PtI.ref rfl rfl) (js := [_, _]) rfl (Nat.le_of_ble_eq_true rfl) Try.underlying25 rfl (by kernel_rfl) rfl Taken.no) ?_
        refine SL.effS (O.st_ref (m := 2) rfl rfl rfl (js := [_, _]) rfl rfl (by kernel_rfl) (by simp) (Nat.le_of_ble_eq_true rfl) rfl (is' := [_, _]) rfl Taken.no) (S' := (102, _) :: _) rfl ?_
        refine SL.nil ?_
        refine E.inn ?_
        refine E.to ?_
        refine W.region ?_
        refine SL.val (O.det (fun _ => by first | exact G.R.add64 rfl rfl (by omega) | exact G.R.add rfl rfl) rfl Taken.no) ?_
        refine SL.val (O.move rfl rfl Taken.no) ?_
        refine SL.nil ?_
        refine E.again ((k + 1)) (rn []) ?_ ?_ rfl (fixL_spec rfl) ?_ ?_
        · exact (SubF.cons rfl (SubF.cons rfl (SubF.cons rfl (SubF.cons rfl (SubF.cons rfl (SubF.cons rfl SubF.nil))))))
        · exact (SubS.cons rfl (SubS.cons rfl SubS.nil))
        · try dsimp only
          omega
        · (try dsimp only); omega
      · skip
        refine W.exit ?_
        refine E.th ?_
        refine E.th ?_
        refine E.hit ?_
        refine E.to ?_
        refine W.seq ?_
        refine W.region ?_
        obtain rfl : k = more.length := by omega
        obtain ⟨m1, m2, m3, m4⟩ := more_all (l := ((wrW [] ps ps.length).take M)) (by omega) hmo (Nat.le_refl more.length)
        rw [List.take_length] at m2
        have hwl := whole_len ((wrW [] ps ps.length).take M)
        refine SL.val (O.fld_ref (o' := 0) rfl Try.underlying25 rfl (m := 0) (by kernel_rfl) rfl rfl Taken.no) ?_
        refine SL.val (O.ld1 (PtI.ref rfl rfl) rfl Try.underlying22 rfl rfl Taken.no) ?_
        refine SL.memS (O.call (rn []) [] rfl rfl rfl (open_h (l := (wrW (cutW ((wrW [] ps ps.length).take M)) more more.length)) (by omega)) (.cons (ArgOk.same rfl) .nil) SubS.nil rfl rfl rfl rfl rfl (.inl rfl) hcallOk11 (r' := .tup [.agg [.u _, .u _], .u _]) rfl rfl Taken.no) rfl rfl (S' := _) rfl ?_
        refine SL.as (i' := .tup [.agg [vL 1 ((wrW (cutW ((wrW [] ps ps.length).take M)) more more.length).map eB), vI (((wrW (cutW ((wrW [] ps ps.length).take M)) more more.length).length : Nat) : Int)], vL 1 (((wholeL ((wrW [] ps ps.length).take M)).1 ++ more).map eL)]) 72 rfl (by rw [full_open m1, m1, m2]) ?_
        refine SL.val (O.move rfl rfl Taken.no) ?_
        refine SL.val (O.extract rfl rfl rfl Taken.no) ?_
        refine SL.val (O.extract rfl rfl rfl Taken.no) ?_
        refine SL.memS (O.alloc (z := .agg #[.slice none 0 0, .int .i64 0]) (is := [.u (.sc (.slice none 0 0)), .u (.sc (.int .i64 0))]) 104 (by kernel_rfl) rfl rfl rfl Taken.no) rfl rfl (S' := (104, _) :: _) rfl ?_
        refine SL.effS (O.st_ref (m := 2) rfl rfl rfl (js := [_, _]) rfl rfl (by kernel_rfl) (by simp) (Nat.le_of_ble_eq_true rfl) rfl (is' := [_, _]) rfl Taken.no) (S' := (104, _) :: _) rfl ?_
        refine SL.val (O.assign rfl rfl Taken.no) ?_
        refine SL.nil ?_
        refine E.to ?_
        refine W.seq ?_
        refine W.region ?_
        refine SL.val (O.move rfl rfl Taken.no) ?_
        refine SL.memS (O.buildSlice 105 rfl rfl Try.underlying26 hi22 hz22 hs22 (by decide) rfl (by decide) rfl rfl rfl Taken.no) rfl rfl (S' := (105, _) :: _) rfl ?_
        refine SL.val (O.move rfl rfl Taken.no) ?_
        refine SL.memS (O.app (k' := 106) rfl rfl (SlOf.fz rfl (by decide)) Try.underlying26 hi22 hz22 hs22 rfl rfl (by first | exact map_snoc rfl | exact app_map | exact List.nil_append _ | rfl) (by rw [hb22]; first | omega | (simp only [List.length_map]; omega) | (simp <;> omega)) (by first | omega | (simp only [List.length_map]; omega) | (simp <;> omega)) rfl Taken.no) rfl rfl (S' := (106, _) :: (105, .dead) :: _) rfl ?_
        refine SL.val (O.move rfl rfl Taken.no) ?_
        refine SL.memS (O.app (k' := 107) rfl rfl (SlOf.fz rfl (by decide)) Try.underlying26 hi22 hz22 hs22 rfl rfl (by first | exact map_snoc rfl | exact app_map | exact List.nil_append _ | rfl) (by rw [hb22]; first | omega | (simp only [List.length_map]; omega) | (simp <;> omega)) (by first | omega | (simp only [List.length_map]; omega) | (simp <;> omega)) rfl Taken.no) rfl rfl (S' := (107, _) :: (106, .dead) :: _) rfl ?_
        refine SL.memS (O.call (rn []) [107] rfl rfl rfl (same_h) (.cons (ArgOk.same rfl) (.cons (ArgOk.own rfl rfl) .nil)) SubS.nil rfl rfl rfl rfl rfl (.inr ⟨rfl, fun x hx => by simp at hx⟩) hcallOk14 (r' := .u _) rfl rfl Taken.no) rfl rfl (S' := _) rfl ?_
        refine SL.as (i' := vB true) 81 rfl (by exact iv_bool (decide_eq_true rfl)) ?_
        refine SL.val (O.assign rfl rfl Taken.no) ?_
        refine SL.nil ?_
        refine E.to ?_
        refine W.pick (.cons (t := 6) rfl .nil) (.cons (t := 101) rfl (.cons (t := 102) rfl (.cons (t := 104) rfl (.cons (t := 107) rfl .nil)))) ?_
        refine W.ret ?_
        refine E.fin (rs := [_]) (rn []) (.inl rfl) rfl (.cons (ResOne.tmp rfl) .nil) ?_ ?_ rfl (fixL_spec rfl)
        · skip
          rfl
        · exact SubS.nil
  · skip
    first | have hg1p := G.gA7 hg1 | have hg1p := G.gA8 hg1 | have hg1p := hg1
    refine SL.skip (OpOk.not rfl rfl rfl hg1) ?_
    refine SL.skip (OpOk.not rfl rfl rfl hg1) ?_
    refine SL.skip (OpOk.not rfl rfl rfl hg1) ?_
    refine SL.val (O.pick_t rfl (G.ne_f hg1) rfl rfl Taken.no) ?_
    refine SL.nil ?_
    refine E.to ?_
    refine W.cond_t rfl ?_
    refine W.seq ?_
    refine W.region ?_
    refine SL.val (O.assign rfl rfl Taken.no) ?_
    refine SL.nil ?_
    refine E.to ?_
    refine W.ret ?_
    refine E.thr ?_
    refine E.fin (rs := [_]) (rn []) (.inl rfl) rfl (.cons (ResOne.tmp rfl) .nil) ?_ ?_ rfl (fixL_spec rfl)
    · skip
      rfl
    · exact SubS.nil

end Go.Proofs.Ytnmngpmdphkcpaa
