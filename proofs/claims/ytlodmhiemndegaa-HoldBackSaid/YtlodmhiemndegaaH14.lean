/-
  The walks.
-/
import Derived.Test.YtlodmhiemndegaaH13
namespace Go.Proofs.Ytlodmhiemndegaa
open Go Go.RowKit Go.H Go.D57



/-- bookplate/bookplatelaw57.HoldBack. -/
theorem holdBack_h {q : List Hd} {h : Hd} :
    Con Try.prog 8 [vL 5 (q.map eH), vA (eH h)] [] (vB true) [] := by
  obtain ⟨i26, hi26, hz26, hs26, hb26⟩ := hinf26
  refine Con.enterL (n := 119) Try.func8 rfl rfl rfl (fun τ w ok vs hin => ?_)
  have hl0 := hin.len (i := 0) rfl
  try rw [List.length_map] at hl0
  clear hin
  refine W.seq ?_
  refine W.region ?_
  refine SL.memS (O.box (is := [_, _, _, _, _]) 101 rfl rfl (by simp) rfl rfl Taken.no) rfl rfl (S' := (101, _) :: _) rfl ?_
  refine SL.val (O.assign rfl rfl Taken.no) ?_
  refine SL.nil ?_
  refine E.to ?_
  refine W.seq ?_
  refine W.seq ?_
  refine W.region ?_
  refine SL.val (O.callp rfl rfl rfl (awake_h) .nil hcallOk9 rfl Taken.no) ?_
  refine SL.as (i' := vB true) 17 rfl (by exact iv_bool (rfl)) ?_
  refine SL.val (O.det (fun _ => G.R.mv (G.R.not rfl) rfl) rfl Taken.no) ?_
  refine SL.val (O.move rfl rfl Taken.no) ?_
  have hg1 : false = false := by decide
  refine SL.val (O.move rfl rfl (Taken.yes rfl rfl hg1)) ?_
  refine SL.val (O.callp rfl rfl rfl (few_h) (.cons (ArgOk.same rfl) .nil) hcallOk10 rfl (Taken.yes rfl rfl hg1)) ?_
  refine SL.val (O.det (fun _ => G.R.not rfl) rfl (Taken.yes rfl rfl hg1)) ?_
  refine SL.val (O.pick_f rfl rfl rfl rfl Taken.no) ?_
  refine SL.val (O.move rfl rfl Taken.no) ?_
  refine SL.case (j := 7) (g := 24) (want := false) rfl rfl (fun hg2 => ?_) (fun hg2 => ?_)
  · skip
    first | have hg2p := G.gA3 hg2 | have hg2p := G.gA4 hg2 | have hg2p := hg2
    refine SL.val (O.move rfl rfl (Taken.yes rfl rfl hg2)) ?_
    refine SL.val (O.callp rfl rfl rfl (refvalid_h) (.cons (ArgOk.same rfl) .nil) hcallOk24 rfl (Taken.yes rfl rfl hg2)) ?_
    refine SL.val (O.det (fun _ => G.R.not rfl) rfl (Taken.yes rfl rfl hg2)) ?_
    refine SL.val (O.pick_f rfl hg2 rfl rfl Taken.no) ?_
    refine SL.nil ?_
    refine E.to ?_
    first | refine W.cond_d rfl (fun hc3 => ?_) (fun hc3 => ?_) | refine W.cond_nd rfl (fun hc3 => ?_) (fun hc3 => ?_) | refine W.cond rfl (fun hc3 => ?_) (fun hc3 => ?_)
    · skip
      refine W.seq ?_
      refine W.region ?_
      refine SL.val (O.callp rfl rfl rfl (awake_h) .nil hcallOk9 rfl Taken.no) ?_
      refine SL.as (i' := vB true) 29 rfl (by exact iv_bool (rfl)) ?_
      refine SL.val (O.assign rfl rfl Taken.no) ?_
      refine SL.nil ?_
      refine E.to ?_
      refine W.ret ?_
      refine E.thr ?_
      refine E.fin (rs := [_]) (rn []) (.inl rfl) rfl (.cons (ResOne.tmp rfl) .nil) ?_ ?_ rfl (fixL_spec rfl)
      · skip
        rfl
      · exact SubS.nil
    · skip
      have hv : validQ q := by first | assumption | (rename_i z; simpa using z)
      have h61 := hv.2
      refine W.skip ?_
      refine E.to ?_
      refine W.seq ?_
      refine W.seq ?_
      refine W.draw [⟨[], [], []⟩, ⟨[], [], []⟩, ⟨[101], [], []⟩, ⟨[], [], []⟩, ⟨[], [], []⟩, ⟨[], [], []⟩, ⟨[], [], []⟩, ⟨[], [], []⟩, ⟨[], [], []⟩] rfl (by kernel_rfl) (by kernel_rfl) rfl rfl ?_
      refine WH.val (O.move rfl rfl Taken.no) rfl rfl ?_
      refine WH.val (O.callp rfl rfl rfl (own_h (by omega)) (.cons (ArgOk.same rfl) .nil) hcallOk12 rfl Taken.no) rfl rfl ?_
      refine WH.val (O.ldN (m := 5) (PtI.ref rfl rfl) (js := [_, _, _, _, _]) rfl (Nat.le_of_ble_eq_true rfl) Try.underlying32 rfl (by kernel_rfl) rfl Taken.no) rfl rfl ?_
      refine WH.memS (O.call (rn []) [] rfl rfl rfl (holdPut_h (q := q) (h := h)) (.cons (ArgOk.same rfl) (.cons (ArgOk.aggU (.cons (ArgOk.same rfl) (.cons (ArgOk.same rfl) (.cons (ArgOk.same rfl) (.cons (ArgOk.same rfl) (.cons (ArgOk.same rfl) .nil)))))) .nil)) SubS.nil rfl rfl rfl rfl rfl (.inl rfl) hcallOk26 (r' := .tup [.u _, .u _]) rfl rfl Taken.no) rfl rfl rfl rfl rfl (S' := _) rfl ?_
      refine WH.val (O.move rfl rfl Taken.no) rfl rfl ?_
      refine WH.val (O.extract rfl rfl rfl Taken.no) rfl rfl ?_
      refine WH.val (O.extract rfl rfl rfl Taken.no) rfl rfl ?_
      refine WH.val (O.assign rfl rfl Taken.no) rfl rfl ?_
      refine WH.val (O.assign rfl rfl Taken.no) rfl rfl ?_
      refine WH.nil ?_
      refine E.to ?_
      refine W.pick (.cons (t := 0) rfl (.cons (t := 3) rfl (.cons (t := 4) rfl (.cons (t := 5) rfl (.cons (t := 6) rfl .nil))))) (.cons (t := 101) rfl .nil) ?_
      refine W.seq ?_
      refine W.region ?_
      refine SL.val (O.move rfl rfl Taken.no) ?_
      refine SL.val (O.det (fun _ => G.R.eql rfl rfl) rfl Taken.no) ?_
      refine SL.nil ?_
      refine E.to ?_
      first | refine W.cond_d rfl (fun hc4 => ?_) (fun hc4 => ?_) | refine W.cond_nd rfl (fun hc4 => ?_) (fun hc4 => ?_) | refine W.cond rfl (fun hc4 => ?_) (fun hc4 => ?_)
      · skip
        have he : putE q h = 0 := by assumption
        obtain ⟨bk1, bk2⟩ := back he
        have hpq := (put_ok he).2.2.2.2
        refine W.seq ?_
        refine W.region ?_
        refine SL.val (O.move rfl rfl Taken.no) ?_
        refine SL.val (O.fld_ref (o' := 0) rfl Try.underlying32 rfl (m := 0) (by kernel_rfl) rfl rfl Taken.no) ?_
        refine SL.val (O.ld1 (PtI.ref rfl rfl) rfl Try.underlying3 rfl rfl Taken.no) ?_
        refine SL.memS (O.call (rn []) [] rfl rfl rfl (holdCancel_h (q := putQ q h) h.id) (.cons (ArgOk.same rfl) (.cons (ArgOk.same rfl) .nil)) SubS.nil rfl rfl rfl rfl rfl (.inl rfl) hcallOk28 (r' := .tup [.u _, .u _]) rfl rfl Taken.no) rfl rfl (S' := _) rfl ?_
        refine SL.as (i' := .tup [vL 5 (q.map eH), vI 0]) 43 rfl (by rw [hpq, bk1, bk2]) ?_
        refine SL.val (O.move rfl rfl Taken.no) ?_
        refine SL.val (O.extract rfl rfl rfl Taken.no) ?_
        refine SL.val (O.extract rfl rfl rfl Taken.no) ?_
        refine SL.val (O.assign rfl rfl Taken.no) ?_
        refine SL.val (O.assign rfl rfl Taken.no) ?_
        refine SL.nil ?_
        refine E.to ?_
        refine W.seq ?_
        refine W.region ?_
        refine SL.val (O.move rfl rfl Taken.no) ?_
        refine SL.val (O.det (fun _ => G.R.mv (G.R.neq rfl rfl) (congrArg Value.bool (decide_eq_false (by decide)))) rfl Taken.no) ?_
        refine SL.val (O.move rfl rfl Taken.no) ?_
        have hg5 : false = false := by decide
        refine SL.val (O.move rfl rfl (Taken.yes rfl rfl hg5)) ?_
        refine SL.val (O.callp rfl rfl rfl (theirs_h (q := q) (by omega)) (.cons (ArgOk.same rfl) .nil) hcallOk21 rfl (Taken.yes rfl rfl hg5)) ?_
        refine SL.val (O.move rfl rfl (Taken.yes rfl rfl hg5)) ?_
        refine SL.val (O.callp rfl rfl rfl (same_h (a := q) (b := q)) (.cons (ArgOk.same rfl) (.cons (ArgOk.same rfl) .nil)) hcallOk20 rfl (Taken.yes rfl rfl hg5)) ?_
        refine SL.as (i' := vB true) 52 rfl (by exact iv_bool (decide_eq_true rfl)) ?_
        refine SL.val (O.det (fun _ => G.R.mv (G.R.not rfl) rfl) rfl (Taken.yes rfl rfl hg5)) ?_
        refine SL.val (O.pick_f rfl rfl rfl rfl Taken.no) ?_
        refine SL.nil ?_
        refine E.to ?_
        refine W.pick (.cons (t := 0) rfl (.cons (t := 4) rfl (.cons (t := 54) rfl .nil))) (.cons (t := 101) rfl .nil) ?_
        refine W.cond_f rfl ?_
        refine W.skip ?_
        refine E.to ?_
        refine W.seq ?_
        refine W.seq ?_
        refine W.region ?_
        refine SL.val (O.move rfl rfl Taken.no) ?_
        refine SL.val (O.lenE (SlOf.fz rfl (by decide)) (by first | exact List.length_map _ | rfl) Try.underlying22 rfl Taken.no) ?_
        refine SL.val (O.det (fun _ => G.R.eql rfl rfl) rfl Taken.no) ?_
        refine SL.nil ?_
        refine E.to ?_
        first | refine W.cond_d rfl (fun hc6 => ?_) (fun hc6 => ?_) | refine W.cond_nd rfl (fun hc6 => ?_) (fun hc6 => ?_) | refine W.cond rfl (fun hc6 => ?_) (fun hc6 => ?_)
        · skip
          refine W.seq ?_
          refine W.region ?_
          refine SL.val (O.assign rfl rfl Taken.no) ?_
          refine SL.nil ?_
          refine E.to ?_
          refine W.ret ?_
          refine E.thr ?_
          refine E.fin (rs := [_]) (rn []) (.inl rfl) rfl (.cons (ResOne.tmp rfl) .nil) ?_ ?_ rfl (fixL_spec rfl)
          · skip
            rfl
          · exact SubS.nil
        · skip
          have hl : 0 < q.length := by omega
          have hn := nextI_lt hl
          obtain ⟨s1, s2, s3⟩ := srv_0 hv hl
          obtain ⟨c1, c2⟩ := can_next hv hl
          have l1 := srvL_len hn
          have l2 := canL_len hn
          refine W.skip ?_
          refine E.to ?_
          refine W.seq ?_
          refine W.region ?_
          refine SL.val (O.move rfl rfl Taken.no) ?_
          refine SL.val (O.callp rfl rfl rfl (own_h (by omega)) (.cons (ArgOk.same rfl) .nil) hcallOk12 rfl Taken.no) ?_
          refine SL.memS (O.call (rn []) [] rfl rfl rfl (holdServe_h (q := q)) (.cons (ArgOk.same rfl) .nil) SubS.nil rfl rfl rfl rfl rfl (.inl rfl) hcallOk14 (r' := .tup [.agg [.u _, .u _, .u _, .u _, .u _], .u _, .u _]) rfl rfl Taken.no) rfl rfl (S' := _) rfl ?_
          refine SL.as (i' := .tup [.agg [.u (uI (nextH q).id), .u (uI (nextH q).pat), .u (uI (nextH q).cls), .u (uI (nextH q).tim), .u (uI (nextH q).ov)], vL 5 ((srvL q (nextI q)).map eH), vI 0]) 61 rfl (by rw [s1, s2]) ?_
          refine SL.val (O.move rfl rfl Taken.no) ?_
          refine SL.val (O.extract rfl rfl rfl Taken.no) ?_
          refine SL.val (O.extract rfl rfl rfl Taken.no) ?_
          refine SL.val (O.extract rfl rfl rfl Taken.no) ?_
          refine SL.memS (O.alloc (z := .agg #[.int .i64 0, .int .i64 0, .int .i64 0, .int .i64 0, .int .i64 0]) (is := [.u (.sc (.int .i64 0)), .u (.sc (.int .i64 0)), .u (.sc (.int .i64 0)), .u (.sc (.int .i64 0)), .u (.sc (.int .i64 0))]) 102 (by kernel_rfl) rfl rfl rfl Taken.no) rfl rfl (S' := (102, _) :: _) rfl ?_
          refine SL.effS (O.st_ref (m := 5) rfl rfl rfl (js := [_, _, _, _, _]) rfl rfl (by kernel_rfl) (by simp) (Nat.le_of_ble_eq_true rfl) rfl (is' := [_, _, _, _, _]) rfl Taken.no) (S' := (102, _) :: _) rfl ?_
          refine SL.val (O.assign rfl rfl Taken.no) ?_
          refine SL.val (O.assign rfl rfl Taken.no) ?_
          refine SL.nil ?_
          refine E.to ?_
          refine W.seq ?_
          refine W.draw [⟨[], [], []⟩, ⟨[], [], []⟩, ⟨[102], [], []⟩, ⟨[102], [], []⟩, ⟨[], [], []⟩, ⟨[], [], []⟩, ⟨[], [], []⟩, ⟨[], [], []⟩, ⟨[], [], []⟩, ⟨[], [], []⟩] rfl (by kernel_rfl) (by kernel_rfl) rfl rfl ?_
          refine WH.val (O.move rfl rfl Taken.no) rfl rfl ?_
          refine WH.val (O.callp rfl rfl rfl (own_h (by omega)) (.cons (ArgOk.same rfl) .nil) hcallOk12 rfl Taken.no) rfl rfl ?_
          refine WH.val (O.fld_ref (o' := 0) rfl Try.underlying26 rfl (m := 0) (by kernel_rfl) rfl rfl Taken.no) rfl rfl ?_
          refine WH.val (O.ld1 (PtI.ref rfl rfl) rfl Try.underlying3 rfl rfl Taken.no) rfl rfl ?_
          refine WH.memS (OpOk.re (i' := .tup [vL 5 ((canL q (nextI q)).map eH), vI 0]) (O.call (rn []) [] rfl rfl rfl (holdCancel_h (q := q) (nextH q).id) (.cons (ArgOk.same rfl) (.cons (ArgOk.same rfl) .nil)) SubS.nil rfl rfl rfl rfl rfl (.inl rfl) hcallOk28 (r' := .tup [.u _, .u _]) rfl rfl Taken.no) (by rw [c1, c2])) rfl rfl rfl rfl rfl (S' := _) rfl ?_
          refine WH.val (O.move rfl rfl Taken.no) rfl rfl ?_
          refine WH.val (O.extract rfl rfl rfl Taken.no) rfl rfl ?_
          refine WH.val (O.extract rfl rfl rfl Taken.no) rfl rfl ?_
          refine WH.val (O.assign rfl rfl Taken.no) rfl rfl ?_
          refine WH.val (O.assign rfl rfl Taken.no) rfl rfl ?_
          refine WH.nil ?_
          refine E.to ?_
          refine W.pick (.cons (t := 4) rfl (.cons (t := 10) rfl (.cons (t := 11) rfl (.cons (t := 12) rfl (.cons (t := 13) rfl .nil))))) (.cons (t := 101) rfl (.cons (t := 102) rfl .nil)) ?_
          refine W.seq ?_
          refine W.seq ?_
          refine W.region ?_
          refine SL.val (O.move rfl rfl Taken.no) ?_
          refine SL.val (O.det (fun _ => G.R.mv (G.R.neq rfl rfl) (congrArg Value.bool (decide_eq_false (by decide)))) rfl Taken.no) ?_
          refine SL.val (O.move rfl rfl Taken.no) ?_
          have hg7 : false = false := by decide
          refine SL.val (O.move rfl rfl (Taken.yes rfl rfl hg7)) ?_
          refine SL.val (O.det (fun _ => G.R.mv (G.R.neq rfl rfl) (congrArg Value.bool (decide_eq_false (by decide)))) rfl (Taken.yes rfl rfl hg7)) ?_
          refine SL.val (O.pick_f rfl rfl rfl rfl Taken.no) ?_
          refine SL.val (O.move rfl rfl Taken.no) ?_
          have hg8 : false = false := by decide
          refine SL.val (O.move rfl rfl (Taken.yes rfl rfl hg8)) ?_
          refine SL.val (O.lenE (SlOf.fz rfl (by decide)) (by first | exact List.length_map _ | rfl) Try.underlying30 rfl (Taken.yes rfl rfl hg8)) ?_
          refine SL.val (O.move rfl rfl (Taken.yes rfl rfl hg8)) ?_
          refine SL.val (O.lenE (SlOf.fz rfl (by decide)) (by first | exact List.length_map _ | rfl) Try.underlying30 rfl (Taken.yes rfl rfl hg8)) ?_
          refine SL.val (O.det (fun _ => G.R.mv (G.R.neq rfl rfl) (congrArg Value.bool (decide_eq_false (by omega)))) rfl (Taken.yes rfl rfl hg8)) ?_
          refine SL.val (O.pick_f rfl rfl rfl rfl Taken.no) ?_
          refine SL.nil ?_
          refine E.to ?_
          refine W.cond_f rfl ?_
          refine W.skip ?_
          refine E.to ?_
          refine W.seq ?_
          refine W.seq ?_
          refine W.region ?_
          refine SL.val (O.move rfl rfl Taken.no) ?_
          refine SL.val (O.lenE (SlOf.fz rfl (by decide)) (by first | exact List.length_map _ | rfl) Try.underlying30 rfl Taken.no) ?_
          refine SL.val (O.move rfl rfl Taken.no) ?_
          refine SL.nil ?_
          refine E.to ?_
          refine W.block ?_
          refine W.loopx1 (fun (k : Nat) => [(88, vI (k : Int))]) (fun (k : Nat) => []) (fun (k : Nat) => k ≤ (srvL q (nextI q)).length) (fun (k : Nat) => (srvL q (nextI q)).length - k) (0) (rn []) (.cons (t := 10) rfl (.cons (t := 12) rfl (.cons (t := 87) rfl .nil))) (.cons (t := 101) rfl (.cons (t := 102) rfl .nil)) rfl ?_ ?_ rfl rfl ?_ ?_
          · exact (SubF.cons rfl SubF.nil)
          · exact SubS.nil
          · skip
            omega
          intro k hinv
          have hk := hinv
          have hbg := fun h : k < (srvL q (nextI q)).length => back_get (i := k) hn (by omega)
          refine W.seq ?_
          refine W.region ?_
          refine SL.val (O.det (fun _ => G.R.lss rfl rfl) rfl Taken.no) ?_
          refine SL.nil ?_
          refine E.to ?_
          refine W.seq ?_
          first | refine W.cond_d rfl (fun hc9 => ?_) (fun hc9 => ?_) | refine W.cond_nd rfl (fun hc9 => ?_) (fun hc9 => ?_) | refine W.cond rfl (fun hc9 => ?_) (fun hc9 => ?_)
          · skip
            refine W.skip ?_
            refine E.to ?_
            refine W.seq ?_
            refine W.block ?_
            refine W.seq ?_
            refine W.region ?_
            refine SL.val (O.move rfl rfl Taken.no) ?_
            refine SL.val (O.assign rfl rfl Taken.no) ?_
            refine SL.nil ?_
            refine E.to ?_
            refine W.seq ?_
            refine W.draw [⟨[], [], []⟩, ⟨[], [], []⟩, ⟨[], [], []⟩, ⟨[], [], []⟩, ⟨[], [], []⟩, ⟨[], [], []⟩, ⟨[], [], []⟩, ⟨[], [], []⟩, ⟨[103], [103], [103]⟩, ⟨[104], [104], [104]⟩, ⟨[103], [103], []⟩, ⟨[104], [104], []⟩] rfl (by kernel_rfl) (by kernel_rfl) rfl rfl ?_
            refine WH.val (O.move rfl rfl Taken.no) rfl rfl ?_
            refine WH.val (O.move rfl rfl Taken.no) rfl rfl ?_
            obtain ⟨hb1, hb2⟩ := hbg (by omega)
            have hcv : ((canL q (nextI q))[k]!).ov ≤ 3 ∧ 0 ≤ ((canL q (nextI q))[k]!).ov := by have := (canL_valid hv hn).1 k (by omega); have := this.1; unfold goodH at this; omega
            refine WH.val (O.idx_fz rfl rfl (rfl) (row_get (by omega)) Try.underlying30 hi26 hs26 rfl Taken.no) rfl rfl ?_
            refine WH.val (O.ldU (m := 5) (PtU.fz rfl) rfl Try.underlying26 rfl (by kernel_rfl) rfl Taken.no) rfl rfl ?_
            refine WH.val (O.move rfl rfl Taken.no) rfl rfl ?_
            refine WH.val (O.move rfl rfl Taken.no) rfl rfl ?_
            refine WH.val (O.idx_fz rfl rfl (rfl) (row_get (by omega)) Try.underlying30 hi26 hs26 rfl Taken.no) rfl rfl ?_
            refine WH.val (O.ldU (m := 5) (PtU.fz rfl) rfl Try.underlying26 rfl (by kernel_rfl) rfl Taken.no) rfl rfl ?_
            refine WH.memS (O.alloc (z := .agg #[.int .i64 0, .int .i64 0, .int .i64 0, .int .i64 0, .int .i64 0]) (is := [.u (.sc (.int .i64 0)), .u (.sc (.int .i64 0)), .u (.sc (.int .i64 0)), .u (.sc (.int .i64 0)), .u (.sc (.int .i64 0))]) 103 (by kernel_rfl) rfl rfl rfl Taken.no) rfl rfl rfl rfl rfl (S' := (103, _) :: _) rfl ?_
            refine WH.memS (O.alloc (z := .agg #[.int .i64 0, .int .i64 0, .int .i64 0, .int .i64 0, .int .i64 0]) (is := [.u (.sc (.int .i64 0)), .u (.sc (.int .i64 0)), .u (.sc (.int .i64 0)), .u (.sc (.int .i64 0)), .u (.sc (.int .i64 0))]) 104 (by kernel_rfl) rfl rfl rfl Taken.no) rfl rfl rfl rfl rfl (S' := (104, _) :: _) rfl ?_
            refine WH.effS (O.st_ref (m := 5) rfl rfl rfl (js := [_, _, _, _, _]) rfl rfl (by kernel_rfl) (by simp) (Nat.le_of_ble_eq_true rfl) rfl (is' := [_, _, _, _, _]) rfl Taken.no) rfl rfl rfl (S' := (103, _) :: _) rfl ?_
            refine WH.effS (O.st_ref (m := 5) rfl rfl rfl (js := [_, _, _, _, _]) rfl rfl (by kernel_rfl) (by simp) (Nat.le_of_ble_eq_true rfl) rfl (is' := [_, _, _, _, _]) rfl Taken.no) rfl rfl rfl (S' := (104, _) :: _) rfl ?_
            refine WH.nil ?_
            refine E.to ?_
            refine W.seq ?_
            refine W.seq ?_
            refine W.region ?_
            refine SL.val (O.fld_ref (o' := 4) rfl Try.underlying26 rfl (m := 0) (by kernel_rfl) rfl rfl Taken.no) ?_
            refine SL.val (O.ld1 (PtI.ref rfl rfl) rfl Try.underlying3 rfl rfl Taken.no) ?_
            refine SL.val (O.fld_ref (o' := 4) rfl Try.underlying26 rfl (m := 0) (by kernel_rfl) rfl rfl Taken.no) ?_
            refine SL.val (O.ld1 (PtI.ref rfl rfl) rfl Try.underlying3 rfl rfl Taken.no) ?_
            refine SL.val (O.det (fun _ => G.R.mv (G.R.lss rfl rfl) (congrArg Value.bool (decide_eq_false (by omega)))) rfl Taken.no) ?_
            refine SL.val (O.move rfl rfl Taken.no) ?_
            have hg10 : false = false := by decide
            refine SL.val (O.fld_ref (o' := 4) rfl Try.underlying26 rfl (m := 0) (by kernel_rfl) rfl rfl (Taken.yes rfl rfl hg10)) ?_
            refine SL.val (O.ld1 (PtI.ref rfl rfl) rfl Try.underlying3 rfl rfl (Taken.yes rfl rfl hg10)) ?_
            refine SL.val (O.fld_ref (o' := 4) rfl Try.underlying26 rfl (m := 0) (by kernel_rfl) rfl rfl (Taken.yes rfl rfl hg10)) ?_
            refine SL.val (O.ld1 (PtI.ref rfl rfl) rfl Try.underlying3 rfl rfl (Taken.yes rfl rfl hg10)) ?_
            refine SL.val (O.det (fun _ => by first | exact G.R.add64 rfl rfl (by omega) | exact G.R.add rfl rfl) rfl (Taken.yes rfl rfl hg10)) ?_
            refine SL.val (O.det (fun _ => G.R.mv (G.R.gtr rfl rfl) (congrArg Value.bool (decide_eq_false (by omega)))) rfl (Taken.yes rfl rfl hg10)) ?_
            refine SL.val (O.pick_f rfl rfl rfl rfl Taken.no) ?_
            refine SL.nil ?_
            refine E.to ?_
            refine W.pick (.cons (t := 10) rfl (.cons (t := 12) rfl (.cons (t := 14) rfl (.cons (t := 15) rfl (.cons (t := 16) rfl (.cons (t := 87) rfl (.cons (t := 88) rfl (.cons (t := 89) rfl (.cons (t := 90) rfl (.cons (t := 91) rfl (.cons (t := 92) rfl (.cons (t := 93) rfl (.cons (t := 94) rfl (.cons (t := 95) rfl (.cons (t := 96) rfl (.cons (t := 97) rfl (.cons (t := 98) rfl (.cons (t := 99) rfl (.cons (t := 100) rfl (.cons (t := 101) rfl (.cons (t := 102) rfl (.cons (t := 103) rfl (.cons (t := 104) rfl (.cons (t := 105) rfl (.cons (t := 106) rfl (.cons (t := 107) rfl (.cons (t := 108) rfl (.cons (t := 109) rfl (.cons (t := 110) rfl (.cons (t := 111) rfl .nil)))))))))))))))))))))))))))))) (.cons (t := 101) rfl (.cons (t := 102) rfl (.cons (t := 103) rfl (.cons (t := 104) rfl .nil)))) ?_
            refine W.cond_f rfl ?_
            refine W.skip ?_
            refine E.to ?_
            refine W.pick (.cons (t := 10) rfl (.cons (t := 12) rfl (.cons (t := 14) rfl (.cons (t := 15) rfl (.cons (t := 16) rfl (.cons (t := 87) rfl (.cons (t := 88) rfl (.cons (t := 89) rfl (.cons (t := 90) rfl (.cons (t := 91) rfl (.cons (t := 92) rfl (.cons (t := 93) rfl (.cons (t := 94) rfl (.cons (t := 95) rfl (.cons (t := 96) rfl (.cons (t := 97) rfl (.cons (t := 98) rfl (.cons (t := 99) rfl (.cons (t := 100) rfl (.cons (t := 101) rfl (.cons (t := 102) rfl (.cons (t := 103) rfl (.cons (t := 104) rfl (.cons (t := 105) rfl (.cons (t := 106) rfl (.cons (t := 107) rfl (.cons (t := 108) rfl (.cons (t := 109) rfl (.cons (t := 110) rfl (.cons (t := 111) rfl .nil)))))))))))))))))))))))))))))) (.cons (t := 101) rfl (.cons (t := 102) rfl (.cons (t := 103) rfl (.cons (t := 104) rfl .nil)))) ?_
            refine W.seq ?_
            refine W.region ?_
            refine SL.val (O.fld_ref (o' := 4) rfl Try.underlying26 rfl (m := 0) (by kernel_rfl) rfl rfl Taken.no) ?_
            refine SL.val (O.ld1 (PtI.ref rfl rfl) rfl Try.underlying3 rfl rfl Taken.no) ?_
            refine SL.val (O.fld_ref (o' := 4) rfl Try.underlying26 rfl (m := 0) (by kernel_rfl) rfl rfl Taken.no) ?_
            refine SL.effS (O.st_ref (m := 1) rfl rfl rfl (js := [_]) rfl rfl (by kernel_rfl) (by simp) (Nat.le_of_ble_eq_true rfl) rfl (is' := [_, _, _, _, _]) rfl Taken.no) (S' := (103, _) :: _) rfl ?_
            refine SL.nil ?_
            refine E.to ?_
            refine W.pick (.cons (t := 10) rfl (.cons (t := 12) rfl (.cons (t := 14) rfl (.cons (t := 15) rfl (.cons (t := 16) rfl (.cons (t := 87) rfl (.cons (t := 88) rfl (.cons (t := 89) rfl (.cons (t := 90) rfl (.cons (t := 91) rfl (.cons (t := 92) rfl (.cons (t := 93) rfl (.cons (t := 94) rfl (.cons (t := 95) rfl (.cons (t := 96) rfl (.cons (t := 97) rfl (.cons (t := 98) rfl (.cons (t := 99) rfl (.cons (t := 100) rfl (.cons (t := 101) rfl (.cons (t := 102) rfl (.cons (t := 103) rfl (.cons (t := 104) rfl (.cons (t := 105) rfl (.cons (t := 106) rfl (.cons (t := 107) rfl (.cons (t := 108) rfl (.cons (t := 109) rfl (.cons (t := 110) rfl (.cons (t := 111) rfl (.cons (t := 112) rfl (.cons (t := 113) rfl (.cons (t := 114) rfl .nil))))))))))))))))))))))))))))))))) (.cons (t := 101) rfl (.cons (t := 102) rfl (.cons (t := 103) rfl (.cons (t := 104) rfl .nil)))) ?_
            refine W.seq ?_
            refine W.region ?_
            refine SL.val (O.ldN (m := 5) (PtI.ref rfl rfl) (js := [_, _, _, _, _]) rfl (Nat.le_of_ble_eq_true rfl) Try.underlying26 rfl (by kernel_rfl) rfl Taken.no) ?_
            refine SL.val (O.ldN (m := 5) (PtI.ref rfl rfl) (js := [_, _, _, _, _]) rfl (Nat.le_of_ble_eq_true rfl) Try.underlying26 rfl (by kernel_rfl) rfl Taken.no) ?_
            refine SL.val (O.neAgg (ls := (hV ({ (srvL q (nextI q))[k]! with ov := (canL q (nextI q))[k]!.ov } : Hd))) (ms := (hV (canL q (nextI q))[k]!)) (r := false) (.inr rfl) (.inr rfl) (by kernel_rfl) (by kernel_rfl) (by kernel_rfl) (by kernel_rfl) (by rw [eqH, hb2]; simp) rfl Taken.no) ?_
            refine SL.nil ?_
            refine E.to ?_
            refine W.pick (.cons (t := 10) rfl (.cons (t := 12) rfl (.cons (t := 14) rfl (.cons (t := 15) rfl (.cons (t := 16) rfl (.cons (t := 87) rfl (.cons (t := 88) rfl (.cons (t := 89) rfl (.cons (t := 90) rfl (.cons (t := 91) rfl (.cons (t := 92) rfl (.cons (t := 93) rfl (.cons (t := 94) rfl (.cons (t := 95) rfl (.cons (t := 96) rfl (.cons (t := 97) rfl (.cons (t := 98) rfl (.cons (t := 99) rfl (.cons (t := 100) rfl (.cons (t := 101) rfl (.cons (t := 102) rfl (.cons (t := 103) rfl (.cons (t := 104) rfl (.cons (t := 105) rfl (.cons (t := 106) rfl (.cons (t := 107) rfl (.cons (t := 108) rfl (.cons (t := 109) rfl (.cons (t := 110) rfl (.cons (t := 111) rfl (.cons (t := 112) rfl (.cons (t := 113) rfl (.cons (t := 114) rfl (.cons (t := 115) rfl (.cons (t := 116) rfl (.cons (t := 117) rfl .nil)))))))))))))))))))))))))))))))))))) (.cons (t := 101) rfl (.cons (t := 102) rfl (.cons (t := 103) rfl (.cons (t := 104) rfl .nil)))) ?_
            refine W.cond_f rfl ?_
            refine W.skip ?_
            refine E.inn ?_
            refine E.to ?_
            refine W.pick (.cons (t := 10) rfl (.cons (t := 12) rfl (.cons (t := 14) rfl (.cons (t := 15) rfl (.cons (t := 16) rfl (.cons (t := 87) rfl (.cons (t := 88) rfl (.cons (t := 89) rfl (.cons (t := 90) rfl (.cons (t := 91) rfl (.cons (t := 92) rfl (.cons (t := 93) rfl (.cons (t := 94) rfl (.cons (t := 95) rfl (.cons (t := 96) rfl (.cons (t := 97) rfl (.cons (t := 98) rfl (.cons (t := 99) rfl (.cons (t := 100) rfl (.cons (t := 101) rfl (.cons (t := 102) rfl (.cons (t := 103) rfl (.cons (t := 104) rfl (.cons (t := 105) rfl (.cons (t := 106) rfl (.cons (t := 107) rfl (.cons (t := 108) rfl (.cons (t := 109) rfl (.cons (t := 110) rfl (.cons (t := 111) rfl (.cons (t := 112) rfl (.cons (t := 113) rfl (.cons (t := 114) rfl (.cons (t := 115) rfl (.cons (t := 116) rfl (.cons (t := 117) rfl .nil)))))))))))))))))))))))))))))))))))) (.cons (t := 101) rfl (.cons (t := 102) rfl (.cons (t := 103) rfl (.cons (t := 104) rfl .nil)))) ?_
            refine W.region ?_
            refine SL.val (O.det (fun _ => by first | exact G.R.add64 rfl rfl (by omega) | exact G.R.add rfl rfl) rfl Taken.no) ?_
            refine SL.val (O.move rfl rfl Taken.no) ?_
            refine SL.nil ?_
            refine E.again ((k + 1)) (rn []) ?_ ?_ rfl (fixL_spec rfl) ?_ ?_
            · exact (SubF.cons rfl (SubF.cons rfl (SubF.cons rfl (SubF.cons rfl SubF.nil))))
            · exact (SubS.cons rfl (SubS.cons rfl SubS.nil))
            · try dsimp only
              omega
            · (try dsimp only); omega
          · skip
            refine W.exit ?_
            refine E.th ?_
            refine E.th ?_
            refine E.hit ?_
            refine E.to ?_
            refine W.seq ?_
            refine W.region ?_
            refine SL.val (O.assign rfl rfl Taken.no) ?_
            refine SL.nil ?_
            refine E.to ?_
            refine W.ret ?_
            refine E.fin (rs := [_]) (rn []) (.inl rfl) rfl (.cons (ResOne.tmp rfl) .nil) ?_ ?_ rfl (fixL_spec rfl)
            · skip
              rfl
            · exact SubS.nil
      · skip
        refine W.skip ?_
        refine E.to ?_
        refine W.seq ?_
        refine W.seq ?_
        refine W.region ?_
        refine SL.val (O.move rfl rfl Taken.no) ?_
        refine SL.val (O.lenE (SlOf.fz rfl (by decide)) (by first | exact List.length_map _ | rfl) Try.underlying22 rfl Taken.no) ?_
        refine SL.val (O.det (fun _ => G.R.eql rfl rfl) rfl Taken.no) ?_
        refine SL.nil ?_
        refine E.to ?_
        first | refine W.cond_d rfl (fun hc11 => ?_) (fun hc11 => ?_) | refine W.cond_nd rfl (fun hc11 => ?_) (fun hc11 => ?_) | refine W.cond rfl (fun hc11 => ?_) (fun hc11 => ?_)
        · skip
          refine W.seq ?_
          refine W.region ?_
          refine SL.val (O.assign rfl rfl Taken.no) ?_
          refine SL.nil ?_
          refine E.to ?_
          refine W.ret ?_
          refine E.thr ?_
          refine E.fin (rs := [_]) (rn []) (.inl rfl) rfl (.cons (ResOne.tmp rfl) .nil) ?_ ?_ rfl (fixL_spec rfl)
          · skip
            rfl
          · exact SubS.nil
        · skip
          have hl : 0 < q.length := by omega
          have hn := nextI_lt hl
          obtain ⟨s1, s2, s3⟩ := srv_0 hv hl
          obtain ⟨c1, c2⟩ := can_next hv hl
          have l1 := srvL_len hn
          have l2 := canL_len hn
          refine W.skip ?_
          refine E.to ?_
          refine W.seq ?_
          refine W.region ?_
          refine SL.val (O.move rfl rfl Taken.no) ?_
          refine SL.val (O.callp rfl rfl rfl (own_h (by omega)) (.cons (ArgOk.same rfl) .nil) hcallOk12 rfl Taken.no) ?_
          refine SL.memS (O.call (rn []) [] rfl rfl rfl (holdServe_h (q := q)) (.cons (ArgOk.same rfl) .nil) SubS.nil rfl rfl rfl rfl rfl (.inl rfl) hcallOk14 (r' := .tup [.agg [.u _, .u _, .u _, .u _, .u _], .u _, .u _]) rfl rfl Taken.no) rfl rfl (S' := _) rfl ?_
          refine SL.as (i' := .tup [.agg [.u (uI (nextH q).id), .u (uI (nextH q).pat), .u (uI (nextH q).cls), .u (uI (nextH q).tim), .u (uI (nextH q).ov)], vL 5 ((srvL q (nextI q)).map eH), vI 0]) 61 rfl (by rw [s1, s2]) ?_
          refine SL.val (O.move rfl rfl Taken.no) ?_
          refine SL.val (O.extract rfl rfl rfl Taken.no) ?_
          refine SL.val (O.extract rfl rfl rfl Taken.no) ?_
          refine SL.val (O.extract rfl rfl rfl Taken.no) ?_
          refine SL.memS (O.alloc (z := .agg #[.int .i64 0, .int .i64 0, .int .i64 0, .int .i64 0, .int .i64 0]) (is := [.u (.sc (.int .i64 0)), .u (.sc (.int .i64 0)), .u (.sc (.int .i64 0)), .u (.sc (.int .i64 0)), .u (.sc (.int .i64 0))]) 105 (by kernel_rfl) rfl rfl rfl Taken.no) rfl rfl (S' := (105, _) :: _) rfl ?_
          refine SL.effS (O.st_ref (m := 5) rfl rfl rfl (js := [_, _, _, _, _]) rfl rfl (by kernel_rfl) (by simp) (Nat.le_of_ble_eq_true rfl) rfl (is' := [_, _, _, _, _]) rfl Taken.no) (S' := (105, _) :: _) rfl ?_
          refine SL.val (O.assign rfl rfl Taken.no) ?_
          refine SL.val (O.assign rfl rfl Taken.no) ?_
          refine SL.nil ?_
          refine E.to ?_
          refine W.seq ?_
          refine W.draw [⟨[], [], []⟩, ⟨[], [], []⟩, ⟨[105], [], []⟩, ⟨[105], [], []⟩, ⟨[], [], []⟩, ⟨[], [], []⟩, ⟨[], [], []⟩, ⟨[], [], []⟩, ⟨[], [], []⟩, ⟨[], [], []⟩] rfl (by kernel_rfl) (by kernel_rfl) rfl rfl ?_
          refine WH.val (O.move rfl rfl Taken.no) rfl rfl ?_
          refine WH.val (O.callp rfl rfl rfl (own_h (by omega)) (.cons (ArgOk.same rfl) .nil) hcallOk12 rfl Taken.no) rfl rfl ?_
          refine WH.val (O.fld_ref (o' := 0) rfl Try.underlying26 rfl (m := 0) (by kernel_rfl) rfl rfl Taken.no) rfl rfl ?_
          refine WH.val (O.ld1 (PtI.ref rfl rfl) rfl Try.underlying3 rfl rfl Taken.no) rfl rfl ?_
          refine WH.memS (OpOk.re (i' := .tup [vL 5 ((canL q (nextI q)).map eH), vI 0]) (O.call (rn []) [] rfl rfl rfl (holdCancel_h (q := q) (nextH q).id) (.cons (ArgOk.same rfl) (.cons (ArgOk.same rfl) .nil)) SubS.nil rfl rfl rfl rfl rfl (.inl rfl) hcallOk28 (r' := .tup [.u _, .u _]) rfl rfl Taken.no) (by rw [c1, c2])) rfl rfl rfl rfl rfl (S' := _) rfl ?_
          refine WH.val (O.move rfl rfl Taken.no) rfl rfl ?_
          refine WH.val (O.extract rfl rfl rfl Taken.no) rfl rfl ?_
          refine WH.val (O.extract rfl rfl rfl Taken.no) rfl rfl ?_
          refine WH.val (O.assign rfl rfl Taken.no) rfl rfl ?_
          refine WH.val (O.assign rfl rfl Taken.no) rfl rfl ?_
          refine WH.nil ?_
          refine E.to ?_
          refine W.pick (.cons (t := 4) rfl (.cons (t := 10) rfl (.cons (t := 11) rfl (.cons (t := 12) rfl (.cons (t := 13) rfl .nil))))) (.cons (t := 101) rfl (.cons (t := 105) rfl .nil)) ?_
          refine W.seq ?_
          refine W.seq ?_
          refine W.region ?_
          refine SL.val (O.move rfl rfl Taken.no) ?_
          refine SL.val (O.det (fun _ => G.R.mv (G.R.neq rfl rfl) (congrArg Value.bool (decide_eq_false (by decide)))) rfl Taken.no) ?_
          refine SL.val (O.move rfl rfl Taken.no) ?_
          have hg12 : false = false := by decide
          refine SL.val (O.move rfl rfl (Taken.yes rfl rfl hg12)) ?_
          refine SL.val (O.det (fun _ => G.R.mv (G.R.neq rfl rfl) (congrArg Value.bool (decide_eq_false (by decide)))) rfl (Taken.yes rfl rfl hg12)) ?_
          refine SL.val (O.pick_f rfl rfl rfl rfl Taken.no) ?_
          refine SL.val (O.move rfl rfl Taken.no) ?_
          have hg13 : false = false := by decide
          refine SL.val (O.move rfl rfl (Taken.yes rfl rfl hg13)) ?_
          refine SL.val (O.lenE (SlOf.fz rfl (by decide)) (by first | exact List.length_map _ | rfl) Try.underlying30 rfl (Taken.yes rfl rfl hg13)) ?_
          refine SL.val (O.move rfl rfl (Taken.yes rfl rfl hg13)) ?_
          refine SL.val (O.lenE (SlOf.fz rfl (by decide)) (by first | exact List.length_map _ | rfl) Try.underlying30 rfl (Taken.yes rfl rfl hg13)) ?_
          refine SL.val (O.det (fun _ => G.R.mv (G.R.neq rfl rfl) (congrArg Value.bool (decide_eq_false (by omega)))) rfl (Taken.yes rfl rfl hg13)) ?_
          refine SL.val (O.pick_f rfl rfl rfl rfl Taken.no) ?_
          refine SL.nil ?_
          refine E.to ?_
          refine W.cond_f rfl ?_
          refine W.skip ?_
          refine E.to ?_
          refine W.seq ?_
          refine W.seq ?_
          refine W.region ?_
          refine SL.val (O.move rfl rfl Taken.no) ?_
          refine SL.val (O.lenE (SlOf.fz rfl (by decide)) (by first | exact List.length_map _ | rfl) Try.underlying30 rfl Taken.no) ?_
          refine SL.val (O.move rfl rfl Taken.no) ?_
          refine SL.nil ?_
          refine E.to ?_
          refine W.block ?_
          refine W.loopx1 (fun (k : Nat) => [(88, vI (k : Int))]) (fun (k : Nat) => []) (fun (k : Nat) => k ≤ (srvL q (nextI q)).length) (fun (k : Nat) => (srvL q (nextI q)).length - k) (0) (rn []) (.cons (t := 10) rfl (.cons (t := 12) rfl (.cons (t := 87) rfl .nil))) (.cons (t := 101) rfl (.cons (t := 105) rfl .nil)) rfl ?_ ?_ rfl rfl ?_ ?_
          · exact (SubF.cons rfl SubF.nil)
          · exact SubS.nil
          · skip
            omega
          intro k hinv
          have hk := hinv
          have hbg := fun h : k < (srvL q (nextI q)).length => back_get (i := k) hn (by omega)
          refine W.seq ?_
          refine W.region ?_
          refine SL.val (O.det (fun _ => G.R.lss rfl rfl) rfl Taken.no) ?_
          refine SL.nil ?_
          refine E.to ?_
          refine W.seq ?_
          first | refine W.cond_d rfl (fun hc14 => ?_) (fun hc14 => ?_) | refine W.cond_nd rfl (fun hc14 => ?_) (fun hc14 => ?_) | refine W.cond rfl (fun hc14 => ?_) (fun hc14 => ?_)
          · skip
            refine W.skip ?_
            refine E.to ?_
            refine W.seq ?_
            refine W.block ?_
            refine W.seq ?_
            refine W.region ?_
            refine SL.val (O.move rfl rfl Taken.no) ?_
            refine SL.val (O.assign rfl rfl Taken.no) ?_
            refine SL.nil ?_
            refine E.to ?_
            refine W.seq ?_
            refine W.draw [⟨[], [], []⟩, ⟨[], [], []⟩, ⟨[], [], []⟩, ⟨[], [], []⟩, ⟨[], [], []⟩, ⟨[], [], []⟩, ⟨[], [], []⟩, ⟨[], [], []⟩, ⟨[106], [106], [106]⟩, ⟨[107], [107], [107]⟩, ⟨[106], [106], []⟩, ⟨[107], [107], []⟩] rfl (by kernel_rfl) (by kernel_rfl) rfl rfl ?_
            refine WH.val (O.move rfl rfl Taken.no) rfl rfl ?_
            refine WH.val (O.move rfl rfl Taken.no) rfl rfl ?_
            obtain ⟨hb1, hb2⟩ := hbg (by omega)
            have hcv : ((canL q (nextI q))[k]!).ov ≤ 3 ∧ 0 ≤ ((canL q (nextI q))[k]!).ov := by have := (canL_valid hv hn).1 k (by omega); have := this.1; unfold goodH at this; omega
            refine WH.val (O.idx_fz rfl rfl (rfl) (row_get (by omega)) Try.underlying30 hi26 hs26 rfl Taken.no) rfl rfl ?_
            refine WH.val (O.ldU (m := 5) (PtU.fz rfl) rfl Try.underlying26 rfl (by kernel_rfl) rfl Taken.no) rfl rfl ?_
            refine WH.val (O.move rfl rfl Taken.no) rfl rfl ?_
            refine WH.val (O.move rfl rfl Taken.no) rfl rfl ?_
            refine WH.val (O.idx_fz rfl rfl (rfl) (row_get (by omega)) Try.underlying30 hi26 hs26 rfl Taken.no) rfl rfl ?_
            refine WH.val (O.ldU (m := 5) (PtU.fz rfl) rfl Try.underlying26 rfl (by kernel_rfl) rfl Taken.no) rfl rfl ?_
            refine WH.memS (O.alloc (z := .agg #[.int .i64 0, .int .i64 0, .int .i64 0, .int .i64 0, .int .i64 0]) (is := [.u (.sc (.int .i64 0)), .u (.sc (.int .i64 0)), .u (.sc (.int .i64 0)), .u (.sc (.int .i64 0)), .u (.sc (.int .i64 0))]) 106 (by kernel_rfl) rfl rfl rfl Taken.no) rfl rfl rfl rfl rfl (S' := (106, _) :: _) rfl ?_
            refine WH.memS (O.alloc (z := .agg #[.int .i64 0, .int .i64 0, .int .i64 0, .int .i64 0, .int .i64 0]) (is := [.u (.sc (.int .i64 0)), .u (.sc (.int .i64 0)), .u (.sc (.int .i64 0)), .u (.sc (.int .i64 0)), .u (.sc (.int .i64 0))]) 107 (by kernel_rfl) rfl rfl rfl Taken.no) rfl rfl rfl rfl rfl (S' := (107, _) :: _) rfl ?_
            refine WH.effS (O.st_ref (m := 5) rfl rfl rfl (js := [_, _, _, _, _]) rfl rfl (by kernel_rfl) (by simp) (Nat.le_of_ble_eq_true rfl) rfl (is' := [_, _, _, _, _]) rfl Taken.no) rfl rfl rfl (S' := (106, _) :: _) rfl ?_
            refine WH.effS (O.st_ref (m := 5) rfl rfl rfl (js := [_, _, _, _, _]) rfl rfl (by kernel_rfl) (by simp) (Nat.le_of_ble_eq_true rfl) rfl (is' := [_, _, _, _, _]) rfl Taken.no) rfl rfl rfl (S' := (107, _) :: _) rfl ?_
            refine WH.nil ?_
            refine E.to ?_
            refine W.seq ?_
            refine W.seq ?_
            refine W.region ?_
            refine SL.val (O.fld_ref (o' := 4) rfl Try.underlying26 rfl (m := 0) (by kernel_rfl) rfl rfl Taken.no) ?_
            refine SL.val (O.ld1 (PtI.ref rfl rfl) rfl Try.underlying3 rfl rfl Taken.no) ?_
            refine SL.val (O.fld_ref (o' := 4) rfl Try.underlying26 rfl (m := 0) (by kernel_rfl) rfl rfl Taken.no) ?_
            refine SL.val (O.ld1 (PtI.ref rfl rfl) rfl Try.underlying3 rfl rfl Taken.no) ?_
            refine SL.val (O.det (fun _ => G.R.mv (G.R.lss rfl rfl) (congrArg Value.bool (decide_eq_false (by omega)))) rfl Taken.no) ?_
            refine SL.val (O.move rfl rfl Taken.no) ?_
            have hg15 : false = false := by decide
            refine SL.val (O.fld_ref (o' := 4) rfl Try.underlying26 rfl (m := 0) (by kernel_rfl) rfl rfl (Taken.yes rfl rfl hg15)) ?_
            refine SL.val (O.ld1 (PtI.ref rfl rfl) rfl Try.underlying3 rfl rfl (Taken.yes rfl rfl hg15)) ?_
            refine SL.val (O.fld_ref (o' := 4) rfl Try.underlying26 rfl (m := 0) (by kernel_rfl) rfl rfl (Taken.yes rfl rfl hg15)) ?_
            refine SL.val (O.ld1 (PtI.ref rfl rfl) rfl Try.underlying3 rfl rfl (Taken.yes rfl rfl hg15)) ?_
            refine SL.val (O.det (fun _ => by first | exact G.R.add64 rfl rfl (by omega) | exact G.R.add rfl rfl) rfl (Taken.yes rfl rfl hg15)) ?_
            refine SL.val (O.det (fun _ => G.R.mv (G.R.gtr rfl rfl) (congrArg Value.bool (decide_eq_false (by omega)))) rfl (Taken.yes rfl rfl hg15)) ?_
            refine SL.val (O.pick_f rfl rfl rfl rfl Taken.no) ?_
            refine SL.nil ?_
            refine E.to ?_
            refine W.pick (.cons (t := 10) rfl (.cons (t := 12) rfl (.cons (t := 14) rfl (.cons (t := 15) rfl (.cons (t := 16) rfl (.cons (t := 87) rfl (.cons (t := 88) rfl (.cons (t := 89) rfl (.cons (t := 90) rfl (.cons (t := 91) rfl (.cons (t := 92) rfl (.cons (t := 93) rfl (.cons (t := 94) rfl (.cons (t := 95) rfl (.cons (t := 96) rfl (.cons (t := 97) rfl (.cons (t := 98) rfl (.cons (t := 99) rfl (.cons (t := 100) rfl (.cons (t := 101) rfl (.cons (t := 102) rfl (.cons (t := 103) rfl (.cons (t := 104) rfl (.cons (t := 105) rfl (.cons (t := 106) rfl (.cons (t := 107) rfl (.cons (t := 108) rfl (.cons (t := 109) rfl (.cons (t := 110) rfl (.cons (t := 111) rfl .nil)))))))))))))))))))))))))))))) (.cons (t := 101) rfl (.cons (t := 105) rfl (.cons (t := 106) rfl (.cons (t := 107) rfl .nil)))) ?_
            refine W.cond_f rfl ?_
            refine W.skip ?_
            refine E.to ?_
            refine W.pick (.cons (t := 10) rfl (.cons (t := 12) rfl (.cons (t := 14) rfl (.cons (t := 15) rfl (.cons (t := 16) rfl (.cons (t := 87) rfl (.cons (t := 88) rfl (.cons (t := 89) rfl (.cons (t := 90) rfl (.cons (t := 91) rfl (.cons (t := 92) rfl (.cons (t := 93) rfl (.cons (t := 94) rfl (.cons (t := 95) rfl (.cons (t := 96) rfl (.cons (t := 97) rfl (.cons (t := 98) rfl (.cons (t := 99) rfl (.cons (t := 100) rfl (.cons (t := 101) rfl (.cons (t := 102) rfl (.cons (t := 103) rfl (.cons (t := 104) rfl (.cons (t := 105) rfl (.cons (t := 106) rfl (.cons (t := 107) rfl (.cons (t := 108) rfl (.cons (t := 109) rfl (.cons (t := 110) rfl (.cons (t := 111) rfl .nil)))))))))))))))))))))))))))))) (.cons (t := 101) rfl (.cons (t := 105) rfl (.cons (t := 106) rfl (.cons (t := 107) rfl .nil)))) ?_
            refine W.seq ?_
            refine W.region ?_
            refine SL.val (O.fld_ref (o' := 4) rfl Try.underlying26 rfl (m := 0) (by kernel_rfl) rfl rfl Taken.no) ?_
            refine SL.val (O.ld1 (PtI.ref rfl rfl) rfl Try.underlying3 rfl rfl Taken.no) ?_
            refine SL.val (O.fld_ref (o' := 4) rfl Try.underlying26 rfl (m := 0) (by kernel_rfl) rfl rfl Taken.no) ?_
            refine SL.effS (O.st_ref (m := 1) rfl rfl rfl (js := [_]) rfl rfl (by kernel_rfl) (by simp) (Nat.le_of_ble_eq_true rfl) rfl (is' := [_, _, _, _, _]) rfl Taken.no) (S' := (106, _) :: _) rfl ?_
            refine SL.nil ?_
            refine E.to ?_
            refine W.pick (.cons (t := 10) rfl (.cons (t := 12) rfl (.cons (t := 14) rfl (.cons (t := 15) rfl (.cons (t := 16) rfl (.cons (t := 87) rfl (.cons (t := 88) rfl (.cons (t := 89) rfl (.cons (t := 90) rfl (.cons (t := 91) rfl (.cons (t := 92) rfl (.cons (t := 93) rfl (.cons (t := 94) rfl (.cons (t := 95) rfl (.cons (t := 96) rfl (.cons (t := 97) rfl (.cons (t := 98) rfl (.cons (t := 99) rfl (.cons (t := 100) rfl (.cons (t := 101) rfl (.cons (t := 102) rfl (.cons (t := 103) rfl (.cons (t := 104) rfl (.cons (t := 105) rfl (.cons (t := 106) rfl (.cons (t := 107) rfl (.cons (t := 108) rfl (.cons (t := 109) rfl (.cons (t := 110) rfl (.cons (t := 111) rfl (.cons (t := 112) rfl (.cons (t := 113) rfl (.cons (t := 114) rfl .nil))))))))))))))))))))))))))))))))) (.cons (t := 101) rfl (.cons (t := 105) rfl (.cons (t := 106) rfl (.cons (t := 107) rfl .nil)))) ?_
            refine W.seq ?_
            refine W.region ?_
            refine SL.val (O.ldN (m := 5) (PtI.ref rfl rfl) (js := [_, _, _, _, _]) rfl (Nat.le_of_ble_eq_true rfl) Try.underlying26 rfl (by kernel_rfl) rfl Taken.no) ?_
            refine SL.val (O.ldN (m := 5) (PtI.ref rfl rfl) (js := [_, _, _, _, _]) rfl (Nat.le_of_ble_eq_true rfl) Try.underlying26 rfl (by kernel_rfl) rfl Taken.no) ?_
            refine SL.val (O.neAgg (ls := (hV ({ (srvL q (nextI q))[k]! with ov := (canL q (nextI q))[k]!.ov } : Hd))) (ms := (hV (canL q (nextI q))[k]!)) (r := false) (.inr rfl) (.inr rfl) (by kernel_rfl) (by kernel_rfl) (by kernel_rfl) (by kernel_rfl) (by rw [eqH, hb2]; simp) rfl Taken.no) ?_
            refine SL.nil ?_
            refine E.to ?_
            refine W.pick (.cons (t := 10) rfl (.cons (t := 12) rfl (.cons (t := 14) rfl (.cons (t := 15) rfl (.cons (t := 16) rfl (.cons (t := 87) rfl (.cons (t := 88) rfl (.cons (t := 89) rfl (.cons (t := 90) rfl (.cons (t := 91) rfl (.cons (t := 92) rfl (.cons (t := 93) rfl (.cons (t := 94) rfl (.cons (t := 95) rfl (.cons (t := 96) rfl (.cons (t := 97) rfl (.cons (t := 98) rfl (.cons (t := 99) rfl (.cons (t := 100) rfl (.cons (t := 101) rfl (.cons (t := 102) rfl (.cons (t := 103) rfl (.cons (t := 104) rfl (.cons (t := 105) rfl (.cons (t := 106) rfl (.cons (t := 107) rfl (.cons (t := 108) rfl (.cons (t := 109) rfl (.cons (t := 110) rfl (.cons (t := 111) rfl (.cons (t := 112) rfl (.cons (t := 113) rfl (.cons (t := 114) rfl (.cons (t := 115) rfl (.cons (t := 116) rfl (.cons (t := 117) rfl .nil)))))))))))))))))))))))))))))))))))) (.cons (t := 101) rfl (.cons (t := 105) rfl (.cons (t := 106) rfl (.cons (t := 107) rfl .nil)))) ?_
            refine W.cond_f rfl ?_
            refine W.skip ?_
            refine E.inn ?_
            refine E.to ?_
            refine W.pick (.cons (t := 10) rfl (.cons (t := 12) rfl (.cons (t := 14) rfl (.cons (t := 15) rfl (.cons (t := 16) rfl (.cons (t := 87) rfl (.cons (t := 88) rfl (.cons (t := 89) rfl (.cons (t := 90) rfl (.cons (t := 91) rfl (.cons (t := 92) rfl (.cons (t := 93) rfl (.cons (t := 94) rfl (.cons (t := 95) rfl (.cons (t := 96) rfl (.cons (t := 97) rfl (.cons (t := 98) rfl (.cons (t := 99) rfl (.cons (t := 100) rfl (.cons (t := 101) rfl (.cons (t := 102) rfl (.cons (t := 103) rfl (.cons (t := 104) rfl (.cons (t := 105) rfl (.cons (t := 106) rfl (.cons (t := 107) rfl (.cons (t := 108) rfl (.cons (t := 109) rfl (.cons (t := 110) rfl (.cons (t := 111) rfl (.cons (t := 112) rfl (.cons (t := 113) rfl (.cons (t := 114) rfl (.cons (t := 115) rfl (.cons (t := 116) rfl (.cons (t := 117) rfl .nil)))))))))))))))))))))))))))))))))))) (.cons (t := 101) rfl (.cons (t := 105) rfl (.cons (t := 106) rfl (.cons (t := 107) rfl .nil)))) ?_
            refine W.region ?_
            refine SL.val (O.det (fun _ => by first | exact G.R.add64 rfl rfl (by omega) | exact G.R.add rfl rfl) rfl Taken.no) ?_
            refine SL.val (O.move rfl rfl Taken.no) ?_
            refine SL.nil ?_
            refine E.again ((k + 1)) (rn []) ?_ ?_ rfl (fixL_spec rfl) ?_ ?_
            · exact (SubF.cons rfl (SubF.cons rfl (SubF.cons rfl (SubF.cons rfl SubF.nil))))
            · exact (SubS.cons rfl (SubS.cons rfl SubS.nil))
            · try dsimp only
              omega
            · (try dsimp only); omega
          · skip
            refine W.exit ?_
            refine E.th ?_
            refine E.th ?_
            refine E.hit ?_
            refine E.to ?_
            refine W.seq ?_
            refine W.region ?_
            refine SL.val (O.assign rfl rfl Taken.no) ?_
            refine SL.nil ?_
            refine E.to ?_
            refine W.ret ?_
            refine E.fin (rs := [_]) (rn []) (.inl rfl) rfl (.cons (ResOne.tmp rfl) .nil) ?_ ?_ rfl (fixL_spec rfl)
            · skip
              rfl
            · exact SubS.nil
  · skip
    first | have hg2p := G.gA7 hg2 | have hg2p := G.gA8 hg2 | have hg2p := hg2
    refine SL.skip (OpOk.not rfl rfl rfl hg2) ?_
    refine SL.skip (OpOk.not rfl rfl rfl hg2) ?_
    refine SL.skip (OpOk.not rfl rfl rfl hg2) ?_
    refine SL.val (O.pick_t rfl (G.ne_f hg2) rfl rfl Taken.no) ?_
    refine SL.nil ?_
    refine E.to ?_
    refine W.cond_t rfl ?_
    refine W.seq ?_
    refine W.region ?_
    refine SL.val (O.callp rfl rfl rfl (awake_h) .nil hcallOk9 rfl Taken.no) ?_
    refine SL.as (i' := vB true) 29 rfl (by exact iv_bool (rfl)) ?_
    refine SL.val (O.assign rfl rfl Taken.no) ?_
    refine SL.nil ?_
    refine E.to ?_
    refine W.ret ?_
    refine E.thr ?_
    refine E.fin (rs := [_]) (rn []) (.inl rfl) rfl (.cons (ResOne.tmp rfl) .nil) ?_ ?_ rfl (fixL_spec rfl)
    · skip
      rfl
    · exact SubS.nil

end Go.Proofs.Ytlodmhiemndegaa
