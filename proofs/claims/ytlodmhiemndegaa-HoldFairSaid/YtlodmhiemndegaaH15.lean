/-
  The walks.
-/
import Derived.Test.YtlodmhiemndegaaH13
namespace Go.Proofs.Ytlodmhiemndegaa
open Go Go.RowKit Go.H Go.D57

theorem hinf64 : ∃ i, Try.prog.info? 64 = some i ∧ i.zero = some (.agg #[.int .i64 0, .int .i64 0, .int .i64 0, .int .i64 0, .int .i64 0, .int .i64 0]) ∧ i.size = 6 ∧ i.bytes = 48 := G.info_of (by kernel_rfl)
theorem hcallOk30 : G.callOk Try.prog 30 = true := by kernel_rfl

set_option maxHeartbeats 1600000 in
/-- bookplate/bookplatelaw57.HoldFair. -/
theorem holdFair_h {l : List (Hd × Int)} :
    Con Try.prog 7 [vL 6 (l.map eAct)] [] (vB true) [] := by
  obtain ⟨i3, hi3, hz3, hs3, hb3⟩ := hinf3
  obtain ⟨i26, hi26, hz26, hs26, hb26⟩ := hinf26
  obtain ⟨i64, hi64, hz64, hs64, hb64⟩ := hinf64
  obtain ⟨i65, hi65, hz65, hs65, hb65⟩ := hinf65
  refine Con.enterL (n := 144) Try.func7 rfl rfl rfl (fun τ w ok vs hin => ?_)
  have hl0 := hin.len (i := 0) rfl
  try rw [List.length_map] at hl0
  clear hin
  refine W.seq ?_
  refine W.region ?_
  refine SL.val (O.assign rfl rfl Taken.no) ?_
  refine SL.nil ?_
  refine E.to ?_
  refine W.seq ?_
  refine W.seq ?_
  refine W.region ?_
  refine SL.val (O.callp rfl rfl rfl (awake_h) .nil hcallOk9 rfl Taken.no) ?_
  refine SL.as (i' := vB true) 19 rfl (by exact iv_bool (rfl)) ?_
  refine SL.val (O.det (fun _ => G.R.mv (G.R.not rfl) rfl) rfl Taken.no) ?_
  refine SL.val (O.move rfl rfl Taken.no) ?_
  have hg1 : false = false := by decide
  refine SL.val (O.move rfl rfl (Taken.yes rfl rfl hg1)) ?_
  refine SL.val (O.lenE (SlOf.fz rfl (by decide)) (by first | exact List.length_map _ | rfl) Try.underlying61 rfl (Taken.yes rfl rfl hg1)) ?_
  refine SL.val (O.det (fun _ => G.R.gtr rfl rfl) rfl (Taken.yes rfl rfl hg1)) ?_
  refine SL.val (O.pick_f rfl rfl rfl rfl Taken.no) ?_
  refine SL.nil ?_
  refine E.to ?_
  first | refine W.cond_d rfl (fun hc2 => ?_) (fun hc2 => ?_) | refine W.cond_nd rfl (fun hc2 => ?_) (fun hc2 => ?_) | refine W.cond rfl (fun hc2 => ?_) (fun hc2 => ?_)
  · skip
    refine W.seq ?_
    refine W.region ?_
    refine SL.val (O.callp rfl rfl rfl (awake_h) .nil hcallOk9 rfl Taken.no) ?_
    refine SL.as (i' := vB true) 26 rfl (by exact iv_bool (rfl)) ?_
    refine SL.val (O.assign rfl rfl Taken.no) ?_
    refine SL.nil ?_
    refine E.to ?_
    refine W.ret ?_
    refine E.thr ?_
    refine E.fin (rs := [_]) (rn []) (.inl rfl) rfl (.cons (ResOne.tmp rfl) .nil) ?_ ?_ rfl (fixL_spec rfl)
    · skip
      rfl
    · exact SubS.nil
  · skip
    have hl40 : l.length ≤ 40 := by omega
    refine W.skip ?_
    refine E.to ?_
    refine W.seq ?_
    refine W.region ?_
    refine SL.val (O.assign rfl rfl Taken.no) ?_
    refine SL.nil ?_
    refine E.to ?_
    refine W.seq ?_
    refine W.region ?_
    refine SL.val (O.assign rfl rfl Taken.no) ?_
    refine SL.nil ?_
    refine E.to ?_
    refine W.seq ?_
    refine W.seq ?_
    refine W.region ?_
    refine SL.val (O.move rfl rfl Taken.no) ?_
    refine SL.val (O.lenE (SlOf.fz rfl (by decide)) (by first | exact List.length_map _ | rfl) Try.underlying61 rfl Taken.no) ?_
    refine SL.val (O.move rfl rfl Taken.no) ?_
    refine SL.nil ?_
    refine E.to ?_
    refine W.block ?_
    refine W.nilsl 3 5 rfl ?_
    refine W.adopt 4 102 65 2 (by decide) rfl rfl rfl ?_
    refine W.loopx3 (fun (k : Nat) (q : List Hd) (o : List (Int × Int)) => [(3, vL 5 (q.map eH)), (4, .own 101), (29, vI (k : Int))]) (fun (k : Nat) (q : List Hd) (o : List (Int × Int)) => [(101, .data 65 2 (o.map eP))]) (fun (k : Nat) (q : List Hd) (o : List (Int × Int)) => k ≤ l.length ∧ validQ q ∧ o.length ≤ k ∧ agree q o) (fun (k : Nat) (q : List Hd) (o : List (Int × Int)) => l.length - k) (0) ([]) ([]) (rn [(101, 102)]) (.cons (t := 27) rfl (.cons (t := 28) rfl .nil)) .nil rfl ?_ ?_ rfl rfl ?_ ?_
    · exact (SubF.cons rfl (SubF.cons rfl (SubF.cons rfl SubF.nil)))
    · exact (SubS.cons rfl SubS.nil)
    · skip
      exact ⟨by omega, by decide, Nat.le_refl 0, fun e he => by cases he⟩
    intro k q o hinv
    obtain ⟨hk, hv, hol, hag⟩ := hinv
    have h60 := hv.2
    refine W.seq ?_
    refine W.region ?_
    refine SL.val (O.det (fun _ => G.R.lss rfl rfl) rfl Taken.no) ?_
    refine SL.nil ?_
    refine E.to ?_
    refine W.seq ?_
    first | refine W.cond_d rfl (fun hc3 => ?_) (fun hc3 => ?_) | refine W.cond_nd rfl (fun hc3 => ?_) (fun hc3 => ?_) | refine W.cond rfl (fun hc3 => ?_) (fun hc3 => ?_)
    · skip
      refine W.skip ?_
      refine E.to ?_
      refine W.seq ?_
      refine W.block ?_
      refine W.seq ?_
      refine W.region ?_
      refine SL.val (O.idx_fz rfl rfl (rfl) (row_get (by omega)) Try.underlying61 hi64 hs64 rfl Taken.no) ?_
      refine SL.val (O.ldU (m := 6) (PtU.fz rfl) rfl Try.underlying64 rfl (by kernel_rfl) rfl Taken.no) ?_
      refine SL.memS (O.alloc (z := .agg #[.int .i64 0, .int .i64 0, .int .i64 0, .int .i64 0, .int .i64 0, .int .i64 0]) (is := [.u (.sc (.int .i64 0)), .u (.sc (.int .i64 0)), .u (.sc (.int .i64 0)), .u (.sc (.int .i64 0)), .u (.sc (.int .i64 0)), .u (.sc (.int .i64 0))]) 103 (by kernel_rfl) rfl rfl rfl Taken.no) rfl rfl (S' := (103, _) :: _) rfl ?_
      refine SL.effS (O.st_ref (m := 6) rfl rfl rfl (js := [_, _, _, _, _, _]) rfl rfl (by kernel_rfl) (by simp) (Nat.le_of_ble_eq_true rfl) rfl (is' := [_, _, _, _, _, _]) rfl Taken.no) (S' := (103, _) :: _) rfl ?_
      refine SL.nil ?_
      refine E.to ?_
      refine W.seq ?_
      refine W.block ?_
      refine W.seq ?_
      refine W.region ?_
      refine SL.val (O.fld_ref (o' := 0) rfl Try.underlying64 rfl (m := 4) (by kernel_rfl) rfl rfl Taken.no) ?_
      refine SL.val (O.ldN (m := 5) (PtI.ref rfl rfl) (js := [_, _, _, _, _]) rfl (Nat.le_of_ble_eq_true rfl) Try.underlying32 rfl (by kernel_rfl) rfl Taken.no) ?_
      refine SL.val (O.build (res := [_, _, _, _, _]) (z := .agg #[.int .i64 0, .int .i64 0, .int .i64 0, .int .i64 0, .int .i64 0]) (places := [(0, 1), (1, 1), (2, 1), (3, 1), (4, 1)]) rfl rfl Try.underlying32 (by kernel_rfl) (fun _ => by kernel_rfl) rfl rfl Taken.no) ?_
      refine SL.val (O.neAgg (ls := (hV l[k]!.1)) (ms := (hV zeroH)) (r := (!decide (l[k]!.1 = zeroH))) (.inr rfl) (.inr rfl) (by kernel_rfl) (by kernel_rfl) (by kernel_rfl) (by kernel_rfl) (by rw [eqH]) rfl Taken.no) ?_
      refine SL.val (O.assign rfl rfl Taken.no) ?_
      refine SL.nil ?_
      refine E.to ?_
      first | refine W.cond_d rfl (fun hc4 => ?_) (fun hc4 => ?_) | refine W.cond_nd rfl (fun hc4 => ?_) (fun hc4 => ?_) | refine W.cond rfl (fun hc4 => ?_) (fun hc4 => ?_)
      · skip
        refine W.seq ?_
        refine W.region ?_
        refine SL.val (O.move rfl rfl Taken.no) ?_
        refine SL.val (O.fld_ref (o' := 0) rfl Try.underlying64 rfl (m := 4) (by kernel_rfl) rfl rfl Taken.no) ?_
        refine SL.val (O.ldN (m := 5) (PtI.ref rfl rfl) (js := [_, _, _, _, _]) rfl (Nat.le_of_ble_eq_true rfl) Try.underlying32 rfl (by kernel_rfl) rfl Taken.no) ?_
        refine SL.memS (O.call (rn []) [] rfl rfl rfl (holdPut_h (q := q) (h := l[k]!.1)) (.cons (ArgOk.same rfl) (.cons (ArgOk.aggU (.cons (ArgOk.same rfl) (.cons (ArgOk.same rfl) (.cons (ArgOk.same rfl) (.cons (ArgOk.same rfl) (.cons (ArgOk.same rfl) .nil)))))) .nil)) SubS.nil rfl rfl rfl rfl rfl (.inl rfl) hcallOk26 (r' := .tup [.u _, .u _]) rfl rfl Taken.no) rfl rfl (S' := _) rfl ?_
        refine SL.val (O.move rfl rfl Taken.no) ?_
        refine SL.val (O.extract rfl rfl rfl Taken.no) ?_
        refine SL.val (O.extract rfl rfl rfl Taken.no) ?_
        refine SL.val (O.assign rfl rfl Taken.no) ?_
        refine SL.val (O.assign rfl rfl Taken.no) ?_
        refine SL.nil ?_
        refine E.to ?_
        refine W.seq ?_
        refine W.region ?_
        refine SL.val (O.move rfl rfl Taken.no) ?_
        refine SL.val (O.det (fun _ => G.R.eql rfl rfl) rfl Taken.no) ?_
        refine SL.nil ?_
        refine E.to ?_
        refine W.pick (.cons (t := 3) rfl (.cons (t := 4) rfl (.cons (t := 6) rfl (.cons (t := 7) rfl (.cons (t := 8) rfl (.cons (t := 27) rfl (.cons (t := 28) rfl (.cons (t := 29) rfl (.cons (t := 30) rfl (.cons (t := 31) rfl (.cons (t := 32) rfl (.cons (t := 33) rfl (.cons (t := 34) rfl (.cons (t := 35) rfl (.cons (t := 36) rfl (.cons (t := 37) rfl (.cons (t := 38) rfl (.cons (t := 39) rfl (.cons (t := 40) rfl (.cons (t := 41) rfl (.cons (t := 42) rfl (.cons (t := 43) rfl (.cons (t := 44) rfl (.cons (t := 45) rfl (.cons (t := 46) rfl .nil))))))))))))))))))))))))) (.cons (t := 101) rfl (.cons (t := 103) rfl .nil)) ?_
        first | refine W.cond_d rfl (fun hc5 => ?_) (fun hc5 => ?_) | refine W.cond_nd rfl (fun hc5 => ?_) (fun hc5 => ?_) | refine W.cond rfl (fun hc5 => ?_) (fun hc5 => ?_)
        · skip
          have he : putE q l[k]!.1 = 0 := by assumption
          have hag2 := agree_put he hag
          have hv2 := put_valid he
          have hpq := (put_ok he).2.2.2.2
          have hl2 : (o ++ [((l[k]!.1).id, (0 : Int))]).length = o.length + 1 := by simp
          rw [hpq]
          refine W.seq ?_
          refine W.region ?_
          refine SL.val (O.move rfl rfl Taken.no) ?_
          refine SL.val (O.assign rfl rfl Taken.no) ?_
          refine SL.nil ?_
          refine E.to ?_
          refine W.pick (.cons (t := 3) rfl (.cons (t := 4) rfl (.cons (t := 6) rfl (.cons (t := 7) rfl (.cons (t := 8) rfl (.cons (t := 27) rfl (.cons (t := 28) rfl (.cons (t := 29) rfl (.cons (t := 30) rfl (.cons (t := 31) rfl (.cons (t := 32) rfl (.cons (t := 33) rfl (.cons (t := 34) rfl (.cons (t := 35) rfl (.cons (t := 36) rfl (.cons (t := 37) rfl (.cons (t := 38) rfl (.cons (t := 39) rfl (.cons (t := 40) rfl (.cons (t := 41) rfl (.cons (t := 42) rfl (.cons (t := 43) rfl (.cons (t := 44) rfl (.cons (t := 45) rfl (.cons (t := 46) rfl (.cons (t := 47) rfl .nil)))))))))))))))))))))))))) (.cons (t := 101) rfl (.cons (t := 103) rfl .nil)) ?_
          refine W.region ?_
          refine SL.val (O.move rfl rfl Taken.no) ?_
          refine SL.val (O.fld_ref (o' := 0) rfl Try.underlying64 rfl (m := 4) (by kernel_rfl) rfl rfl Taken.no) ?_
          refine SL.val (O.fld_ref (o' := 0) rfl Try.underlying32 rfl (m := 0) (by kernel_rfl) rfl rfl Taken.no) ?_
          refine SL.val (O.ld1 (PtI.ref rfl rfl) rfl Try.underlying3 rfl rfl Taken.no) ?_
          refine SL.val (O.buildA (m := 1) (res := [_, _]) (z := .agg #[.int .i64 0, .int .i64 0]) rfl rfl Try.underlying65 (by kernel_rfl) hi3 hs3 rfl rfl Taken.no) ?_
          refine SL.memS (O.buildSlice 104 rfl rfl Try.underlying62 hi65 hz65 hs65 (by decide) rfl (by decide) rfl rfl rfl Taken.no) rfl rfl (S' := (104, _) :: _) rfl ?_
          refine SL.memS (O.app (k' := 105) rfl rfl (SlOf.own rfl rfl) Try.underlying62 hi65 hz65 hs65 rfl rfl (by exact map_snoc (x := ((l[k]!.1).id, (0 : Int))) rfl) (by rw [hb65]; first | omega | (simp only [List.length_map]; omega) | (simp <;> omega)) (by first | omega | (simp only [List.length_map]; omega) | (simp <;> omega)) rfl Taken.no) rfl rfl (S' := (105, _) :: (101, .dead) :: _) rfl ?_
          refine SL.val (O.assign rfl rfl Taken.no) ?_
          refine SL.nil ?_
          refine E.inn ?_
          refine E.to ?_
          refine W.pick (.cons (t := 3) rfl (.cons (t := 4) rfl (.cons (t := 6) rfl (.cons (t := 7) rfl (.cons (t := 8) rfl (.cons (t := 27) rfl (.cons (t := 28) rfl (.cons (t := 29) rfl (.cons (t := 30) rfl (.cons (t := 31) rfl (.cons (t := 32) rfl (.cons (t := 33) rfl (.cons (t := 34) rfl (.cons (t := 35) rfl (.cons (t := 36) rfl (.cons (t := 37) rfl (.cons (t := 38) rfl (.cons (t := 39) rfl (.cons (t := 40) rfl (.cons (t := 41) rfl (.cons (t := 42) rfl (.cons (t := 43) rfl (.cons (t := 44) rfl (.cons (t := 45) rfl (.cons (t := 46) rfl (.cons (t := 47) rfl (.cons (t := 48) rfl (.cons (t := 49) rfl (.cons (t := 50) rfl (.cons (t := 51) rfl (.cons (t := 52) rfl (.cons (t := 53) rfl (.cons (t := 54) rfl .nil))))))))))))))))))))))))))))))))) (.cons (t := 103) rfl (.cons (t := 104) rfl (.cons (t := 105) rfl .nil))) ?_
          refine W.seq ?_
          refine W.region ?_
          refine SL.val (O.move rfl rfl Taken.no) ?_
          refine SL.val (O.lenE (SlOf.own rfl rfl) (by first | exact List.length_map _ | rfl) Try.underlying62 rfl Taken.no) ?_
          refine SL.val (O.move rfl rfl Taken.no) ?_
          refine SL.nil ?_
          refine E.to ?_
          refine W.pick (.cons (t := 3) rfl (.cons (t := 4) rfl (.cons (t := 6) rfl (.cons (t := 7) rfl (.cons (t := 8) rfl (.cons (t := 27) rfl (.cons (t := 28) rfl (.cons (t := 29) rfl (.cons (t := 30) rfl (.cons (t := 31) rfl (.cons (t := 32) rfl (.cons (t := 33) rfl (.cons (t := 34) rfl (.cons (t := 35) rfl (.cons (t := 36) rfl (.cons (t := 37) rfl (.cons (t := 38) rfl (.cons (t := 39) rfl (.cons (t := 40) rfl (.cons (t := 41) rfl (.cons (t := 42) rfl (.cons (t := 43) rfl (.cons (t := 44) rfl (.cons (t := 45) rfl (.cons (t := 46) rfl (.cons (t := 47) rfl (.cons (t := 48) rfl (.cons (t := 49) rfl (.cons (t := 50) rfl (.cons (t := 51) rfl (.cons (t := 52) rfl (.cons (t := 53) rfl (.cons (t := 54) rfl (.cons (t := 131) rfl (.cons (t := 132) rfl (.cons (t := 133) rfl .nil)))))))))))))))))))))))))))))))))))) (.cons (t := 103) rfl (.cons (t := 104) rfl (.cons (t := 105) rfl .nil))) ?_
          refine W.block ?_
          refine W.loopx1 (fun (i : Nat) => [(133, vI (i : Int))]) (fun (i : Nat) => []) (fun (i : Nat) => i ≤ ((o ++ [((l[k]!.1).id, (0 : Int))])).length) (fun (i : Nat) => ((o ++ [((l[k]!.1).id, (0 : Int))])).length - i) (0) (rn []) (.cons (t := 3) rfl (.cons (t := 4) rfl (.cons (t := 6) rfl (.cons (t := 7) rfl (.cons (t := 8) rfl (.cons (t := 27) rfl (.cons (t := 28) rfl (.cons (t := 29) rfl (.cons (t := 30) rfl (.cons (t := 31) rfl (.cons (t := 32) rfl (.cons (t := 33) rfl (.cons (t := 34) rfl (.cons (t := 35) rfl (.cons (t := 36) rfl (.cons (t := 37) rfl (.cons (t := 38) rfl (.cons (t := 39) rfl (.cons (t := 40) rfl (.cons (t := 41) rfl (.cons (t := 42) rfl (.cons (t := 43) rfl (.cons (t := 44) rfl (.cons (t := 45) rfl (.cons (t := 46) rfl (.cons (t := 47) rfl (.cons (t := 48) rfl (.cons (t := 49) rfl (.cons (t := 50) rfl (.cons (t := 51) rfl (.cons (t := 52) rfl (.cons (t := 53) rfl (.cons (t := 54) rfl (.cons (t := 131) rfl (.cons (t := 132) rfl .nil))))))))))))))))))))))))))))))))))) (.cons (t := 103) rfl (.cons (t := 104) rfl (.cons (t := 105) rfl .nil))) rfl ?_ ?_ rfl rfl ?_ ?_
          · exact (SubF.cons rfl SubF.nil)
          · exact SubS.nil
          · skip
            omega
          intro i hinv
          have hi := hinv
          refine W.seq ?_
          refine W.region ?_
          refine SL.val (O.det (fun _ => G.R.lss rfl rfl) rfl Taken.no) ?_
          refine SL.nil ?_
          refine E.to ?_
          refine W.pick (.cons (t := 3) rfl (.cons (t := 4) rfl (.cons (t := 6) rfl (.cons (t := 7) rfl (.cons (t := 8) rfl (.cons (t := 27) rfl (.cons (t := 28) rfl (.cons (t := 29) rfl (.cons (t := 30) rfl (.cons (t := 31) rfl (.cons (t := 32) rfl (.cons (t := 33) rfl (.cons (t := 34) rfl (.cons (t := 35) rfl (.cons (t := 36) rfl (.cons (t := 37) rfl (.cons (t := 38) rfl (.cons (t := 39) rfl (.cons (t := 40) rfl (.cons (t := 41) rfl (.cons (t := 42) rfl (.cons (t := 43) rfl (.cons (t := 44) rfl (.cons (t := 45) rfl (.cons (t := 46) rfl (.cons (t := 47) rfl (.cons (t := 48) rfl (.cons (t := 49) rfl (.cons (t := 50) rfl (.cons (t := 51) rfl (.cons (t := 52) rfl (.cons (t := 53) rfl (.cons (t := 54) rfl (.cons (t := 131) rfl (.cons (t := 132) rfl (.cons (t := 133) rfl (.cons (t := 134) rfl .nil))))))))))))))))))))))))))))))))))))) (.cons (t := 103) rfl (.cons (t := 104) rfl (.cons (t := 105) rfl .nil))) ?_
          refine W.seq ?_
          first | refine W.cond_d rfl (fun hc6 => ?_) (fun hc6 => ?_) | refine W.cond_nd rfl (fun hc6 => ?_) (fun hc6 => ?_) | refine W.cond rfl (fun hc6 => ?_) (fun hc6 => ?_)
          · skip
            refine W.skip ?_
            refine E.to ?_
            refine W.pick (.cons (t := 3) rfl (.cons (t := 4) rfl (.cons (t := 6) rfl (.cons (t := 7) rfl (.cons (t := 8) rfl (.cons (t := 27) rfl (.cons (t := 28) rfl (.cons (t := 29) rfl (.cons (t := 30) rfl (.cons (t := 31) rfl (.cons (t := 32) rfl (.cons (t := 33) rfl (.cons (t := 34) rfl (.cons (t := 35) rfl (.cons (t := 36) rfl (.cons (t := 37) rfl (.cons (t := 38) rfl (.cons (t := 39) rfl (.cons (t := 40) rfl (.cons (t := 41) rfl (.cons (t := 42) rfl (.cons (t := 43) rfl (.cons (t := 44) rfl (.cons (t := 45) rfl (.cons (t := 46) rfl (.cons (t := 47) rfl (.cons (t := 48) rfl (.cons (t := 49) rfl (.cons (t := 50) rfl (.cons (t := 51) rfl (.cons (t := 52) rfl (.cons (t := 53) rfl (.cons (t := 54) rfl (.cons (t := 131) rfl (.cons (t := 132) rfl (.cons (t := 133) rfl (.cons (t := 134) rfl .nil))))))))))))))))))))))))))))))))))))) (.cons (t := 103) rfl (.cons (t := 104) rfl (.cons (t := 105) rfl .nil))) ?_
            refine W.seq ?_
            refine W.block ?_
            refine W.seq ?_
            refine W.region ?_
            refine SL.val (O.idx_own rfl rfl rfl (rfl) (by rw [List.length_map]; omega) Try.underlying62 hi65 hs65 rfl Taken.no) ?_
            refine SL.val (O.ldU (m := 2) (PtU.el rfl rfl (row_get (by omega))) rfl Try.underlying65 rfl (by kernel_rfl) rfl Taken.no) ?_
            refine SL.memS (O.alloc (z := .agg #[.int .i64 0, .int .i64 0]) (is := [.u (.sc (.int .i64 0)), .u (.sc (.int .i64 0))]) 106 (by kernel_rfl) rfl rfl rfl Taken.no) rfl rfl (S' := (106, _) :: _) rfl ?_
            refine SL.effS (O.st_ref (m := 2) rfl rfl rfl (js := [_, _]) rfl rfl (by kernel_rfl) (by simp) (Nat.le_of_ble_eq_true rfl) rfl (is' := [_, _]) rfl Taken.no) (S' := (106, _) :: _) rfl ?_
            refine SL.nil ?_
            refine E.to ?_
            refine W.pick (.cons (t := 3) rfl (.cons (t := 4) rfl (.cons (t := 6) rfl (.cons (t := 7) rfl (.cons (t := 8) rfl (.cons (t := 18) rfl (.cons (t := 27) rfl (.cons (t := 28) rfl (.cons (t := 29) rfl (.cons (t := 30) rfl (.cons (t := 31) rfl (.cons (t := 32) rfl (.cons (t := 33) rfl (.cons (t := 34) rfl (.cons (t := 35) rfl (.cons (t := 36) rfl (.cons (t := 37) rfl (.cons (t := 38) rfl (.cons (t := 39) rfl (.cons (t := 40) rfl (.cons (t := 41) rfl (.cons (t := 42) rfl (.cons (t := 43) rfl (.cons (t := 44) rfl (.cons (t := 45) rfl (.cons (t := 46) rfl (.cons (t := 47) rfl (.cons (t := 48) rfl (.cons (t := 49) rfl (.cons (t := 50) rfl (.cons (t := 51) rfl (.cons (t := 52) rfl (.cons (t := 53) rfl (.cons (t := 54) rfl (.cons (t := 131) rfl (.cons (t := 132) rfl (.cons (t := 133) rfl (.cons (t := 134) rfl (.cons (t := 135) rfl (.cons (t := 136) rfl .nil)))))))))))))))))))))))))))))))))))))))) (.cons (t := 103) rfl (.cons (t := 104) rfl (.cons (t := 105) rfl (.cons (t := 106) rfl .nil)))) ?_
            refine W.seq ?_
            refine W.region ?_
            refine SL.val (O.idx_ref (i := 1) (m := 1) rfl rfl (rfl) (by decide) Try.underlying65 (by kernel_rfl) rfl rfl Taken.no) ?_
            refine SL.val (O.ld1 (PtI.ref rfl rfl) rfl Try.underlying3 rfl rfl Taken.no) ?_
            refine SL.val (O.det (fun _ => G.R.mv (G.R.gtr rfl rfl) (congrArg Value.bool (decide_eq_false (by have := agree_le hv2 hag2 (k := i) (by omega); omega)))) rfl Taken.no) ?_
            refine SL.nil ?_
            refine E.to ?_
            refine W.pick (.cons (t := 3) rfl (.cons (t := 4) rfl (.cons (t := 6) rfl (.cons (t := 7) rfl (.cons (t := 8) rfl (.cons (t := 18) rfl (.cons (t := 27) rfl (.cons (t := 28) rfl (.cons (t := 29) rfl (.cons (t := 30) rfl (.cons (t := 31) rfl (.cons (t := 32) rfl (.cons (t := 33) rfl (.cons (t := 34) rfl (.cons (t := 35) rfl (.cons (t := 36) rfl (.cons (t := 37) rfl (.cons (t := 38) rfl (.cons (t := 39) rfl (.cons (t := 40) rfl (.cons (t := 41) rfl (.cons (t := 42) rfl (.cons (t := 43) rfl (.cons (t := 44) rfl (.cons (t := 45) rfl (.cons (t := 46) rfl (.cons (t := 47) rfl (.cons (t := 48) rfl (.cons (t := 49) rfl (.cons (t := 50) rfl (.cons (t := 51) rfl (.cons (t := 52) rfl (.cons (t := 53) rfl (.cons (t := 54) rfl (.cons (t := 131) rfl (.cons (t := 132) rfl (.cons (t := 133) rfl (.cons (t := 134) rfl (.cons (t := 135) rfl (.cons (t := 136) rfl (.cons (t := 137) rfl (.cons (t := 138) rfl (.cons (t := 139) rfl .nil))))))))))))))))))))))))))))))))))))))))))) (.cons (t := 103) rfl (.cons (t := 104) rfl (.cons (t := 105) rfl (.cons (t := 106) rfl .nil)))) ?_
            refine W.cond_f rfl ?_
            refine W.skip ?_
            refine E.inn ?_
            refine E.to ?_
            refine W.pick (.cons (t := 3) rfl (.cons (t := 4) rfl (.cons (t := 6) rfl (.cons (t := 7) rfl (.cons (t := 8) rfl (.cons (t := 18) rfl (.cons (t := 27) rfl (.cons (t := 28) rfl (.cons (t := 29) rfl (.cons (t := 30) rfl (.cons (t := 31) rfl (.cons (t := 32) rfl (.cons (t := 33) rfl (.cons (t := 34) rfl (.cons (t := 35) rfl (.cons (t := 36) rfl (.cons (t := 37) rfl (.cons (t := 38) rfl (.cons (t := 39) rfl (.cons (t := 40) rfl (.cons (t := 41) rfl (.cons (t := 42) rfl (.cons (t := 43) rfl (.cons (t := 44) rfl (.cons (t := 45) rfl (.cons (t := 46) rfl (.cons (t := 47) rfl (.cons (t := 48) rfl (.cons (t := 49) rfl (.cons (t := 50) rfl (.cons (t := 51) rfl (.cons (t := 52) rfl (.cons (t := 53) rfl (.cons (t := 54) rfl (.cons (t := 131) rfl (.cons (t := 132) rfl (.cons (t := 133) rfl (.cons (t := 134) rfl (.cons (t := 135) rfl (.cons (t := 136) rfl (.cons (t := 137) rfl (.cons (t := 138) rfl (.cons (t := 139) rfl .nil))))))))))))))))))))))))))))))))))))))))))) (.cons (t := 103) rfl (.cons (t := 104) rfl (.cons (t := 105) rfl (.cons (t := 106) rfl .nil)))) ?_
            refine W.region ?_
            refine SL.val (O.det (fun _ => by first | exact G.R.add64 rfl rfl (by omega) | exact G.R.add rfl rfl) rfl Taken.no) ?_
            refine SL.val (O.move rfl rfl Taken.no) ?_
            refine SL.nil ?_
            refine E.again ((i + 1)) (rn []) ?_ ?_ rfl (fixL_spec rfl) ?_ ?_
            · exact (SubF.cons rfl (SubF.cons rfl (SubF.cons rfl (SubF.cons rfl (SubF.cons rfl (SubF.cons rfl (SubF.cons rfl (SubF.cons rfl (SubF.cons rfl (SubF.cons rfl (SubF.cons rfl (SubF.cons rfl (SubF.cons rfl (SubF.cons rfl (SubF.cons rfl (SubF.cons rfl (SubF.cons rfl (SubF.cons rfl (SubF.cons rfl (SubF.cons rfl (SubF.cons rfl (SubF.cons rfl (SubF.cons rfl (SubF.cons rfl (SubF.cons rfl (SubF.cons rfl (SubF.cons rfl (SubF.cons rfl (SubF.cons rfl (SubF.cons rfl (SubF.cons rfl (SubF.cons rfl (SubF.cons rfl (SubF.cons rfl (SubF.cons rfl (SubF.cons rfl SubF.nil))))))))))))))))))))))))))))))))))))
            · exact (SubS.cons rfl (SubS.cons rfl (SubS.cons rfl SubS.nil)))
            · try dsimp only
              omega
            · (try dsimp only); omega
          · skip
            refine W.exit ?_
            refine E.th ?_
            refine E.th ?_
            refine E.hit ?_
            refine E.inn ?_
            refine E.to ?_
            refine W.pick (.cons (t := 3) rfl (.cons (t := 4) rfl (.cons (t := 6) rfl (.cons (t := 7) rfl (.cons (t := 8) rfl (.cons (t := 27) rfl (.cons (t := 28) rfl (.cons (t := 29) rfl (.cons (t := 30) rfl (.cons (t := 31) rfl (.cons (t := 32) rfl (.cons (t := 33) rfl (.cons (t := 34) rfl (.cons (t := 35) rfl (.cons (t := 36) rfl (.cons (t := 37) rfl (.cons (t := 38) rfl (.cons (t := 39) rfl (.cons (t := 40) rfl (.cons (t := 41) rfl (.cons (t := 42) rfl (.cons (t := 43) rfl (.cons (t := 44) rfl (.cons (t := 45) rfl (.cons (t := 46) rfl (.cons (t := 47) rfl (.cons (t := 48) rfl (.cons (t := 49) rfl (.cons (t := 50) rfl (.cons (t := 51) rfl (.cons (t := 52) rfl (.cons (t := 53) rfl (.cons (t := 54) rfl (.cons (t := 131) rfl (.cons (t := 132) rfl (.cons (t := 133) rfl (.cons (t := 134) rfl .nil))))))))))))))))))))))))))))))))))))) (.cons (t := 103) rfl (.cons (t := 104) rfl (.cons (t := 105) rfl .nil))) ?_
            refine W.region ?_
            refine SL.val (O.det (fun _ => by first | exact G.R.add64 rfl rfl (by omega) | exact G.R.add rfl rfl) rfl Taken.no) ?_
            refine SL.val (O.move rfl rfl Taken.no) ?_
            refine SL.nil ?_
            refine E.again ((k + 1), (putL q l[k]!.1), ((o ++ [((l[k]!.1).id, (0 : Int))]))) (rn [(101, 105)]) ?_ ?_ rfl (fixL_spec rfl) ?_ ?_
            · exact (SubF.cons rfl (SubF.cons rfl (SubF.cons rfl (SubF.cons rfl (SubF.cons rfl SubF.nil)))))
            · exact (SubS.cons rfl SubS.nil)
            · try dsimp only
              exact ⟨by omega, by assumption, by omega, by assumption⟩
            · (try dsimp only); omega
        · skip
          have hag2 := hag
          have hv2 := hv
          refine W.skip ?_
          refine E.inn ?_
          refine E.to ?_
          refine W.pick (.cons (t := 3) rfl (.cons (t := 4) rfl (.cons (t := 6) rfl (.cons (t := 7) rfl (.cons (t := 8) rfl (.cons (t := 27) rfl (.cons (t := 28) rfl (.cons (t := 29) rfl (.cons (t := 30) rfl (.cons (t := 31) rfl (.cons (t := 32) rfl (.cons (t := 33) rfl (.cons (t := 34) rfl (.cons (t := 35) rfl (.cons (t := 36) rfl (.cons (t := 37) rfl (.cons (t := 38) rfl (.cons (t := 39) rfl (.cons (t := 40) rfl (.cons (t := 41) rfl (.cons (t := 42) rfl (.cons (t := 43) rfl (.cons (t := 44) rfl (.cons (t := 45) rfl (.cons (t := 46) rfl .nil))))))))))))))))))))))))) (.cons (t := 101) rfl (.cons (t := 103) rfl .nil)) ?_
          refine W.seq ?_
          refine W.region ?_
          refine SL.val (O.move rfl rfl Taken.no) ?_
          refine SL.val (O.lenE (SlOf.own rfl rfl) (by first | exact List.length_map _ | rfl) Try.underlying62 rfl Taken.no) ?_
          refine SL.val (O.move rfl rfl Taken.no) ?_
          refine SL.nil ?_
          refine E.to ?_
          refine W.pick (.cons (t := 3) rfl (.cons (t := 4) rfl (.cons (t := 6) rfl (.cons (t := 7) rfl (.cons (t := 8) rfl (.cons (t := 27) rfl (.cons (t := 28) rfl (.cons (t := 29) rfl (.cons (t := 30) rfl (.cons (t := 31) rfl (.cons (t := 32) rfl (.cons (t := 33) rfl (.cons (t := 34) rfl (.cons (t := 35) rfl (.cons (t := 36) rfl (.cons (t := 37) rfl (.cons (t := 38) rfl (.cons (t := 39) rfl (.cons (t := 40) rfl (.cons (t := 41) rfl (.cons (t := 42) rfl (.cons (t := 43) rfl (.cons (t := 44) rfl (.cons (t := 45) rfl (.cons (t := 46) rfl (.cons (t := 131) rfl (.cons (t := 132) rfl (.cons (t := 133) rfl .nil)))))))))))))))))))))))))))) (.cons (t := 101) rfl (.cons (t := 103) rfl .nil)) ?_
          refine W.block ?_
          refine W.loopx1 (fun (i : Nat) => [(133, vI (i : Int))]) (fun (i : Nat) => []) (fun (i : Nat) => i ≤ (o).length) (fun (i : Nat) => (o).length - i) (0) (rn []) (.cons (t := 3) rfl (.cons (t := 4) rfl (.cons (t := 6) rfl (.cons (t := 7) rfl (.cons (t := 8) rfl (.cons (t := 27) rfl (.cons (t := 28) rfl (.cons (t := 29) rfl (.cons (t := 30) rfl (.cons (t := 31) rfl (.cons (t := 32) rfl (.cons (t := 33) rfl (.cons (t := 34) rfl (.cons (t := 35) rfl (.cons (t := 36) rfl (.cons (t := 37) rfl (.cons (t := 38) rfl (.cons (t := 39) rfl (.cons (t := 40) rfl (.cons (t := 41) rfl (.cons (t := 42) rfl (.cons (t := 43) rfl (.cons (t := 44) rfl (.cons (t := 45) rfl (.cons (t := 46) rfl (.cons (t := 131) rfl (.cons (t := 132) rfl .nil))))))))))))))))))))))))))) (.cons (t := 101) rfl (.cons (t := 103) rfl .nil)) rfl ?_ ?_ rfl rfl ?_ ?_
          · exact (SubF.cons rfl SubF.nil)
          · exact SubS.nil
          · skip
            omega
          intro i hinv
          have hi := hinv
          refine W.seq ?_
          refine W.region ?_
          refine SL.val (O.det (fun _ => G.R.lss rfl rfl) rfl Taken.no) ?_
          refine SL.nil ?_
          refine E.to ?_
          refine W.pick (.cons (t := 3) rfl (.cons (t := 4) rfl (.cons (t := 6) rfl (.cons (t := 7) rfl (.cons (t := 8) rfl (.cons (t := 27) rfl (.cons (t := 28) rfl (.cons (t := 29) rfl (.cons (t := 30) rfl (.cons (t := 31) rfl (.cons (t := 32) rfl (.cons (t := 33) rfl (.cons (t := 34) rfl (.cons (t := 35) rfl (.cons (t := 36) rfl (.cons (t := 37) rfl (.cons (t := 38) rfl (.cons (t := 39) rfl (.cons (t := 40) rfl (.cons (t := 41) rfl (.cons (t := 42) rfl (.cons (t := 43) rfl (.cons (t := 44) rfl (.cons (t := 45) rfl (.cons (t := 46) rfl (.cons (t := 131) rfl (.cons (t := 132) rfl (.cons (t := 133) rfl (.cons (t := 134) rfl .nil))))))))))))))))))))))))))))) (.cons (t := 101) rfl (.cons (t := 103) rfl .nil)) ?_
          refine W.seq ?_
          first | refine W.cond_d rfl (fun hc7 => ?_) (fun hc7 => ?_) | refine W.cond_nd rfl (fun hc7 => ?_) (fun hc7 => ?_) | refine W.cond rfl (fun hc7 => ?_) (fun hc7 => ?_)
          · skip
            refine W.skip ?_
            refine E.to ?_
            refine W.pick (.cons (t := 3) rfl (.cons (t := 4) rfl (.cons (t := 6) rfl (.cons (t := 7) rfl (.cons (t := 8) rfl (.cons (t := 27) rfl (.cons (t := 28) rfl (.cons (t := 29) rfl (.cons (t := 30) rfl (.cons (t := 31) rfl (.cons (t := 32) rfl (.cons (t := 33) rfl (.cons (t := 34) rfl (.cons (t := 35) rfl (.cons (t := 36) rfl (.cons (t := 37) rfl (.cons (t := 38) rfl (.cons (t := 39) rfl (.cons (t := 40) rfl (.cons (t := 41) rfl (.cons (t := 42) rfl (.cons (t := 43) rfl (.cons (t := 44) rfl (.cons (t := 45) rfl (.cons (t := 46) rfl (.cons (t := 131) rfl (.cons (t := 132) rfl (.cons (t := 133) rfl (.cons (t := 134) rfl .nil))))))))))))))))))))))))))))) (.cons (t := 101) rfl (.cons (t := 103) rfl .nil)) ?_
            refine W.seq ?_
            refine W.block ?_
            refine W.seq ?_
            refine W.region ?_
            refine SL.val (O.idx_own rfl rfl rfl (rfl) (by rw [List.length_map]; omega) Try.underlying62 hi65 hs65 rfl Taken.no) ?_
            refine SL.val (O.ldU (m := 2) (PtU.el rfl rfl (row_get (by omega))) rfl Try.underlying65 rfl (by kernel_rfl) rfl Taken.no) ?_
            refine SL.memS (O.alloc (z := .agg #[.int .i64 0, .int .i64 0]) (is := [.u (.sc (.int .i64 0)), .u (.sc (.int .i64 0))]) 107 (by kernel_rfl) rfl rfl rfl Taken.no) rfl rfl (S' := (107, _) :: _) rfl ?_
            refine SL.effS (O.st_ref (m := 2) rfl rfl rfl (js := [_, _]) rfl rfl (by kernel_rfl) (by simp) (Nat.le_of_ble_eq_true rfl) rfl (is' := [_, _]) rfl Taken.no) (S' := (107, _) :: _) rfl ?_
            refine SL.nil ?_
            refine E.to ?_
            refine W.pick (.cons (t := 3) rfl (.cons (t := 4) rfl (.cons (t := 6) rfl (.cons (t := 7) rfl (.cons (t := 8) rfl (.cons (t := 18) rfl (.cons (t := 27) rfl (.cons (t := 28) rfl (.cons (t := 29) rfl (.cons (t := 30) rfl (.cons (t := 31) rfl (.cons (t := 32) rfl (.cons (t := 33) rfl (.cons (t := 34) rfl (.cons (t := 35) rfl (.cons (t := 36) rfl (.cons (t := 37) rfl (.cons (t := 38) rfl (.cons (t := 39) rfl (.cons (t := 40) rfl (.cons (t := 41) rfl (.cons (t := 42) rfl (.cons (t := 43) rfl (.cons (t := 44) rfl (.cons (t := 45) rfl (.cons (t := 46) rfl (.cons (t := 131) rfl (.cons (t := 132) rfl (.cons (t := 133) rfl (.cons (t := 134) rfl (.cons (t := 135) rfl (.cons (t := 136) rfl .nil)))))))))))))))))))))))))))))))) (.cons (t := 101) rfl (.cons (t := 103) rfl (.cons (t := 107) rfl .nil))) ?_
            refine W.seq ?_
            refine W.region ?_
            refine SL.val (O.idx_ref (i := 1) (m := 1) rfl rfl (rfl) (by decide) Try.underlying65 (by kernel_rfl) rfl rfl Taken.no) ?_
            refine SL.val (O.ld1 (PtI.ref rfl rfl) rfl Try.underlying3 rfl rfl Taken.no) ?_
            refine SL.val (O.det (fun _ => G.R.mv (G.R.gtr rfl rfl) (congrArg Value.bool (decide_eq_false (by have := agree_le hv2 hag2 (k := i) (by omega); omega)))) rfl Taken.no) ?_
            refine SL.nil ?_
            refine E.to ?_
            refine W.pick (.cons (t := 3) rfl (.cons (t := 4) rfl (.cons (t := 6) rfl (.cons (t := 7) rfl (.cons (t := 8) rfl (.cons (t := 18) rfl (.cons (t := 27) rfl (.cons (t := 28) rfl (.cons (t := 29) rfl (.cons (t := 30) rfl (.cons (t := 31) rfl (.cons (t := 32) rfl (.cons (t := 33) rfl (.cons (t := 34) rfl (.cons (t := 35) rfl (.cons (t := 36) rfl (.cons (t := 37) rfl (.cons (t := 38) rfl (.cons (t := 39) rfl (.cons (t := 40) rfl (.cons (t := 41) rfl (.cons (t := 42) rfl (.cons (t := 43) rfl (.cons (t := 44) rfl (.cons (t := 45) rfl (.cons (t := 46) rfl (.cons (t := 131) rfl (.cons (t := 132) rfl (.cons (t := 133) rfl (.cons (t := 134) rfl (.cons (t := 135) rfl (.cons (t := 136) rfl (.cons (t := 137) rfl (.cons (t := 138) rfl (.cons (t := 139) rfl .nil))))))))))))))))))))))))))))))))))) (.cons (t := 101) rfl (.cons (t := 103) rfl (.cons (t := 107) rfl .nil))) ?_
            refine W.cond_f rfl ?_
            refine W.skip ?_
            refine E.inn ?_
            refine E.to ?_
            refine W.pick (.cons (t := 3) rfl (.cons (t := 4) rfl (.cons (t := 6) rfl (.cons (t := 7) rfl (.cons (t := 8) rfl (.cons (t := 18) rfl (.cons (t := 27) rfl (.cons (t := 28) rfl (.cons (t := 29) rfl (.cons (t := 30) rfl (.cons (t := 31) rfl (.cons (t := 32) rfl (.cons (t := 33) rfl (.cons (t := 34) rfl (.cons (t := 35) rfl (.cons (t := 36) rfl (.cons (t := 37) rfl (.cons (t := 38) rfl (.cons (t := 39) rfl (.cons (t := 40) rfl (.cons (t := 41) rfl (.cons (t := 42) rfl (.cons (t := 43) rfl (.cons (t := 44) rfl (.cons (t := 45) rfl (.cons (t := 46) rfl (.cons (t := 131) rfl (.cons (t := 132) rfl (.cons (t := 133) rfl (.cons (t := 134) rfl (.cons (t := 135) rfl (.cons (t := 136) rfl (.cons (t := 137) rfl (.cons (t := 138) rfl (.cons (t := 139) rfl .nil))))))))))))))))))))))))))))))))))) (.cons (t := 101) rfl (.cons (t := 103) rfl (.cons (t := 107) rfl .nil))) ?_
            refine W.region ?_
            refine SL.val (O.det (fun _ => by first | exact G.R.add64 rfl rfl (by omega) | exact G.R.add rfl rfl) rfl Taken.no) ?_
            refine SL.val (O.move rfl rfl Taken.no) ?_
            refine SL.nil ?_
            refine E.again ((i + 1)) (rn []) ?_ ?_ rfl (fixL_spec rfl) ?_ ?_
            · exact (SubF.cons rfl (SubF.cons rfl (SubF.cons rfl (SubF.cons rfl (SubF.cons rfl (SubF.cons rfl (SubF.cons rfl (SubF.cons rfl (SubF.cons rfl (SubF.cons rfl (SubF.cons rfl (SubF.cons rfl (SubF.cons rfl (SubF.cons rfl (SubF.cons rfl (SubF.cons rfl (SubF.cons rfl (SubF.cons rfl (SubF.cons rfl (SubF.cons rfl (SubF.cons rfl (SubF.cons rfl (SubF.cons rfl (SubF.cons rfl (SubF.cons rfl (SubF.cons rfl (SubF.cons rfl (SubF.cons rfl SubF.nil))))))))))))))))))))))))))))
            · exact (SubS.cons rfl (SubS.cons rfl SubS.nil))
            · try dsimp only
              omega
            · (try dsimp only); omega
          · skip
            refine W.exit ?_
            refine E.th ?_
            refine E.th ?_
            refine E.hit ?_
            refine E.inn ?_
            refine E.to ?_
            refine W.pick (.cons (t := 3) rfl (.cons (t := 4) rfl (.cons (t := 6) rfl (.cons (t := 7) rfl (.cons (t := 8) rfl (.cons (t := 27) rfl (.cons (t := 28) rfl (.cons (t := 29) rfl (.cons (t := 30) rfl (.cons (t := 31) rfl (.cons (t := 32) rfl (.cons (t := 33) rfl (.cons (t := 34) rfl (.cons (t := 35) rfl (.cons (t := 36) rfl (.cons (t := 37) rfl (.cons (t := 38) rfl (.cons (t := 39) rfl (.cons (t := 40) rfl (.cons (t := 41) rfl (.cons (t := 42) rfl (.cons (t := 43) rfl (.cons (t := 44) rfl (.cons (t := 45) rfl (.cons (t := 46) rfl (.cons (t := 131) rfl (.cons (t := 132) rfl (.cons (t := 133) rfl (.cons (t := 134) rfl .nil))))))))))))))))))))))))))))) (.cons (t := 101) rfl (.cons (t := 103) rfl .nil)) ?_
            refine W.region ?_
            refine SL.val (O.det (fun _ => by first | exact G.R.add64 rfl rfl (by omega) | exact G.R.add rfl rfl) rfl Taken.no) ?_
            refine SL.val (O.move rfl rfl Taken.no) ?_
            refine SL.nil ?_
            refine E.again ((k + 1), (q), (o)) (rn []) ?_ ?_ rfl (fixL_spec rfl) ?_ ?_
            · exact (SubF.cons rfl (SubF.cons rfl (SubF.cons rfl (SubF.cons rfl (SubF.cons rfl SubF.nil)))))
            · exact (SubS.cons rfl SubS.nil)
            · try dsimp only
              exact ⟨by omega, by assumption, by omega, by assumption⟩
            · (try dsimp only); omega
      · skip
        refine W.seq ?_
        refine W.region ?_
        refine SL.val (O.fld_ref (o' := 5) rfl Try.underlying64 rfl (m := 0) (by kernel_rfl) rfl rfl Taken.no) ?_
        refine SL.val (O.ld1 (PtI.ref rfl rfl) rfl Try.underlying3 rfl rfl Taken.no) ?_
        refine SL.val (O.det (fun _ => G.R.neq rfl rfl) rfl Taken.no) ?_
        refine SL.val (O.assign rfl rfl Taken.no) ?_
        refine SL.nil ?_
        refine E.to ?_
        first | refine W.cond_d rfl (fun hc8 => ?_) (fun hc8 => ?_) | refine W.cond_nd rfl (fun hc8 => ?_) (fun hc8 => ?_) | refine W.cond rfl (fun hc8 => ?_) (fun hc8 => ?_)
        · skip
          refine W.seq ?_
          refine W.region ?_
          refine SL.val (O.move rfl rfl Taken.no) ?_
          refine SL.val (O.fld_ref (o' := 5) rfl Try.underlying64 rfl (m := 0) (by kernel_rfl) rfl rfl Taken.no) ?_
          refine SL.val (O.ld1 (PtI.ref rfl rfl) rfl Try.underlying3 rfl rfl Taken.no) ?_
          refine SL.memS (O.call (rn []) [] rfl rfl rfl (holdCancel_h (q := q) l[k]!.2) (.cons (ArgOk.same rfl) (.cons (ArgOk.same rfl) .nil)) SubS.nil rfl rfl rfl rfl rfl (.inl rfl) hcallOk28 (r' := .tup [.u _, .u _]) rfl rfl Taken.no) rfl rfl (S' := _) rfl ?_
          refine SL.val (O.move rfl rfl Taken.no) ?_
          refine SL.val (O.extract rfl rfl rfl Taken.no) ?_
          refine SL.val (O.extract rfl rfl rfl Taken.no) ?_
          refine SL.val (O.assign rfl rfl Taken.no) ?_
          refine SL.val (O.assign rfl rfl Taken.no) ?_
          refine SL.nil ?_
          refine E.to ?_
          refine W.pick (.cons (t := 3) rfl (.cons (t := 4) rfl (.cons (t := 6) rfl (.cons (t := 9) rfl (.cons (t := 10) rfl (.cons (t := 27) rfl (.cons (t := 28) rfl (.cons (t := 29) rfl (.cons (t := 30) rfl (.cons (t := 31) rfl (.cons (t := 32) rfl (.cons (t := 33) rfl (.cons (t := 34) rfl (.cons (t := 35) rfl (.cons (t := 36) rfl (.cons (t := 37) rfl (.cons (t := 55) rfl (.cons (t := 56) rfl (.cons (t := 57) rfl (.cons (t := 58) rfl (.cons (t := 59) rfl (.cons (t := 60) rfl (.cons (t := 61) rfl (.cons (t := 62) rfl (.cons (t := 63) rfl (.cons (t := 64) rfl (.cons (t := 65) rfl .nil))))))))))))))))))))))))))) (.cons (t := 101) rfl (.cons (t := 103) rfl .nil)) ?_
          refine W.seq ?_
          refine W.seq ?_
          refine W.region ?_
          refine SL.val (O.move rfl rfl Taken.no) ?_
          refine SL.val (O.det (fun _ => G.R.neq rfl rfl) rfl Taken.no) ?_
          refine SL.nil ?_
          refine E.to ?_
          refine W.pick (.cons (t := 3) rfl (.cons (t := 4) rfl (.cons (t := 6) rfl (.cons (t := 9) rfl (.cons (t := 10) rfl (.cons (t := 27) rfl (.cons (t := 28) rfl (.cons (t := 29) rfl (.cons (t := 30) rfl (.cons (t := 31) rfl (.cons (t := 32) rfl (.cons (t := 33) rfl (.cons (t := 34) rfl (.cons (t := 35) rfl (.cons (t := 36) rfl (.cons (t := 37) rfl (.cons (t := 55) rfl (.cons (t := 56) rfl (.cons (t := 57) rfl (.cons (t := 58) rfl (.cons (t := 59) rfl (.cons (t := 60) rfl (.cons (t := 61) rfl (.cons (t := 62) rfl (.cons (t := 63) rfl (.cons (t := 64) rfl (.cons (t := 65) rfl (.cons (t := 66) rfl (.cons (t := 67) rfl .nil))))))))))))))))))))))))))))) (.cons (t := 101) rfl (.cons (t := 103) rfl .nil)) ?_
          first | refine W.cond_d rfl (fun hc9 => ?_) (fun hc9 => ?_) | refine W.cond_nd rfl (fun hc9 => ?_) (fun hc9 => ?_) | refine W.cond rfl (fun hc9 => ?_) (fun hc9 => ?_)
          · skip
            refine W.exit ?_
            refine E.th ?_
            refine E.miss rfl ?_
            refine E.th ?_
            refine E.hit ?_
            refine E.to ?_
            refine W.pick (.cons (t := 3) rfl (.cons (t := 4) rfl (.cons (t := 6) rfl (.cons (t := 9) rfl (.cons (t := 10) rfl (.cons (t := 27) rfl (.cons (t := 28) rfl (.cons (t := 29) rfl (.cons (t := 30) rfl (.cons (t := 31) rfl (.cons (t := 32) rfl (.cons (t := 33) rfl (.cons (t := 34) rfl (.cons (t := 35) rfl (.cons (t := 36) rfl (.cons (t := 37) rfl (.cons (t := 55) rfl (.cons (t := 56) rfl (.cons (t := 57) rfl (.cons (t := 58) rfl (.cons (t := 59) rfl (.cons (t := 60) rfl (.cons (t := 61) rfl (.cons (t := 62) rfl (.cons (t := 63) rfl (.cons (t := 64) rfl (.cons (t := 65) rfl (.cons (t := 66) rfl (.cons (t := 67) rfl .nil))))))))))))))))))))))))))))) (.cons (t := 101) rfl (.cons (t := 103) rfl .nil)) ?_
            refine W.region ?_
            refine SL.val (O.det (fun _ => by first | exact G.R.add64 rfl rfl (by omega) | exact G.R.add rfl rfl) rfl Taken.no) ?_
            refine SL.val (O.move rfl rfl Taken.no) ?_
            refine SL.nil ?_
            refine E.again ((k + 1), (q), (o)) (rn []) ?_ ?_ rfl (fixL_spec rfl) ?_ ?_
            · exact (SubF.cons rfl (SubF.cons rfl (SubF.cons rfl (SubF.cons rfl (SubF.cons rfl SubF.nil)))))
            · exact (SubS.cons rfl SubS.nil)
            · try dsimp only
              exact ⟨by omega, by assumption, by omega, by assumption⟩
            · (try dsimp only); omega
          · skip
            have hix : ¬ ixI q l[k]!.2 < 0 := fun e => absurd (can_9 hv e).1 (by omega)
            have hxr := ixI_range q l[k]!.2
            obtain ⟨hc1, hc2⟩ := can_0 hv hix
            have hxn : (ixI q l[k]!.2).toNat < q.length := by omega
            have hag2 := agree_can hxn (ixI_at hv hix) hag
            have hv2 := canL_valid hv hxn
            have hl2 := wo_len l[k]!.2 o
            rw [hc2]
            refine W.skip ?_
            refine E.to ?_
            refine W.pick (.cons (t := 3) rfl (.cons (t := 4) rfl (.cons (t := 6) rfl (.cons (t := 9) rfl (.cons (t := 10) rfl (.cons (t := 27) rfl (.cons (t := 28) rfl (.cons (t := 29) rfl (.cons (t := 30) rfl (.cons (t := 31) rfl (.cons (t := 32) rfl (.cons (t := 33) rfl (.cons (t := 34) rfl (.cons (t := 35) rfl (.cons (t := 36) rfl (.cons (t := 37) rfl (.cons (t := 55) rfl (.cons (t := 56) rfl (.cons (t := 57) rfl (.cons (t := 58) rfl (.cons (t := 59) rfl (.cons (t := 60) rfl (.cons (t := 61) rfl (.cons (t := 62) rfl (.cons (t := 63) rfl (.cons (t := 64) rfl (.cons (t := 65) rfl (.cons (t := 66) rfl (.cons (t := 67) rfl .nil))))))))))))))))))))))))))))) (.cons (t := 101) rfl (.cons (t := 103) rfl .nil)) ?_
            refine W.seq ?_
            refine W.region ?_
            refine SL.val (O.move rfl rfl Taken.no) ?_
            refine SL.val (O.assign rfl rfl Taken.no) ?_
            refine SL.nil ?_
            refine E.to ?_
            refine W.pick (.cons (t := 3) rfl (.cons (t := 4) rfl (.cons (t := 6) rfl (.cons (t := 9) rfl (.cons (t := 10) rfl (.cons (t := 27) rfl (.cons (t := 28) rfl (.cons (t := 29) rfl (.cons (t := 30) rfl (.cons (t := 31) rfl (.cons (t := 32) rfl (.cons (t := 33) rfl (.cons (t := 34) rfl (.cons (t := 35) rfl (.cons (t := 36) rfl (.cons (t := 37) rfl (.cons (t := 55) rfl (.cons (t := 56) rfl (.cons (t := 57) rfl (.cons (t := 58) rfl (.cons (t := 59) rfl (.cons (t := 60) rfl (.cons (t := 61) rfl (.cons (t := 62) rfl (.cons (t := 63) rfl (.cons (t := 64) rfl (.cons (t := 65) rfl (.cons (t := 66) rfl (.cons (t := 67) rfl (.cons (t := 68) rfl .nil)))))))))))))))))))))))))))))) (.cons (t := 101) rfl (.cons (t := 103) rfl .nil)) ?_
            refine W.region ?_
            refine SL.val (O.move rfl rfl Taken.no) ?_
            refine SL.val (O.fld_ref (o' := 5) rfl Try.underlying64 rfl (m := 0) (by kernel_rfl) rfl rfl Taken.no) ?_
            refine SL.val (O.ld1 (PtI.ref rfl rfl) rfl Try.underlying3 rfl rfl Taken.no) ?_
            refine SL.memS (O.call (rn [(0, 108)]) [101] rfl rfl rfl (without_h (o := o) l[k]!.2 (by omega)) (.cons (ArgOk.own rfl rfl) (.cons (ArgOk.same rfl) .nil)) SubS.nil rfl rfl rfl rfl rfl (.inr ⟨rfl, fun x hx => by rw [List.mem_singleton] at hx; subst hx; exact flatP_eP⟩) hcallOk30 (r' := .own 108) rfl rfl Taken.no) rfl rfl (S' := (108, .data _ _ _) :: _) rfl ?_
            refine SL.val (O.assign rfl rfl Taken.no) ?_
            refine SL.nil ?_
            refine E.inn ?_
            refine E.to ?_
            refine W.pick (.cons (t := 3) rfl (.cons (t := 4) rfl (.cons (t := 6) rfl (.cons (t := 9) rfl (.cons (t := 10) rfl (.cons (t := 27) rfl (.cons (t := 28) rfl (.cons (t := 29) rfl (.cons (t := 30) rfl (.cons (t := 31) rfl (.cons (t := 32) rfl (.cons (t := 33) rfl (.cons (t := 34) rfl (.cons (t := 35) rfl (.cons (t := 36) rfl (.cons (t := 37) rfl (.cons (t := 55) rfl (.cons (t := 56) rfl (.cons (t := 57) rfl (.cons (t := 58) rfl (.cons (t := 59) rfl (.cons (t := 60) rfl (.cons (t := 61) rfl (.cons (t := 62) rfl (.cons (t := 63) rfl (.cons (t := 64) rfl (.cons (t := 65) rfl (.cons (t := 66) rfl (.cons (t := 67) rfl (.cons (t := 68) rfl (.cons (t := 69) rfl (.cons (t := 70) rfl (.cons (t := 71) rfl (.cons (t := 72) rfl .nil)))))))))))))))))))))))))))))))))) (.cons (t := 101) rfl (.cons (t := 103) rfl (.cons (t := 108) rfl .nil))) ?_
            refine W.seq ?_
            refine W.region ?_
            refine SL.val (O.move rfl rfl Taken.no) ?_
            refine SL.val (O.lenE (SlOf.own rfl rfl) (by first | exact List.length_map _ | rfl) Try.underlying62 rfl Taken.no) ?_
            refine SL.val (O.move rfl rfl Taken.no) ?_
            refine SL.nil ?_
            refine E.to ?_
            refine W.pick (.cons (t := 3) rfl (.cons (t := 4) rfl (.cons (t := 6) rfl (.cons (t := 9) rfl (.cons (t := 10) rfl (.cons (t := 27) rfl (.cons (t := 28) rfl (.cons (t := 29) rfl (.cons (t := 30) rfl (.cons (t := 31) rfl (.cons (t := 32) rfl (.cons (t := 33) rfl (.cons (t := 34) rfl (.cons (t := 35) rfl (.cons (t := 36) rfl (.cons (t := 37) rfl (.cons (t := 55) rfl (.cons (t := 56) rfl (.cons (t := 57) rfl (.cons (t := 58) rfl (.cons (t := 59) rfl (.cons (t := 60) rfl (.cons (t := 61) rfl (.cons (t := 62) rfl (.cons (t := 63) rfl (.cons (t := 64) rfl (.cons (t := 65) rfl (.cons (t := 66) rfl (.cons (t := 67) rfl (.cons (t := 68) rfl (.cons (t := 69) rfl (.cons (t := 70) rfl (.cons (t := 71) rfl (.cons (t := 72) rfl (.cons (t := 131) rfl (.cons (t := 132) rfl (.cons (t := 133) rfl .nil))))))))))))))))))))))))))))))))))))) (.cons (t := 101) rfl (.cons (t := 103) rfl (.cons (t := 108) rfl .nil))) ?_
            refine W.block ?_
            refine W.loopx1 (fun (i : Nat) => [(133, vI (i : Int))]) (fun (i : Nat) => []) (fun (i : Nat) => i ≤ ((wo (l[k]!.2) o)).length) (fun (i : Nat) => ((wo (l[k]!.2) o)).length - i) (0) (rn []) (.cons (t := 3) rfl (.cons (t := 4) rfl (.cons (t := 6) rfl (.cons (t := 9) rfl (.cons (t := 10) rfl (.cons (t := 27) rfl (.cons (t := 28) rfl (.cons (t := 29) rfl (.cons (t := 30) rfl (.cons (t := 31) rfl (.cons (t := 32) rfl (.cons (t := 33) rfl (.cons (t := 34) rfl (.cons (t := 35) rfl (.cons (t := 36) rfl (.cons (t := 37) rfl (.cons (t := 55) rfl (.cons (t := 56) rfl (.cons (t := 57) rfl (.cons (t := 58) rfl (.cons (t := 59) rfl (.cons (t := 60) rfl (.cons (t := 61) rfl (.cons (t := 62) rfl (.cons (t := 63) rfl (.cons (t := 64) rfl (.cons (t := 65) rfl (.cons (t := 66) rfl (.cons (t := 67) rfl (.cons (t := 68) rfl (.cons (t := 69) rfl (.cons (t := 70) rfl (.cons (t := 71) rfl (.cons (t := 72) rfl (.cons (t := 131) rfl (.cons (t := 132) rfl .nil)))))))))))))))))))))))))))))))))))) (.cons (t := 101) rfl (.cons (t := 103) rfl (.cons (t := 108) rfl .nil))) rfl ?_ ?_ rfl rfl ?_ ?_
            · exact (SubF.cons rfl SubF.nil)
            · exact SubS.nil
            · skip
              omega
            intro i hinv
            have hi := hinv
            refine W.seq ?_
            refine W.region ?_
            refine SL.val (O.det (fun _ => G.R.lss rfl rfl) rfl Taken.no) ?_
            refine SL.nil ?_
            refine E.to ?_
            refine W.pick (.cons (t := 3) rfl (.cons (t := 4) rfl (.cons (t := 6) rfl (.cons (t := 9) rfl (.cons (t := 10) rfl (.cons (t := 27) rfl (.cons (t := 28) rfl (.cons (t := 29) rfl (.cons (t := 30) rfl (.cons (t := 31) rfl (.cons (t := 32) rfl (.cons (t := 33) rfl (.cons (t := 34) rfl (.cons (t := 35) rfl (.cons (t := 36) rfl (.cons (t := 37) rfl (.cons (t := 55) rfl (.cons (t := 56) rfl (.cons (t := 57) rfl (.cons (t := 58) rfl (.cons (t := 59) rfl (.cons (t := 60) rfl (.cons (t := 61) rfl (.cons (t := 62) rfl (.cons (t := 63) rfl (.cons (t := 64) rfl (.cons (t := 65) rfl (.cons (t := 66) rfl (.cons (t := 67) rfl (.cons (t := 68) rfl (.cons (t := 69) rfl (.cons (t := 70) rfl (.cons (t := 71) rfl (.cons (t := 72) rfl (.cons (t := 131) rfl (.cons (t := 132) rfl (.cons (t := 133) rfl (.cons (t := 134) rfl .nil)))))))))))))))))))))))))))))))))))))) (.cons (t := 101) rfl (.cons (t := 103) rfl (.cons (t := 108) rfl .nil))) ?_
            refine W.seq ?_
            first | refine W.cond_d rfl (fun hc10 => ?_) (fun hc10 => ?_) | refine W.cond_nd rfl (fun hc10 => ?_) (fun hc10 => ?_) | refine W.cond rfl (fun hc10 => ?_) (fun hc10 => ?_)
            · skip
              refine W.skip ?_
              refine E.to ?_
              refine W.pick (.cons (t := 3) rfl (.cons (t := 4) rfl (.cons (t := 6) rfl (.cons (t := 9) rfl (.cons (t := 10) rfl (.cons (t := 27) rfl (.cons (t := 28) rfl (.cons (t := 29) rfl (.cons (t := 30) rfl (.cons (t := 31) rfl (.cons (t := 32) rfl (.cons (t := 33) rfl (.cons (t := 34) rfl (.cons (t := 35) rfl (.cons (t := 36) rfl (.cons (t := 37) rfl (.cons (t := 55) rfl (.cons (t := 56) rfl (.cons (t := 57) rfl (.cons (t := 58) rfl (.cons (t := 59) rfl (.cons (t := 60) rfl (.cons (t := 61) rfl (.cons (t := 62) rfl (.cons (t := 63) rfl (.cons (t := 64) rfl (.cons (t := 65) rfl (.cons (t := 66) rfl (.cons (t := 67) rfl (.cons (t := 68) rfl (.cons (t := 69) rfl (.cons (t := 70) rfl (.cons (t := 71) rfl (.cons (t := 72) rfl (.cons (t := 131) rfl (.cons (t := 132) rfl (.cons (t := 133) rfl (.cons (t := 134) rfl .nil)))))))))))))))))))))))))))))))))))))) (.cons (t := 101) rfl (.cons (t := 103) rfl (.cons (t := 108) rfl .nil))) ?_
              refine W.seq ?_
              refine W.block ?_
              refine W.seq ?_
              refine W.region ?_
              refine SL.val (O.idx_own rfl rfl rfl (rfl) (by rw [List.length_map]; omega) Try.underlying62 hi65 hs65 rfl Taken.no) ?_
              refine SL.val (O.ldU (m := 2) (PtU.el rfl rfl (row_get (by omega))) rfl Try.underlying65 rfl (by kernel_rfl) rfl Taken.no) ?_
              refine SL.memS (O.alloc (z := .agg #[.int .i64 0, .int .i64 0]) (is := [.u (.sc (.int .i64 0)), .u (.sc (.int .i64 0))]) 109 (by kernel_rfl) rfl rfl rfl Taken.no) rfl rfl (S' := (109, _) :: _) rfl ?_
              refine SL.effS (O.st_ref (m := 2) rfl rfl rfl (js := [_, _]) rfl rfl (by kernel_rfl) (by simp) (Nat.le_of_ble_eq_true rfl) rfl (is' := [_, _]) rfl Taken.no) (S' := (109, _) :: _) rfl ?_
              refine SL.nil ?_
              refine E.to ?_
              refine W.pick (.cons (t := 3) rfl (.cons (t := 4) rfl (.cons (t := 6) rfl (.cons (t := 9) rfl (.cons (t := 10) rfl (.cons (t := 18) rfl (.cons (t := 27) rfl (.cons (t := 28) rfl (.cons (t := 29) rfl (.cons (t := 30) rfl (.cons (t := 31) rfl (.cons (t := 32) rfl (.cons (t := 33) rfl (.cons (t := 34) rfl (.cons (t := 35) rfl (.cons (t := 36) rfl (.cons (t := 37) rfl (.cons (t := 55) rfl (.cons (t := 56) rfl (.cons (t := 57) rfl (.cons (t := 58) rfl (.cons (t := 59) rfl (.cons (t := 60) rfl (.cons (t := 61) rfl (.cons (t := 62) rfl (.cons (t := 63) rfl (.cons (t := 64) rfl (.cons (t := 65) rfl (.cons (t := 66) rfl (.cons (t := 67) rfl (.cons (t := 68) rfl (.cons (t := 69) rfl (.cons (t := 70) rfl (.cons (t := 71) rfl (.cons (t := 72) rfl (.cons (t := 131) rfl (.cons (t := 132) rfl (.cons (t := 133) rfl (.cons (t := 134) rfl (.cons (t := 135) rfl (.cons (t := 136) rfl .nil))))))))))))))))))))))))))))))))))))))))) (.cons (t := 101) rfl (.cons (t := 103) rfl (.cons (t := 108) rfl (.cons (t := 109) rfl .nil)))) ?_
              refine W.seq ?_
              refine W.region ?_
              refine SL.val (O.idx_ref (i := 1) (m := 1) rfl rfl (rfl) (by decide) Try.underlying65 (by kernel_rfl) rfl rfl Taken.no) ?_
              refine SL.val (O.ld1 (PtI.ref rfl rfl) rfl Try.underlying3 rfl rfl Taken.no) ?_
              refine SL.val (O.det (fun _ => G.R.mv (G.R.gtr rfl rfl) (congrArg Value.bool (decide_eq_false (by have := agree_le hv2 hag2 (k := i) (by omega); omega)))) rfl Taken.no) ?_
              refine SL.nil ?_
              refine E.to ?_
              refine W.pick (.cons (t := 3) rfl (.cons (t := 4) rfl (.cons (t := 6) rfl (.cons (t := 9) rfl (.cons (t := 10) rfl (.cons (t := 18) rfl (.cons (t := 27) rfl (.cons (t := 28) rfl (.cons (t := 29) rfl (.cons (t := 30) rfl (.cons (t := 31) rfl (.cons (t := 32) rfl (.cons (t := 33) rfl (.cons (t := 34) rfl (.cons (t := 35) rfl (.cons (t := 36) rfl (.cons (t := 37) rfl (.cons (t := 55) rfl (.cons (t := 56) rfl (.cons (t := 57) rfl (.cons (t := 58) rfl (.cons (t := 59) rfl (.cons (t := 60) rfl (.cons (t := 61) rfl (.cons (t := 62) rfl (.cons (t := 63) rfl (.cons (t := 64) rfl (.cons (t := 65) rfl (.cons (t := 66) rfl (.cons (t := 67) rfl (.cons (t := 68) rfl (.cons (t := 69) rfl (.cons (t := 70) rfl (.cons (t := 71) rfl (.cons (t := 72) rfl (.cons (t := 131) rfl (.cons (t := 132) rfl (.cons (t := 133) rfl (.cons (t := 134) rfl (.cons (t := 135) rfl (.cons (t := 136) rfl (.cons (t := 137) rfl (.cons (t := 138) rfl (.cons (t := 139) rfl .nil)))))))))))))))))))))))))))))))))))))))))))) (.cons (t := 101) rfl (.cons (t := 103) rfl (.cons (t := 108) rfl (.cons (t := 109) rfl .nil)))) ?_
              refine W.cond_f rfl ?_
              refine W.skip ?_
              refine E.inn ?_
              refine E.to ?_
              refine W.pick (.cons (t := 3) rfl (.cons (t := 4) rfl (.cons (t := 6) rfl (.cons (t := 9) rfl (.cons (t := 10) rfl (.cons (t := 18) rfl (.cons (t := 27) rfl (.cons (t := 28) rfl (.cons (t := 29) rfl (.cons (t := 30) rfl (.cons (t := 31) rfl (.cons (t := 32) rfl (.cons (t := 33) rfl (.cons (t := 34) rfl (.cons (t := 35) rfl (.cons (t := 36) rfl (.cons (t := 37) rfl (.cons (t := 55) rfl (.cons (t := 56) rfl (.cons (t := 57) rfl (.cons (t := 58) rfl (.cons (t := 59) rfl (.cons (t := 60) rfl (.cons (t := 61) rfl (.cons (t := 62) rfl (.cons (t := 63) rfl (.cons (t := 64) rfl (.cons (t := 65) rfl (.cons (t := 66) rfl (.cons (t := 67) rfl (.cons (t := 68) rfl (.cons (t := 69) rfl (.cons (t := 70) rfl (.cons (t := 71) rfl (.cons (t := 72) rfl (.cons (t := 131) rfl (.cons (t := 132) rfl (.cons (t := 133) rfl (.cons (t := 134) rfl (.cons (t := 135) rfl (.cons (t := 136) rfl (.cons (t := 137) rfl (.cons (t := 138) rfl (.cons (t := 139) rfl .nil)))))))))))))))))))))))))))))))))))))))))))) (.cons (t := 101) rfl (.cons (t := 103) rfl (.cons (t := 108) rfl (.cons (t := 109) rfl .nil)))) ?_
              refine W.region ?_
              refine SL.val (O.det (fun _ => by first | exact G.R.add64 rfl rfl (by omega) | exact G.R.add rfl rfl) rfl Taken.no) ?_
              refine SL.val (O.move rfl rfl Taken.no) ?_
              refine SL.nil ?_
              refine E.again ((i + 1)) (rn []) ?_ ?_ rfl (fixL_spec rfl) ?_ ?_
              · exact (SubF.cons rfl (SubF.cons rfl (SubF.cons rfl (SubF.cons rfl (SubF.cons rfl (SubF.cons rfl (SubF.cons rfl (SubF.cons rfl (SubF.cons rfl (SubF.cons rfl (SubF.cons rfl (SubF.cons rfl (SubF.cons rfl (SubF.cons rfl (SubF.cons rfl (SubF.cons rfl (SubF.cons rfl (SubF.cons rfl (SubF.cons rfl (SubF.cons rfl (SubF.cons rfl (SubF.cons rfl (SubF.cons rfl (SubF.cons rfl (SubF.cons rfl (SubF.cons rfl (SubF.cons rfl (SubF.cons rfl (SubF.cons rfl (SubF.cons rfl (SubF.cons rfl (SubF.cons rfl (SubF.cons rfl (SubF.cons rfl (SubF.cons rfl (SubF.cons rfl (SubF.cons rfl SubF.nil)))))))))))))))))))))))))))))))))))))
              · exact (SubS.cons rfl (SubS.cons rfl (SubS.cons rfl SubS.nil)))
              · try dsimp only
                omega
              · (try dsimp only); omega
            · skip
              refine W.exit ?_
              refine E.th ?_
              refine E.th ?_
              refine E.hit ?_
              refine E.inn ?_
              refine E.to ?_
              refine W.pick (.cons (t := 3) rfl (.cons (t := 4) rfl (.cons (t := 6) rfl (.cons (t := 9) rfl (.cons (t := 10) rfl (.cons (t := 27) rfl (.cons (t := 28) rfl (.cons (t := 29) rfl (.cons (t := 30) rfl (.cons (t := 31) rfl (.cons (t := 32) rfl (.cons (t := 33) rfl (.cons (t := 34) rfl (.cons (t := 35) rfl (.cons (t := 36) rfl (.cons (t := 37) rfl (.cons (t := 55) rfl (.cons (t := 56) rfl (.cons (t := 57) rfl (.cons (t := 58) rfl (.cons (t := 59) rfl (.cons (t := 60) rfl (.cons (t := 61) rfl (.cons (t := 62) rfl (.cons (t := 63) rfl (.cons (t := 64) rfl (.cons (t := 65) rfl (.cons (t := 66) rfl (.cons (t := 67) rfl (.cons (t := 68) rfl (.cons (t := 69) rfl (.cons (t := 70) rfl (.cons (t := 71) rfl (.cons (t := 72) rfl (.cons (t := 131) rfl (.cons (t := 132) rfl (.cons (t := 133) rfl (.cons (t := 134) rfl .nil)))))))))))))))))))))))))))))))))))))) (.cons (t := 101) rfl (.cons (t := 103) rfl (.cons (t := 108) rfl .nil))) ?_
              refine W.region ?_
              refine SL.val (O.det (fun _ => by first | exact G.R.add64 rfl rfl (by omega) | exact G.R.add rfl rfl) rfl Taken.no) ?_
              refine SL.val (O.move rfl rfl Taken.no) ?_
              refine SL.nil ?_
              refine E.again ((k + 1), (canL q (ixI q l[k]!.2).toNat), ((wo (l[k]!.2) o))) (rn [(101, 108)]) ?_ ?_ rfl (fixL_spec rfl) ?_ ?_
              · exact (SubF.cons rfl (SubF.cons rfl (SubF.cons rfl (SubF.cons rfl (SubF.cons rfl SubF.nil)))))
              · exact (SubS.cons rfl SubS.nil)
              · try dsimp only
                exact ⟨by omega, by assumption, by omega, by assumption⟩
              · (try dsimp only); omega
        · skip
          refine W.seq ?_
          refine W.region ?_
          refine SL.val (O.move rfl rfl Taken.no) ?_
          refine SL.val (O.lenE (SlOf.fz rfl (by decide)) (by first | exact List.length_map _ | rfl) Try.underlying30 rfl Taken.no) ?_
          refine SL.val (O.det (fun _ => G.R.gtr rfl rfl) rfl Taken.no) ?_
          refine SL.val (O.assign rfl rfl Taken.no) ?_
          refine SL.nil ?_
          refine E.to ?_
          first | refine W.cond_d rfl (fun hc11 => ?_) (fun hc11 => ?_) | refine W.cond_nd rfl (fun hc11 => ?_) (fun hc11 => ?_) | refine W.cond rfl (fun hc11 => ?_) (fun hc11 => ?_)
          · skip
            have hl : 0 < q.length := by omega
            have hn := nextI_lt hl
            obtain ⟨s1, s2, s3⟩ := srv_0 hv hl
            have l1 := srvL_len hn
            refine W.seq ?_
            refine W.region ?_
            refine SL.val (O.move rfl rfl Taken.no) ?_
            refine SL.memS (O.call (rn []) [] rfl rfl rfl (holdServe_h (q := q)) (.cons (ArgOk.same rfl) .nil) SubS.nil rfl rfl rfl rfl rfl (.inl rfl) hcallOk14 (r' := .tup [.agg [.u _, .u _, .u _, .u _, .u _], .u _, .u _]) rfl rfl Taken.no) rfl rfl (S' := _) rfl ?_
            refine SL.as (i' := .tup [.agg [.u (uI (nextH q).id), .u (uI (nextH q).pat), .u (uI (nextH q).cls), .u (uI (nextH q).tim), .u (uI (nextH q).ov)], vL 5 ((srvL q (nextI q)).map eH), vI 0]) 79 rfl (by rw [s1, s2]) ?_
            refine SL.val (O.move rfl rfl Taken.no) ?_
            refine SL.val (O.extract rfl rfl rfl Taken.no) ?_
            refine SL.val (O.extract rfl rfl rfl Taken.no) ?_
            refine SL.val (O.extract rfl rfl rfl Taken.no) ?_
            refine SL.memS (O.alloc (z := .agg #[.int .i64 0, .int .i64 0, .int .i64 0, .int .i64 0, .int .i64 0]) (is := [.u (.sc (.int .i64 0)), .u (.sc (.int .i64 0)), .u (.sc (.int .i64 0)), .u (.sc (.int .i64 0)), .u (.sc (.int .i64 0))]) 110 (by kernel_rfl) rfl rfl rfl Taken.no) rfl rfl (S' := (110, _) :: _) rfl ?_
            refine SL.effS (O.st_ref (m := 5) rfl rfl rfl (js := [_, _, _, _, _]) rfl rfl (by kernel_rfl) (by simp) (Nat.le_of_ble_eq_true rfl) rfl (is' := [_, _, _, _, _]) rfl Taken.no) (S' := (110, _) :: _) rfl ?_
            refine SL.val (O.assign rfl rfl Taken.no) ?_
            refine SL.val (O.assign rfl rfl Taken.no) ?_
            refine SL.nil ?_
            refine E.to ?_
            refine W.pick (.cons (t := 3) rfl (.cons (t := 4) rfl (.cons (t := 6) rfl (.cons (t := 11) rfl (.cons (t := 12) rfl (.cons (t := 13) rfl (.cons (t := 27) rfl (.cons (t := 28) rfl (.cons (t := 29) rfl (.cons (t := 30) rfl (.cons (t := 31) rfl (.cons (t := 32) rfl (.cons (t := 33) rfl (.cons (t := 34) rfl (.cons (t := 35) rfl (.cons (t := 36) rfl (.cons (t := 37) rfl (.cons (t := 55) rfl (.cons (t := 56) rfl (.cons (t := 57) rfl (.cons (t := 58) rfl (.cons (t := 73) rfl (.cons (t := 74) rfl (.cons (t := 75) rfl (.cons (t := 76) rfl (.cons (t := 77) rfl (.cons (t := 78) rfl (.cons (t := 79) rfl (.cons (t := 80) rfl (.cons (t := 81) rfl (.cons (t := 82) rfl .nil))))))))))))))))))))))))))))))) (.cons (t := 101) rfl (.cons (t := 103) rfl (.cons (t := 110) rfl .nil))) ?_
            refine W.seq ?_
            refine W.seq ?_
            refine W.region ?_
            refine SL.val (O.move rfl rfl Taken.no) ?_
            refine SL.val (O.det (fun _ => G.R.mv (G.R.neq rfl rfl) (congrArg Value.bool (decide_eq_false (by decide)))) rfl Taken.no) ?_
            refine SL.val (O.move rfl rfl Taken.no) ?_
            have hg12 : false = false := by decide
            refine SL.val (O.move rfl rfl (Taken.yes rfl rfl hg12)) ?_
            refine SL.val (O.lenE (SlOf.fz rfl (by decide)) (by first | exact List.length_map _ | rfl) Try.underlying30 rfl (Taken.yes rfl rfl hg12)) ?_
            refine SL.val (O.move rfl rfl (Taken.yes rfl rfl hg12)) ?_
            refine SL.val (O.lenE (SlOf.fz rfl (by decide)) (by first | exact List.length_map _ | rfl) Try.underlying30 rfl (Taken.yes rfl rfl hg12)) ?_
            refine SL.val (O.det (fun _ => by first | exact G.R.sub64 rfl rfl (by omega) | exact G.R.sub rfl rfl) rfl (Taken.yes rfl rfl hg12)) ?_
            refine SL.val (O.det (fun _ => G.R.mv (G.R.neq rfl rfl) (congrArg Value.bool (decide_eq_false (by omega)))) rfl (Taken.yes rfl rfl hg12)) ?_
            refine SL.val (O.pick_f rfl rfl rfl rfl Taken.no) ?_
            refine SL.nil ?_
            refine E.to ?_
            refine W.pick (.cons (t := 3) rfl (.cons (t := 4) rfl (.cons (t := 6) rfl (.cons (t := 11) rfl (.cons (t := 12) rfl (.cons (t := 13) rfl (.cons (t := 27) rfl (.cons (t := 28) rfl (.cons (t := 29) rfl (.cons (t := 30) rfl (.cons (t := 31) rfl (.cons (t := 32) rfl (.cons (t := 33) rfl (.cons (t := 34) rfl (.cons (t := 35) rfl (.cons (t := 36) rfl (.cons (t := 37) rfl (.cons (t := 55) rfl (.cons (t := 56) rfl (.cons (t := 57) rfl (.cons (t := 58) rfl (.cons (t := 73) rfl (.cons (t := 74) rfl (.cons (t := 75) rfl (.cons (t := 76) rfl (.cons (t := 77) rfl (.cons (t := 78) rfl (.cons (t := 79) rfl (.cons (t := 80) rfl (.cons (t := 81) rfl (.cons (t := 82) rfl (.cons (t := 83) rfl (.cons (t := 84) rfl (.cons (t := 85) rfl (.cons (t := 86) rfl (.cons (t := 87) rfl (.cons (t := 88) rfl (.cons (t := 89) rfl (.cons (t := 90) rfl (.cons (t := 91) rfl (.cons (t := 92) rfl .nil))))))))))))))))))))))))))))))))))))))))) (.cons (t := 101) rfl (.cons (t := 103) rfl (.cons (t := 110) rfl .nil))) ?_
            refine W.cond_f rfl ?_
            refine W.skip ?_
            refine E.to ?_
            refine W.pick (.cons (t := 3) rfl (.cons (t := 4) rfl (.cons (t := 6) rfl (.cons (t := 11) rfl (.cons (t := 12) rfl (.cons (t := 13) rfl (.cons (t := 27) rfl (.cons (t := 28) rfl (.cons (t := 29) rfl (.cons (t := 30) rfl (.cons (t := 31) rfl (.cons (t := 32) rfl (.cons (t := 33) rfl (.cons (t := 34) rfl (.cons (t := 35) rfl (.cons (t := 36) rfl (.cons (t := 37) rfl (.cons (t := 55) rfl (.cons (t := 56) rfl (.cons (t := 57) rfl (.cons (t := 58) rfl (.cons (t := 73) rfl (.cons (t := 74) rfl (.cons (t := 75) rfl (.cons (t := 76) rfl (.cons (t := 77) rfl (.cons (t := 78) rfl (.cons (t := 79) rfl (.cons (t := 80) rfl (.cons (t := 81) rfl (.cons (t := 82) rfl (.cons (t := 83) rfl (.cons (t := 84) rfl (.cons (t := 85) rfl (.cons (t := 86) rfl (.cons (t := 87) rfl (.cons (t := 88) rfl (.cons (t := 89) rfl (.cons (t := 90) rfl (.cons (t := 91) rfl (.cons (t := 92) rfl .nil))))))))))))))))))))))))))))))))))))))))) (.cons (t := 101) rfl (.cons (t := 103) rfl (.cons (t := 110) rfl .nil))) ?_
            refine W.seq ?_
            refine W.seq ?_
            refine W.region ?_
            refine SL.val (O.move rfl rfl Taken.no) ?_
            refine SL.val (O.lenE (SlOf.fz rfl (by decide)) (by first | exact List.length_map _ | rfl) Try.underlying30 rfl Taken.no) ?_
            refine SL.val (O.move rfl rfl Taken.no) ?_
            refine SL.nil ?_
            refine E.to ?_
            refine W.pick (.cons (t := 3) rfl (.cons (t := 4) rfl (.cons (t := 6) rfl (.cons (t := 11) rfl (.cons (t := 12) rfl (.cons (t := 13) rfl (.cons (t := 27) rfl (.cons (t := 28) rfl (.cons (t := 29) rfl (.cons (t := 30) rfl (.cons (t := 31) rfl (.cons (t := 32) rfl (.cons (t := 33) rfl (.cons (t := 34) rfl (.cons (t := 35) rfl (.cons (t := 36) rfl (.cons (t := 37) rfl (.cons (t := 55) rfl (.cons (t := 56) rfl (.cons (t := 57) rfl (.cons (t := 58) rfl (.cons (t := 73) rfl (.cons (t := 74) rfl (.cons (t := 75) rfl (.cons (t := 76) rfl (.cons (t := 77) rfl (.cons (t := 78) rfl (.cons (t := 79) rfl (.cons (t := 80) rfl (.cons (t := 81) rfl (.cons (t := 82) rfl (.cons (t := 83) rfl (.cons (t := 84) rfl (.cons (t := 85) rfl (.cons (t := 86) rfl (.cons (t := 87) rfl (.cons (t := 88) rfl (.cons (t := 89) rfl (.cons (t := 90) rfl (.cons (t := 91) rfl (.cons (t := 92) rfl (.cons (t := 93) rfl (.cons (t := 94) rfl (.cons (t := 95) rfl .nil)))))))))))))))))))))))))))))))))))))))))))) (.cons (t := 101) rfl (.cons (t := 103) rfl (.cons (t := 110) rfl .nil))) ?_
            refine W.block ?_
            refine W.loopx2 (fun (m : Nat) (om : List (Int × Int)) => [(4, .own 111), (95, vI (m : Int))]) (fun (m : Nat) (om : List (Int × Int)) => [(111, .data 65 2 (om.map eP))]) (fun (m : Nat) (om : List (Int × Int)) => m ≤ q.length ∧ om.length = o.length ∧ agreeK q (nextH q) m om) (fun (m : Nat) (om : List (Int × Int)) => q.length - m) (0) (o) (rn [(111, 101)]) (.cons (t := 3) rfl (.cons (t := 6) rfl (.cons (t := 11) rfl (.cons (t := 12) rfl (.cons (t := 13) rfl (.cons (t := 27) rfl (.cons (t := 28) rfl (.cons (t := 29) rfl (.cons (t := 30) rfl (.cons (t := 31) rfl (.cons (t := 32) rfl (.cons (t := 33) rfl (.cons (t := 34) rfl (.cons (t := 35) rfl (.cons (t := 36) rfl (.cons (t := 37) rfl (.cons (t := 55) rfl (.cons (t := 56) rfl (.cons (t := 57) rfl (.cons (t := 58) rfl (.cons (t := 73) rfl (.cons (t := 74) rfl (.cons (t := 75) rfl (.cons (t := 76) rfl (.cons (t := 77) rfl (.cons (t := 78) rfl (.cons (t := 79) rfl (.cons (t := 80) rfl (.cons (t := 81) rfl (.cons (t := 82) rfl (.cons (t := 83) rfl (.cons (t := 84) rfl (.cons (t := 85) rfl (.cons (t := 86) rfl (.cons (t := 87) rfl (.cons (t := 88) rfl (.cons (t := 89) rfl (.cons (t := 90) rfl (.cons (t := 91) rfl (.cons (t := 92) rfl (.cons (t := 93) rfl (.cons (t := 94) rfl .nil)))))))))))))))))))))))))))))))))))))))))) (.cons (t := 103) rfl (.cons (t := 110) rfl .nil)) rfl ?_ ?_ rfl rfl ?_ ?_
            · exact (SubF.cons rfl (SubF.cons rfl SubF.nil))
            · exact (SubS.cons rfl SubS.nil)
            · skip
              exact ⟨by omega, rfl, agreeK_0 hag⟩
            intro m om hinv
            obtain ⟨hm, homl, hak⟩ := hinv
            refine W.seq ?_
            refine W.region ?_
            refine SL.val (O.det (fun _ => G.R.lss rfl rfl) rfl Taken.no) ?_
            refine SL.nil ?_
            refine E.to ?_
            refine W.pick (.cons (t := 3) rfl (.cons (t := 4) rfl (.cons (t := 6) rfl (.cons (t := 11) rfl (.cons (t := 12) rfl (.cons (t := 13) rfl (.cons (t := 27) rfl (.cons (t := 28) rfl (.cons (t := 29) rfl (.cons (t := 30) rfl (.cons (t := 31) rfl (.cons (t := 32) rfl (.cons (t := 33) rfl (.cons (t := 34) rfl (.cons (t := 35) rfl (.cons (t := 36) rfl (.cons (t := 37) rfl (.cons (t := 55) rfl (.cons (t := 56) rfl (.cons (t := 57) rfl (.cons (t := 58) rfl (.cons (t := 73) rfl (.cons (t := 74) rfl (.cons (t := 75) rfl (.cons (t := 76) rfl (.cons (t := 77) rfl (.cons (t := 78) rfl (.cons (t := 79) rfl (.cons (t := 80) rfl (.cons (t := 81) rfl (.cons (t := 82) rfl (.cons (t := 83) rfl (.cons (t := 84) rfl (.cons (t := 85) rfl (.cons (t := 86) rfl (.cons (t := 87) rfl (.cons (t := 88) rfl (.cons (t := 89) rfl (.cons (t := 90) rfl (.cons (t := 91) rfl (.cons (t := 92) rfl (.cons (t := 93) rfl (.cons (t := 94) rfl (.cons (t := 95) rfl (.cons (t := 96) rfl .nil))))))))))))))))))))))))))))))))))))))))))))) (.cons (t := 103) rfl (.cons (t := 110) rfl (.cons (t := 111) rfl .nil))) ?_
            refine W.seq ?_
            first | refine W.cond_d rfl (fun hc13 => ?_) (fun hc13 => ?_) | refine W.cond_nd rfl (fun hc13 => ?_) (fun hc13 => ?_) | refine W.cond rfl (fun hc13 => ?_) (fun hc13 => ?_)
            · skip
              refine W.skip ?_
              refine E.to ?_
              refine W.pick (.cons (t := 3) rfl (.cons (t := 4) rfl (.cons (t := 6) rfl (.cons (t := 11) rfl (.cons (t := 12) rfl (.cons (t := 13) rfl (.cons (t := 27) rfl (.cons (t := 28) rfl (.cons (t := 29) rfl (.cons (t := 30) rfl (.cons (t := 31) rfl (.cons (t := 32) rfl (.cons (t := 33) rfl (.cons (t := 34) rfl (.cons (t := 35) rfl (.cons (t := 36) rfl (.cons (t := 37) rfl (.cons (t := 55) rfl (.cons (t := 56) rfl (.cons (t := 57) rfl (.cons (t := 58) rfl (.cons (t := 73) rfl (.cons (t := 74) rfl (.cons (t := 75) rfl (.cons (t := 76) rfl (.cons (t := 77) rfl (.cons (t := 78) rfl (.cons (t := 79) rfl (.cons (t := 80) rfl (.cons (t := 81) rfl (.cons (t := 82) rfl (.cons (t := 83) rfl (.cons (t := 84) rfl (.cons (t := 85) rfl (.cons (t := 86) rfl (.cons (t := 87) rfl (.cons (t := 88) rfl (.cons (t := 89) rfl (.cons (t := 90) rfl (.cons (t := 91) rfl (.cons (t := 92) rfl (.cons (t := 93) rfl (.cons (t := 94) rfl (.cons (t := 95) rfl (.cons (t := 96) rfl .nil))))))))))))))))))))))))))))))))))))))))))))) (.cons (t := 103) rfl (.cons (t := 110) rfl (.cons (t := 111) rfl .nil))) ?_
              refine W.seq ?_
              refine W.block ?_
              refine W.seq ?_
              refine W.region ?_
              refine SL.val (O.idx_fz rfl rfl (rfl) (row_get (by omega)) Try.underlying30 hi26 hs26 rfl Taken.no) ?_
              refine SL.val (O.ldU (m := 5) (PtU.fz rfl) rfl Try.underlying26 rfl (by kernel_rfl) rfl Taken.no) ?_
              refine SL.memS (O.alloc (z := .agg #[.int .i64 0, .int .i64 0, .int .i64 0, .int .i64 0, .int .i64 0]) (is := [.u (.sc (.int .i64 0)), .u (.sc (.int .i64 0)), .u (.sc (.int .i64 0)), .u (.sc (.int .i64 0)), .u (.sc (.int .i64 0))]) 112 (by kernel_rfl) rfl rfl rfl Taken.no) rfl rfl (S' := (112, _) :: _) rfl ?_
              refine SL.effS (O.st_ref (m := 5) rfl rfl rfl (js := [_, _, _, _, _]) rfl rfl (by kernel_rfl) (by simp) (Nat.le_of_ble_eq_true rfl) rfl (is' := [_, _, _, _, _]) rfl Taken.no) (S' := (112, _) :: _) rfl ?_
              refine SL.nil ?_
              refine E.to ?_
              refine W.pick (.cons (t := 3) rfl (.cons (t := 4) rfl (.cons (t := 6) rfl (.cons (t := 11) rfl (.cons (t := 12) rfl (.cons (t := 13) rfl (.cons (t := 15) rfl (.cons (t := 27) rfl (.cons (t := 28) rfl (.cons (t := 29) rfl (.cons (t := 30) rfl (.cons (t := 31) rfl (.cons (t := 32) rfl (.cons (t := 33) rfl (.cons (t := 34) rfl (.cons (t := 35) rfl (.cons (t := 36) rfl (.cons (t := 37) rfl (.cons (t := 55) rfl (.cons (t := 56) rfl (.cons (t := 57) rfl (.cons (t := 58) rfl (.cons (t := 73) rfl (.cons (t := 74) rfl (.cons (t := 75) rfl (.cons (t := 76) rfl (.cons (t := 77) rfl (.cons (t := 78) rfl (.cons (t := 79) rfl (.cons (t := 80) rfl (.cons (t := 81) rfl (.cons (t := 82) rfl (.cons (t := 83) rfl (.cons (t := 84) rfl (.cons (t := 85) rfl (.cons (t := 86) rfl (.cons (t := 87) rfl (.cons (t := 88) rfl (.cons (t := 89) rfl (.cons (t := 90) rfl (.cons (t := 91) rfl (.cons (t := 92) rfl (.cons (t := 93) rfl (.cons (t := 94) rfl (.cons (t := 95) rfl (.cons (t := 96) rfl (.cons (t := 97) rfl (.cons (t := 98) rfl .nil)))))))))))))))))))))))))))))))))))))))))))))))) (.cons (t := 103) rfl (.cons (t := 110) rfl (.cons (t := 111) rfl (.cons (t := 112) rfl .nil)))) ?_
              refine W.seq ?_
              refine W.seq ?_
              refine W.region ?_
              refine SL.val (O.ldN (m := 5) (PtI.ref rfl rfl) (js := [_, _, _, _, _]) rfl (Nat.le_of_ble_eq_true rfl) Try.underlying26 rfl (by kernel_rfl) rfl Taken.no) ?_
              refine SL.val (O.ldN (m := 5) (PtI.ref rfl rfl) (js := [_, _, _, _, _]) rfl (Nat.le_of_ble_eq_true rfl) Try.underlying26 rfl (by kernel_rfl) rfl Taken.no) ?_
              refine SL.val (O.callp rfl rfl rfl (earlier_h (a := q[m]!) (b := nextH q)) (.cons (ArgOk.aggU (.cons (ArgOk.same rfl) (.cons (ArgOk.same rfl) (.cons (ArgOk.same rfl) (.cons (ArgOk.same rfl) (.cons (ArgOk.same rfl) .nil)))))) (.cons (ArgOk.aggU (.cons (ArgOk.same rfl) (.cons (ArgOk.same rfl) (.cons (ArgOk.same rfl) (.cons (ArgOk.same rfl) (.cons (ArgOk.same rfl) .nil)))))) .nil)) hcallOk25 rfl Taken.no) ?_
              refine SL.val (O.det (fun _ => G.R.not rfl) rfl Taken.no) ?_
              refine SL.nil ?_
              refine E.to ?_
              refine W.pick (.cons (t := 3) rfl (.cons (t := 4) rfl (.cons (t := 6) rfl (.cons (t := 11) rfl (.cons (t := 12) rfl (.cons (t := 13) rfl (.cons (t := 15) rfl (.cons (t := 27) rfl (.cons (t := 28) rfl (.cons (t := 29) rfl (.cons (t := 30) rfl (.cons (t := 31) rfl (.cons (t := 32) rfl (.cons (t := 33) rfl (.cons (t := 34) rfl (.cons (t := 35) rfl (.cons (t := 36) rfl (.cons (t := 37) rfl (.cons (t := 55) rfl (.cons (t := 56) rfl (.cons (t := 57) rfl (.cons (t := 58) rfl (.cons (t := 73) rfl (.cons (t := 74) rfl (.cons (t := 75) rfl (.cons (t := 76) rfl (.cons (t := 77) rfl (.cons (t := 78) rfl (.cons (t := 79) rfl (.cons (t := 80) rfl (.cons (t := 81) rfl (.cons (t := 82) rfl (.cons (t := 83) rfl (.cons (t := 84) rfl (.cons (t := 85) rfl (.cons (t := 86) rfl (.cons (t := 87) rfl (.cons (t := 88) rfl (.cons (t := 89) rfl (.cons (t := 90) rfl (.cons (t := 91) rfl (.cons (t := 92) rfl (.cons (t := 93) rfl (.cons (t := 94) rfl (.cons (t := 95) rfl (.cons (t := 96) rfl (.cons (t := 97) rfl (.cons (t := 98) rfl (.cons (t := 99) rfl (.cons (t := 100) rfl (.cons (t := 101) rfl (.cons (t := 102) rfl .nil)))))))))))))))))))))))))))))))))))))))))))))))))))) (.cons (t := 103) rfl (.cons (t := 110) rfl (.cons (t := 111) rfl (.cons (t := 112) rfl .nil)))) ?_
              first | refine W.cond_d rfl (fun hc14 => ?_) (fun hc14 => ?_) | refine W.cond_nd rfl (fun hc14 => ?_) (fun hc14 => ?_) | refine W.cond rfl (fun hc14 => ?_) (fun hc14 => ?_)
              · skip
                refine W.exit ?_
                refine E.th ?_
                refine E.hit ?_
                refine E.to ?_
                refine W.pick (.cons (t := 3) rfl (.cons (t := 4) rfl (.cons (t := 6) rfl (.cons (t := 11) rfl (.cons (t := 12) rfl (.cons (t := 13) rfl (.cons (t := 15) rfl (.cons (t := 27) rfl (.cons (t := 28) rfl (.cons (t := 29) rfl (.cons (t := 30) rfl (.cons (t := 31) rfl (.cons (t := 32) rfl (.cons (t := 33) rfl (.cons (t := 34) rfl (.cons (t := 35) rfl (.cons (t := 36) rfl (.cons (t := 37) rfl (.cons (t := 55) rfl (.cons (t := 56) rfl (.cons (t := 57) rfl (.cons (t := 58) rfl (.cons (t := 73) rfl (.cons (t := 74) rfl (.cons (t := 75) rfl (.cons (t := 76) rfl (.cons (t := 77) rfl (.cons (t := 78) rfl (.cons (t := 79) rfl (.cons (t := 80) rfl (.cons (t := 81) rfl (.cons (t := 82) rfl (.cons (t := 83) rfl (.cons (t := 84) rfl (.cons (t := 85) rfl (.cons (t := 86) rfl (.cons (t := 87) rfl (.cons (t := 88) rfl (.cons (t := 89) rfl (.cons (t := 90) rfl (.cons (t := 91) rfl (.cons (t := 92) rfl (.cons (t := 93) rfl (.cons (t := 94) rfl (.cons (t := 95) rfl (.cons (t := 96) rfl (.cons (t := 97) rfl (.cons (t := 98) rfl (.cons (t := 99) rfl (.cons (t := 100) rfl (.cons (t := 101) rfl (.cons (t := 102) rfl .nil)))))))))))))))))))))))))))))))))))))))))))))))))))) (.cons (t := 103) rfl (.cons (t := 110) rfl (.cons (t := 111) rfl (.cons (t := 112) rfl .nil)))) ?_
                refine W.region ?_
                refine SL.val (O.det (fun _ => by first | exact G.R.add64 rfl rfl (by omega) | exact G.R.add rfl rfl) rfl Taken.no) ?_
                refine SL.val (O.move rfl rfl Taken.no) ?_
                refine SL.nil ?_
                refine E.again ((m + 1), (om)) (rn []) ?_ ?_ rfl (fixL_spec rfl) ?_ ?_
                · exact (SubF.cons rfl (SubF.cons rfl (SubF.cons rfl (SubF.cons rfl (SubF.cons rfl (SubF.cons rfl (SubF.cons rfl (SubF.cons rfl (SubF.cons rfl (SubF.cons rfl (SubF.cons rfl (SubF.cons rfl (SubF.cons rfl (SubF.cons rfl (SubF.cons rfl (SubF.cons rfl (SubF.cons rfl (SubF.cons rfl (SubF.cons rfl (SubF.cons rfl (SubF.cons rfl (SubF.cons rfl (SubF.cons rfl (SubF.cons rfl (SubF.cons rfl (SubF.cons rfl (SubF.cons rfl (SubF.cons rfl (SubF.cons rfl (SubF.cons rfl (SubF.cons rfl (SubF.cons rfl (SubF.cons rfl (SubF.cons rfl (SubF.cons rfl (SubF.cons rfl (SubF.cons rfl (SubF.cons rfl (SubF.cons rfl (SubF.cons rfl (SubF.cons rfl (SubF.cons rfl (SubF.cons rfl (SubF.cons rfl SubF.nil))))))))))))))))))))))))))))))))))))))))))))
                · exact (SubS.val rfl (by (try dsimp only); first | rfl | exact sb_data (by obtain rfl : i = om.length := (by omega); rw [incK_all])) (SubS.cons rfl (SubS.cons rfl SubS.nil)))
                · try dsimp only
                  exact ⟨by omega, by omega, agreeK_no (by assumption) hak⟩
                · (try dsimp only); omega
              · skip
                have hear : earl q[m]! (nextH q) := by first | assumption | exact Decidable.not_not.1 (by assumption)
                refine W.skip ?_
                refine E.to ?_
                refine W.pick (.cons (t := 3) rfl (.cons (t := 4) rfl (.cons (t := 6) rfl (.cons (t := 11) rfl (.cons (t := 12) rfl (.cons (t := 13) rfl (.cons (t := 15) rfl (.cons (t := 27) rfl (.cons (t := 28) rfl (.cons (t := 29) rfl (.cons (t := 30) rfl (.cons (t := 31) rfl (.cons (t := 32) rfl (.cons (t := 33) rfl (.cons (t := 34) rfl (.cons (t := 35) rfl (.cons (t := 36) rfl (.cons (t := 37) rfl (.cons (t := 55) rfl (.cons (t := 56) rfl (.cons (t := 57) rfl (.cons (t := 58) rfl (.cons (t := 73) rfl (.cons (t := 74) rfl (.cons (t := 75) rfl (.cons (t := 76) rfl (.cons (t := 77) rfl (.cons (t := 78) rfl (.cons (t := 79) rfl (.cons (t := 80) rfl (.cons (t := 81) rfl (.cons (t := 82) rfl (.cons (t := 83) rfl (.cons (t := 84) rfl (.cons (t := 85) rfl (.cons (t := 86) rfl (.cons (t := 87) rfl (.cons (t := 88) rfl (.cons (t := 89) rfl (.cons (t := 90) rfl (.cons (t := 91) rfl (.cons (t := 92) rfl (.cons (t := 93) rfl (.cons (t := 94) rfl (.cons (t := 95) rfl (.cons (t := 96) rfl (.cons (t := 97) rfl (.cons (t := 98) rfl (.cons (t := 99) rfl (.cons (t := 100) rfl (.cons (t := 101) rfl (.cons (t := 102) rfl .nil)))))))))))))))))))))))))))))))))))))))))))))))))))) (.cons (t := 103) rfl (.cons (t := 110) rfl (.cons (t := 111) rfl (.cons (t := 112) rfl .nil)))) ?_
                refine W.seq ?_
                refine W.region ?_
                refine SL.val (O.move rfl rfl Taken.no) ?_
                refine SL.val (O.lenE (SlOf.own rfl rfl) (by first | exact List.length_map _ | rfl) Try.underlying62 rfl Taken.no) ?_
                refine SL.val (O.move rfl rfl Taken.no) ?_
                refine SL.nil ?_
                refine E.to ?_
                refine W.pick (.cons (t := 3) rfl (.cons (t := 4) rfl (.cons (t := 6) rfl (.cons (t := 11) rfl (.cons (t := 12) rfl (.cons (t := 13) rfl (.cons (t := 15) rfl (.cons (t := 27) rfl (.cons (t := 28) rfl (.cons (t := 29) rfl (.cons (t := 30) rfl (.cons (t := 31) rfl (.cons (t := 32) rfl (.cons (t := 33) rfl (.cons (t := 34) rfl (.cons (t := 35) rfl (.cons (t := 36) rfl (.cons (t := 37) rfl (.cons (t := 55) rfl (.cons (t := 56) rfl (.cons (t := 57) rfl (.cons (t := 58) rfl (.cons (t := 73) rfl (.cons (t := 74) rfl (.cons (t := 75) rfl (.cons (t := 76) rfl (.cons (t := 77) rfl (.cons (t := 78) rfl (.cons (t := 79) rfl (.cons (t := 80) rfl (.cons (t := 81) rfl (.cons (t := 82) rfl (.cons (t := 83) rfl (.cons (t := 84) rfl (.cons (t := 85) rfl (.cons (t := 86) rfl (.cons (t := 87) rfl (.cons (t := 88) rfl (.cons (t := 89) rfl (.cons (t := 90) rfl (.cons (t := 91) rfl (.cons (t := 92) rfl (.cons (t := 93) rfl (.cons (t := 94) rfl (.cons (t := 95) rfl (.cons (t := 96) rfl (.cons (t := 97) rfl (.cons (t := 98) rfl (.cons (t := 99) rfl (.cons (t := 100) rfl (.cons (t := 101) rfl (.cons (t := 102) rfl (.cons (t := 103) rfl (.cons (t := 104) rfl (.cons (t := 105) rfl .nil))))))))))))))))))))))))))))))))))))))))))))))))))))))) (.cons (t := 103) rfl (.cons (t := 110) rfl (.cons (t := 111) rfl (.cons (t := 112) rfl .nil)))) ?_
                refine W.block ?_
                refine W.loopx1 (fun (i : Nat) => [(4, .own 113), (105, vI (i : Int))]) (fun (i : Nat) => [(113, .data 65 2 ((incK q[m]!.id om i).map eP))]) (fun (i : Nat) => i ≤ om.length) (fun (i : Nat) => om.length - i) (0) (rn [(113, 111)]) (.cons (t := 3) rfl (.cons (t := 6) rfl (.cons (t := 11) rfl (.cons (t := 12) rfl (.cons (t := 13) rfl (.cons (t := 15) rfl (.cons (t := 27) rfl (.cons (t := 28) rfl (.cons (t := 29) rfl (.cons (t := 30) rfl (.cons (t := 31) rfl (.cons (t := 32) rfl (.cons (t := 33) rfl (.cons (t := 34) rfl (.cons (t := 35) rfl (.cons (t := 36) rfl (.cons (t := 37) rfl (.cons (t := 55) rfl (.cons (t := 56) rfl (.cons (t := 57) rfl (.cons (t := 58) rfl (.cons (t := 73) rfl (.cons (t := 74) rfl (.cons (t := 75) rfl (.cons (t := 76) rfl (.cons (t := 77) rfl (.cons (t := 78) rfl (.cons (t := 79) rfl (.cons (t := 80) rfl (.cons (t := 81) rfl (.cons (t := 82) rfl (.cons (t := 83) rfl (.cons (t := 84) rfl (.cons (t := 85) rfl (.cons (t := 86) rfl (.cons (t := 87) rfl (.cons (t := 88) rfl (.cons (t := 89) rfl (.cons (t := 90) rfl (.cons (t := 91) rfl (.cons (t := 92) rfl (.cons (t := 93) rfl (.cons (t := 94) rfl (.cons (t := 95) rfl (.cons (t := 96) rfl (.cons (t := 97) rfl (.cons (t := 98) rfl (.cons (t := 99) rfl (.cons (t := 100) rfl (.cons (t := 101) rfl (.cons (t := 102) rfl (.cons (t := 103) rfl (.cons (t := 104) rfl .nil))))))))))))))))))))))))))))))))))))))))))))))))))))) (.cons (t := 103) rfl (.cons (t := 110) rfl (.cons (t := 112) rfl .nil))) rfl ?_ ?_ rfl rfl ?_ ?_
                · exact (SubF.cons rfl (SubF.cons rfl SubF.nil))
                · exact (SubS.val rfl (by exact sb_data (by rw [incK_0])) SubS.nil)
                · skip
                  omega
                intro i hinv
                have hi := hinv
                have hil := incK_len q[m]!.id om i
                have hig := fun h : i < om.length => incK_get (id := q[m]!.id) h
                have hir := fun h : i < om.length => agreeK_le hv hak h
                refine W.seq ?_
                refine W.region ?_
                refine SL.val (O.det (fun _ => G.R.lss rfl rfl) rfl Taken.no) ?_
                refine SL.nil ?_
                refine E.to ?_
                refine W.pick (.cons (t := 3) rfl (.cons (t := 4) rfl (.cons (t := 6) rfl (.cons (t := 11) rfl (.cons (t := 12) rfl (.cons (t := 13) rfl (.cons (t := 15) rfl (.cons (t := 27) rfl (.cons (t := 28) rfl (.cons (t := 29) rfl (.cons (t := 30) rfl (.cons (t := 31) rfl (.cons (t := 32) rfl (.cons (t := 33) rfl (.cons (t := 34) rfl (.cons (t := 35) rfl (.cons (t := 36) rfl (.cons (t := 37) rfl (.cons (t := 55) rfl (.cons (t := 56) rfl (.cons (t := 57) rfl (.cons (t := 58) rfl (.cons (t := 73) rfl (.cons (t := 74) rfl (.cons (t := 75) rfl (.cons (t := 76) rfl (.cons (t := 77) rfl (.cons (t := 78) rfl (.cons (t := 79) rfl (.cons (t := 80) rfl (.cons (t := 81) rfl (.cons (t := 82) rfl (.cons (t := 83) rfl (.cons (t := 84) rfl (.cons (t := 85) rfl (.cons (t := 86) rfl (.cons (t := 87) rfl (.cons (t := 88) rfl (.cons (t := 89) rfl (.cons (t := 90) rfl (.cons (t := 91) rfl (.cons (t := 92) rfl (.cons (t := 93) rfl (.cons (t := 94) rfl (.cons (t := 95) rfl (.cons (t := 96) rfl (.cons (t := 97) rfl (.cons (t := 98) rfl (.cons (t := 99) rfl (.cons (t := 100) rfl (.cons (t := 101) rfl (.cons (t := 102) rfl (.cons (t := 103) rfl (.cons (t := 104) rfl (.cons (t := 105) rfl (.cons (t := 106) rfl .nil)))))))))))))))))))))))))))))))))))))))))))))))))))))))) (.cons (t := 103) rfl (.cons (t := 110) rfl (.cons (t := 112) rfl (.cons (t := 113) rfl .nil)))) ?_
                refine W.seq ?_
                first | refine W.cond_d rfl (fun hc15 => ?_) (fun hc15 => ?_) | refine W.cond_nd rfl (fun hc15 => ?_) (fun hc15 => ?_) | refine W.cond rfl (fun hc15 => ?_) (fun hc15 => ?_)
                · skip
                  refine W.skip ?_
                  refine E.to ?_
                  refine W.pick (.cons (t := 3) rfl (.cons (t := 4) rfl (.cons (t := 6) rfl (.cons (t := 11) rfl (.cons (t := 12) rfl (.cons (t := 13) rfl (.cons (t := 15) rfl (.cons (t := 27) rfl (.cons (t := 28) rfl (.cons (t := 29) rfl (.cons (t := 30) rfl (.cons (t := 31) rfl (.cons (t := 32) rfl (.cons (t := 33) rfl (.cons (t := 34) rfl (.cons (t := 35) rfl (.cons (t := 36) rfl (.cons (t := 37) rfl (.cons (t := 55) rfl (.cons (t := 56) rfl (.cons (t := 57) rfl (.cons (t := 58) rfl (.cons (t := 73) rfl (.cons (t := 74) rfl (.cons (t := 75) rfl (.cons (t := 76) rfl (.cons (t := 77) rfl (.cons (t := 78) rfl (.cons (t := 79) rfl (.cons (t := 80) rfl (.cons (t := 81) rfl (.cons (t := 82) rfl (.cons (t := 83) rfl (.cons (t := 84) rfl (.cons (t := 85) rfl (.cons (t := 86) rfl (.cons (t := 87) rfl (.cons (t := 88) rfl (.cons (t := 89) rfl (.cons (t := 90) rfl (.cons (t := 91) rfl (.cons (t := 92) rfl (.cons (t := 93) rfl (.cons (t := 94) rfl (.cons (t := 95) rfl (.cons (t := 96) rfl (.cons (t := 97) rfl (.cons (t := 98) rfl (.cons (t := 99) rfl (.cons (t := 100) rfl (.cons (t := 101) rfl (.cons (t := 102) rfl (.cons (t := 103) rfl (.cons (t := 104) rfl (.cons (t := 105) rfl (.cons (t := 106) rfl .nil)))))))))))))))))))))))))))))))))))))))))))))))))))))))) (.cons (t := 103) rfl (.cons (t := 110) rfl (.cons (t := 112) rfl (.cons (t := 113) rfl .nil)))) ?_
                  refine W.seq ?_
                  refine W.block ?_
                  refine W.seq ?_
                  refine W.region ?_
                  refine SL.val (O.move rfl rfl Taken.no) ?_
                  refine SL.val (O.assign rfl rfl Taken.no) ?_
                  refine SL.nil ?_
                  refine E.to ?_
                  refine W.pick (.cons (t := 3) rfl (.cons (t := 4) rfl (.cons (t := 6) rfl (.cons (t := 11) rfl (.cons (t := 12) rfl (.cons (t := 13) rfl (.cons (t := 15) rfl (.cons (t := 16) rfl (.cons (t := 27) rfl (.cons (t := 28) rfl (.cons (t := 29) rfl (.cons (t := 30) rfl (.cons (t := 31) rfl (.cons (t := 32) rfl (.cons (t := 33) rfl (.cons (t := 34) rfl (.cons (t := 35) rfl (.cons (t := 36) rfl (.cons (t := 37) rfl (.cons (t := 55) rfl (.cons (t := 56) rfl (.cons (t := 57) rfl (.cons (t := 58) rfl (.cons (t := 73) rfl (.cons (t := 74) rfl (.cons (t := 75) rfl (.cons (t := 76) rfl (.cons (t := 77) rfl (.cons (t := 78) rfl (.cons (t := 79) rfl (.cons (t := 80) rfl (.cons (t := 81) rfl (.cons (t := 82) rfl (.cons (t := 83) rfl (.cons (t := 84) rfl (.cons (t := 85) rfl (.cons (t := 86) rfl (.cons (t := 87) rfl (.cons (t := 88) rfl (.cons (t := 89) rfl (.cons (t := 90) rfl (.cons (t := 91) rfl (.cons (t := 92) rfl (.cons (t := 93) rfl (.cons (t := 94) rfl (.cons (t := 95) rfl (.cons (t := 96) rfl (.cons (t := 97) rfl (.cons (t := 98) rfl (.cons (t := 99) rfl (.cons (t := 100) rfl (.cons (t := 101) rfl (.cons (t := 102) rfl (.cons (t := 103) rfl (.cons (t := 104) rfl (.cons (t := 105) rfl (.cons (t := 106) rfl (.cons (t := 107) rfl .nil)))))))))))))))))))))))))))))))))))))))))))))))))))))))))) (.cons (t := 103) rfl (.cons (t := 110) rfl (.cons (t := 112) rfl (.cons (t := 113) rfl .nil)))) ?_
                  refine W.seq ?_
                  refine W.draw [⟨[113], [], []⟩, ⟨[], [], []⟩, ⟨[113], [], []⟩, ⟨[113], [], []⟩, ⟨[113], [], []⟩, ⟨[112], [], []⟩, ⟨[112], [], []⟩, ⟨[], [], []⟩] rfl (by kernel_rfl) (by kernel_rfl) rfl rfl ?_
                  refine WH.val (O.move rfl rfl Taken.no) rfl rfl ?_
                  refine WH.val (O.move rfl rfl Taken.no) rfl rfl ?_
                  refine WH.val (O.idx_own rfl rfl rfl (rfl) (by rw [List.length_map, hil]; omega) Try.underlying62 hi65 hs65 rfl Taken.no) rfl rfl ?_
                  refine WH.val (O.idx_el (i := 0) (m := 1) rfl rfl (rfl) (by decide) Try.underlying65 (by kernel_rfl) rfl rfl Taken.no) rfl rfl ?_
                  refine WH.val (O.ld1 (PtI.ofU (PtU.el rfl rfl (row_get (by rw [hil]; omega)))) rfl Try.underlying3 rfl rfl Taken.no) rfl rfl ?_
                  refine WH.val (O.fld_ref (o' := 0) rfl Try.underlying26 rfl (m := 0) (by kernel_rfl) rfl rfl Taken.no) rfl rfl ?_
                  refine WH.val (O.ld1 (PtI.ref rfl rfl) rfl Try.underlying3 rfl rfl Taken.no) rfl rfl ?_
                  refine WH.val (O.det (fun _ => G.R.eql rfl rfl) rfl Taken.no) rfl rfl ?_
                  refine WH.nil ?_
                  refine E.to ?_
                  refine W.pick (.cons (t := 3) rfl (.cons (t := 4) rfl (.cons (t := 6) rfl (.cons (t := 11) rfl (.cons (t := 12) rfl (.cons (t := 13) rfl (.cons (t := 15) rfl (.cons (t := 16) rfl (.cons (t := 27) rfl (.cons (t := 28) rfl (.cons (t := 29) rfl (.cons (t := 30) rfl (.cons (t := 31) rfl (.cons (t := 32) rfl (.cons (t := 33) rfl (.cons (t := 34) rfl (.cons (t := 35) rfl (.cons (t := 36) rfl (.cons (t := 37) rfl (.cons (t := 55) rfl (.cons (t := 56) rfl (.cons (t := 57) rfl (.cons (t := 58) rfl (.cons (t := 73) rfl (.cons (t := 74) rfl (.cons (t := 75) rfl (.cons (t := 76) rfl (.cons (t := 77) rfl (.cons (t := 78) rfl (.cons (t := 79) rfl (.cons (t := 80) rfl (.cons (t := 81) rfl (.cons (t := 82) rfl (.cons (t := 83) rfl (.cons (t := 84) rfl (.cons (t := 85) rfl (.cons (t := 86) rfl (.cons (t := 87) rfl (.cons (t := 88) rfl (.cons (t := 89) rfl (.cons (t := 90) rfl (.cons (t := 91) rfl (.cons (t := 92) rfl (.cons (t := 93) rfl (.cons (t := 94) rfl (.cons (t := 95) rfl (.cons (t := 96) rfl (.cons (t := 97) rfl (.cons (t := 98) rfl (.cons (t := 99) rfl (.cons (t := 100) rfl (.cons (t := 101) rfl (.cons (t := 102) rfl (.cons (t := 103) rfl (.cons (t := 104) rfl (.cons (t := 105) rfl (.cons (t := 106) rfl (.cons (t := 107) rfl (.cons (t := 108) rfl (.cons (t := 109) rfl (.cons (t := 110) rfl (.cons (t := 111) rfl (.cons (t := 112) rfl (.cons (t := 113) rfl (.cons (t := 114) rfl (.cons (t := 115) rfl .nil)))))))))))))))))))))))))))))))))))))))))))))))))))))))))))))))))) (.cons (t := 103) rfl (.cons (t := 110) rfl (.cons (t := 112) rfl (.cons (t := 113) rfl .nil)))) ?_
                  first | refine W.cond_d rfl (fun hc16 => ?_) (fun hc16 => ?_) | refine W.cond_nd rfl (fun hc16 => ?_) (fun hc16 => ?_) | refine W.cond rfl (fun hc16 => ?_) (fun hc16 => ?_)
                  · skip
                    refine W.draw [⟨[113], [], []⟩, ⟨[], [], []⟩, ⟨[113], [], []⟩, ⟨[113], [], []⟩, ⟨[113], [], []⟩, ⟨[], [], []⟩, ⟨[113], [], []⟩, ⟨[113], [], []⟩, ⟨[113], [113], []⟩] rfl (by kernel_rfl) (by kernel_rfl) rfl rfl ?_
                    refine WH.val (O.move rfl rfl Taken.no) rfl rfl ?_
                    refine WH.val (O.move rfl rfl Taken.no) rfl rfl ?_
                    refine WH.val (O.idx_own rfl rfl rfl (rfl) (by rw [List.length_map, hil]; omega) Try.underlying62 hi65 hs65 rfl Taken.no) rfl rfl ?_
                    refine WH.val (O.idx_el (i := 1) (m := 1) rfl rfl (rfl) (by decide) Try.underlying65 (by kernel_rfl) rfl rfl Taken.no) rfl rfl ?_
                    refine WH.val (O.ld1 (PtI.ofU (PtU.el rfl rfl (row_get (by rw [hil]; omega)))) rfl Try.underlying3 rfl rfl Taken.no) rfl rfl ?_
                    refine WH.val (O.det (fun _ => by exact G.R.add64 rfl rfl (by rw [hig (by omega)]; have := hir (by omega); omega)) rfl Taken.no) rfl rfl ?_
                    refine WH.val (O.idx_own rfl rfl rfl (rfl) (by rw [List.length_map, hil]; omega) Try.underlying62 hi65 hs65 rfl Taken.no) rfl rfl ?_
                    refine WH.val (O.idx_el (i := 1) (m := 1) rfl rfl (rfl) (by decide) Try.underlying65 (by kernel_rfl) rfl rfl Taken.no) rfl rfl ?_
                    refine WH.effS (O.st_els (m := 1) rfl rfl rfl (us := [_]) rfl rfl (by kernel_rfl) (by simp) (row_get (by rw [hil]; omega)) (by exact Nat.le_of_ble_eq_true rfl) rfl rfl (rows' := ((incK q[m]!.id om i).set i ((incK q[m]!.id om i)[i]!.1, (incK q[m]!.id om i)[i]!.2 + 1)).map eP) (by exact set_map rfl) Taken.no) rfl rfl rfl (S' := (113, _) :: _) rfl ?_
                    refine WH.nil ?_
                    refine E.inn ?_
                    refine E.to ?_
                    refine W.pick (.cons (t := 3) rfl (.cons (t := 4) rfl (.cons (t := 6) rfl (.cons (t := 11) rfl (.cons (t := 12) rfl (.cons (t := 13) rfl (.cons (t := 15) rfl (.cons (t := 16) rfl (.cons (t := 27) rfl (.cons (t := 28) rfl (.cons (t := 29) rfl (.cons (t := 30) rfl (.cons (t := 31) rfl (.cons (t := 32) rfl (.cons (t := 33) rfl (.cons (t := 34) rfl (.cons (t := 35) rfl (.cons (t := 36) rfl (.cons (t := 37) rfl (.cons (t := 55) rfl (.cons (t := 56) rfl (.cons (t := 57) rfl (.cons (t := 58) rfl (.cons (t := 73) rfl (.cons (t := 74) rfl (.cons (t := 75) rfl (.cons (t := 76) rfl (.cons (t := 77) rfl (.cons (t := 78) rfl (.cons (t := 79) rfl (.cons (t := 80) rfl (.cons (t := 81) rfl (.cons (t := 82) rfl (.cons (t := 83) rfl (.cons (t := 84) rfl (.cons (t := 85) rfl (.cons (t := 86) rfl (.cons (t := 87) rfl (.cons (t := 88) rfl (.cons (t := 89) rfl (.cons (t := 90) rfl (.cons (t := 91) rfl (.cons (t := 92) rfl (.cons (t := 93) rfl (.cons (t := 94) rfl (.cons (t := 95) rfl (.cons (t := 96) rfl (.cons (t := 97) rfl (.cons (t := 98) rfl (.cons (t := 99) rfl (.cons (t := 100) rfl (.cons (t := 101) rfl (.cons (t := 102) rfl (.cons (t := 103) rfl (.cons (t := 104) rfl (.cons (t := 105) rfl (.cons (t := 106) rfl (.cons (t := 107) rfl (.cons (t := 108) rfl (.cons (t := 109) rfl (.cons (t := 110) rfl (.cons (t := 111) rfl (.cons (t := 112) rfl (.cons (t := 113) rfl (.cons (t := 114) rfl (.cons (t := 115) rfl (.cons (t := 116) rfl (.cons (t := 117) rfl (.cons (t := 118) rfl (.cons (t := 119) rfl (.cons (t := 120) rfl (.cons (t := 121) rfl (.cons (t := 122) rfl (.cons (t := 123) rfl .nil)))))))))))))))))))))))))))))))))))))))))))))))))))))))))))))))))))))))))) (.cons (t := 103) rfl (.cons (t := 110) rfl (.cons (t := 112) rfl (.cons (t := 113) rfl .nil)))) ?_
                    refine W.region ?_
                    refine SL.val (O.det (fun _ => by first | exact G.R.add64 rfl rfl (by omega) | exact G.R.add rfl rfl) rfl Taken.no) ?_
                    refine SL.val (O.move rfl rfl Taken.no) ?_
                    refine SL.nil ?_
                    refine E.again ((i + 1)) (rn []) ?_ ?_ rfl (fixL_spec rfl) ?_ ?_
                    · exact (SubF.cons rfl (SubF.cons rfl (SubF.cons rfl (SubF.cons rfl (SubF.cons rfl (SubF.cons rfl (SubF.cons rfl (SubF.cons rfl (SubF.cons rfl (SubF.cons rfl (SubF.cons rfl (SubF.cons rfl (SubF.cons rfl (SubF.cons rfl (SubF.cons rfl (SubF.cons rfl (SubF.cons rfl (SubF.cons rfl (SubF.cons rfl (SubF.cons rfl (SubF.cons rfl (SubF.cons rfl (SubF.cons rfl (SubF.cons rfl (SubF.cons rfl (SubF.cons rfl (SubF.cons rfl (SubF.cons rfl (SubF.cons rfl (SubF.cons rfl (SubF.cons rfl (SubF.cons rfl (SubF.cons rfl (SubF.cons rfl (SubF.cons rfl (SubF.cons rfl (SubF.cons rfl (SubF.cons rfl (SubF.cons rfl (SubF.cons rfl (SubF.cons rfl (SubF.cons rfl (SubF.cons rfl (SubF.cons rfl (SubF.cons rfl (SubF.cons rfl (SubF.cons rfl (SubF.cons rfl (SubF.cons rfl (SubF.cons rfl (SubF.cons rfl (SubF.cons rfl (SubF.cons rfl (SubF.cons rfl (SubF.cons rfl SubF.nil)))))))))))))))))))))))))))))))))))))))))))))))))))))))
                    · exact (SubS.val rfl (by (try dsimp only); first | exact sb_data (by rw [incK_succ (by omega), incE, if_pos (by rw [← hig (by omega)]; assumption), hig (by omega)]) | exact sb_data (by rw [incK_no (by omega) (by rw [← hig (by omega)]; assumption)])) (SubS.cons rfl (SubS.cons rfl (SubS.cons rfl SubS.nil))))
                    · try dsimp only
                      omega
                    · (try dsimp only); omega
                  · skip
                    refine W.skip ?_
                    refine E.inn ?_
                    refine E.to ?_
                    refine W.pick (.cons (t := 3) rfl (.cons (t := 4) rfl (.cons (t := 6) rfl (.cons (t := 11) rfl (.cons (t := 12) rfl (.cons (t := 13) rfl (.cons (t := 15) rfl (.cons (t := 16) rfl (.cons (t := 27) rfl (.cons (t := 28) rfl (.cons (t := 29) rfl (.cons (t := 30) rfl (.cons (t := 31) rfl (.cons (t := 32) rfl (.cons (t := 33) rfl (.cons (t := 34) rfl (.cons (t := 35) rfl (.cons (t := 36) rfl (.cons (t := 37) rfl (.cons (t := 55) rfl (.cons (t := 56) rfl (.cons (t := 57) rfl (.cons (t := 58) rfl (.cons (t := 73) rfl (.cons (t := 74) rfl (.cons (t := 75) rfl (.cons (t := 76) rfl (.cons (t := 77) rfl (.cons (t := 78) rfl (.cons (t := 79) rfl (.cons (t := 80) rfl (.cons (t := 81) rfl (.cons (t := 82) rfl (.cons (t := 83) rfl (.cons (t := 84) rfl (.cons (t := 85) rfl (.cons (t := 86) rfl (.cons (t := 87) rfl (.cons (t := 88) rfl (.cons (t := 89) rfl (.cons (t := 90) rfl (.cons (t := 91) rfl (.cons (t := 92) rfl (.cons (t := 93) rfl (.cons (t := 94) rfl (.cons (t := 95) rfl (.cons (t := 96) rfl (.cons (t := 97) rfl (.cons (t := 98) rfl (.cons (t := 99) rfl (.cons (t := 100) rfl (.cons (t := 101) rfl (.cons (t := 102) rfl (.cons (t := 103) rfl (.cons (t := 104) rfl (.cons (t := 105) rfl (.cons (t := 106) rfl (.cons (t := 107) rfl (.cons (t := 108) rfl (.cons (t := 109) rfl (.cons (t := 110) rfl (.cons (t := 111) rfl (.cons (t := 112) rfl (.cons (t := 113) rfl (.cons (t := 114) rfl (.cons (t := 115) rfl .nil)))))))))))))))))))))))))))))))))))))))))))))))))))))))))))))))))) (.cons (t := 103) rfl (.cons (t := 110) rfl (.cons (t := 112) rfl (.cons (t := 113) rfl .nil)))) ?_
                    refine W.region ?_
                    refine SL.val (O.det (fun _ => by first | exact G.R.add64 rfl rfl (by omega) | exact G.R.add rfl rfl) rfl Taken.no) ?_
                    refine SL.val (O.move rfl rfl Taken.no) ?_
                    refine SL.nil ?_
                    refine E.again ((i + 1)) (rn []) ?_ ?_ rfl (fixL_spec rfl) ?_ ?_
                    · exact (SubF.cons rfl (SubF.cons rfl (SubF.cons rfl (SubF.cons rfl (SubF.cons rfl (SubF.cons rfl (SubF.cons rfl (SubF.cons rfl (SubF.cons rfl (SubF.cons rfl (SubF.cons rfl (SubF.cons rfl (SubF.cons rfl (SubF.cons rfl (SubF.cons rfl (SubF.cons rfl (SubF.cons rfl (SubF.cons rfl (SubF.cons rfl (SubF.cons rfl (SubF.cons rfl (SubF.cons rfl (SubF.cons rfl (SubF.cons rfl (SubF.cons rfl (SubF.cons rfl (SubF.cons rfl (SubF.cons rfl (SubF.cons rfl (SubF.cons rfl (SubF.cons rfl (SubF.cons rfl (SubF.cons rfl (SubF.cons rfl (SubF.cons rfl (SubF.cons rfl (SubF.cons rfl (SubF.cons rfl (SubF.cons rfl (SubF.cons rfl (SubF.cons rfl (SubF.cons rfl (SubF.cons rfl (SubF.cons rfl (SubF.cons rfl (SubF.cons rfl (SubF.cons rfl (SubF.cons rfl (SubF.cons rfl (SubF.cons rfl (SubF.cons rfl (SubF.cons rfl (SubF.cons rfl (SubF.cons rfl (SubF.cons rfl SubF.nil)))))))))))))))))))))))))))))))))))))))))))))))))))))))
                    · exact (SubS.val rfl (by (try dsimp only); first | exact sb_data (by rw [incK_succ (by omega), incE, if_pos (by rw [← hig (by omega)]; assumption), hig (by omega)]) | exact sb_data (by rw [incK_no (by omega) (by rw [← hig (by omega)]; assumption)])) (SubS.cons rfl (SubS.cons rfl (SubS.cons rfl SubS.nil))))
                    · try dsimp only
                      omega
                    · (try dsimp only); omega
                · skip
                  refine W.exit ?_
                  refine E.th ?_
                  refine E.th ?_
                  refine E.hit ?_
                  refine E.inn ?_
                  refine E.to ?_
                  refine W.pick (.cons (t := 3) rfl (.cons (t := 4) rfl (.cons (t := 6) rfl (.cons (t := 11) rfl (.cons (t := 12) rfl (.cons (t := 13) rfl (.cons (t := 15) rfl (.cons (t := 27) rfl (.cons (t := 28) rfl (.cons (t := 29) rfl (.cons (t := 30) rfl (.cons (t := 31) rfl (.cons (t := 32) rfl (.cons (t := 33) rfl (.cons (t := 34) rfl (.cons (t := 35) rfl (.cons (t := 36) rfl (.cons (t := 37) rfl (.cons (t := 55) rfl (.cons (t := 56) rfl (.cons (t := 57) rfl (.cons (t := 58) rfl (.cons (t := 73) rfl (.cons (t := 74) rfl (.cons (t := 75) rfl (.cons (t := 76) rfl (.cons (t := 77) rfl (.cons (t := 78) rfl (.cons (t := 79) rfl (.cons (t := 80) rfl (.cons (t := 81) rfl (.cons (t := 82) rfl (.cons (t := 83) rfl (.cons (t := 84) rfl (.cons (t := 85) rfl (.cons (t := 86) rfl (.cons (t := 87) rfl (.cons (t := 88) rfl (.cons (t := 89) rfl (.cons (t := 90) rfl (.cons (t := 91) rfl (.cons (t := 92) rfl (.cons (t := 93) rfl (.cons (t := 94) rfl (.cons (t := 95) rfl (.cons (t := 96) rfl (.cons (t := 97) rfl (.cons (t := 98) rfl (.cons (t := 99) rfl (.cons (t := 100) rfl (.cons (t := 101) rfl (.cons (t := 102) rfl (.cons (t := 103) rfl (.cons (t := 104) rfl (.cons (t := 105) rfl (.cons (t := 106) rfl .nil)))))))))))))))))))))))))))))))))))))))))))))))))))))))) (.cons (t := 103) rfl (.cons (t := 110) rfl (.cons (t := 112) rfl (.cons (t := 113) rfl .nil)))) ?_
                  refine W.region ?_
                  refine SL.val (O.det (fun _ => by first | exact G.R.add64 rfl rfl (by omega) | exact G.R.add rfl rfl) rfl Taken.no) ?_
                  refine SL.val (O.move rfl rfl Taken.no) ?_
                  refine SL.nil ?_
                  refine E.again ((m + 1), (incO q[m]!.id om)) (rn [(111, 113)]) ?_ ?_ rfl (fixL_spec rfl) ?_ ?_
                  · exact (SubF.cons rfl (SubF.cons rfl (SubF.cons rfl (SubF.cons rfl (SubF.cons rfl (SubF.cons rfl (SubF.cons rfl (SubF.cons rfl (SubF.cons rfl (SubF.cons rfl (SubF.cons rfl (SubF.cons rfl (SubF.cons rfl (SubF.cons rfl (SubF.cons rfl (SubF.cons rfl (SubF.cons rfl (SubF.cons rfl (SubF.cons rfl (SubF.cons rfl (SubF.cons rfl (SubF.cons rfl (SubF.cons rfl (SubF.cons rfl (SubF.cons rfl (SubF.cons rfl (SubF.cons rfl (SubF.cons rfl (SubF.cons rfl (SubF.cons rfl (SubF.cons rfl (SubF.cons rfl (SubF.cons rfl (SubF.cons rfl (SubF.cons rfl (SubF.cons rfl (SubF.cons rfl (SubF.cons rfl (SubF.cons rfl (SubF.cons rfl (SubF.cons rfl (SubF.cons rfl (SubF.cons rfl (SubF.cons rfl SubF.nil))))))))))))))))))))))))))))))))))))))))))))
                  · exact (SubS.val rfl (by (try dsimp only); first | rfl | exact sb_data (by obtain rfl : i = om.length := (by omega); rw [incK_all])) (SubS.cons rfl (SubS.cons rfl SubS.nil)))
                  · try dsimp only
                    exact ⟨by omega, by rw [incO, List.length_map]; omega, agreeK_yes hv (by omega) hear hak⟩
                  · (try dsimp only); omega
            · skip
              refine W.exit ?_
              refine E.th ?_
              refine E.th ?_
              refine E.hit ?_
              refine E.to ?_
              refine W.pick (.cons (t := 3) rfl (.cons (t := 4) rfl (.cons (t := 6) rfl (.cons (t := 11) rfl (.cons (t := 12) rfl (.cons (t := 13) rfl (.cons (t := 27) rfl (.cons (t := 28) rfl (.cons (t := 29) rfl (.cons (t := 30) rfl (.cons (t := 31) rfl (.cons (t := 32) rfl (.cons (t := 33) rfl (.cons (t := 34) rfl (.cons (t := 35) rfl (.cons (t := 36) rfl (.cons (t := 37) rfl (.cons (t := 55) rfl (.cons (t := 56) rfl (.cons (t := 57) rfl (.cons (t := 58) rfl (.cons (t := 73) rfl (.cons (t := 74) rfl (.cons (t := 75) rfl (.cons (t := 76) rfl (.cons (t := 77) rfl (.cons (t := 78) rfl (.cons (t := 79) rfl (.cons (t := 80) rfl (.cons (t := 81) rfl (.cons (t := 82) rfl (.cons (t := 83) rfl (.cons (t := 84) rfl (.cons (t := 85) rfl (.cons (t := 86) rfl (.cons (t := 87) rfl (.cons (t := 88) rfl (.cons (t := 89) rfl (.cons (t := 90) rfl (.cons (t := 91) rfl (.cons (t := 92) rfl (.cons (t := 93) rfl (.cons (t := 94) rfl (.cons (t := 95) rfl (.cons (t := 96) rfl .nil))))))))))))))))))))))))))))))))))))))))))))) (.cons (t := 103) rfl (.cons (t := 110) rfl (.cons (t := 111) rfl .nil))) ?_
              refine W.seq ?_
              refine W.region ?_
              obtain rfl : m = q.length := by omega
              rw [nextH_yes ⟨hv, hl⟩] at hak
              have hag2 := agree_srv hv hn hak
              have hv2 := srv_valid hv hl
              rw [← nextH_yes ⟨hv, hl⟩] at hag2
              have hl2 := wo_len (nextH q).id om
              refine SL.val (O.move rfl rfl Taken.no) ?_
              refine SL.val (O.fld_ref (o' := 0) rfl Try.underlying26 rfl (m := 0) (by kernel_rfl) rfl rfl Taken.no) ?_
              refine SL.val (O.ld1 (PtI.ref rfl rfl) rfl Try.underlying3 rfl rfl Taken.no) ?_
              refine SL.memS (O.call (rn [(0, 114)]) [111] rfl rfl rfl (without_h (o := om) (nextH q).id (by omega)) (.cons (ArgOk.own rfl rfl) (.cons (ArgOk.same rfl) .nil)) SubS.nil rfl rfl rfl rfl rfl (.inr ⟨rfl, fun x hx => by rw [List.mem_singleton] at hx; subst hx; exact flatP_eP⟩) hcallOk30 (r' := .own 114) rfl rfl Taken.no) rfl rfl (S' := (114, .data _ _ _) :: _) rfl ?_
              refine SL.val (O.assign rfl rfl Taken.no) ?_
              refine SL.nil ?_
              refine E.to ?_
              refine W.pick (.cons (t := 3) rfl (.cons (t := 4) rfl (.cons (t := 6) rfl (.cons (t := 11) rfl (.cons (t := 12) rfl (.cons (t := 13) rfl (.cons (t := 27) rfl (.cons (t := 28) rfl (.cons (t := 29) rfl (.cons (t := 30) rfl (.cons (t := 31) rfl (.cons (t := 32) rfl (.cons (t := 33) rfl (.cons (t := 34) rfl (.cons (t := 35) rfl (.cons (t := 36) rfl (.cons (t := 37) rfl (.cons (t := 55) rfl (.cons (t := 56) rfl (.cons (t := 57) rfl (.cons (t := 58) rfl (.cons (t := 73) rfl (.cons (t := 74) rfl (.cons (t := 75) rfl (.cons (t := 76) rfl (.cons (t := 77) rfl (.cons (t := 78) rfl (.cons (t := 79) rfl (.cons (t := 80) rfl (.cons (t := 81) rfl (.cons (t := 82) rfl (.cons (t := 83) rfl (.cons (t := 84) rfl (.cons (t := 85) rfl (.cons (t := 86) rfl (.cons (t := 87) rfl (.cons (t := 88) rfl (.cons (t := 89) rfl (.cons (t := 90) rfl (.cons (t := 91) rfl (.cons (t := 92) rfl (.cons (t := 93) rfl (.cons (t := 94) rfl (.cons (t := 95) rfl (.cons (t := 96) rfl (.cons (t := 126) rfl (.cons (t := 127) rfl (.cons (t := 128) rfl (.cons (t := 129) rfl .nil))))))))))))))))))))))))))))))))))))))))))))))))) (.cons (t := 103) rfl (.cons (t := 110) rfl (.cons (t := 111) rfl (.cons (t := 114) rfl .nil)))) ?_
              refine W.region ?_
              refine SL.val (O.move rfl rfl Taken.no) ?_
              refine SL.val (O.assign rfl rfl Taken.no) ?_
              refine SL.nil ?_
              refine E.inn ?_
              refine E.to ?_
              refine W.pick (.cons (t := 3) rfl (.cons (t := 4) rfl (.cons (t := 6) rfl (.cons (t := 11) rfl (.cons (t := 12) rfl (.cons (t := 13) rfl (.cons (t := 27) rfl (.cons (t := 28) rfl (.cons (t := 29) rfl (.cons (t := 30) rfl (.cons (t := 31) rfl (.cons (t := 32) rfl (.cons (t := 33) rfl (.cons (t := 34) rfl (.cons (t := 35) rfl (.cons (t := 36) rfl (.cons (t := 37) rfl (.cons (t := 55) rfl (.cons (t := 56) rfl (.cons (t := 57) rfl (.cons (t := 58) rfl (.cons (t := 73) rfl (.cons (t := 74) rfl (.cons (t := 75) rfl (.cons (t := 76) rfl (.cons (t := 77) rfl (.cons (t := 78) rfl (.cons (t := 79) rfl (.cons (t := 80) rfl (.cons (t := 81) rfl (.cons (t := 82) rfl (.cons (t := 83) rfl (.cons (t := 84) rfl (.cons (t := 85) rfl (.cons (t := 86) rfl (.cons (t := 87) rfl (.cons (t := 88) rfl (.cons (t := 89) rfl (.cons (t := 90) rfl (.cons (t := 91) rfl (.cons (t := 92) rfl (.cons (t := 93) rfl (.cons (t := 94) rfl (.cons (t := 95) rfl (.cons (t := 96) rfl (.cons (t := 126) rfl (.cons (t := 127) rfl (.cons (t := 128) rfl (.cons (t := 129) rfl (.cons (t := 130) rfl .nil)))))))))))))))))))))))))))))))))))))))))))))))))) (.cons (t := 103) rfl (.cons (t := 110) rfl (.cons (t := 111) rfl (.cons (t := 114) rfl .nil)))) ?_
              refine W.seq ?_
              refine W.region ?_
              refine SL.val (O.move rfl rfl Taken.no) ?_
              refine SL.val (O.lenE (SlOf.own rfl rfl) (by first | exact List.length_map _ | rfl) Try.underlying62 rfl Taken.no) ?_
              refine SL.val (O.move rfl rfl Taken.no) ?_
              refine SL.nil ?_
              refine E.to ?_
              refine W.pick (.cons (t := 3) rfl (.cons (t := 4) rfl (.cons (t := 6) rfl (.cons (t := 11) rfl (.cons (t := 12) rfl (.cons (t := 13) rfl (.cons (t := 27) rfl (.cons (t := 28) rfl (.cons (t := 29) rfl (.cons (t := 30) rfl (.cons (t := 31) rfl (.cons (t := 32) rfl (.cons (t := 33) rfl (.cons (t := 34) rfl (.cons (t := 35) rfl (.cons (t := 36) rfl (.cons (t := 37) rfl (.cons (t := 55) rfl (.cons (t := 56) rfl (.cons (t := 57) rfl (.cons (t := 58) rfl (.cons (t := 73) rfl (.cons (t := 74) rfl (.cons (t := 75) rfl (.cons (t := 76) rfl (.cons (t := 77) rfl (.cons (t := 78) rfl (.cons (t := 79) rfl (.cons (t := 80) rfl (.cons (t := 81) rfl (.cons (t := 82) rfl (.cons (t := 83) rfl (.cons (t := 84) rfl (.cons (t := 85) rfl (.cons (t := 86) rfl (.cons (t := 87) rfl (.cons (t := 88) rfl (.cons (t := 89) rfl (.cons (t := 90) rfl (.cons (t := 91) rfl (.cons (t := 92) rfl (.cons (t := 93) rfl (.cons (t := 94) rfl (.cons (t := 95) rfl (.cons (t := 96) rfl (.cons (t := 126) rfl (.cons (t := 127) rfl (.cons (t := 128) rfl (.cons (t := 129) rfl (.cons (t := 130) rfl (.cons (t := 131) rfl (.cons (t := 132) rfl (.cons (t := 133) rfl .nil))))))))))))))))))))))))))))))))))))))))))))))))))))) (.cons (t := 103) rfl (.cons (t := 110) rfl (.cons (t := 111) rfl (.cons (t := 114) rfl .nil)))) ?_
              refine W.block ?_
              refine W.loopx1 (fun (i : Nat) => [(133, vI (i : Int))]) (fun (i : Nat) => []) (fun (i : Nat) => i ≤ ((wo (nextH q).id om)).length) (fun (i : Nat) => ((wo (nextH q).id om)).length - i) (0) (rn []) (.cons (t := 3) rfl (.cons (t := 4) rfl (.cons (t := 6) rfl (.cons (t := 11) rfl (.cons (t := 12) rfl (.cons (t := 13) rfl (.cons (t := 27) rfl (.cons (t := 28) rfl (.cons (t := 29) rfl (.cons (t := 30) rfl (.cons (t := 31) rfl (.cons (t := 32) rfl (.cons (t := 33) rfl (.cons (t := 34) rfl (.cons (t := 35) rfl (.cons (t := 36) rfl (.cons (t := 37) rfl (.cons (t := 55) rfl (.cons (t := 56) rfl (.cons (t := 57) rfl (.cons (t := 58) rfl (.cons (t := 73) rfl (.cons (t := 74) rfl (.cons (t := 75) rfl (.cons (t := 76) rfl (.cons (t := 77) rfl (.cons (t := 78) rfl (.cons (t := 79) rfl (.cons (t := 80) rfl (.cons (t := 81) rfl (.cons (t := 82) rfl (.cons (t := 83) rfl (.cons (t := 84) rfl (.cons (t := 85) rfl (.cons (t := 86) rfl (.cons (t := 87) rfl (.cons (t := 88) rfl (.cons (t := 89) rfl (.cons (t := 90) rfl (.cons (t := 91) rfl (.cons (t := 92) rfl (.cons (t := 93) rfl (.cons (t := 94) rfl (.cons (t := 95) rfl (.cons (t := 96) rfl (.cons (t := 126) rfl (.cons (t := 127) rfl (.cons (t := 128) rfl (.cons (t := 129) rfl (.cons (t := 130) rfl (.cons (t := 131) rfl (.cons (t := 132) rfl .nil)))))))))))))))))))))))))))))))))))))))))))))))))))) (.cons (t := 103) rfl (.cons (t := 110) rfl (.cons (t := 111) rfl (.cons (t := 114) rfl .nil)))) rfl ?_ ?_ rfl rfl ?_ ?_
              · exact (SubF.cons rfl SubF.nil)
              · exact SubS.nil
              · skip
                omega
              intro i hinv
              have hi := hinv
              refine W.seq ?_
              refine W.region ?_
              refine SL.val (O.det (fun _ => G.R.lss rfl rfl) rfl Taken.no) ?_
              refine SL.nil ?_
              refine E.to ?_
              refine W.pick (.cons (t := 3) rfl (.cons (t := 4) rfl (.cons (t := 6) rfl (.cons (t := 11) rfl (.cons (t := 12) rfl (.cons (t := 13) rfl (.cons (t := 27) rfl (.cons (t := 28) rfl (.cons (t := 29) rfl (.cons (t := 30) rfl (.cons (t := 31) rfl (.cons (t := 32) rfl (.cons (t := 33) rfl (.cons (t := 34) rfl (.cons (t := 35) rfl (.cons (t := 36) rfl (.cons (t := 37) rfl (.cons (t := 55) rfl (.cons (t := 56) rfl (.cons (t := 57) rfl (.cons (t := 58) rfl (.cons (t := 73) rfl (.cons (t := 74) rfl (.cons (t := 75) rfl (.cons (t := 76) rfl (.cons (t := 77) rfl (.cons (t := 78) rfl (.cons (t := 79) rfl (.cons (t := 80) rfl (.cons (t := 81) rfl (.cons (t := 82) rfl (.cons (t := 83) rfl (.cons (t := 84) rfl (.cons (t := 85) rfl (.cons (t := 86) rfl (.cons (t := 87) rfl (.cons (t := 88) rfl (.cons (t := 89) rfl (.cons (t := 90) rfl (.cons (t := 91) rfl (.cons (t := 92) rfl (.cons (t := 93) rfl (.cons (t := 94) rfl (.cons (t := 95) rfl (.cons (t := 96) rfl (.cons (t := 126) rfl (.cons (t := 127) rfl (.cons (t := 128) rfl (.cons (t := 129) rfl (.cons (t := 130) rfl (.cons (t := 131) rfl (.cons (t := 132) rfl (.cons (t := 133) rfl (.cons (t := 134) rfl .nil)))))))))))))))))))))))))))))))))))))))))))))))))))))) (.cons (t := 103) rfl (.cons (t := 110) rfl (.cons (t := 111) rfl (.cons (t := 114) rfl .nil)))) ?_
              refine W.seq ?_
              first | refine W.cond_d rfl (fun hc17 => ?_) (fun hc17 => ?_) | refine W.cond_nd rfl (fun hc17 => ?_) (fun hc17 => ?_) | refine W.cond rfl (fun hc17 => ?_) (fun hc17 => ?_)
              · skip
                refine W.skip ?_
                refine E.to ?_
                refine W.pick (.cons (t := 3) rfl (.cons (t := 4) rfl (.cons (t := 6) rfl (.cons (t := 11) rfl (.cons (t := 12) rfl (.cons (t := 13) rfl (.cons (t := 27) rfl (.cons (t := 28) rfl (.cons (t := 29) rfl (.cons (t := 30) rfl (.cons (t := 31) rfl (.cons (t := 32) rfl (.cons (t := 33) rfl (.cons (t := 34) rfl (.cons (t := 35) rfl (.cons (t := 36) rfl (.cons (t := 37) rfl (.cons (t := 55) rfl (.cons (t := 56) rfl (.cons (t := 57) rfl (.cons (t := 58) rfl (.cons (t := 73) rfl (.cons (t := 74) rfl (.cons (t := 75) rfl (.cons (t := 76) rfl (.cons (t := 77) rfl (.cons (t := 78) rfl (.cons (t := 79) rfl (.cons (t := 80) rfl (.cons (t := 81) rfl (.cons (t := 82) rfl (.cons (t := 83) rfl (.cons (t := 84) rfl (.cons (t := 85) rfl (.cons (t := 86) rfl (.cons (t := 87) rfl (.cons (t := 88) rfl (.cons (t := 89) rfl (.cons (t := 90) rfl (.cons (t := 91) rfl (.cons (t := 92) rfl (.cons (t := 93) rfl (.cons (t := 94) rfl (.cons (t := 95) rfl (.cons (t := 96) rfl (.cons (t := 126) rfl (.cons (t := 127) rfl (.cons (t := 128) rfl (.cons (t := 129) rfl (.cons (t := 130) rfl (.cons (t := 131) rfl (.cons (t := 132) rfl (.cons (t := 133) rfl (.cons (t := 134) rfl .nil)))))))))))))))))))))))))))))))))))))))))))))))))))))) (.cons (t := 103) rfl (.cons (t := 110) rfl (.cons (t := 111) rfl (.cons (t := 114) rfl .nil)))) ?_
                refine W.seq ?_
                refine W.block ?_
                refine W.seq ?_
                refine W.region ?_
                refine SL.val (O.idx_own rfl rfl rfl (rfl) (by rw [List.length_map]; omega) Try.underlying62 hi65 hs65 rfl Taken.no) ?_
                refine SL.val (O.ldU (m := 2) (PtU.el rfl rfl (row_get (by omega))) rfl Try.underlying65 rfl (by kernel_rfl) rfl Taken.no) ?_
                refine SL.memS (O.alloc (z := .agg #[.int .i64 0, .int .i64 0]) (is := [.u (.sc (.int .i64 0)), .u (.sc (.int .i64 0))]) 115 (by kernel_rfl) rfl rfl rfl Taken.no) rfl rfl (S' := (115, _) :: _) rfl ?_
                refine SL.effS (O.st_ref (m := 2) rfl rfl rfl (js := [_, _]) rfl rfl (by kernel_rfl) (by simp) (Nat.le_of_ble_eq_true rfl) rfl (is' := [_, _]) rfl Taken.no) (S' := (115, _) :: _) rfl ?_
                refine SL.nil ?_
                refine E.to ?_
                refine W.pick (.cons (t := 3) rfl (.cons (t := 4) rfl (.cons (t := 6) rfl (.cons (t := 11) rfl (.cons (t := 12) rfl (.cons (t := 13) rfl (.cons (t := 18) rfl (.cons (t := 27) rfl (.cons (t := 28) rfl (.cons (t := 29) rfl (.cons (t := 30) rfl (.cons (t := 31) rfl (.cons (t := 32) rfl (.cons (t := 33) rfl (.cons (t := 34) rfl (.cons (t := 35) rfl (.cons (t := 36) rfl (.cons (t := 37) rfl (.cons (t := 55) rfl (.cons (t := 56) rfl (.cons (t := 57) rfl (.cons (t := 58) rfl (.cons (t := 73) rfl (.cons (t := 74) rfl (.cons (t := 75) rfl (.cons (t := 76) rfl (.cons (t := 77) rfl (.cons (t := 78) rfl (.cons (t := 79) rfl (.cons (t := 80) rfl (.cons (t := 81) rfl (.cons (t := 82) rfl (.cons (t := 83) rfl (.cons (t := 84) rfl (.cons (t := 85) rfl (.cons (t := 86) rfl (.cons (t := 87) rfl (.cons (t := 88) rfl (.cons (t := 89) rfl (.cons (t := 90) rfl (.cons (t := 91) rfl (.cons (t := 92) rfl (.cons (t := 93) rfl (.cons (t := 94) rfl (.cons (t := 95) rfl (.cons (t := 96) rfl (.cons (t := 126) rfl (.cons (t := 127) rfl (.cons (t := 128) rfl (.cons (t := 129) rfl (.cons (t := 130) rfl (.cons (t := 131) rfl (.cons (t := 132) rfl (.cons (t := 133) rfl (.cons (t := 134) rfl (.cons (t := 135) rfl (.cons (t := 136) rfl .nil))))))))))))))))))))))))))))))))))))))))))))))))))))))))) (.cons (t := 103) rfl (.cons (t := 110) rfl (.cons (t := 111) rfl (.cons (t := 114) rfl (.cons (t := 115) rfl .nil))))) ?_
                refine W.seq ?_
                refine W.region ?_
                refine SL.val (O.idx_ref (i := 1) (m := 1) rfl rfl (rfl) (by decide) Try.underlying65 (by kernel_rfl) rfl rfl Taken.no) ?_
                refine SL.val (O.ld1 (PtI.ref rfl rfl) rfl Try.underlying3 rfl rfl Taken.no) ?_
                refine SL.val (O.det (fun _ => G.R.mv (G.R.gtr rfl rfl) (congrArg Value.bool (decide_eq_false (by have := agree_le hv2 hag2 (k := i) (by omega); omega)))) rfl Taken.no) ?_
                refine SL.nil ?_
                refine E.to ?_
                refine W.pick (.cons (t := 3) rfl (.cons (t := 4) rfl (.cons (t := 6) rfl (.cons (t := 11) rfl (.cons (t := 12) rfl (.cons (t := 13) rfl (.cons (t := 18) rfl (.cons (t := 27) rfl (.cons (t := 28) rfl (.cons (t := 29) rfl (.cons (t := 30) rfl (.cons (t := 31) rfl (.cons (t := 32) rfl (.cons (t := 33) rfl (.cons (t := 34) rfl (.cons (t := 35) rfl (.cons (t := 36) rfl (.cons (t := 37) rfl (.cons (t := 55) rfl (.cons (t := 56) rfl (.cons (t := 57) rfl (.cons (t := 58) rfl (.cons (t := 73) rfl (.cons (t := 74) rfl (.cons (t := 75) rfl (.cons (t := 76) rfl (.cons (t := 77) rfl (.cons (t := 78) rfl (.cons (t := 79) rfl (.cons (t := 80) rfl (.cons (t := 81) rfl (.cons (t := 82) rfl (.cons (t := 83) rfl (.cons (t := 84) rfl (.cons (t := 85) rfl (.cons (t := 86) rfl (.cons (t := 87) rfl (.cons (t := 88) rfl (.cons (t := 89) rfl (.cons (t := 90) rfl (.cons (t := 91) rfl (.cons (t := 92) rfl (.cons (t := 93) rfl (.cons (t := 94) rfl (.cons (t := 95) rfl (.cons (t := 96) rfl (.cons (t := 126) rfl (.cons (t := 127) rfl (.cons (t := 128) rfl (.cons (t := 129) rfl (.cons (t := 130) rfl (.cons (t := 131) rfl (.cons (t := 132) rfl (.cons (t := 133) rfl (.cons (t := 134) rfl (.cons (t := 135) rfl (.cons (t := 136) rfl (.cons (t := 137) rfl (.cons (t := 138) rfl (.cons (t := 139) rfl .nil)))))))))))))))))))))))))))))))))))))))))))))))))))))))))))) (.cons (t := 103) rfl (.cons (t := 110) rfl (.cons (t := 111) rfl (.cons (t := 114) rfl (.cons (t := 115) rfl .nil))))) ?_
                refine W.cond_f rfl ?_
                refine W.skip ?_
                refine E.inn ?_
                refine E.to ?_
                refine W.pick (.cons (t := 3) rfl (.cons (t := 4) rfl (.cons (t := 6) rfl (.cons (t := 11) rfl (.cons (t := 12) rfl (.cons (t := 13) rfl (.cons (t := 18) rfl (.cons (t := 27) rfl (.cons (t := 28) rfl (.cons (t := 29) rfl (.cons (t := 30) rfl (.cons (t := 31) rfl (.cons (t := 32) rfl (.cons (t := 33) rfl (.cons (t := 34) rfl (.cons (t := 35) rfl (.cons (t := 36) rfl (.cons (t := 37) rfl (.cons (t := 55) rfl (.cons (t := 56) rfl (.cons (t := 57) rfl (.cons (t := 58) rfl (.cons (t := 73) rfl (.cons (t := 74) rfl (.cons (t := 75) rfl (.cons (t := 76) rfl (.cons (t := 77) rfl (.cons (t := 78) rfl (.cons (t := 79) rfl (.cons (t := 80) rfl (.cons (t := 81) rfl (.cons (t := 82) rfl (.cons (t := 83) rfl (.cons (t := 84) rfl (.cons (t := 85) rfl (.cons (t := 86) rfl (.cons (t := 87) rfl (.cons (t := 88) rfl (.cons (t := 89) rfl (.cons (t := 90) rfl (.cons (t := 91) rfl (.cons (t := 92) rfl (.cons (t := 93) rfl (.cons (t := 94) rfl (.cons (t := 95) rfl (.cons (t := 96) rfl (.cons (t := 126) rfl (.cons (t := 127) rfl (.cons (t := 128) rfl (.cons (t := 129) rfl (.cons (t := 130) rfl (.cons (t := 131) rfl (.cons (t := 132) rfl (.cons (t := 133) rfl (.cons (t := 134) rfl (.cons (t := 135) rfl (.cons (t := 136) rfl (.cons (t := 137) rfl (.cons (t := 138) rfl (.cons (t := 139) rfl .nil)))))))))))))))))))))))))))))))))))))))))))))))))))))))))))) (.cons (t := 103) rfl (.cons (t := 110) rfl (.cons (t := 111) rfl (.cons (t := 114) rfl (.cons (t := 115) rfl .nil))))) ?_
                refine W.region ?_
                refine SL.val (O.det (fun _ => by first | exact G.R.add64 rfl rfl (by omega) | exact G.R.add rfl rfl) rfl Taken.no) ?_
                refine SL.val (O.move rfl rfl Taken.no) ?_
                refine SL.nil ?_
                refine E.again ((i + 1)) (rn []) ?_ ?_ rfl (fixL_spec rfl) ?_ ?_
                · exact (SubF.cons rfl (SubF.cons rfl (SubF.cons rfl (SubF.cons rfl (SubF.cons rfl (SubF.cons rfl (SubF.cons rfl (SubF.cons rfl (SubF.cons rfl (SubF.cons rfl (SubF.cons rfl (SubF.cons rfl (SubF.cons rfl (SubF.cons rfl (SubF.cons rfl (SubF.cons rfl (SubF.cons rfl (SubF.cons rfl (SubF.cons rfl (SubF.cons rfl (SubF.cons rfl (SubF.cons rfl (SubF.cons rfl (SubF.cons rfl (SubF.cons rfl (SubF.cons rfl (SubF.cons rfl (SubF.cons rfl (SubF.cons rfl (SubF.cons rfl (SubF.cons rfl (SubF.cons rfl (SubF.cons rfl (SubF.cons rfl (SubF.cons rfl (SubF.cons rfl (SubF.cons rfl (SubF.cons rfl (SubF.cons rfl (SubF.cons rfl (SubF.cons rfl (SubF.cons rfl (SubF.cons rfl (SubF.cons rfl (SubF.cons rfl (SubF.cons rfl (SubF.cons rfl (SubF.cons rfl (SubF.cons rfl (SubF.cons rfl (SubF.cons rfl (SubF.cons rfl (SubF.cons rfl SubF.nil)))))))))))))))))))))))))))))))))))))))))))))))))))))
                · exact (SubS.cons rfl (SubS.cons rfl (SubS.cons rfl (SubS.cons rfl SubS.nil))))
                · try dsimp only
                  omega
                · (try dsimp only); omega
              · skip
                refine W.exit ?_
                refine E.th ?_
                refine E.th ?_
                refine E.hit ?_
                refine E.inn ?_
                refine E.to ?_
                refine W.pick (.cons (t := 3) rfl (.cons (t := 4) rfl (.cons (t := 6) rfl (.cons (t := 11) rfl (.cons (t := 12) rfl (.cons (t := 13) rfl (.cons (t := 27) rfl (.cons (t := 28) rfl (.cons (t := 29) rfl (.cons (t := 30) rfl (.cons (t := 31) rfl (.cons (t := 32) rfl (.cons (t := 33) rfl (.cons (t := 34) rfl (.cons (t := 35) rfl (.cons (t := 36) rfl (.cons (t := 37) rfl (.cons (t := 55) rfl (.cons (t := 56) rfl (.cons (t := 57) rfl (.cons (t := 58) rfl (.cons (t := 73) rfl (.cons (t := 74) rfl (.cons (t := 75) rfl (.cons (t := 76) rfl (.cons (t := 77) rfl (.cons (t := 78) rfl (.cons (t := 79) rfl (.cons (t := 80) rfl (.cons (t := 81) rfl (.cons (t := 82) rfl (.cons (t := 83) rfl (.cons (t := 84) rfl (.cons (t := 85) rfl (.cons (t := 86) rfl (.cons (t := 87) rfl (.cons (t := 88) rfl (.cons (t := 89) rfl (.cons (t := 90) rfl (.cons (t := 91) rfl (.cons (t := 92) rfl (.cons (t := 93) rfl (.cons (t := 94) rfl (.cons (t := 95) rfl (.cons (t := 96) rfl (.cons (t := 126) rfl (.cons (t := 127) rfl (.cons (t := 128) rfl (.cons (t := 129) rfl (.cons (t := 130) rfl (.cons (t := 131) rfl (.cons (t := 132) rfl (.cons (t := 133) rfl (.cons (t := 134) rfl .nil)))))))))))))))))))))))))))))))))))))))))))))))))))))) (.cons (t := 103) rfl (.cons (t := 110) rfl (.cons (t := 111) rfl (.cons (t := 114) rfl .nil)))) ?_
                refine W.region ?_
                refine SL.val (O.det (fun _ => by first | exact G.R.add64 rfl rfl (by omega) | exact G.R.add rfl rfl) rfl Taken.no) ?_
                refine SL.val (O.move rfl rfl Taken.no) ?_
                refine SL.nil ?_
                refine E.again ((k + 1), (srvL q (nextI q)), ((wo (nextH q).id om))) (rn [(101, 114)]) ?_ ?_ rfl (fixL_spec rfl) ?_ ?_
                · exact (SubF.cons rfl (SubF.cons rfl (SubF.cons rfl (SubF.cons rfl (SubF.cons rfl SubF.nil)))))
                · exact (SubS.cons rfl SubS.nil)
                · try dsimp only
                  exact ⟨by omega, by assumption, by omega, by assumption⟩
                · (try dsimp only); omega
          · skip
            have hag2 := hag
            have hv2 := hv
            refine W.skip ?_
            refine E.inn ?_
            refine E.to ?_
            refine W.seq ?_
            refine W.region ?_
            refine SL.val (O.move rfl rfl Taken.no) ?_
            refine SL.val (O.lenE (SlOf.own rfl rfl) (by first | exact List.length_map _ | rfl) Try.underlying62 rfl Taken.no) ?_
            refine SL.val (O.move rfl rfl Taken.no) ?_
            refine SL.nil ?_
            refine E.to ?_
            refine W.pick (.cons (t := 3) rfl (.cons (t := 4) rfl (.cons (t := 6) rfl (.cons (t := 27) rfl (.cons (t := 28) rfl (.cons (t := 29) rfl (.cons (t := 30) rfl (.cons (t := 31) rfl (.cons (t := 32) rfl (.cons (t := 33) rfl (.cons (t := 34) rfl (.cons (t := 35) rfl (.cons (t := 36) rfl (.cons (t := 37) rfl (.cons (t := 55) rfl (.cons (t := 56) rfl (.cons (t := 57) rfl (.cons (t := 58) rfl (.cons (t := 73) rfl (.cons (t := 74) rfl (.cons (t := 75) rfl (.cons (t := 76) rfl (.cons (t := 131) rfl (.cons (t := 132) rfl (.cons (t := 133) rfl .nil))))))))))))))))))))))))) (.cons (t := 101) rfl (.cons (t := 103) rfl .nil)) ?_
            refine W.block ?_
            refine W.loopx1 (fun (i : Nat) => [(133, vI (i : Int))]) (fun (i : Nat) => []) (fun (i : Nat) => i ≤ (o).length) (fun (i : Nat) => (o).length - i) (0) (rn []) (.cons (t := 3) rfl (.cons (t := 4) rfl (.cons (t := 6) rfl (.cons (t := 27) rfl (.cons (t := 28) rfl (.cons (t := 29) rfl (.cons (t := 30) rfl (.cons (t := 31) rfl (.cons (t := 32) rfl (.cons (t := 33) rfl (.cons (t := 34) rfl (.cons (t := 35) rfl (.cons (t := 36) rfl (.cons (t := 37) rfl (.cons (t := 55) rfl (.cons (t := 56) rfl (.cons (t := 57) rfl (.cons (t := 58) rfl (.cons (t := 73) rfl (.cons (t := 74) rfl (.cons (t := 75) rfl (.cons (t := 76) rfl (.cons (t := 131) rfl (.cons (t := 132) rfl .nil)))))))))))))))))))))))) (.cons (t := 101) rfl (.cons (t := 103) rfl .nil)) rfl ?_ ?_ rfl rfl ?_ ?_
            · exact (SubF.cons rfl SubF.nil)
            · exact SubS.nil
            · skip
              omega
            intro i hinv
            have hi := hinv
            refine W.seq ?_
            refine W.region ?_
            refine SL.val (O.det (fun _ => G.R.lss rfl rfl) rfl Taken.no) ?_
            refine SL.nil ?_
            refine E.to ?_
            refine W.pick (.cons (t := 3) rfl (.cons (t := 4) rfl (.cons (t := 6) rfl (.cons (t := 27) rfl (.cons (t := 28) rfl (.cons (t := 29) rfl (.cons (t := 30) rfl (.cons (t := 31) rfl (.cons (t := 32) rfl (.cons (t := 33) rfl (.cons (t := 34) rfl (.cons (t := 35) rfl (.cons (t := 36) rfl (.cons (t := 37) rfl (.cons (t := 55) rfl (.cons (t := 56) rfl (.cons (t := 57) rfl (.cons (t := 58) rfl (.cons (t := 73) rfl (.cons (t := 74) rfl (.cons (t := 75) rfl (.cons (t := 76) rfl (.cons (t := 131) rfl (.cons (t := 132) rfl (.cons (t := 133) rfl (.cons (t := 134) rfl .nil)))))))))))))))))))))))))) (.cons (t := 101) rfl (.cons (t := 103) rfl .nil)) ?_
            refine W.seq ?_
            first | refine W.cond_d rfl (fun hc18 => ?_) (fun hc18 => ?_) | refine W.cond_nd rfl (fun hc18 => ?_) (fun hc18 => ?_) | refine W.cond rfl (fun hc18 => ?_) (fun hc18 => ?_)
            · skip
              refine W.skip ?_
              refine E.to ?_
              refine W.pick (.cons (t := 3) rfl (.cons (t := 4) rfl (.cons (t := 6) rfl (.cons (t := 27) rfl (.cons (t := 28) rfl (.cons (t := 29) rfl (.cons (t := 30) rfl (.cons (t := 31) rfl (.cons (t := 32) rfl (.cons (t := 33) rfl (.cons (t := 34) rfl (.cons (t := 35) rfl (.cons (t := 36) rfl (.cons (t := 37) rfl (.cons (t := 55) rfl (.cons (t := 56) rfl (.cons (t := 57) rfl (.cons (t := 58) rfl (.cons (t := 73) rfl (.cons (t := 74) rfl (.cons (t := 75) rfl (.cons (t := 76) rfl (.cons (t := 131) rfl (.cons (t := 132) rfl (.cons (t := 133) rfl (.cons (t := 134) rfl .nil)))))))))))))))))))))))))) (.cons (t := 101) rfl (.cons (t := 103) rfl .nil)) ?_
              refine W.seq ?_
              refine W.block ?_
              refine W.seq ?_
              refine W.region ?_
              refine SL.val (O.idx_own rfl rfl rfl (rfl) (by rw [List.length_map]; omega) Try.underlying62 hi65 hs65 rfl Taken.no) ?_
              refine SL.val (O.ldU (m := 2) (PtU.el rfl rfl (row_get (by omega))) rfl Try.underlying65 rfl (by kernel_rfl) rfl Taken.no) ?_
              refine SL.memS (O.alloc (z := .agg #[.int .i64 0, .int .i64 0]) (is := [.u (.sc (.int .i64 0)), .u (.sc (.int .i64 0))]) 116 (by kernel_rfl) rfl rfl rfl Taken.no) rfl rfl (S' := (116, _) :: _) rfl ?_
              refine SL.effS (O.st_ref (m := 2) rfl rfl rfl (js := [_, _]) rfl rfl (by kernel_rfl) (by simp) (Nat.le_of_ble_eq_true rfl) rfl (is' := [_, _]) rfl Taken.no) (S' := (116, _) :: _) rfl ?_
              refine SL.nil ?_
              refine E.to ?_
              refine W.pick (.cons (t := 3) rfl (.cons (t := 4) rfl (.cons (t := 6) rfl (.cons (t := 18) rfl (.cons (t := 27) rfl (.cons (t := 28) rfl (.cons (t := 29) rfl (.cons (t := 30) rfl (.cons (t := 31) rfl (.cons (t := 32) rfl (.cons (t := 33) rfl (.cons (t := 34) rfl (.cons (t := 35) rfl (.cons (t := 36) rfl (.cons (t := 37) rfl (.cons (t := 55) rfl (.cons (t := 56) rfl (.cons (t := 57) rfl (.cons (t := 58) rfl (.cons (t := 73) rfl (.cons (t := 74) rfl (.cons (t := 75) rfl (.cons (t := 76) rfl (.cons (t := 131) rfl (.cons (t := 132) rfl (.cons (t := 133) rfl (.cons (t := 134) rfl (.cons (t := 135) rfl (.cons (t := 136) rfl .nil))))))))))))))))))))))))))))) (.cons (t := 101) rfl (.cons (t := 103) rfl (.cons (t := 116) rfl .nil))) ?_
              refine W.seq ?_
              refine W.region ?_
              refine SL.val (O.idx_ref (i := 1) (m := 1) rfl rfl (rfl) (by decide) Try.underlying65 (by kernel_rfl) rfl rfl Taken.no) ?_
              refine SL.val (O.ld1 (PtI.ref rfl rfl) rfl Try.underlying3 rfl rfl Taken.no) ?_
              refine SL.val (O.det (fun _ => G.R.mv (G.R.gtr rfl rfl) (congrArg Value.bool (decide_eq_false (by have := agree_le hv2 hag2 (k := i) (by omega); omega)))) rfl Taken.no) ?_
              refine SL.nil ?_
              refine E.to ?_
              refine W.pick (.cons (t := 3) rfl (.cons (t := 4) rfl (.cons (t := 6) rfl (.cons (t := 18) rfl (.cons (t := 27) rfl (.cons (t := 28) rfl (.cons (t := 29) rfl (.cons (t := 30) rfl (.cons (t := 31) rfl (.cons (t := 32) rfl (.cons (t := 33) rfl (.cons (t := 34) rfl (.cons (t := 35) rfl (.cons (t := 36) rfl (.cons (t := 37) rfl (.cons (t := 55) rfl (.cons (t := 56) rfl (.cons (t := 57) rfl (.cons (t := 58) rfl (.cons (t := 73) rfl (.cons (t := 74) rfl (.cons (t := 75) rfl (.cons (t := 76) rfl (.cons (t := 131) rfl (.cons (t := 132) rfl (.cons (t := 133) rfl (.cons (t := 134) rfl (.cons (t := 135) rfl (.cons (t := 136) rfl (.cons (t := 137) rfl (.cons (t := 138) rfl (.cons (t := 139) rfl .nil)))))))))))))))))))))))))))))))) (.cons (t := 101) rfl (.cons (t := 103) rfl (.cons (t := 116) rfl .nil))) ?_
              refine W.cond_f rfl ?_
              refine W.skip ?_
              refine E.inn ?_
              refine E.to ?_
              refine W.pick (.cons (t := 3) rfl (.cons (t := 4) rfl (.cons (t := 6) rfl (.cons (t := 18) rfl (.cons (t := 27) rfl (.cons (t := 28) rfl (.cons (t := 29) rfl (.cons (t := 30) rfl (.cons (t := 31) rfl (.cons (t := 32) rfl (.cons (t := 33) rfl (.cons (t := 34) rfl (.cons (t := 35) rfl (.cons (t := 36) rfl (.cons (t := 37) rfl (.cons (t := 55) rfl (.cons (t := 56) rfl (.cons (t := 57) rfl (.cons (t := 58) rfl (.cons (t := 73) rfl (.cons (t := 74) rfl (.cons (t := 75) rfl (.cons (t := 76) rfl (.cons (t := 131) rfl (.cons (t := 132) rfl (.cons (t := 133) rfl (.cons (t := 134) rfl (.cons (t := 135) rfl (.cons (t := 136) rfl (.cons (t := 137) rfl (.cons (t := 138) rfl (.cons (t := 139) rfl .nil)))))))))))))))))))))))))))))))) (.cons (t := 101) rfl (.cons (t := 103) rfl (.cons (t := 116) rfl .nil))) ?_
              refine W.region ?_
              refine SL.val (O.det (fun _ => by first | exact G.R.add64 rfl rfl (by omega) | exact G.R.add rfl rfl) rfl Taken.no) ?_
              refine SL.val (O.move rfl rfl Taken.no) ?_
              refine SL.nil ?_
              refine E.again ((i + 1)) (rn []) ?_ ?_ rfl (fixL_spec rfl) ?_ ?_
              · exact (SubF.cons rfl (SubF.cons rfl (SubF.cons rfl (SubF.cons rfl (SubF.cons rfl (SubF.cons rfl (SubF.cons rfl (SubF.cons rfl (SubF.cons rfl (SubF.cons rfl (SubF.cons rfl (SubF.cons rfl (SubF.cons rfl (SubF.cons rfl (SubF.cons rfl (SubF.cons rfl (SubF.cons rfl (SubF.cons rfl (SubF.cons rfl (SubF.cons rfl (SubF.cons rfl (SubF.cons rfl (SubF.cons rfl (SubF.cons rfl (SubF.cons rfl SubF.nil)))))))))))))))))))))))))
              · exact (SubS.cons rfl (SubS.cons rfl SubS.nil))
              · try dsimp only
                omega
              · (try dsimp only); omega
            · skip
              refine W.exit ?_
              refine E.th ?_
              refine E.th ?_
              refine E.hit ?_
              refine E.inn ?_
              refine E.to ?_
              refine W.pick (.cons (t := 3) rfl (.cons (t := 4) rfl (.cons (t := 6) rfl (.cons (t := 27) rfl (.cons (t := 28) rfl (.cons (t := 29) rfl (.cons (t := 30) rfl (.cons (t := 31) rfl (.cons (t := 32) rfl (.cons (t := 33) rfl (.cons (t := 34) rfl (.cons (t := 35) rfl (.cons (t := 36) rfl (.cons (t := 37) rfl (.cons (t := 55) rfl (.cons (t := 56) rfl (.cons (t := 57) rfl (.cons (t := 58) rfl (.cons (t := 73) rfl (.cons (t := 74) rfl (.cons (t := 75) rfl (.cons (t := 76) rfl (.cons (t := 131) rfl (.cons (t := 132) rfl (.cons (t := 133) rfl (.cons (t := 134) rfl .nil)))))))))))))))))))))))))) (.cons (t := 101) rfl (.cons (t := 103) rfl .nil)) ?_
              refine W.region ?_
              refine SL.val (O.det (fun _ => by first | exact G.R.add64 rfl rfl (by omega) | exact G.R.add rfl rfl) rfl Taken.no) ?_
              refine SL.val (O.move rfl rfl Taken.no) ?_
              refine SL.nil ?_
              refine E.again ((k + 1), (q), (o)) (rn []) ?_ ?_ rfl (fixL_spec rfl) ?_ ?_
              · exact (SubF.cons rfl (SubF.cons rfl (SubF.cons rfl (SubF.cons rfl (SubF.cons rfl SubF.nil)))))
              · exact (SubS.cons rfl SubS.nil)
              · try dsimp only
                exact ⟨by omega, by assumption, by omega, by assumption⟩
              · (try dsimp only); omega
    · skip
      refine W.exit ?_
      refine E.th ?_
      refine E.th ?_
      refine E.hit ?_
      refine E.to ?_
      refine W.seq ?_
      refine W.region ?_
      refine SL.val (O.move rfl rfl Taken.no) ?_
      refine SL.val (O.callp rfl rfl rfl (valid_h (q := q)) (.cons (ArgOk.same rfl) .nil) hcallOk23 rfl Taken.no) ?_
      refine SL.as (i' := vB true) 143 rfl (by exact iv_bool (decide_eq_true hv)) ?_
      refine SL.val (O.assign rfl rfl Taken.no) ?_
      refine SL.nil ?_
      refine E.to ?_
      refine W.ret ?_
      refine E.fin (rs := [_]) (rn []) (.inl rfl) rfl (.cons (ResOne.tmp rfl) .nil) ?_ ?_ rfl (fixL_spec rfl)
      · skip
        rfl
      · exact SubS.nil

end Go.Proofs.Ytlodmhiemndegaa
