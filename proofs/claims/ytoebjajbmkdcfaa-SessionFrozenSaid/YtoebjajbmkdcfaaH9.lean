/-
  The walks.
-/
import Derived.Test.YtoebjajbmkdcfaaH8
import Derived.Test.YtoebjajbmkdcfaaS51
namespace Go.Proofs.Ytoebjajbmkdcfaa
open Go Go.RowKit Go.H Go.D51

theorem hcallOk34 : G.callOk Try.prog 34 = true := by kernel_rfl
theorem hcallOk36 : G.callOk Try.prog 36 = true := by kernel_rfl
theorem hcallOk37 : G.callOk Try.prog 37 = true := by kernel_rfl
theorem hcallOk38 : G.callOk Try.prog 38 = true := by kernel_rfl

set_option maxRecDepth 8000 in
set_option maxHeartbeats 1600000 in
/-- bookplate/bookplatelaw51.SessionStore. -/
theorem sessionStore_h {l : List Opr} :
    Con Try.prog 7 [vL 6 (l.map eOp)] [] (vB true) [] := by
 obtain ⟨i82, hi82, hz82, hs82, hb82⟩ := hinf82
 refine Con.enterL (n := 114) Try.func7 rfl rfl rfl (fun τ w ok vs hin => ?_)
 have hl0 := hin.len (i := 0) rfl
 try rw [List.length_map] at hl0
 clear hin
 refine W.seq ?_
 refine W.region ?_
 refine SL.val (O.assign rfl rfl Taken.no) ?_
 refine SL.nil ?_
 refine E.to ?_
 refine W.seq ?_
 refine W.seq ?_
 refine W.region ?_
 refine SL.val (O.callp rfl rfl rfl (awake_h) .nil hcallOk11 rfl Taken.no) ?_
 refine SL.val (O.det (fun _ => G.R.not rfl) rfl Taken.no) ?_
 refine SL.nil ?_
 refine E.to ?_
 first | refine W.cond_d rfl (fun hc1 => ?_) (fun hc1 => ?_) | refine W.cond_nd rfl (fun hc1 => ?_) (fun hc1 => ?_) | refine W.cond rfl (fun hc1 => ?_) (fun hc1 => ?_)
 ·skip
  refine W.seq ?_
  refine W.region ?_
  refine SL.val (O.assign rfl rfl Taken.no) ?_
  refine SL.nil ?_
  refine E.to ?_
  refine W.ret ?_
  refine E.thr ?_
  refine E.fin (rs := [_]) (rn []) (.inl rfl) rfl (.cons (ResOne.tmp rfl) .nil) ?_ ?_ rfl (fixL_spec rfl)
  ·skip
   exact absurd hc1 (by decide)
  · exact SubS.nil
 ·skip
  refine W.skip ?_
  refine E.to ?_
  refine W.seq ?_
  refine W.seq ?_
  refine W.region ?_
  refine SL.val (O.move rfl rfl Taken.no) ?_
  refine SL.val (O.callp rfl rfl rfl (few_h (l := l)) (.cons (ArgOk.same rfl) .nil) hcallOk34 rfl Taken.no) ?_
  refine SL.val (O.det (fun _ => G.R.not rfl) rfl Taken.no) ?_
  refine SL.nil ?_
  refine E.to ?_
  first | refine W.cond_d rfl (fun hc2 => ?_) (fun hc2 => ?_) | refine W.cond_nd rfl (fun hc2 => ?_) (fun hc2 => ?_) | refine W.cond rfl (fun hc2 => ?_) (fun hc2 => ?_)
  ·skip
   refine W.seq ?_
   refine W.region ?_
   refine SL.val (O.assign rfl rfl Taken.no) ?_
   refine SL.nil ?_
   refine E.to ?_
   refine W.ret ?_
   refine E.thr ?_
   refine E.fin (rs := [_]) (rn []) (.inl rfl) rfl (.cons (ResOne.tmp rfl) .nil) ?_ ?_ rfl (fixL_spec rfl)
   ·skip
    rfl
   · exact SubS.nil
  ·skip
   refine W.skip ?_
   refine E.to ?_
   refine W.seq ?_
   refine W.region ?_
   refine SL.memS (O.call (rn []) [] rfl rfl rfl (new_h) .nil SubS.nil rfl rfl rfl rfl rfl (.inl rfl) hcallOk35 (r' := .agg [.u _, .u _, .u _]) rfl rfl Taken.no) rfl rfl (S' := _) rfl ?_
   refine SL.memS (O.call (rn []) [] rfl rfl rfl (refNew_h) .nil SubS.nil rfl rfl rfl rfl rfl (.inl rfl) hcallOk36 (r' := .agg [.u _, .u _, .u _]) rfl rfl Taken.no) rfl rfl (S' := _) rfl ?_
   refine SL.memS (O.alloc (z := .agg #[.int .i64 0, .int .i64 0, .slice none 0 0]) (is := [.u (.sc (.int .i64 0)), .u (.sc (.int .i64 0)), .u (.sc (.slice none 0 0))]) 101 (by kernel_rfl) rfl rfl rfl Taken.no) rfl rfl (S' := (101, _) :: _) rfl ?_
   refine SL.memS (O.alloc (z := .agg #[.int .i64 0, .int .i64 0, .slice none 0 0]) (is := [.u (.sc (.int .i64 0)), .u (.sc (.int .i64 0)), .u (.sc (.slice none 0 0))]) 102 (by kernel_rfl) rfl rfl rfl Taken.no) rfl rfl (S' := (102, _) :: _) rfl ?_
   refine SL.effS (O.st_ref (m := 3) rfl rfl rfl (js := [_, _, _]) rfl rfl (by kernel_rfl) (by simp) (Nat.le_of_ble_eq_true rfl) rfl (is' := [_, _, _]) rfl Taken.no) (S' := (101, _) :: _) rfl ?_
   refine SL.effS (O.st_ref (m := 3) rfl rfl rfl (js := [_, _, _]) rfl rfl (by kernel_rfl) (by simp) (Nat.le_of_ble_eq_true rfl) rfl (is' := [_, _, _]) rfl Taken.no) (S' := (102, _) :: _) rfl ?_
   refine SL.nil ?_
   refine E.to ?_
   refine W.seq ?_
   refine W.region ?_
   refine SL.val (O.assign rfl rfl Taken.no) ?_
   refine SL.nil ?_
   refine E.to ?_
   refine W.seq ?_
   refine W.seq ?_
   refine W.region ?_
   refine SL.val (O.assign rfl rfl Taken.no) ?_
   refine SL.nil ?_
   refine E.to ?_
   refine W.block ?_
   refine W.loopx3 (fun (k : Nat) (sx : Store) (la : Int) => [(6, vI (k : Int)), (5, vI la)]) (fun (k : Nat) (sx : Store) (la : Int) => [(101, .cells 73 [.u (uI sx.next), .u (uI sx.time), .u (.sl 4 (sx.opn.map eO))]), (102, .cells 77 [.u (uI sx.next), .u (uI sx.time), .u (.sl 4 (sx.opn.map eO))])]) (fun (k : Nat) (sx : Store) (la : Int) => k ≤ l.length ∧ validSt sx ∧ la < sx.next) (fun (k : Nat) (sx : Store) (la : Int) => l.length - k) (0) (newSt) (0) (rn []) (.cons (t := 0) rfl (.cons (t := 3) rfl (.cons (t := 4) rfl .nil))) .nil rfl ?_ ?_ rfl rfl ?_ ?_
   · exact (SubF.cons rfl (SubF.cons rfl SubF.nil))
   · exact (SubS.cons rfl (SubS.cons rfl SubS.nil))
   ·skip
    exact ⟨by omega, new_valid, by decide⟩
   intro k sx la hinv
   obtain ⟨hk, hv, hla⟩ := hinv
   have ht : tm sx := ⟨hv.1.2.2.1, hv.1.2.2.2.1⟩
   have hl50 := hv.1.2.2.2.2
   refine W.seq ?_
   refine W.seq ?_
   refine W.region ?_
   refine SL.val (O.move rfl rfl Taken.no) ?_
   refine SL.val (O.move rfl rfl Taken.no) ?_
   refine SL.val (O.lenE (SlOf.fz rfl (by decide)) (by first | exact List.length_map _ | rfl) Try.underlying69 rfl Taken.no) ?_
   refine SL.val (O.det (fun _ => G.R.lss rfl rfl) rfl Taken.no) ?_
   refine SL.nil ?_
   refine E.to ?_
   first | refine W.cond_d rfl (fun hc3 => ?_) (fun hc3 => ?_) | refine W.cond_nd rfl (fun hc3 => ?_) (fun hc3 => ?_) | refine W.cond rfl (fun hc3 => ?_) (fun hc3 => ?_)
   ·skip
    refine W.skip ?_
    refine E.to ?_
    refine W.seq ?_
    refine W.block ?_
    refine W.seq ?_
    refine W.draw [⟨[101], [], []⟩, ⟨[], [], []⟩, ⟨[], [], []⟩, ⟨[], [], []⟩, ⟨[], [], []⟩, ⟨[], [], []⟩, ⟨[], [], []⟩, ⟨[], [], []⟩, ⟨[], [], []⟩, ⟨[], [], []⟩, ⟨[], [], []⟩, ⟨[103], [103], [103]⟩, ⟨[103], [103], []⟩, ⟨[], [], []⟩, ⟨[], [], []⟩, ⟨[], [], []⟩] rfl (by kernel_rfl) (by kernel_rfl) rfl rfl ?_
    refine WH.val (O.ldN (m := 3) (PtI.ref rfl rfl) (js := [_, _, _]) rfl (Nat.le_of_ble_eq_true rfl) Try.underlying73 rfl (by kernel_rfl) rfl Taken.no) rfl rfl ?_
    refine WH.val (O.move rfl rfl Taken.no) rfl rfl ?_
    refine WH.val (O.move rfl rfl Taken.no) rfl rfl ?_
    refine WH.val (O.idx_fz rfl rfl (rfl) (row_get (by omega)) Try.underlying69 hi82 hs82 rfl Taken.no) rfl rfl ?_
    refine WH.val (O.ldU (m := 6) (PtU.fz rfl) rfl Try.underlying82 rfl (by kernel_rfl) rfl Taken.no) rfl rfl ?_
    refine WH.memS (O.call (rn []) [] rfl rfl rfl (do_h (st := sx) (o := l[k]!) ht) (.cons (ArgOk.aggU (.cons (ArgOk.same rfl) (.cons (ArgOk.same rfl) (.cons (ArgOk.same rfl) .nil)))) (.cons (ArgOk.same rfl) .nil)) SubS.nil rfl rfl rfl rfl rfl (.inl rfl) hcallOk37 (r' := .tup [.agg [.u _, .u _, .u _], .u _, .u _, .u _]) rfl rfl Taken.no) rfl rfl rfl rfl rfl (S' := _) rfl ?_
    refine WH.val (O.move rfl rfl Taken.no) rfl rfl ?_
    refine WH.val (O.extract rfl rfl rfl Taken.no) rfl rfl ?_
    refine WH.val (O.extract rfl rfl rfl Taken.no) rfl rfl ?_
    refine WH.val (O.extract rfl rfl rfl Taken.no) rfl rfl ?_
    refine WH.val (O.extract rfl rfl rfl Taken.no) rfl rfl ?_
    refine WH.memS (O.alloc (z := .agg #[.int .i64 0, .int .i64 0, .slice none 0 0]) (is := [.u (.sc (.int .i64 0)), .u (.sc (.int .i64 0)), .u (.sc (.slice none 0 0))]) 103 (by kernel_rfl) rfl rfl rfl Taken.no) rfl rfl rfl rfl rfl (S' := (103, _) :: _) rfl ?_
    refine WH.effS (O.st_ref (m := 3) rfl rfl rfl (js := [_, _, _]) rfl rfl (by kernel_rfl) (by simp) (Nat.le_of_ble_eq_true rfl) rfl (is' := [_, _, _]) rfl Taken.no) rfl rfl rfl (S' := (103, _) :: _) rfl ?_
    refine WH.val (O.assign rfl rfl Taken.no) rfl rfl ?_
    refine WH.val (O.assign rfl rfl Taken.no) rfl rfl ?_
    refine WH.val (O.assign rfl rfl Taken.no) rfl rfl ?_
    refine WH.nil ?_
    refine E.to ?_
    refine W.seq ?_
    refine W.draw [⟨[102], [], []⟩, ⟨[], [], []⟩, ⟨[], [], []⟩, ⟨[], [], []⟩, ⟨[], [], []⟩, ⟨[], [], []⟩, ⟨[], [], []⟩, ⟨[], [], []⟩, ⟨[], [], []⟩, ⟨[104], [104], [104]⟩, ⟨[104], [104], []⟩, ⟨[], [], []⟩] rfl (by kernel_rfl) (by kernel_rfl) rfl rfl ?_
    refine WH.val (O.ldN (m := 3) (PtI.ref rfl rfl) (js := [_, _, _]) rfl (Nat.le_of_ble_eq_true rfl) Try.underlying77 rfl (by kernel_rfl) rfl Taken.no) rfl rfl ?_
    refine WH.val (O.move rfl rfl Taken.no) rfl rfl ?_
    refine WH.val (O.move rfl rfl Taken.no) rfl rfl ?_
    refine WH.val (O.idx_fz rfl rfl (rfl) (row_get (by omega)) Try.underlying69 hi82 hs82 rfl Taken.no) rfl rfl ?_
    refine WH.val (O.ldU (m := 6) (PtU.fz rfl) rfl Try.underlying82 rfl (by kernel_rfl) rfl Taken.no) rfl rfl ?_
    refine WH.memS (O.call (rn []) [] rfl rfl rfl (refDo_h (st := sx) (o := l[k]!) ht) (.cons (ArgOk.aggU (.cons (ArgOk.same rfl) (.cons (ArgOk.same rfl) (.cons (ArgOk.same rfl) .nil)))) (.cons (ArgOk.same rfl) .nil)) SubS.nil rfl rfl rfl rfl rfl (.inl rfl) hcallOk38 (r' := .tup [.agg [.u _, .u _, .u _], .u _]) rfl rfl Taken.no) rfl rfl rfl rfl rfl (S' := _) rfl ?_
    refine WH.val (O.move rfl rfl Taken.no) rfl rfl ?_
    refine WH.val (O.extract rfl rfl rfl Taken.no) rfl rfl ?_
    refine WH.val (O.extract rfl rfl rfl Taken.no) rfl rfl ?_
    refine WH.memS (O.alloc (z := .agg #[.int .i64 0, .int .i64 0, .slice none 0 0]) (is := [.u (.sc (.int .i64 0)), .u (.sc (.int .i64 0)), .u (.sc (.slice none 0 0))]) 104 (by kernel_rfl) rfl rfl rfl Taken.no) rfl rfl rfl rfl rfl (S' := (104, _) :: _) rfl ?_
    refine WH.effS (O.st_ref (m := 3) rfl rfl rfl (js := [_, _, _]) rfl rfl (by kernel_rfl) (by simp) (Nat.le_of_ble_eq_true rfl) rfl (is' := [_, _, _]) rfl Taken.no) rfl rfl rfl (S' := (104, _) :: _) rfl ?_
    refine WH.val (O.assign rfl rfl Taken.no) rfl rfl ?_
    refine WH.nil ?_
    refine E.to ?_
    refine W.pick (.cons (t := 0) rfl (.cons (t := 3) rfl (.cons (t := 4) rfl (.cons (t := 5) rfl (.cons (t := 6) rfl (.cons (t := 7) rfl (.cons (t := 8) rfl (.cons (t := 9) rfl (.cons (t := 10) rfl (.cons (t := 11) rfl (.cons (t := 12) rfl .nil))))))))))) (.cons (t := 101) rfl (.cons (t := 102) rfl (.cons (t := 103) rfl (.cons (t := 104) rfl .nil)))) ?_
    refine W.seq ?_
    refine W.seq ?_
    refine W.draw [⟨[103], [], []⟩, ⟨[], [], []⟩, ⟨[104], [], []⟩, ⟨[], [], []⟩, ⟨[], [], []⟩, ⟨[], [], []⟩, ⟨[], [], []⟩, ⟨[], [], []⟩, ⟨[], [], []⟩, ⟨[], [], []⟩] rfl (by kernel_rfl) (by kernel_rfl) rfl rfl ?_
    refine WH.val (O.ldN (m := 3) (PtI.ref rfl rfl) (js := [_, _, _]) rfl (Nat.le_of_ble_eq_true rfl) Try.underlying73 rfl (by kernel_rfl) rfl Taken.no) rfl rfl ?_
    refine WH.memS (O.call (rn []) [] rfl rfl rfl (store_h (st := (doS sx l[k]!)) (do_len hl50)) (.cons (ArgOk.aggU (.cons (ArgOk.same rfl) (.cons (ArgOk.same rfl) (.cons (ArgOk.same rfl) .nil)))) .nil) SubS.nil rfl rfl rfl rfl rfl (.inl rfl) hcallOk40 (r' := .agg [.u _, .u _, .u _]) rfl rfl Taken.no) rfl rfl rfl rfl rfl (S' := _) rfl ?_
    refine WH.val (O.ldN (m := 3) (PtI.ref rfl rfl) (js := [_, _, _]) rfl (Nat.le_of_ble_eq_true rfl) Try.underlying77 rfl (by kernel_rfl) rfl Taken.no) rfl rfl ?_
    refine WH.val (OpOk.re (i' := vB true) (O.callp rfl rfl rfl (sameStore_h (a := (doS sx l[k]!)) (b := (doS sx l[k]!))) (.cons (ArgOk.aggU (.cons (ArgOk.same rfl) (.cons (ArgOk.same rfl) (.cons (ArgOk.same rfl) .nil)))) (.cons (ArgOk.aggU (.cons (ArgOk.same rfl) (.cons (ArgOk.same rfl) (.cons (ArgOk.same rfl) .nil)))) .nil)) hcallOk39 rfl Taken.no) (by exact iv_bool (dec_t rfl))) rfl rfl ?_
    refine WH.val (O.det (fun _ => G.R.mv (G.R.not rfl) rfl) rfl Taken.no) rfl rfl ?_
    refine WH.val (O.move rfl rfl Taken.no) rfl rfl ?_
    have hg4 : false = false := by decide
    refine WH.val (O.move rfl rfl (Taken.yes rfl rfl hg4)) rfl rfl ?_
    refine WH.val (O.move rfl rfl (Taken.yes rfl rfl hg4)) rfl rfl ?_
    refine WH.val (O.det (fun _ => G.R.mv (G.R.neq rfl rfl) (congrArg Value.bool (decide_eq_false (by exact fun h => h rfl)))) rfl (Taken.yes rfl rfl hg4)) rfl rfl ?_
    refine WH.val (O.pick_f rfl rfl rfl rfl Taken.no) rfl rfl ?_
    refine WH.nil ?_
    refine E.to ?_
    refine W.cond_f rfl ?_
    refine W.skip ?_
    refine E.to ?_
    refine W.seq ?_
    refine W.seq ?_
    refine W.region ?_
    refine SL.val (O.move rfl rfl Taken.no) ?_
    refine SL.val (O.det (fun _ => G.R.eql rfl rfl) rfl Taken.no) ?_
    refine SL.nil ?_
    refine E.to ?_
    first | refine W.cond_d rfl (fun hc5 => ?_) (fun hc5 => ?_) | refine W.cond_nd rfl (fun hc5 => ?_) (fun hc5 => ?_) | refine W.cond rfl (fun hc5 => ?_) (fun hc5 => ?_)
    ·skip
     refine W.exit ?_
     refine E.th ?_
     refine E.hit ?_
     refine E.to ?_
     refine W.region ?_
     refine SL.val (O.move rfl rfl Taken.no) ?_
     refine SL.val (O.det (fun _ => by first | exact G.R.add64 rfl rfl (by omega) | exact G.R.add rfl rfl) rfl Taken.no) ?_
     refine SL.val (O.assign rfl rfl Taken.no) ?_
     refine SL.nil ?_
     refine E.again ((k + 1), (sx), (la)) (rn []) ?_ ?_ rfl (fixL_spec rfl) ?_ ?_
     · exact (SubF.cons rfl (SubF.cons rfl (SubF.cons rfl (SubF.cons rfl (SubF.cons rfl SubF.nil)))))
     · exact (SubS.cons rfl (SubS.cons rfl SubS.nil))
     ·try dsimp only
      exact ⟨by omega, hv, hla⟩
     · (try dsimp only); omega
    ·skip
     have hd := do_valid (st := sx) (o := l[k]!) (by omega)
     have hn := do_time (st := sx) (o := l[k]!) (by omega)
     refine W.skip ?_
     refine E.to ?_
     refine W.seq ?_
     refine W.seq ?_
     refine W.region ?_
     refine SL.val (O.move rfl rfl Taken.no) ?_
     refine SL.val (O.move rfl rfl Taken.no) ?_
     refine SL.val (O.idx_fz rfl rfl (rfl) (row_get (by omega)) Try.underlying69 hi82 hs82 rfl Taken.no) ?_
     refine SL.val (O.fld_fz rfl Try.underlying82 rfl (m := 0) (by kernel_rfl) rfl rfl Taken.no) ?_
     refine SL.val (O.ld1 (PtI.ofU (PtU.fz rfl)) rfl Try.underlying3 rfl rfl Taken.no) ?_
     refine SL.val (O.det (fun _ => G.R.eql rfl rfl) rfl Taken.no) ?_
     refine SL.val (O.move rfl rfl Taken.no) ?_
     refine SL.case (j := 6) (g := 67) (want := true) rfl rfl (fun hg6 => ?_) (fun hg6 => ?_)
     ·skip
      first | have hg6p := G.gA1 hg6 | have hg6p := G.gA2 hg6 | have hg6p := hg6
      refine SL.val (O.move rfl rfl (Taken.yes rfl rfl hg6)) ?_
      refine SL.val (O.det (fun _ => G.R.eql rfl rfl) rfl (Taken.yes rfl rfl hg6)) ?_
      refine SL.val (O.pick_t rfl hg6 rfl rfl Taken.no) ?_
      refine SL.nil ?_
      refine E.to ?_
      refine W.pick (.cons (t := 0) rfl (.cons (t := 3) rfl (.cons (t := 4) rfl (.cons (t := 5) rfl (.cons (t := 6) rfl (.cons (t := 7) rfl (.cons (t := 8) rfl (.cons (t := 9) rfl (.cons (t := 11) rfl (.cons (t := 70) rfl .nil)))))))))) (.cons (t := 101) rfl (.cons (t := 102) rfl (.cons (t := 103) rfl (.cons (t := 104) rfl .nil)))) ?_
      first | refine W.cond_d rfl (fun hc7 => ?_) (fun hc7 => ?_) | refine W.cond_nd rfl (fun hc7 => ?_) (fun hc7 => ?_) | refine W.cond rfl (fun hc7 => ?_) (fun hc7 => ?_)
      ·skip
       have hn2 := hn.2.2 (by omega) (by omega)
       refine W.seq ?_
       refine W.seq ?_
       refine W.region ?_
       refine SL.val (O.move rfl rfl Taken.no) ?_
       refine SL.val (O.move rfl rfl Taken.no) ?_
       refine SL.val (O.det (fun _ => G.R.mv (G.R.leq rfl rfl) (congrArg Value.bool (decide_eq_false (by omega)))) rfl Taken.no) ?_
       refine SL.val (O.move rfl rfl Taken.no) ?_
       have hg8 : false = false := by decide
       refine SL.val (O.move rfl rfl (Taken.yes rfl rfl hg8)) ?_
       refine SL.val (O.fld_ref (o' := 0) rfl Try.underlying77 rfl (m := 0) (by kernel_rfl) rfl rfl (Taken.yes rfl rfl hg8)) ?_
       refine SL.val (O.ld1 (PtI.ref rfl rfl) rfl Try.underlying3 rfl rfl (Taken.yes rfl rfl hg8)) ?_
       refine SL.val (O.det (fun _ => G.R.mv (G.R.neq rfl rfl) (congrArg Value.bool (decide_eq_false (by omega)))) rfl (Taken.yes rfl rfl hg8)) ?_
       refine SL.val (O.pick_f rfl rfl rfl rfl Taken.no) ?_
       refine SL.nil ?_
       refine E.to ?_
       refine W.cond_f rfl ?_
       refine W.skip ?_
       refine E.to ?_
       refine W.region ?_
       refine SL.val (O.move rfl rfl Taken.no) ?_
       refine SL.val (O.assign rfl rfl Taken.no) ?_
       refine SL.nil ?_
       refine E.to ?_
       refine W.seq ?_
       refine W.seq ?_
       refine W.region ?_
       refine SL.val (O.move rfl rfl Taken.no) ?_
       refine SL.val (O.move rfl rfl Taken.no) ?_
       refine SL.val (O.idx_fz rfl rfl (rfl) (row_get (by omega)) Try.underlying69 hi82 hs82 rfl Taken.no) ?_
       refine SL.val (O.fld_fz rfl Try.underlying82 rfl (m := 0) (by kernel_rfl) rfl rfl Taken.no) ?_
       refine SL.val (O.ld1 (PtI.ofU (PtU.fz rfl)) rfl Try.underlying3 rfl rfl Taken.no) ?_
       refine SL.val (O.det (fun _ => G.R.eql rfl rfl) rfl Taken.no) ?_
       refine SL.nil ?_
       refine E.to ?_
       refine W.pick (.cons (t := 0) rfl (.cons (t := 3) rfl (.cons (t := 4) rfl (.cons (t := 5) rfl (.cons (t := 6) rfl (.cons (t := 7) rfl (.cons (t := 9) rfl (.cons (t := 11) rfl (.cons (t := 86) rfl .nil))))))))) (.cons (t := 101) rfl (.cons (t := 102) rfl (.cons (t := 103) rfl (.cons (t := 104) rfl .nil)))) ?_
       first | refine W.cond_d rfl (fun hc9 => ?_) (fun hc9 => ?_) | refine W.cond_nd rfl (fun hc9 => ?_) (fun hc9 => ?_) | refine W.cond rfl (fun hc9 => ?_) (fun hc9 => ?_)
       ·skip
        refine W.seq ?_
        refine W.draw [⟨[102], [], []⟩, ⟨[], [], []⟩, ⟨[], [], []⟩, ⟨[], [], []⟩, ⟨[], [], []⟩, ⟨[], [], []⟩, ⟨[], [], []⟩, ⟨[], [], []⟩, ⟨[], [], []⟩, ⟨[], [], []⟩, ⟨[], [], []⟩, ⟨[104], [], []⟩, ⟨[104], [], []⟩, ⟨[], [], []⟩, ⟨[], [], []⟩, ⟨[], [], []⟩, ⟨[], [], []⟩, ⟨[], [], []⟩, ⟨[105], [105], [105]⟩, ⟨[105], [105], []⟩, ⟨[], [], []⟩, ⟨[], [], []⟩] rfl (by kernel_rfl) (by kernel_rfl) rfl rfl ?_
        refine WH.val (O.ldN (m := 3) (PtI.ref rfl rfl) (js := [_, _, _]) rfl (Nat.le_of_ble_eq_true rfl) Try.underlying77 rfl (by kernel_rfl) rfl Taken.no) rfl rfl ?_
        refine WH.val (O.move rfl rfl Taken.no) rfl rfl ?_
        refine WH.val (O.move rfl rfl Taken.no) rfl rfl ?_
        refine WH.val (O.idx_fz rfl rfl (rfl) (row_get (by omega)) Try.underlying69 hi82 hs82 rfl Taken.no) rfl rfl ?_
        refine WH.val (O.fld_fz rfl Try.underlying82 rfl (m := 0) (by kernel_rfl) rfl rfl Taken.no) rfl rfl ?_
        refine WH.val (O.ld1 (PtI.ofU (PtU.fz rfl)) rfl Try.underlying3 rfl rfl Taken.no) rfl rfl ?_
        refine WH.val (O.move rfl rfl Taken.no) rfl rfl ?_
        refine WH.val (O.move rfl rfl Taken.no) rfl rfl ?_
        refine WH.val (O.idx_fz rfl rfl (rfl) (row_get (by omega)) Try.underlying69 hi82 hs82 rfl Taken.no) rfl rfl ?_
        refine WH.val (O.fld_fz rfl Try.underlying82 rfl (m := 0) (by kernel_rfl) rfl rfl Taken.no) rfl rfl ?_
        refine WH.val (O.ld1 (PtI.ofU (PtU.fz rfl)) rfl Try.underlying3 rfl rfl Taken.no) rfl rfl ?_
        refine WH.val (O.fld_ref (o' := 1) rfl Try.underlying77 rfl (m := 0) (by kernel_rfl) rfl rfl Taken.no) rfl rfl ?_
        refine WH.val (O.ld1 (PtI.ref rfl rfl) rfl Try.underlying3 rfl rfl Taken.no) rfl rfl ?_
        refine WH.memS (O.call (rn []) [] rfl rfl rfl (refGet_h (st := sx) l[k]!.num l[k]!.pg (now := nowD sx l[k]!)) (.cons (ArgOk.aggU (.cons (ArgOk.same rfl) (.cons (ArgOk.same rfl) (.cons (ArgOk.same rfl) .nil)))) (.cons (ArgOk.same rfl) (.cons (ArgOk.same rfl) (.cons (ArgOk.same (iv_int hn.1.symm)) .nil)))) SubS.nil rfl rfl rfl rfl rfl (.inl rfl) hcallOk41 (r' := .tup [.agg [.u _, .u _, .u _], .u _, .u _]) rfl rfl Taken.no) rfl rfl rfl rfl rfl (S' := _) rfl ?_
        refine WH.val (O.move rfl rfl Taken.no) rfl rfl ?_
        refine WH.val (O.extract rfl rfl rfl Taken.no) rfl rfl ?_
        refine WH.val (O.extract rfl rfl rfl Taken.no) rfl rfl ?_
        refine WH.val (O.extract rfl rfl rfl Taken.no) rfl rfl ?_
        refine WH.memS (O.alloc (z := .agg #[.int .i64 0, .int .i64 0, .slice none 0 0]) (is := [.u (.sc (.int .i64 0)), .u (.sc (.int .i64 0)), .u (.sc (.slice none 0 0))]) 105 (by kernel_rfl) rfl rfl rfl Taken.no) rfl rfl rfl rfl rfl (S' := (105, _) :: _) rfl ?_
        refine WH.effS (O.st_ref (m := 3) rfl rfl rfl (js := [_, _, _]) rfl rfl (by kernel_rfl) (by simp) (Nat.le_of_ble_eq_true rfl) rfl (is' := [_, _, _]) rfl Taken.no) rfl rfl rfl (S' := (105, _) :: _) rfl ?_
        refine WH.val (O.assign rfl rfl Taken.no) rfl rfl ?_
        refine WH.val (O.assign rfl rfl Taken.no) rfl rfl ?_
        refine WH.nil ?_
        refine E.to ?_
        refine W.pick (.cons (t := 0) rfl (.cons (t := 3) rfl (.cons (t := 4) rfl (.cons (t := 5) rfl (.cons (t := 6) rfl (.cons (t := 7) rfl (.cons (t := 9) rfl (.cons (t := 11) rfl (.cons (t := 14) rfl .nil))))))))) (.cons (t := 101) rfl (.cons (t := 102) rfl (.cons (t := 103) rfl (.cons (t := 104) rfl (.cons (t := 105) rfl .nil))))) ?_
        refine W.seq ?_
        refine W.region ?_
        refine SL.val (O.move rfl rfl Taken.no) ?_
        refine SL.val (O.move rfl rfl Taken.no) ?_
        refine SL.val (O.callp rfl rfl rfl (sameHits_h (a := doQ sx l[k]!) (b := getQ sx l[k]!.num l[k]!.pg (nowD sx l[k]!))) (.cons (ArgOk.same rfl) (.cons (ArgOk.same rfl) .nil)) hcallOk25 rfl Taken.no) ?_
        refine SL.as (i' := vB true) 107 rfl (by exact iv_bool (dec_t (doQ_1 (by omega)))) ?_
        refine SL.val (O.det (fun _ => G.R.mv (G.R.not rfl) rfl) rfl Taken.no) ?_
        refine SL.nil ?_
        refine E.to ?_
        refine W.cond_f rfl ?_
        refine W.skip ?_
        refine E.to ?_
        refine W.seq ?_
        refine W.draw [⟨[103], [], []⟩, ⟨[104], [], []⟩, ⟨[101], [101], []⟩, ⟨[102], [102], []⟩] rfl (by kernel_rfl) (by kernel_rfl) rfl rfl ?_
        refine WH.val (O.ldN (m := 3) (PtI.ref rfl rfl) (js := [_, _, _]) rfl (Nat.le_of_ble_eq_true rfl) Try.underlying73 rfl (by kernel_rfl) rfl Taken.no) rfl rfl ?_
        refine WH.val (O.ldN (m := 3) (PtI.ref rfl rfl) (js := [_, _, _]) rfl (Nat.le_of_ble_eq_true rfl) Try.underlying77 rfl (by kernel_rfl) rfl Taken.no) rfl rfl ?_
        refine WH.effS (O.st_ref (m := 3) rfl rfl rfl (js := [_, _, _]) rfl rfl (by kernel_rfl) (by simp) (Nat.le_of_ble_eq_true rfl) rfl (is' := [_, _, _]) rfl Taken.no) rfl rfl rfl (S' := (101, _) :: _) rfl ?_
        refine WH.effS (O.st_ref (m := 3) rfl rfl rfl (js := [_, _, _]) rfl rfl (by kernel_rfl) (by simp) (Nat.le_of_ble_eq_true rfl) rfl (is' := [_, _, _]) rfl Taken.no) rfl rfl rfl (S' := (102, _) :: _) rfl ?_
        refine WH.nil ?_
        refine E.to ?_
        refine W.seq ?_
        refine W.region ?_
        refine SL.val (O.ldN (m := 3) (PtI.ref rfl rfl) (js := [_, _, _]) rfl (Nat.le_of_ble_eq_true rfl) Try.underlying73 rfl (by kernel_rfl) rfl Taken.no) ?_
        refine SL.val (O.callp rfl rfl rfl (validStore_h (st := (doS sx l[k]!))) (.cons (ArgOk.aggU (.cons (ArgOk.same rfl) (.cons (ArgOk.same rfl) (.cons (ArgOk.same rfl) .nil)))) .nil) hcallOk42 rfl Taken.no) ?_
        refine SL.as (i' := vB true) 112 rfl (by exact iv_bool (dec_t hd.2)) ?_
        refine SL.val (O.det (fun _ => G.R.mv (G.R.not rfl) rfl) rfl Taken.no) ?_
        refine SL.nil ?_
        refine E.to ?_
        refine W.cond_f rfl ?_
        refine W.skip ?_
        refine E.inn ?_
        refine E.to ?_
        refine W.region ?_
        refine SL.val (O.move rfl rfl Taken.no) ?_
        refine SL.val (O.det (fun _ => by first | exact G.R.add64 rfl rfl (by omega) | exact G.R.add rfl rfl) rfl Taken.no) ?_
        refine SL.val (O.assign rfl rfl Taken.no) ?_
        refine SL.nil ?_
        refine E.again ((k + 1), ((doS sx l[k]!)), (doN sx l[k]!)) (rn []) ?_ ?_ rfl (fixL_spec rfl) ?_ ?_
        · exact (SubF.cons rfl (SubF.cons rfl (SubF.cons rfl (SubF.cons rfl (SubF.cons rfl SubF.nil)))))
        · exact (SubS.cons rfl (SubS.cons rfl SubS.nil))
        ·try dsimp only
         exact ⟨by omega, hd.2, by omega⟩
        · (try dsimp only); omega
       ·skip
        refine W.skip ?_
        refine E.to ?_
        refine W.seq ?_
        refine W.draw [⟨[103], [], []⟩, ⟨[104], [], []⟩, ⟨[101], [101], []⟩, ⟨[102], [102], []⟩] rfl (by kernel_rfl) (by kernel_rfl) rfl rfl ?_
        refine WH.val (O.ldN (m := 3) (PtI.ref rfl rfl) (js := [_, _, _]) rfl (Nat.le_of_ble_eq_true rfl) Try.underlying73 rfl (by kernel_rfl) rfl Taken.no) rfl rfl ?_
        refine WH.val (O.ldN (m := 3) (PtI.ref rfl rfl) (js := [_, _, _]) rfl (Nat.le_of_ble_eq_true rfl) Try.underlying77 rfl (by kernel_rfl) rfl Taken.no) rfl rfl ?_
        refine WH.effS (O.st_ref (m := 3) rfl rfl rfl (js := [_, _, _]) rfl rfl (by kernel_rfl) (by simp) (Nat.le_of_ble_eq_true rfl) rfl (is' := [_, _, _]) rfl Taken.no) rfl rfl rfl (S' := (101, _) :: _) rfl ?_
        refine WH.effS (O.st_ref (m := 3) rfl rfl rfl (js := [_, _, _]) rfl rfl (by kernel_rfl) (by simp) (Nat.le_of_ble_eq_true rfl) rfl (is' := [_, _, _]) rfl Taken.no) rfl rfl rfl (S' := (102, _) :: _) rfl ?_
        refine WH.nil ?_
        refine E.to ?_
        refine W.seq ?_
        refine W.region ?_
        refine SL.val (O.ldN (m := 3) (PtI.ref rfl rfl) (js := [_, _, _]) rfl (Nat.le_of_ble_eq_true rfl) Try.underlying73 rfl (by kernel_rfl) rfl Taken.no) ?_
        refine SL.val (O.callp rfl rfl rfl (validStore_h (st := (doS sx l[k]!))) (.cons (ArgOk.aggU (.cons (ArgOk.same rfl) (.cons (ArgOk.same rfl) (.cons (ArgOk.same rfl) .nil)))) .nil) hcallOk42 rfl Taken.no) ?_
        refine SL.as (i' := vB true) 112 rfl (by exact iv_bool (dec_t hd.2)) ?_
        refine SL.val (O.det (fun _ => G.R.mv (G.R.not rfl) rfl) rfl Taken.no) ?_
        refine SL.nil ?_
        refine E.to ?_
        refine W.cond_f rfl ?_
        refine W.skip ?_
        refine E.inn ?_
        refine E.to ?_
        refine W.region ?_
        refine SL.val (O.move rfl rfl Taken.no) ?_
        refine SL.val (O.det (fun _ => by first | exact G.R.add64 rfl rfl (by omega) | exact G.R.add rfl rfl) rfl Taken.no) ?_
        refine SL.val (O.assign rfl rfl Taken.no) ?_
        refine SL.nil ?_
        refine E.again ((k + 1), ((doS sx l[k]!)), (doN sx l[k]!)) (rn []) ?_ ?_ rfl (fixL_spec rfl) ?_ ?_
        · exact (SubF.cons rfl (SubF.cons rfl (SubF.cons rfl (SubF.cons rfl (SubF.cons rfl SubF.nil)))))
        · exact (SubS.cons rfl (SubS.cons rfl SubS.nil))
        ·try dsimp only
         exact ⟨by omega, hd.2, by omega⟩
        · (try dsimp only); omega
      ·skip
       refine W.skip ?_
       refine E.to ?_
       refine W.seq ?_
       refine W.seq ?_
       refine W.region ?_
       refine SL.val (O.move rfl rfl Taken.no) ?_
       refine SL.val (O.move rfl rfl Taken.no) ?_
       refine SL.val (O.idx_fz rfl rfl (rfl) (row_get (by omega)) Try.underlying69 hi82 hs82 rfl Taken.no) ?_
       refine SL.val (O.fld_fz rfl Try.underlying82 rfl (m := 0) (by kernel_rfl) rfl rfl Taken.no) ?_
       refine SL.val (O.ld1 (PtI.ofU (PtU.fz rfl)) rfl Try.underlying3 rfl rfl Taken.no) ?_
       refine SL.val (O.det (fun _ => G.R.eql rfl rfl) rfl Taken.no) ?_
       refine SL.nil ?_
       refine E.to ?_
       first | refine W.cond_d rfl (fun hc10 => ?_) (fun hc10 => ?_) | refine W.cond_nd rfl (fun hc10 => ?_) (fun hc10 => ?_) | refine W.cond rfl (fun hc10 => ?_) (fun hc10 => ?_)
       ·skip
        refine W.seq ?_
        refine W.draw [⟨[102], [], []⟩, ⟨[], [], []⟩, ⟨[], [], []⟩, ⟨[], [], []⟩, ⟨[], [], []⟩, ⟨[], [], []⟩, ⟨[], [], []⟩, ⟨[], [], []⟩, ⟨[], [], []⟩, ⟨[], [], []⟩, ⟨[], [], []⟩, ⟨[104], [], []⟩, ⟨[104], [], []⟩, ⟨[], [], []⟩, ⟨[], [], []⟩, ⟨[], [], []⟩, ⟨[], [], []⟩, ⟨[], [], []⟩, ⟨[106], [106], [106]⟩, ⟨[106], [106], []⟩, ⟨[], [], []⟩, ⟨[], [], []⟩] rfl (by kernel_rfl) (by kernel_rfl) rfl rfl ?_
        refine WH.val (O.ldN (m := 3) (PtI.ref rfl rfl) (js := [_, _, _]) rfl (Nat.le_of_ble_eq_true rfl) Try.underlying77 rfl (by kernel_rfl) rfl Taken.no) rfl rfl ?_
        refine WH.val (O.move rfl rfl Taken.no) rfl rfl ?_
        refine WH.val (O.move rfl rfl Taken.no) rfl rfl ?_
        refine WH.val (O.idx_fz rfl rfl (rfl) (row_get (by omega)) Try.underlying69 hi82 hs82 rfl Taken.no) rfl rfl ?_
        refine WH.val (O.fld_fz rfl Try.underlying82 rfl (m := 0) (by kernel_rfl) rfl rfl Taken.no) rfl rfl ?_
        refine WH.val (O.ld1 (PtI.ofU (PtU.fz rfl)) rfl Try.underlying3 rfl rfl Taken.no) rfl rfl ?_
        refine WH.val (O.move rfl rfl Taken.no) rfl rfl ?_
        refine WH.val (O.move rfl rfl Taken.no) rfl rfl ?_
        refine WH.val (O.idx_fz rfl rfl (rfl) (row_get (by omega)) Try.underlying69 hi82 hs82 rfl Taken.no) rfl rfl ?_
        refine WH.val (O.fld_fz rfl Try.underlying82 rfl (m := 0) (by kernel_rfl) rfl rfl Taken.no) rfl rfl ?_
        refine WH.val (O.ld1 (PtI.ofU (PtU.fz rfl)) rfl Try.underlying3 rfl rfl Taken.no) rfl rfl ?_
        refine WH.val (O.fld_ref (o' := 1) rfl Try.underlying77 rfl (m := 0) (by kernel_rfl) rfl rfl Taken.no) rfl rfl ?_
        refine WH.val (O.ld1 (PtI.ref rfl rfl) rfl Try.underlying3 rfl rfl Taken.no) rfl rfl ?_
        refine WH.memS (O.call (rn []) [] rfl rfl rfl (refGet_h (st := sx) l[k]!.num l[k]!.pg (now := nowD sx l[k]!)) (.cons (ArgOk.aggU (.cons (ArgOk.same rfl) (.cons (ArgOk.same rfl) (.cons (ArgOk.same rfl) .nil)))) (.cons (ArgOk.same rfl) (.cons (ArgOk.same rfl) (.cons (ArgOk.same (iv_int hn.1.symm)) .nil)))) SubS.nil rfl rfl rfl rfl rfl (.inl rfl) hcallOk41 (r' := .tup [.agg [.u _, .u _, .u _], .u _, .u _]) rfl rfl Taken.no) rfl rfl rfl rfl rfl (S' := _) rfl ?_
        refine WH.val (O.move rfl rfl Taken.no) rfl rfl ?_
        refine WH.val (O.extract rfl rfl rfl Taken.no) rfl rfl ?_
        refine WH.val (O.extract rfl rfl rfl Taken.no) rfl rfl ?_
        refine WH.val (O.extract rfl rfl rfl Taken.no) rfl rfl ?_
        refine WH.memS (O.alloc (z := .agg #[.int .i64 0, .int .i64 0, .slice none 0 0]) (is := [.u (.sc (.int .i64 0)), .u (.sc (.int .i64 0)), .u (.sc (.slice none 0 0))]) 106 (by kernel_rfl) rfl rfl rfl Taken.no) rfl rfl rfl rfl rfl (S' := (106, _) :: _) rfl ?_
        refine WH.effS (O.st_ref (m := 3) rfl rfl rfl (js := [_, _, _]) rfl rfl (by kernel_rfl) (by simp) (Nat.le_of_ble_eq_true rfl) rfl (is' := [_, _, _]) rfl Taken.no) rfl rfl rfl (S' := (106, _) :: _) rfl ?_
        refine WH.val (O.assign rfl rfl Taken.no) rfl rfl ?_
        refine WH.val (O.assign rfl rfl Taken.no) rfl rfl ?_
        refine WH.nil ?_
        refine E.to ?_
        refine W.pick (.cons (t := 0) rfl (.cons (t := 3) rfl (.cons (t := 4) rfl (.cons (t := 5) rfl (.cons (t := 6) rfl (.cons (t := 7) rfl (.cons (t := 9) rfl (.cons (t := 11) rfl (.cons (t := 14) rfl .nil))))))))) (.cons (t := 101) rfl (.cons (t := 102) rfl (.cons (t := 103) rfl (.cons (t := 104) rfl (.cons (t := 106) rfl .nil))))) ?_
        refine W.seq ?_
        refine W.region ?_
        refine SL.val (O.move rfl rfl Taken.no) ?_
        refine SL.val (O.move rfl rfl Taken.no) ?_
        refine SL.val (O.callp rfl rfl rfl (sameHits_h (a := doQ sx l[k]!) (b := getQ sx l[k]!.num l[k]!.pg (nowD sx l[k]!))) (.cons (ArgOk.same rfl) (.cons (ArgOk.same rfl) .nil)) hcallOk25 rfl Taken.no) ?_
        refine SL.as (i' := vB true) 107 rfl (by exact iv_bool (dec_t (doQ_1 (by omega)))) ?_
        refine SL.val (O.det (fun _ => G.R.mv (G.R.not rfl) rfl) rfl Taken.no) ?_
        refine SL.nil ?_
        refine E.to ?_
        refine W.cond_f rfl ?_
        refine W.skip ?_
        refine E.to ?_
        refine W.seq ?_
        refine W.draw [⟨[103], [], []⟩, ⟨[104], [], []⟩, ⟨[101], [101], []⟩, ⟨[102], [102], []⟩] rfl (by kernel_rfl) (by kernel_rfl) rfl rfl ?_
        refine WH.val (O.ldN (m := 3) (PtI.ref rfl rfl) (js := [_, _, _]) rfl (Nat.le_of_ble_eq_true rfl) Try.underlying73 rfl (by kernel_rfl) rfl Taken.no) rfl rfl ?_
        refine WH.val (O.ldN (m := 3) (PtI.ref rfl rfl) (js := [_, _, _]) rfl (Nat.le_of_ble_eq_true rfl) Try.underlying77 rfl (by kernel_rfl) rfl Taken.no) rfl rfl ?_
        refine WH.effS (O.st_ref (m := 3) rfl rfl rfl (js := [_, _, _]) rfl rfl (by kernel_rfl) (by simp) (Nat.le_of_ble_eq_true rfl) rfl (is' := [_, _, _]) rfl Taken.no) rfl rfl rfl (S' := (101, _) :: _) rfl ?_
        refine WH.effS (O.st_ref (m := 3) rfl rfl rfl (js := [_, _, _]) rfl rfl (by kernel_rfl) (by simp) (Nat.le_of_ble_eq_true rfl) rfl (is' := [_, _, _]) rfl Taken.no) rfl rfl rfl (S' := (102, _) :: _) rfl ?_
        refine WH.nil ?_
        refine E.to ?_
        refine W.seq ?_
        refine W.region ?_
        refine SL.val (O.ldN (m := 3) (PtI.ref rfl rfl) (js := [_, _, _]) rfl (Nat.le_of_ble_eq_true rfl) Try.underlying73 rfl (by kernel_rfl) rfl Taken.no) ?_
        refine SL.val (O.callp rfl rfl rfl (validStore_h (st := (doS sx l[k]!))) (.cons (ArgOk.aggU (.cons (ArgOk.same rfl) (.cons (ArgOk.same rfl) (.cons (ArgOk.same rfl) .nil)))) .nil) hcallOk42 rfl Taken.no) ?_
        refine SL.as (i' := vB true) 112 rfl (by exact iv_bool (dec_t hd.2)) ?_
        refine SL.val (O.det (fun _ => G.R.mv (G.R.not rfl) rfl) rfl Taken.no) ?_
        refine SL.nil ?_
        refine E.to ?_
        refine W.cond_f rfl ?_
        refine W.skip ?_
        refine E.inn ?_
        refine E.to ?_
        refine W.region ?_
        refine SL.val (O.move rfl rfl Taken.no) ?_
        refine SL.val (O.det (fun _ => by first | exact G.R.add64 rfl rfl (by omega) | exact G.R.add rfl rfl) rfl Taken.no) ?_
        refine SL.val (O.assign rfl rfl Taken.no) ?_
        refine SL.nil ?_
        refine E.again ((k + 1), ((doS sx l[k]!)), (la)) (rn []) ?_ ?_ rfl (fixL_spec rfl) ?_ ?_
        · exact (SubF.cons rfl (SubF.cons rfl (SubF.cons rfl (SubF.cons rfl (SubF.cons rfl SubF.nil)))))
        · exact (SubS.cons rfl (SubS.cons rfl SubS.nil))
        ·try dsimp only
         exact ⟨by omega, hd.2, by omega⟩
        · (try dsimp only); omega
       ·skip
        refine W.skip ?_
        refine E.to ?_
        refine W.seq ?_
        refine W.draw [⟨[103], [], []⟩, ⟨[104], [], []⟩, ⟨[101], [101], []⟩, ⟨[102], [102], []⟩] rfl (by kernel_rfl) (by kernel_rfl) rfl rfl ?_
        refine WH.val (O.ldN (m := 3) (PtI.ref rfl rfl) (js := [_, _, _]) rfl (Nat.le_of_ble_eq_true rfl) Try.underlying73 rfl (by kernel_rfl) rfl Taken.no) rfl rfl ?_
        refine WH.val (O.ldN (m := 3) (PtI.ref rfl rfl) (js := [_, _, _]) rfl (Nat.le_of_ble_eq_true rfl) Try.underlying77 rfl (by kernel_rfl) rfl Taken.no) rfl rfl ?_
        refine WH.effS (O.st_ref (m := 3) rfl rfl rfl (js := [_, _, _]) rfl rfl (by kernel_rfl) (by simp) (Nat.le_of_ble_eq_true rfl) rfl (is' := [_, _, _]) rfl Taken.no) rfl rfl rfl (S' := (101, _) :: _) rfl ?_
        refine WH.effS (O.st_ref (m := 3) rfl rfl rfl (js := [_, _, _]) rfl rfl (by kernel_rfl) (by simp) (Nat.le_of_ble_eq_true rfl) rfl (is' := [_, _, _]) rfl Taken.no) rfl rfl rfl (S' := (102, _) :: _) rfl ?_
        refine WH.nil ?_
        refine E.to ?_
        refine W.seq ?_
        refine W.region ?_
        refine SL.val (O.ldN (m := 3) (PtI.ref rfl rfl) (js := [_, _, _]) rfl (Nat.le_of_ble_eq_true rfl) Try.underlying73 rfl (by kernel_rfl) rfl Taken.no) ?_
        refine SL.val (O.callp rfl rfl rfl (validStore_h (st := (doS sx l[k]!))) (.cons (ArgOk.aggU (.cons (ArgOk.same rfl) (.cons (ArgOk.same rfl) (.cons (ArgOk.same rfl) .nil)))) .nil) hcallOk42 rfl Taken.no) ?_
        refine SL.as (i' := vB true) 112 rfl (by exact iv_bool (dec_t hd.2)) ?_
        refine SL.val (O.det (fun _ => G.R.mv (G.R.not rfl) rfl) rfl Taken.no) ?_
        refine SL.nil ?_
        refine E.to ?_
        refine W.cond_f rfl ?_
        refine W.skip ?_
        refine E.inn ?_
        refine E.to ?_
        refine W.region ?_
        refine SL.val (O.move rfl rfl Taken.no) ?_
        refine SL.val (O.det (fun _ => by first | exact G.R.add64 rfl rfl (by omega) | exact G.R.add rfl rfl) rfl Taken.no) ?_
        refine SL.val (O.assign rfl rfl Taken.no) ?_
        refine SL.nil ?_
        refine E.again ((k + 1), ((doS sx l[k]!)), (la)) (rn []) ?_ ?_ rfl (fixL_spec rfl) ?_ ?_
        · exact (SubF.cons rfl (SubF.cons rfl (SubF.cons rfl (SubF.cons rfl (SubF.cons rfl SubF.nil)))))
        · exact (SubS.cons rfl (SubS.cons rfl SubS.nil))
        ·try dsimp only
         exact ⟨by omega, hd.2, by omega⟩
        · (try dsimp only); omega
     ·skip
      first | have hg6p := G.gA5 hg6 | have hg6p := G.gA6 hg6 | have hg6p := hg6
      refine SL.skip (OpOk.not rfl rfl rfl hg6) ?_
      refine SL.skip (OpOk.not rfl rfl rfl hg6) ?_
      refine SL.val (O.pick_f rfl (G.ne_t hg6) rfl rfl Taken.no) ?_
      refine SL.nil ?_
      refine E.to ?_
      refine W.pick (.cons (t := 0) rfl (.cons (t := 3) rfl (.cons (t := 4) rfl (.cons (t := 5) rfl (.cons (t := 6) rfl (.cons (t := 7) rfl (.cons (t := 8) rfl (.cons (t := 9) rfl (.cons (t := 11) rfl (.cons (t := 70) rfl .nil)))))))))) (.cons (t := 101) rfl (.cons (t := 102) rfl (.cons (t := 103) rfl (.cons (t := 104) rfl .nil)))) ?_
      refine W.cond_f rfl ?_
      refine W.skip ?_
      refine E.to ?_
      refine W.seq ?_
      refine W.seq ?_
      refine W.region ?_
      refine SL.val (O.move rfl rfl Taken.no) ?_
      refine SL.val (O.move rfl rfl Taken.no) ?_
      refine SL.val (O.idx_fz rfl rfl (rfl) (row_get (by omega)) Try.underlying69 hi82 hs82 rfl Taken.no) ?_
      refine SL.val (O.fld_fz rfl Try.underlying82 rfl (m := 0) (by kernel_rfl) rfl rfl Taken.no) ?_
      refine SL.val (O.ld1 (PtI.ofU (PtU.fz rfl)) rfl Try.underlying3 rfl rfl Taken.no) ?_
      refine SL.val (O.det (fun _ => G.R.eql rfl rfl) rfl Taken.no) ?_
      refine SL.nil ?_
      refine E.to ?_
      first | refine W.cond_d rfl (fun hc11 => ?_) (fun hc11 => ?_) | refine W.cond_nd rfl (fun hc11 => ?_) (fun hc11 => ?_) | refine W.cond rfl (fun hc11 => ?_) (fun hc11 => ?_)
      ·skip
       refine W.seq ?_
       refine W.draw [⟨[102], [], []⟩, ⟨[], [], []⟩, ⟨[], [], []⟩, ⟨[], [], []⟩, ⟨[], [], []⟩, ⟨[], [], []⟩, ⟨[], [], []⟩, ⟨[], [], []⟩, ⟨[], [], []⟩, ⟨[], [], []⟩, ⟨[], [], []⟩, ⟨[104], [], []⟩, ⟨[104], [], []⟩, ⟨[], [], []⟩, ⟨[], [], []⟩, ⟨[], [], []⟩, ⟨[], [], []⟩, ⟨[], [], []⟩, ⟨[107], [107], [107]⟩, ⟨[107], [107], []⟩, ⟨[], [], []⟩, ⟨[], [], []⟩] rfl (by kernel_rfl) (by kernel_rfl) rfl rfl ?_
       refine WH.val (O.ldN (m := 3) (PtI.ref rfl rfl) (js := [_, _, _]) rfl (Nat.le_of_ble_eq_true rfl) Try.underlying77 rfl (by kernel_rfl) rfl Taken.no) rfl rfl ?_
       refine WH.val (O.move rfl rfl Taken.no) rfl rfl ?_
       refine WH.val (O.move rfl rfl Taken.no) rfl rfl ?_
       refine WH.val (O.idx_fz rfl rfl (rfl) (row_get (by omega)) Try.underlying69 hi82 hs82 rfl Taken.no) rfl rfl ?_
       refine WH.val (O.fld_fz rfl Try.underlying82 rfl (m := 0) (by kernel_rfl) rfl rfl Taken.no) rfl rfl ?_
       refine WH.val (O.ld1 (PtI.ofU (PtU.fz rfl)) rfl Try.underlying3 rfl rfl Taken.no) rfl rfl ?_
       refine WH.val (O.move rfl rfl Taken.no) rfl rfl ?_
       refine WH.val (O.move rfl rfl Taken.no) rfl rfl ?_
       refine WH.val (O.idx_fz rfl rfl (rfl) (row_get (by omega)) Try.underlying69 hi82 hs82 rfl Taken.no) rfl rfl ?_
       refine WH.val (O.fld_fz rfl Try.underlying82 rfl (m := 0) (by kernel_rfl) rfl rfl Taken.no) rfl rfl ?_
       refine WH.val (O.ld1 (PtI.ofU (PtU.fz rfl)) rfl Try.underlying3 rfl rfl Taken.no) rfl rfl ?_
       refine WH.val (O.fld_ref (o' := 1) rfl Try.underlying77 rfl (m := 0) (by kernel_rfl) rfl rfl Taken.no) rfl rfl ?_
       refine WH.val (O.ld1 (PtI.ref rfl rfl) rfl Try.underlying3 rfl rfl Taken.no) rfl rfl ?_
       refine WH.memS (O.call (rn []) [] rfl rfl rfl (refGet_h (st := sx) l[k]!.num l[k]!.pg (now := nowD sx l[k]!)) (.cons (ArgOk.aggU (.cons (ArgOk.same rfl) (.cons (ArgOk.same rfl) (.cons (ArgOk.same rfl) .nil)))) (.cons (ArgOk.same rfl) (.cons (ArgOk.same rfl) (.cons (ArgOk.same (iv_int hn.1.symm)) .nil)))) SubS.nil rfl rfl rfl rfl rfl (.inl rfl) hcallOk41 (r' := .tup [.agg [.u _, .u _, .u _], .u _, .u _]) rfl rfl Taken.no) rfl rfl rfl rfl rfl (S' := _) rfl ?_
       refine WH.val (O.move rfl rfl Taken.no) rfl rfl ?_
       refine WH.val (O.extract rfl rfl rfl Taken.no) rfl rfl ?_
       refine WH.val (O.extract rfl rfl rfl Taken.no) rfl rfl ?_
       refine WH.val (O.extract rfl rfl rfl Taken.no) rfl rfl ?_
       refine WH.memS (O.alloc (z := .agg #[.int .i64 0, .int .i64 0, .slice none 0 0]) (is := [.u (.sc (.int .i64 0)), .u (.sc (.int .i64 0)), .u (.sc (.slice none 0 0))]) 107 (by kernel_rfl) rfl rfl rfl Taken.no) rfl rfl rfl rfl rfl (S' := (107, _) :: _) rfl ?_
       refine WH.effS (O.st_ref (m := 3) rfl rfl rfl (js := [_, _, _]) rfl rfl (by kernel_rfl) (by simp) (Nat.le_of_ble_eq_true rfl) rfl (is' := [_, _, _]) rfl Taken.no) rfl rfl rfl (S' := (107, _) :: _) rfl ?_
       refine WH.val (O.assign rfl rfl Taken.no) rfl rfl ?_
       refine WH.val (O.assign rfl rfl Taken.no) rfl rfl ?_
       refine WH.nil ?_
       refine E.to ?_
       refine W.pick (.cons (t := 0) rfl (.cons (t := 3) rfl (.cons (t := 4) rfl (.cons (t := 5) rfl (.cons (t := 6) rfl (.cons (t := 7) rfl (.cons (t := 9) rfl (.cons (t := 11) rfl (.cons (t := 14) rfl .nil))))))))) (.cons (t := 101) rfl (.cons (t := 102) rfl (.cons (t := 103) rfl (.cons (t := 104) rfl (.cons (t := 107) rfl .nil))))) ?_
       refine W.seq ?_
       refine W.region ?_
       refine SL.val (O.move rfl rfl Taken.no) ?_
       refine SL.val (O.move rfl rfl Taken.no) ?_
       refine SL.val (O.callp rfl rfl rfl (sameHits_h (a := doQ sx l[k]!) (b := getQ sx l[k]!.num l[k]!.pg (nowD sx l[k]!))) (.cons (ArgOk.same rfl) (.cons (ArgOk.same rfl) .nil)) hcallOk25 rfl Taken.no) ?_
       refine SL.as (i' := vB true) 107 rfl (by exact iv_bool (dec_t (doQ_1 (by omega)))) ?_
       refine SL.val (O.det (fun _ => G.R.mv (G.R.not rfl) rfl) rfl Taken.no) ?_
       refine SL.nil ?_
       refine E.to ?_
       refine W.cond_f rfl ?_
       refine W.skip ?_
       refine E.to ?_
       refine W.seq ?_
       refine W.draw [⟨[103], [], []⟩, ⟨[104], [], []⟩, ⟨[101], [101], []⟩, ⟨[102], [102], []⟩] rfl (by kernel_rfl) (by kernel_rfl) rfl rfl ?_
       refine WH.val (O.ldN (m := 3) (PtI.ref rfl rfl) (js := [_, _, _]) rfl (Nat.le_of_ble_eq_true rfl) Try.underlying73 rfl (by kernel_rfl) rfl Taken.no) rfl rfl ?_
       refine WH.val (O.ldN (m := 3) (PtI.ref rfl rfl) (js := [_, _, _]) rfl (Nat.le_of_ble_eq_true rfl) Try.underlying77 rfl (by kernel_rfl) rfl Taken.no) rfl rfl ?_
       refine WH.effS (O.st_ref (m := 3) rfl rfl rfl (js := [_, _, _]) rfl rfl (by kernel_rfl) (by simp) (Nat.le_of_ble_eq_true rfl) rfl (is' := [_, _, _]) rfl Taken.no) rfl rfl rfl (S' := (101, _) :: _) rfl ?_
       refine WH.effS (O.st_ref (m := 3) rfl rfl rfl (js := [_, _, _]) rfl rfl (by kernel_rfl) (by simp) (Nat.le_of_ble_eq_true rfl) rfl (is' := [_, _, _]) rfl Taken.no) rfl rfl rfl (S' := (102, _) :: _) rfl ?_
       refine WH.nil ?_
       refine E.to ?_
       refine W.seq ?_
       refine W.region ?_
       refine SL.val (O.ldN (m := 3) (PtI.ref rfl rfl) (js := [_, _, _]) rfl (Nat.le_of_ble_eq_true rfl) Try.underlying73 rfl (by kernel_rfl) rfl Taken.no) ?_
       refine SL.val (O.callp rfl rfl rfl (validStore_h (st := (doS sx l[k]!))) (.cons (ArgOk.aggU (.cons (ArgOk.same rfl) (.cons (ArgOk.same rfl) (.cons (ArgOk.same rfl) .nil)))) .nil) hcallOk42 rfl Taken.no) ?_
       refine SL.as (i' := vB true) 112 rfl (by exact iv_bool (dec_t hd.2)) ?_
       refine SL.val (O.det (fun _ => G.R.mv (G.R.not rfl) rfl) rfl Taken.no) ?_
       refine SL.nil ?_
       refine E.to ?_
       refine W.cond_f rfl ?_
       refine W.skip ?_
       refine E.inn ?_
       refine E.to ?_
       refine W.region ?_
       refine SL.val (O.move rfl rfl Taken.no) ?_
       refine SL.val (O.det (fun _ => by first | exact G.R.add64 rfl rfl (by omega) | exact G.R.add rfl rfl) rfl Taken.no) ?_
       refine SL.val (O.assign rfl rfl Taken.no) ?_
       refine SL.nil ?_
       refine E.again ((k + 1), ((doS sx l[k]!)), (la)) (rn []) ?_ ?_ rfl (fixL_spec rfl) ?_ ?_
       · exact (SubF.cons rfl (SubF.cons rfl (SubF.cons rfl (SubF.cons rfl (SubF.cons rfl SubF.nil)))))
       · exact (SubS.cons rfl (SubS.cons rfl SubS.nil))
       ·try dsimp only
        exact ⟨by omega, hd.2, by omega⟩
       · (try dsimp only); omega
      ·skip
       refine W.skip ?_
       refine E.to ?_
       refine W.seq ?_
       refine W.draw [⟨[103], [], []⟩, ⟨[104], [], []⟩, ⟨[101], [101], []⟩, ⟨[102], [102], []⟩] rfl (by kernel_rfl) (by kernel_rfl) rfl rfl ?_
       refine WH.val (O.ldN (m := 3) (PtI.ref rfl rfl) (js := [_, _, _]) rfl (Nat.le_of_ble_eq_true rfl) Try.underlying73 rfl (by kernel_rfl) rfl Taken.no) rfl rfl ?_
       refine WH.val (O.ldN (m := 3) (PtI.ref rfl rfl) (js := [_, _, _]) rfl (Nat.le_of_ble_eq_true rfl) Try.underlying77 rfl (by kernel_rfl) rfl Taken.no) rfl rfl ?_
       refine WH.effS (O.st_ref (m := 3) rfl rfl rfl (js := [_, _, _]) rfl rfl (by kernel_rfl) (by simp) (Nat.le_of_ble_eq_true rfl) rfl (is' := [_, _, _]) rfl Taken.no) rfl rfl rfl (S' := (101, _) :: _) rfl ?_
       refine WH.effS (O.st_ref (m := 3) rfl rfl rfl (js := [_, _, _]) rfl rfl (by kernel_rfl) (by simp) (Nat.le_of_ble_eq_true rfl) rfl (is' := [_, _, _]) rfl Taken.no) rfl rfl rfl (S' := (102, _) :: _) rfl ?_
       refine WH.nil ?_
       refine E.to ?_
       refine W.seq ?_
       refine W.region ?_
       refine SL.val (O.ldN (m := 3) (PtI.ref rfl rfl) (js := [_, _, _]) rfl (Nat.le_of_ble_eq_true rfl) Try.underlying73 rfl (by kernel_rfl) rfl Taken.no) ?_
       refine SL.val (O.callp rfl rfl rfl (validStore_h (st := (doS sx l[k]!))) (.cons (ArgOk.aggU (.cons (ArgOk.same rfl) (.cons (ArgOk.same rfl) (.cons (ArgOk.same rfl) .nil)))) .nil) hcallOk42 rfl Taken.no) ?_
       refine SL.as (i' := vB true) 112 rfl (by exact iv_bool (dec_t hd.2)) ?_
       refine SL.val (O.det (fun _ => G.R.mv (G.R.not rfl) rfl) rfl Taken.no) ?_
       refine SL.nil ?_
       refine E.to ?_
       refine W.cond_f rfl ?_
       refine W.skip ?_
       refine E.inn ?_
       refine E.to ?_
       refine W.region ?_
       refine SL.val (O.move rfl rfl Taken.no) ?_
       refine SL.val (O.det (fun _ => by first | exact G.R.add64 rfl rfl (by omega) | exact G.R.add rfl rfl) rfl Taken.no) ?_
       refine SL.val (O.assign rfl rfl Taken.no) ?_
       refine SL.nil ?_
       refine E.again ((k + 1), ((doS sx l[k]!)), (la)) (rn []) ?_ ?_ rfl (fixL_spec rfl) ?_ ?_
       · exact (SubF.cons rfl (SubF.cons rfl (SubF.cons rfl (SubF.cons rfl (SubF.cons rfl SubF.nil)))))
       · exact (SubS.cons rfl (SubS.cons rfl SubS.nil))
       ·try dsimp only
        exact ⟨by omega, hd.2, by omega⟩
       · (try dsimp only); omega
   ·skip
    refine W.exit ?_
    refine E.th ?_
    refine E.th ?_
    refine E.hit ?_
    refine E.to ?_
    refine W.seq ?_
    refine W.region ?_
    refine SL.val (O.assign rfl rfl Taken.no) ?_
    refine SL.nil ?_
    refine E.to ?_
    refine W.ret ?_
    refine E.fin (rs := [_]) (rn []) (.inl rfl) rfl (.cons (ResOne.tmp rfl) .nil) ?_ ?_ rfl (fixL_spec rfl)
    ·skip
     rfl
    · exact SubS.nil

set_option maxRecDepth 8000 in
set_option maxHeartbeats 1600000 in
/-- bookplate/bookplatelaw51.SessionFrozen. -/
theorem sessionFrozen_h {s : Sess} {l : List Opr} (page : Int) :
    Con Try.prog 9 [vA [uI s.size, .sl 2 (s.items.map eT)], vL 6 (l.map eOp), vI page] [] (vB true) [] := by
 obtain ⟨i82, hi82, hz82, hs82, hb82⟩ := hinf82
 refine Con.enterL (n := 119) Try.func9 rfl rfl rfl (fun τ w ok vs hin => ?_)
 have hl0_1 := hin.lenA (i := 0) (j := 1) rfl rfl
 try rw [List.length_map] at hl0_1
 have hl1 := hin.len (i := 1) rfl
 try rw [List.length_map] at hl1
 clear hin
 refine W.seq ?_
 refine W.region ?_
 refine SL.memS (O.box (is := [_, _]) 101 rfl rfl (by simp) rfl rfl Taken.no) rfl rfl (S' := (101, _) :: _) rfl ?_
 refine SL.val (O.assign rfl rfl Taken.no) ?_
 refine SL.nil ?_
 refine E.to ?_
 refine W.seq ?_
 refine W.seq ?_
 refine W.region ?_
 refine SL.val (O.callp rfl rfl rfl (awake_h) .nil hcallOk11 rfl Taken.no) ?_
 refine SL.val (O.det (fun _ => G.R.not rfl) rfl Taken.no) ?_
 refine SL.nil ?_
 refine E.to ?_
 first | refine W.cond_d rfl (fun hc1 => ?_) (fun hc1 => ?_) | refine W.cond_nd rfl (fun hc1 => ?_) (fun hc1 => ?_) | refine W.cond rfl (fun hc1 => ?_) (fun hc1 => ?_)
 ·skip
  refine W.seq ?_
  refine W.region ?_
  refine SL.val (O.assign rfl rfl Taken.no) ?_
  refine SL.nil ?_
  refine E.to ?_
  refine W.ret ?_
  refine E.thr ?_
  refine E.fin (rs := [_]) (rn []) (.inl rfl) rfl (.cons (ResOne.tmp rfl) .nil) ?_ ?_ rfl (fixL_spec rfl)
  ·skip
   exact absurd hc1 (by decide)
  · exact SubS.nil
 ·skip
  refine W.skip ?_
  refine E.to ?_
  refine W.seq ?_
  refine W.seq ?_
  refine W.region ?_
  refine SL.val (O.move rfl rfl Taken.no) ?_
  refine SL.val (O.callp rfl rfl rfl (few_h (l := l)) (.cons (ArgOk.same rfl) .nil) hcallOk34 rfl Taken.no) ?_
  refine SL.val (O.det (fun _ => G.R.not rfl) rfl Taken.no) ?_
  refine SL.val (O.move rfl rfl Taken.no) ?_
  refine SL.case (j := 3) (g := 26) (want := false) rfl rfl (fun hg2 => ?_) (fun hg2 => ?_)
  ·skip
   first | have hg2p := G.gA3 hg2 | have hg2p := G.gA4 hg2 | have hg2p := hg2
   refine SL.val (O.move rfl rfl (Taken.yes rfl rfl hg2)) ?_
   refine SL.val (O.lenE (SlOf.fz rfl (by decide)) (by first | exact List.length_map _ | rfl) Try.underlying69 rfl (Taken.yes rfl rfl hg2)) ?_
   refine SL.val (O.det (fun _ => G.R.gtr rfl rfl) rfl (Taken.yes rfl rfl hg2)) ?_
   refine SL.val (O.pick_f rfl hg2 rfl rfl Taken.no) ?_
   refine SL.val (O.move rfl rfl Taken.no) ?_
   refine SL.case (j := 8) (g := 31) (want := false) rfl rfl (fun hg3 => ?_) (fun hg3 => ?_)
   ·skip
    first | have hg3p := G.gA3 hg3 | have hg3p := G.gA4 hg3 | have hg3p := hg3
    refine SL.val (O.fld_ref (o' := 1) rfl Try.underlying31 rfl (m := 0) (by kernel_rfl) rfl rfl (Taken.yes rfl rfl hg3)) ?_
    refine SL.val (O.ld1 (PtI.ref rfl rfl) rfl Try.underlying22 rfl rfl (Taken.yes rfl rfl hg3)) ?_
    refine SL.val (O.callp rfl rfl rfl (short_h (l := s.items)) (.cons (ArgOk.same rfl) .nil) hcallOk12 rfl (Taken.yes rfl rfl hg3)) ?_
    refine SL.val (O.det (fun _ => G.R.not rfl) rfl (Taken.yes rfl rfl hg3)) ?_
    refine SL.val (O.pick_f rfl hg3 rfl rfl Taken.no) ?_
    refine SL.val (O.move rfl rfl Taken.no) ?_
    refine SL.case (j := 14) (g := 37) (want := false) rfl rfl (fun hg4 => ?_) (fun hg4 => ?_)
    ·skip
     first | have hg4p := G.gA3 hg4 | have hg4p := G.gA4 hg4 | have hg4p := hg4
     refine SL.val (O.ldN (m := 2) (PtI.ref rfl rfl) (js := [_, _]) rfl (Nat.le_of_ble_eq_true rfl) Try.underlying31 rfl (by kernel_rfl) rfl (Taken.yes rfl rfl hg4)) ?_
     refine SL.val (O.callp rfl rfl rfl (refValid_h (s := s)) (.cons (ArgOk.aggU (.cons (ArgOk.same rfl) (.cons (ArgOk.same rfl) .nil))) .nil) hcallOk22 rfl (Taken.yes rfl rfl hg4)) ?_
     refine SL.val (O.det (fun _ => G.R.not rfl) rfl (Taken.yes rfl rfl hg4)) ?_
     refine SL.val (O.pick_f rfl hg4 rfl rfl Taken.no) ?_
     refine SL.nil ?_
     refine E.to ?_
     refine W.pick (.cons (t := 1) rfl (.cons (t := 2) rfl (.cons (t := 3) rfl (.cons (t := 6) rfl (.cons (t := 41) rfl .nil))))) (.cons (t := 101) rfl .nil) ?_
     first | refine W.cond_d rfl (fun hc5 => ?_) (fun hc5 => ?_) | refine W.cond_nd rfl (fun hc5 => ?_) (fun hc5 => ?_) | refine W.cond rfl (fun hc5 => ?_) (fun hc5 => ?_)
     ·skip
      refine W.seq ?_
      refine W.region ?_
      refine SL.val (O.assign rfl rfl Taken.no) ?_
      refine SL.nil ?_
      refine E.to ?_
      refine W.ret ?_
      refine E.thr ?_
      refine E.fin (rs := [_]) (rn []) (.inl rfl) rfl (.cons (ResOne.tmp rfl) .nil) ?_ ?_ rfl (fixL_spec rfl)
      ·skip
       rfl
      · exact SubS.nil
     ·skip
      have hv0 : validS s := by simp_all
      refine W.skip ?_
      refine E.to ?_
      refine W.seq ?_
      refine W.draw [⟨[], [], []⟩, ⟨[101], [], []⟩, ⟨[], [], []⟩, ⟨[], [], []⟩, ⟨[], [], []⟩, ⟨[], [], []⟩, ⟨[], [], []⟩, ⟨[], [], []⟩, ⟨[102], [102], [102]⟩, ⟨[102], [102], []⟩, ⟨[], [], []⟩, ⟨[], [], []⟩] rfl (by kernel_rfl) (by kernel_rfl) rfl rfl ?_
      refine WH.memS (O.call (rn []) [] rfl rfl rfl (new_h) .nil SubS.nil rfl rfl rfl rfl rfl (.inl rfl) hcallOk35 (r' := .agg [.u _, .u _, .u _]) rfl rfl Taken.no) rfl rfl rfl rfl rfl (S' := _) rfl ?_
      refine WH.val (O.ldN (m := 2) (PtI.ref rfl rfl) (js := [_, _]) rfl (Nat.le_of_ble_eq_true rfl) Try.underlying31 rfl (by kernel_rfl) rfl Taken.no) rfl rfl ?_
      refine WH.memS (O.call (rn []) [] rfl rfl rfl (ours_h) (.cons (ArgOk.aggU (.cons (ArgOk.same rfl) (.cons (ArgOk.same rfl) .nil))) .nil) SubS.nil rfl rfl rfl rfl rfl (.inl rfl) hcallOk16 (r' := .agg [.u _, .u _]) rfl rfl Taken.no) rfl rfl rfl rfl rfl (S' := _) rfl ?_
      refine WH.memS (OpOk.re (i' := .tup [.agg [vI 2, vI 0, vL 4 (([⟨1, 0, s⟩] : List Opn).map eO)], vI 1, vI 0]) (O.call (rn []) [] rfl rfl rfl (open_h (st := newSt) (s := s) (now := 0)) (.cons (ArgOk.aggU (.cons (ArgOk.same rfl) (.cons (ArgOk.same rfl) (.cons (ArgOk.same rfl) .nil)))) (.cons (ArgOk.aggU (.cons (ArgOk.same rfl) (.cons (ArgOk.same rfl) .nil))) (.cons (ArgOk.same rfl) .nil))) SubS.nil rfl rfl rfl rfl rfl (.inl rfl) hcallOk43 (r' := .tup [.agg [.u _, .u _, .u _], .u _, .u _]) rfl rfl Taken.no) (by rw [(new_opn hv0 (by decide) (by decide)).1, (new_opn hv0 (by decide) (by decide)).2.1, (new_opn hv0 (by decide) (by decide)).2.2])) rfl rfl rfl rfl rfl (S' := _) rfl ?_
      refine WH.val (O.move rfl rfl Taken.no) rfl rfl ?_
      refine WH.val (O.extract rfl rfl rfl Taken.no) rfl rfl ?_
      refine WH.val (O.extract rfl rfl rfl Taken.no) rfl rfl ?_
      refine WH.val (O.extract rfl rfl rfl Taken.no) rfl rfl ?_
      refine WH.memS (O.alloc (z := .agg #[.int .i64 0, .int .i64 0, .slice none 0 0]) (is := [.u (.sc (.int .i64 0)), .u (.sc (.int .i64 0)), .u (.sc (.slice none 0 0))]) 102 (by kernel_rfl) rfl rfl rfl Taken.no) rfl rfl rfl rfl rfl (S' := (102, _) :: _) rfl ?_
      refine WH.effS (O.st_ref (m := 3) rfl rfl rfl (js := [_, _, _]) rfl rfl (by kernel_rfl) (by simp) (Nat.le_of_ble_eq_true rfl) rfl (is' := [_, _, _]) rfl Taken.no) rfl rfl rfl (S' := (102, _) :: _) rfl ?_
      refine WH.val (O.assign rfl rfl Taken.no) rfl rfl ?_
      refine WH.val (O.assign rfl rfl Taken.no) rfl rfl ?_
      refine WH.nil ?_
      refine E.to ?_
      refine W.seq ?_
      refine W.region ?_
      refine SL.val (O.ldN (m := 2) (PtI.ref rfl rfl) (js := [_, _]) rfl (Nat.le_of_ble_eq_true rfl) Try.underlying31 rfl (by kernel_rfl) rfl Taken.no) ?_
      refine SL.memS (O.call (rn []) [] rfl rfl rfl (ours_h) (.cons (ArgOk.aggU (.cons (ArgOk.same rfl) (.cons (ArgOk.same rfl) .nil))) .nil) SubS.nil rfl rfl rfl rfl rfl (.inl rfl) hcallOk16 (r' := .agg [.u _, .u _]) rfl rfl Taken.no) rfl rfl (S' := _) rfl ?_
      refine SL.val (O.move rfl rfl Taken.no) ?_
      refine SL.memS (O.call (rn []) [] rfl rfl rfl (page_h (s := s) page) (.cons (ArgOk.aggU (.cons (ArgOk.same rfl) (.cons (ArgOk.same rfl) .nil))) (.cons (ArgOk.same rfl) .nil)) SubS.nil rfl rfl rfl rfl rfl (.inl rfl) hcallOk15 (r' := .tup [.u _, .u _]) rfl rfl Taken.no) rfl rfl (S' := _) rfl ?_
      refine SL.val (O.move rfl rfl Taken.no) ?_
      refine SL.val (O.extract rfl rfl rfl Taken.no) ?_
      refine SL.val (O.extract rfl rfl rfl Taken.no) ?_
      refine SL.val (O.assign rfl rfl Taken.no) ?_
      refine SL.val (O.assign rfl rfl Taken.no) ?_
      refine SL.nil ?_
      refine E.to ?_
      refine W.pick (.cons (t := 1) rfl (.cons (t := 2) rfl (.cons (t := 6) rfl (.cons (t := 7) rfl (.cons (t := 8) rfl (.cons (t := 9) rfl (.cons (t := 10) rfl (.cons (t := 11) rfl .nil)))))))) (.cons (t := 101) rfl (.cons (t := 102) rfl .nil)) ?_
      refine W.seq ?_
      refine W.seq ?_
      refine W.region ?_
      refine SL.val (O.move rfl rfl Taken.no) ?_
      refine SL.val (O.det (fun _ => G.R.mv (G.R.neq rfl rfl) (congrArg Value.bool (decide_eq_false (by decide)))) rfl Taken.no) ?_
      refine SL.nil ?_
      refine E.to ?_
      refine W.cond_f rfl ?_
      refine W.skip ?_
      refine E.to ?_
      refine W.seq ?_
      refine W.seq ?_
      refine W.region ?_
      refine SL.val (O.assign rfl rfl Taken.no) ?_
      refine SL.nil ?_
      refine E.to ?_
      refine W.block ?_
      refine W.loopx2 (fun (k : Nat) (st : Store) => [(12, vI (k : Int))]) (fun (k : Nat) (st : Store) => [(102, .cells 73 [.u (uI st.next), .u (uI st.time), .u (.sl 4 (st.opn.map eO))])]) (fun (k : Nat) (st : Store) => k ≤ l.length ∧ validSt st ∧ hasU st 1 s) (fun (k : Nat) (st : Store) => l.length - k) (0) ((⟨2, 0, [⟨1, 0, s⟩]⟩ : Store)) (rn []) (.cons (t := 1) rfl (.cons (t := 2) rfl (.cons (t := 7) rfl (.cons (t := 8) rfl (.cons (t := 10) rfl (.cons (t := 11) rfl .nil)))))) (.cons (t := 101) rfl .nil) rfl ?_ ?_ rfl rfl ?_ ?_
      · exact (SubF.cons rfl SubF.nil)
      · exact (SubS.cons rfl SubS.nil)
      ·skip
       exact ⟨by omega, by have := opn_valid (st := newSt) (s := s) (now := 0) (by rw [(new_opn hv0 (by decide) (by decide)).1]; decide); rw [(new_opn hv0 (by decide) (by decide)).2.2] at this; exact this, ⟨⟨1, 0, s⟩, by simp, rfl, rfl, Int.le_refl _⟩⟩
      intro k st hinv
      obtain ⟨hk, hv, hu⟩ := hinv
      have ht : tm st := ⟨hv.1.2.2.1, hv.1.2.2.2.1⟩
      refine W.seq ?_
      refine W.seq ?_
      refine W.region ?_
      refine SL.val (O.move rfl rfl Taken.no) ?_
      refine SL.val (O.move rfl rfl Taken.no) ?_
      refine SL.val (O.lenE (SlOf.fz rfl (by decide)) (by first | exact List.length_map _ | rfl) Try.underlying69 rfl Taken.no) ?_
      refine SL.val (O.det (fun _ => G.R.lss rfl rfl) rfl Taken.no) ?_
      refine SL.nil ?_
      refine E.to ?_
      first | refine W.cond_d rfl (fun hc6 => ?_) (fun hc6 => ?_) | refine W.cond_nd rfl (fun hc6 => ?_) (fun hc6 => ?_) | refine W.cond rfl (fun hc6 => ?_) (fun hc6 => ?_)
      ·skip
       refine W.skip ?_
       refine E.to ?_
       refine W.seq ?_
       refine W.block ?_
       refine W.seq ?_
       refine W.region ?_
       refine SL.val (O.move rfl rfl Taken.no) ?_
       refine SL.val (O.move rfl rfl Taken.no) ?_
       refine SL.val (O.idx_fz rfl rfl (rfl) (row_get (by omega)) Try.underlying69 hi82 hs82 rfl Taken.no) ?_
       refine SL.val (O.ldU (m := 6) (PtU.fz rfl) rfl Try.underlying82 rfl (by kernel_rfl) rfl Taken.no) ?_
       refine SL.memS (O.alloc (z := .agg #[.int .i64 0, .int .i64 0, .int .i64 0, .int .i64 0, .int .i64 0, .slice none 0 0]) (is := [.u (.sc (.int .i64 0)), .u (.sc (.int .i64 0)), .u (.sc (.int .i64 0)), .u (.sc (.int .i64 0)), .u (.sc (.int .i64 0)), .u (.sc (.slice none 0 0))]) 103 (by kernel_rfl) rfl rfl rfl Taken.no) rfl rfl (S' := (103, _) :: _) rfl ?_
       refine SL.effS (O.st_ref (m := 6) rfl rfl rfl (js := [_, _, _, _, _, _]) rfl rfl (by kernel_rfl) (by simp) (Nat.le_of_ble_eq_true rfl) rfl (is' := [_, _, _, _, _, _]) rfl Taken.no) (S' := (103, _) :: _) rfl ?_
       refine SL.nil ?_
       refine E.to ?_
       refine W.seq ?_
       refine W.region ?_
       refine SL.val (O.fld_ref (o' := 3) rfl Try.underlying82 rfl (m := 0) (by kernel_rfl) rfl rfl Taken.no) ?_
       refine SL.val (O.ld1 (PtI.ref rfl rfl) rfl Try.underlying3 rfl rfl Taken.no) ?_
       refine SL.val (O.det (fun _ => G.R.mv (G.R.max2 rfl rfl) (congrArg (Value.int .i64) (show _ = max l[k]!.by_ 0 by split <;> omega))) rfl Taken.no) ?_
       refine SL.val (O.det (fun _ => G.R.mv (G.R.min2 rfl rfl) (congrArg (Value.int .i64) (show _ = min (max l[k]!.by_ 0) 30 by split <;> omega))) rfl Taken.no) ?_
       refine SL.val (O.fld_ref (o' := 3) rfl Try.underlying82 rfl (m := 0) (by kernel_rfl) rfl rfl Taken.no) ?_
       refine SL.effS (O.st_ref (m := 1) rfl rfl rfl (js := [_]) rfl rfl (by kernel_rfl) (by simp) (Nat.le_of_ble_eq_true rfl) rfl (is' := [_, _, _, _, _, _]) rfl Taken.no) (S' := (103, _) :: _) rfl ?_
       refine SL.nil ?_
       refine E.to ?_
       refine W.seq ?_
       refine W.seq ?_
       refine W.region ?_
       refine SL.val (O.fld_ref (o' := 0) rfl Try.underlying82 rfl (m := 0) (by kernel_rfl) rfl rfl Taken.no) ?_
       refine SL.val (O.ld1 (PtI.ref rfl rfl) rfl Try.underlying3 rfl rfl Taken.no) ?_
       refine SL.val (O.det (fun _ => G.R.neq rfl rfl) rfl Taken.no) ?_
       refine SL.val (O.move rfl rfl Taken.no) ?_
       refine SL.case (j := 3) (g := 77) (want := true) rfl rfl (fun hg7 => ?_) (fun hg7 => ?_)
       ·skip
        first | have hg7p := G.gA1 hg7 | have hg7p := G.gA2 hg7 | have hg7p := hg7
        refine SL.val (O.fld_ref (o' := 0) rfl Try.underlying82 rfl (m := 0) (by kernel_rfl) rfl rfl (Taken.yes rfl rfl hg7)) ?_
        refine SL.val (O.ld1 (PtI.ref rfl rfl) rfl Try.underlying3 rfl rfl (Taken.yes rfl rfl hg7)) ?_
        refine SL.val (O.det (fun _ => G.R.neq rfl rfl) rfl (Taken.yes rfl rfl hg7)) ?_
        refine SL.val (O.pick_t rfl hg7 rfl rfl Taken.no) ?_
        refine SL.val (O.move rfl rfl Taken.no) ?_
        refine SL.case (j := 8) (g := 82) (want := true) rfl rfl (fun hg8 => ?_) (fun hg8 => ?_)
        ·skip
         first | have hg8p := G.gA1 hg8 | have hg8p := G.gA2 hg8 | have hg8p := hg8
         refine SL.val (O.fld_ref (o' := 1) rfl Try.underlying82 rfl (m := 0) (by kernel_rfl) rfl rfl (Taken.yes rfl rfl hg8)) ?_
         refine SL.val (O.ld1 (PtI.ref rfl rfl) rfl Try.underlying3 rfl rfl (Taken.yes rfl rfl hg8)) ?_
         refine SL.val (O.move rfl rfl (Taken.yes rfl rfl hg8)) ?_
         refine SL.val (O.det (fun _ => G.R.eql rfl rfl) rfl (Taken.yes rfl rfl hg8)) ?_
         refine SL.val (O.pick_t rfl hg8 rfl rfl Taken.no) ?_
         refine SL.nil ?_
         refine E.to ?_
         refine W.pick (.cons (t := 1) rfl (.cons (t := 2) rfl (.cons (t := 7) rfl (.cons (t := 8) rfl (.cons (t := 10) rfl (.cons (t := 11) rfl (.cons (t := 12) rfl (.cons (t := 13) rfl (.cons (t := 87) rfl .nil))))))))) (.cons (t := 101) rfl (.cons (t := 102) rfl (.cons (t := 103) rfl .nil))) ?_
         first | refine W.cond_d rfl (fun hc9 => ?_) (fun hc9 => ?_) | refine W.cond_nd rfl (fun hc9 => ?_) (fun hc9 => ?_) | refine W.cond rfl (fun hc9 => ?_) (fun hc9 => ?_)
         ·skip
          refine W.exit ?_
          refine E.th ?_
          refine E.hit ?_
          refine E.to ?_
          refine W.region ?_
          refine SL.val (O.move rfl rfl Taken.no) ?_
          refine SL.val (O.det (fun _ => by first | exact G.R.add64 rfl rfl (by omega) | exact G.R.add rfl rfl) rfl Taken.no) ?_
          refine SL.val (O.assign rfl rfl Taken.no) ?_
          refine SL.nil ?_
          refine E.again ((k + 1), (st)) (rn []) ?_ ?_ rfl (fixL_spec rfl) ?_ ?_
          · exact (SubF.cons rfl (SubF.cons rfl (SubF.cons rfl (SubF.cons rfl (SubF.cons rfl (SubF.cons rfl (SubF.cons rfl SubF.nil)))))))
          · exact (SubS.cons rfl (SubS.cons rfl SubS.nil))
          ·try dsimp only
           exact ⟨by omega, hv, hu⟩
          · (try dsimp only); omega
         ·skip
          refine W.skip ?_
          refine E.to ?_
          refine W.seq ?_
          refine W.region ?_
          refine SL.val (O.ldN (m := 3) (PtI.ref rfl rfl) (js := [_, _, _]) rfl (Nat.le_of_ble_eq_true rfl) Try.underlying73 rfl (by kernel_rfl) rfl Taken.no) ?_
          refine SL.val (O.ldN (m := 6) (PtI.ref rfl rfl) (js := [_, _, _, _, _, _]) rfl (Nat.le_of_ble_eq_true rfl) Try.underlying82 rfl (by kernel_rfl) rfl Taken.no) ?_
          refine SL.memS (O.call (rn []) [] rfl rfl rfl (do_h (st := st) (o := (clampO l[k]!)) ht) (.cons (ArgOk.aggU (.cons (ArgOk.same rfl) (.cons (ArgOk.same rfl) (.cons (ArgOk.same rfl) .nil)))) (.cons (ArgOk.aggU (.cons (ArgOk.same rfl) (.cons (ArgOk.same rfl) (.cons (ArgOk.same rfl) (.cons (ArgOk.same rfl) (.cons (ArgOk.same rfl) (.cons (ArgOk.same rfl) .nil))))))) .nil)) SubS.nil rfl rfl rfl rfl rfl (.inl rfl) hcallOk37 (r' := .tup [.agg [.u _, .u _, .u _], .u _, .u _, .u _]) rfl rfl Taken.no) rfl rfl (S' := _) rfl ?_
          refine SL.val (O.move rfl rfl Taken.no) ?_
          refine SL.val (O.extract rfl rfl rfl Taken.no) ?_
          refine SL.val (O.extract rfl rfl rfl Taken.no) ?_
          refine SL.val (O.extract rfl rfl rfl Taken.no) ?_
          refine SL.val (O.extract rfl rfl rfl Taken.no) ?_
          refine SL.memS (O.alloc (z := .agg #[.int .i64 0, .int .i64 0, .slice none 0 0]) (is := [.u (.sc (.int .i64 0)), .u (.sc (.int .i64 0)), .u (.sc (.slice none 0 0))]) 104 (by kernel_rfl) rfl rfl rfl Taken.no) rfl rfl (S' := (104, _) :: _) rfl ?_
          refine SL.effS (O.st_ref (m := 3) rfl rfl rfl (js := [_, _, _]) rfl rfl (by kernel_rfl) (by simp) (Nat.le_of_ble_eq_true rfl) rfl (is' := [_, _, _]) rfl Taken.no) (S' := (104, _) :: _) rfl ?_
          refine SL.val (O.assign rfl rfl Taken.no) ?_
          refine SL.val (O.assign rfl rfl Taken.no) ?_
          refine SL.val (O.assign rfl rfl Taken.no) ?_
          refine SL.nil ?_
          refine E.to ?_
          refine W.seq ?_
          refine W.seq ?_
          refine W.region ?_
          refine SL.val (O.move rfl rfl Taken.no) ?_
          refine SL.val (O.det (fun _ => G.R.neq rfl rfl) rfl Taken.no) ?_
          refine SL.nil ?_
          refine E.to ?_
          first | refine W.cond_d rfl (fun hc10 => ?_) (fun hc10 => ?_) | refine W.cond_nd rfl (fun hc10 => ?_) (fun hc10 => ?_) | refine W.cond rfl (fun hc10 => ?_) (fun hc10 => ?_)
          ·skip
           have fz := frozen_get (p := page) (frozen_do (o := l[k]!) hu (by omega) (by omega)).1 (frozen_do (o := l[k]!) hu (by omega) (by omega)).2
           refine W.region ?_
           refine SL.val (O.ldN (m := 3) (PtI.ref rfl rfl) (js := [_, _, _]) rfl (Nat.le_of_ble_eq_true rfl) Try.underlying73 rfl (by kernel_rfl) rfl Taken.no) ?_
           refine SL.effS (O.st_ref (m := 3) rfl rfl rfl (js := [_, _, _]) rfl rfl (by kernel_rfl) (by simp) (Nat.le_of_ble_eq_true rfl) rfl (is' := [_, _, _]) rfl Taken.no) (S' := (102, _) :: _) rfl ?_
           refine SL.nil ?_
           refine E.to ?_
           refine W.seq ?_
           refine W.region ?_
           refine SL.val (O.ldN (m := 3) (PtI.ref rfl rfl) (js := [_, _, _]) rfl (Nat.le_of_ble_eq_true rfl) Try.underlying73 rfl (by kernel_rfl) rfl Taken.no) ?_
           refine SL.val (O.move rfl rfl Taken.no) ?_
           refine SL.val (O.move rfl rfl Taken.no) ?_
           refine SL.val (O.fld_ref (o' := 1) rfl Try.underlying73 rfl (m := 0) (by kernel_rfl) rfl rfl Taken.no) ?_
           refine SL.val (O.ld1 (PtI.ref rfl rfl) rfl Try.underlying3 rfl rfl Taken.no) ?_
           refine SL.memS (O.call (rn []) [] rfl rfl rfl (get_h 1 page) (.cons (ArgOk.aggU (.cons (ArgOk.same rfl) (.cons (ArgOk.same rfl) (.cons (ArgOk.same rfl) .nil)))) (.cons (ArgOk.same rfl) (.cons (ArgOk.same rfl) (.cons (ArgOk.same rfl) .nil)))) SubS.nil rfl rfl rfl rfl rfl (.inl rfl) hcallOk46 (r' := .tup [.agg [.u _, .u _, .u _], .u _, .u _]) rfl rfl Taken.no) rfl rfl (S' := _) rfl ?_
           refine SL.val (O.move rfl rfl Taken.no) ?_
           refine SL.val (O.extract rfl rfl rfl Taken.no) ?_
           refine SL.val (O.extract rfl rfl rfl Taken.no) ?_
           refine SL.val (O.extract rfl rfl rfl Taken.no) ?_
           refine SL.memS (O.alloc (z := .agg #[.int .i64 0, .int .i64 0, .slice none 0 0]) (is := [.u (.sc (.int .i64 0)), .u (.sc (.int .i64 0)), .u (.sc (.slice none 0 0))]) 105 (by kernel_rfl) rfl rfl rfl Taken.no) rfl rfl (S' := (105, _) :: _) rfl ?_
           refine SL.effS (O.st_ref (m := 3) rfl rfl rfl (js := [_, _, _]) rfl rfl (by kernel_rfl) (by simp) (Nat.le_of_ble_eq_true rfl) rfl (is' := [_, _, _]) rfl Taken.no) (S' := (105, _) :: _) rfl ?_
           refine SL.val (O.assign rfl rfl Taken.no) ?_
           refine SL.val (O.assign rfl rfl Taken.no) ?_
           refine SL.nil ?_
           refine E.to ?_
           refine W.pick (.cons (t := 1) rfl (.cons (t := 2) rfl (.cons (t := 7) rfl (.cons (t := 8) rfl (.cons (t := 10) rfl (.cons (t := 11) rfl (.cons (t := 12) rfl (.cons (t := 18) rfl (.cons (t := 19) rfl (.cons (t := 20) rfl .nil)))))))))) (.cons (t := 101) rfl (.cons (t := 102) rfl (.cons (t := 103) rfl (.cons (t := 104) rfl (.cons (t := 105) rfl .nil))))) ?_
           refine W.seq ?_
           refine W.seq ?_
           refine W.region ?_
           refine SL.val (O.move rfl rfl Taken.no) ?_
           refine SL.val (O.move rfl rfl Taken.no) ?_
           refine SL.val (O.det (fun _ => G.R.mv (G.R.neq rfl rfl) (congrArg Value.bool (decide_eq_false (by exact fun h => h fz.1)))) rfl Taken.no) ?_
           refine SL.val (O.move rfl rfl Taken.no) ?_
           have hg11 : false = false := by decide
           refine SL.val (O.move rfl rfl (Taken.yes rfl rfl hg11)) ?_
           refine SL.val (O.move rfl rfl (Taken.yes rfl rfl hg11)) ?_
           refine SL.val (O.callp rfl rfl rfl (sameHits_h (a := _) (b := pageQ s page)) (.cons (ArgOk.same rfl) (.cons (ArgOk.same rfl) .nil)) hcallOk25 rfl (Taken.yes rfl rfl hg11)) ?_
           refine SL.as (i' := vB true) 115 rfl (by exact iv_bool (dec_t fz.2.1)) ?_
           refine SL.val (O.det (fun _ => G.R.mv (G.R.not rfl) rfl) rfl (Taken.yes rfl rfl hg11)) ?_
           refine SL.val (O.pick_f rfl rfl rfl rfl Taken.no) ?_
           refine SL.nil ?_
           refine E.to ?_
           refine W.cond_f rfl ?_
           refine W.skip ?_
           refine E.to ?_
           refine W.region ?_
           refine SL.val (O.ldN (m := 3) (PtI.ref rfl rfl) (js := [_, _, _]) rfl (Nat.le_of_ble_eq_true rfl) Try.underlying73 rfl (by kernel_rfl) rfl Taken.no) ?_
           refine SL.effS (O.st_ref (m := 3) rfl rfl rfl (js := [_, _, _]) rfl rfl (by kernel_rfl) (by simp) (Nat.le_of_ble_eq_true rfl) rfl (is' := [_, _, _]) rfl Taken.no) (S' := (102, _) :: _) rfl ?_
           refine SL.nil ?_
           refine E.inn ?_
           refine E.to ?_
           refine W.region ?_
           refine SL.val (O.move rfl rfl Taken.no) ?_
           refine SL.val (O.det (fun _ => by first | exact G.R.add64 rfl rfl (by omega) | exact G.R.add rfl rfl) rfl Taken.no) ?_
           refine SL.val (O.assign rfl rfl Taken.no) ?_
           refine SL.nil ?_
           refine E.again ((k + 1), (getS (doS st (clampO l[k]!)) 1 (doS st (clampO l[k]!)).time)) (rn []) ?_ ?_ rfl (fixL_spec rfl) ?_ ?_
           · exact (SubF.cons rfl (SubF.cons rfl (SubF.cons rfl (SubF.cons rfl (SubF.cons rfl (SubF.cons rfl (SubF.cons rfl SubF.nil)))))))
           · exact (SubS.cons rfl (SubS.cons rfl SubS.nil))
           ·try dsimp only
            exact ⟨by omega, fz.2.2⟩
           · (try dsimp only); omega
          ·skip
           have fz := frozen_get (p := page) hv (hasU_has hu)
           refine W.skip ?_
           refine E.to ?_
           refine W.seq ?_
           refine W.region ?_
           refine SL.val (O.ldN (m := 3) (PtI.ref rfl rfl) (js := [_, _, _]) rfl (Nat.le_of_ble_eq_true rfl) Try.underlying73 rfl (by kernel_rfl) rfl Taken.no) ?_
           refine SL.val (O.move rfl rfl Taken.no) ?_
           refine SL.val (O.move rfl rfl Taken.no) ?_
           refine SL.val (O.fld_ref (o' := 1) rfl Try.underlying73 rfl (m := 0) (by kernel_rfl) rfl rfl Taken.no) ?_
           refine SL.val (O.ld1 (PtI.ref rfl rfl) rfl Try.underlying3 rfl rfl Taken.no) ?_
           refine SL.memS (O.call (rn []) [] rfl rfl rfl (get_h 1 page) (.cons (ArgOk.aggU (.cons (ArgOk.same rfl) (.cons (ArgOk.same rfl) (.cons (ArgOk.same rfl) .nil)))) (.cons (ArgOk.same rfl) (.cons (ArgOk.same rfl) (.cons (ArgOk.same rfl) .nil)))) SubS.nil rfl rfl rfl rfl rfl (.inl rfl) hcallOk46 (r' := .tup [.agg [.u _, .u _, .u _], .u _, .u _]) rfl rfl Taken.no) rfl rfl (S' := _) rfl ?_
           refine SL.val (O.move rfl rfl Taken.no) ?_
           refine SL.val (O.extract rfl rfl rfl Taken.no) ?_
           refine SL.val (O.extract rfl rfl rfl Taken.no) ?_
           refine SL.val (O.extract rfl rfl rfl Taken.no) ?_
           refine SL.memS (O.alloc (z := .agg #[.int .i64 0, .int .i64 0, .slice none 0 0]) (is := [.u (.sc (.int .i64 0)), .u (.sc (.int .i64 0)), .u (.sc (.slice none 0 0))]) 106 (by kernel_rfl) rfl rfl rfl Taken.no) rfl rfl (S' := (106, _) :: _) rfl ?_
           refine SL.effS (O.st_ref (m := 3) rfl rfl rfl (js := [_, _, _]) rfl rfl (by kernel_rfl) (by simp) (Nat.le_of_ble_eq_true rfl) rfl (is' := [_, _, _]) rfl Taken.no) (S' := (106, _) :: _) rfl ?_
           refine SL.val (O.assign rfl rfl Taken.no) ?_
           refine SL.val (O.assign rfl rfl Taken.no) ?_
           refine SL.nil ?_
           refine E.to ?_
           refine W.pick (.cons (t := 1) rfl (.cons (t := 2) rfl (.cons (t := 7) rfl (.cons (t := 8) rfl (.cons (t := 10) rfl (.cons (t := 11) rfl (.cons (t := 12) rfl (.cons (t := 18) rfl (.cons (t := 19) rfl (.cons (t := 20) rfl .nil)))))))))) (.cons (t := 101) rfl (.cons (t := 102) rfl (.cons (t := 103) rfl (.cons (t := 104) rfl (.cons (t := 106) rfl .nil))))) ?_
           refine W.seq ?_
           refine W.seq ?_
           refine W.region ?_
           refine SL.val (O.move rfl rfl Taken.no) ?_
           refine SL.val (O.move rfl rfl Taken.no) ?_
           refine SL.val (O.det (fun _ => G.R.mv (G.R.neq rfl rfl) (congrArg Value.bool (decide_eq_false (by exact fun h => h fz.1)))) rfl Taken.no) ?_
           refine SL.val (O.move rfl rfl Taken.no) ?_
           have hg12 : false = false := by decide
           refine SL.val (O.move rfl rfl (Taken.yes rfl rfl hg12)) ?_
           refine SL.val (O.move rfl rfl (Taken.yes rfl rfl hg12)) ?_
           refine SL.val (O.callp rfl rfl rfl (sameHits_h (a := _) (b := pageQ s page)) (.cons (ArgOk.same rfl) (.cons (ArgOk.same rfl) .nil)) hcallOk25 rfl (Taken.yes rfl rfl hg12)) ?_
           refine SL.as (i' := vB true) 115 rfl (by exact iv_bool (dec_t fz.2.1)) ?_
           refine SL.val (O.det (fun _ => G.R.mv (G.R.not rfl) rfl) rfl (Taken.yes rfl rfl hg12)) ?_
           refine SL.val (O.pick_f rfl rfl rfl rfl Taken.no) ?_
           refine SL.nil ?_
           refine E.to ?_
           refine W.cond_f rfl ?_
           refine W.skip ?_
           refine E.to ?_
           refine W.region ?_
           refine SL.val (O.ldN (m := 3) (PtI.ref rfl rfl) (js := [_, _, _]) rfl (Nat.le_of_ble_eq_true rfl) Try.underlying73 rfl (by kernel_rfl) rfl Taken.no) ?_
           refine SL.effS (O.st_ref (m := 3) rfl rfl rfl (js := [_, _, _]) rfl rfl (by kernel_rfl) (by simp) (Nat.le_of_ble_eq_true rfl) rfl (is' := [_, _, _]) rfl Taken.no) (S' := (102, _) :: _) rfl ?_
           refine SL.nil ?_
           refine E.inn ?_
           refine E.to ?_
           refine W.region ?_
           refine SL.val (O.move rfl rfl Taken.no) ?_
           refine SL.val (O.det (fun _ => by first | exact G.R.add64 rfl rfl (by omega) | exact G.R.add rfl rfl) rfl Taken.no) ?_
           refine SL.val (O.assign rfl rfl Taken.no) ?_
           refine SL.nil ?_
           refine E.again ((k + 1), (getS st 1 st.time)) (rn []) ?_ ?_ rfl (fixL_spec rfl) ?_ ?_
           · exact (SubF.cons rfl (SubF.cons rfl (SubF.cons rfl (SubF.cons rfl (SubF.cons rfl (SubF.cons rfl (SubF.cons rfl SubF.nil)))))))
           · exact (SubS.cons rfl (SubS.cons rfl SubS.nil))
           ·try dsimp only
            exact ⟨by omega, fz.2.2⟩
           · (try dsimp only); omega
        ·skip
         first | have hg8p := G.gA5 hg8 | have hg8p := G.gA6 hg8 | have hg8p := hg8
         refine SL.skip (OpOk.not rfl rfl rfl hg8) ?_
         refine SL.skip (OpOk.not rfl rfl rfl hg8) ?_
         refine SL.skip (OpOk.not rfl rfl rfl hg8) ?_
         refine SL.skip (OpOk.not rfl rfl rfl hg8) ?_
         refine SL.val (O.pick_f rfl (G.ne_t hg8) rfl rfl Taken.no) ?_
         refine SL.nil ?_
         refine E.to ?_
         refine W.pick (.cons (t := 1) rfl (.cons (t := 2) rfl (.cons (t := 7) rfl (.cons (t := 8) rfl (.cons (t := 10) rfl (.cons (t := 11) rfl (.cons (t := 12) rfl (.cons (t := 13) rfl (.cons (t := 87) rfl .nil))))))))) (.cons (t := 101) rfl (.cons (t := 102) rfl (.cons (t := 103) rfl .nil))) ?_
         refine W.cond_f rfl ?_
         refine W.skip ?_
         refine E.to ?_
         refine W.seq ?_
         refine W.region ?_
         refine SL.val (O.ldN (m := 3) (PtI.ref rfl rfl) (js := [_, _, _]) rfl (Nat.le_of_ble_eq_true rfl) Try.underlying73 rfl (by kernel_rfl) rfl Taken.no) ?_
         refine SL.val (O.ldN (m := 6) (PtI.ref rfl rfl) (js := [_, _, _, _, _, _]) rfl (Nat.le_of_ble_eq_true rfl) Try.underlying82 rfl (by kernel_rfl) rfl Taken.no) ?_
         refine SL.memS (O.call (rn []) [] rfl rfl rfl (do_h (st := st) (o := (clampO l[k]!)) ht) (.cons (ArgOk.aggU (.cons (ArgOk.same rfl) (.cons (ArgOk.same rfl) (.cons (ArgOk.same rfl) .nil)))) (.cons (ArgOk.aggU (.cons (ArgOk.same rfl) (.cons (ArgOk.same rfl) (.cons (ArgOk.same rfl) (.cons (ArgOk.same rfl) (.cons (ArgOk.same rfl) (.cons (ArgOk.same rfl) .nil))))))) .nil)) SubS.nil rfl rfl rfl rfl rfl (.inl rfl) hcallOk37 (r' := .tup [.agg [.u _, .u _, .u _], .u _, .u _, .u _]) rfl rfl Taken.no) rfl rfl (S' := _) rfl ?_
         refine SL.val (O.move rfl rfl Taken.no) ?_
         refine SL.val (O.extract rfl rfl rfl Taken.no) ?_
         refine SL.val (O.extract rfl rfl rfl Taken.no) ?_
         refine SL.val (O.extract rfl rfl rfl Taken.no) ?_
         refine SL.val (O.extract rfl rfl rfl Taken.no) ?_
         refine SL.memS (O.alloc (z := .agg #[.int .i64 0, .int .i64 0, .slice none 0 0]) (is := [.u (.sc (.int .i64 0)), .u (.sc (.int .i64 0)), .u (.sc (.slice none 0 0))]) 107 (by kernel_rfl) rfl rfl rfl Taken.no) rfl rfl (S' := (107, _) :: _) rfl ?_
         refine SL.effS (O.st_ref (m := 3) rfl rfl rfl (js := [_, _, _]) rfl rfl (by kernel_rfl) (by simp) (Nat.le_of_ble_eq_true rfl) rfl (is' := [_, _, _]) rfl Taken.no) (S' := (107, _) :: _) rfl ?_
         refine SL.val (O.assign rfl rfl Taken.no) ?_
         refine SL.val (O.assign rfl rfl Taken.no) ?_
         refine SL.val (O.assign rfl rfl Taken.no) ?_
         refine SL.nil ?_
         refine E.to ?_
         refine W.seq ?_
         refine W.seq ?_
         refine W.region ?_
         refine SL.val (O.move rfl rfl Taken.no) ?_
         refine SL.val (O.det (fun _ => G.R.neq rfl rfl) rfl Taken.no) ?_
         refine SL.nil ?_
         refine E.to ?_
         first | refine W.cond_d rfl (fun hc13 => ?_) (fun hc13 => ?_) | refine W.cond_nd rfl (fun hc13 => ?_) (fun hc13 => ?_) | refine W.cond rfl (fun hc13 => ?_) (fun hc13 => ?_)
         ·skip
          have fz := frozen_get (p := page) (frozen_do (o := l[k]!) hu (by omega) (by omega)).1 (frozen_do (o := l[k]!) hu (by omega) (by omega)).2
          refine W.region ?_
          refine SL.val (O.ldN (m := 3) (PtI.ref rfl rfl) (js := [_, _, _]) rfl (Nat.le_of_ble_eq_true rfl) Try.underlying73 rfl (by kernel_rfl) rfl Taken.no) ?_
          refine SL.effS (O.st_ref (m := 3) rfl rfl rfl (js := [_, _, _]) rfl rfl (by kernel_rfl) (by simp) (Nat.le_of_ble_eq_true rfl) rfl (is' := [_, _, _]) rfl Taken.no) (S' := (102, _) :: _) rfl ?_
          refine SL.nil ?_
          refine E.to ?_
          refine W.seq ?_
          refine W.region ?_
          refine SL.val (O.ldN (m := 3) (PtI.ref rfl rfl) (js := [_, _, _]) rfl (Nat.le_of_ble_eq_true rfl) Try.underlying73 rfl (by kernel_rfl) rfl Taken.no) ?_
          refine SL.val (O.move rfl rfl Taken.no) ?_
          refine SL.val (O.move rfl rfl Taken.no) ?_
          refine SL.val (O.fld_ref (o' := 1) rfl Try.underlying73 rfl (m := 0) (by kernel_rfl) rfl rfl Taken.no) ?_
          refine SL.val (O.ld1 (PtI.ref rfl rfl) rfl Try.underlying3 rfl rfl Taken.no) ?_
          refine SL.memS (O.call (rn []) [] rfl rfl rfl (get_h 1 page) (.cons (ArgOk.aggU (.cons (ArgOk.same rfl) (.cons (ArgOk.same rfl) (.cons (ArgOk.same rfl) .nil)))) (.cons (ArgOk.same rfl) (.cons (ArgOk.same rfl) (.cons (ArgOk.same rfl) .nil)))) SubS.nil rfl rfl rfl rfl rfl (.inl rfl) hcallOk46 (r' := .tup [.agg [.u _, .u _, .u _], .u _, .u _]) rfl rfl Taken.no) rfl rfl (S' := _) rfl ?_
          refine SL.val (O.move rfl rfl Taken.no) ?_
          refine SL.val (O.extract rfl rfl rfl Taken.no) ?_
          refine SL.val (O.extract rfl rfl rfl Taken.no) ?_
          refine SL.val (O.extract rfl rfl rfl Taken.no) ?_
          refine SL.memS (O.alloc (z := .agg #[.int .i64 0, .int .i64 0, .slice none 0 0]) (is := [.u (.sc (.int .i64 0)), .u (.sc (.int .i64 0)), .u (.sc (.slice none 0 0))]) 108 (by kernel_rfl) rfl rfl rfl Taken.no) rfl rfl (S' := (108, _) :: _) rfl ?_
          refine SL.effS (O.st_ref (m := 3) rfl rfl rfl (js := [_, _, _]) rfl rfl (by kernel_rfl) (by simp) (Nat.le_of_ble_eq_true rfl) rfl (is' := [_, _, _]) rfl Taken.no) (S' := (108, _) :: _) rfl ?_
          refine SL.val (O.assign rfl rfl Taken.no) ?_
          refine SL.val (O.assign rfl rfl Taken.no) ?_
          refine SL.nil ?_
          refine E.to ?_
          refine W.pick (.cons (t := 1) rfl (.cons (t := 2) rfl (.cons (t := 7) rfl (.cons (t := 8) rfl (.cons (t := 10) rfl (.cons (t := 11) rfl (.cons (t := 12) rfl (.cons (t := 18) rfl (.cons (t := 19) rfl (.cons (t := 20) rfl .nil)))))))))) (.cons (t := 101) rfl (.cons (t := 102) rfl (.cons (t := 103) rfl (.cons (t := 107) rfl (.cons (t := 108) rfl .nil))))) ?_
          refine W.seq ?_
          refine W.seq ?_
          refine W.region ?_
          refine SL.val (O.move rfl rfl Taken.no) ?_
          refine SL.val (O.move rfl rfl Taken.no) ?_
          refine SL.val (O.det (fun _ => G.R.mv (G.R.neq rfl rfl) (congrArg Value.bool (decide_eq_false (by exact fun h => h fz.1)))) rfl Taken.no) ?_
          refine SL.val (O.move rfl rfl Taken.no) ?_
          have hg14 : false = false := by decide
          refine SL.val (O.move rfl rfl (Taken.yes rfl rfl hg14)) ?_
          refine SL.val (O.move rfl rfl (Taken.yes rfl rfl hg14)) ?_
          refine SL.val (O.callp rfl rfl rfl (sameHits_h (a := _) (b := pageQ s page)) (.cons (ArgOk.same rfl) (.cons (ArgOk.same rfl) .nil)) hcallOk25 rfl (Taken.yes rfl rfl hg14)) ?_
          refine SL.as (i' := vB true) 115 rfl (by exact iv_bool (dec_t fz.2.1)) ?_
          refine SL.val (O.det (fun _ => G.R.mv (G.R.not rfl) rfl) rfl (Taken.yes rfl rfl hg14)) ?_
          refine SL.val (O.pick_f rfl rfl rfl rfl Taken.no) ?_
          refine SL.nil ?_
          refine E.to ?_
          refine W.cond_f rfl ?_
          refine W.skip ?_
          refine E.to ?_
          refine W.region ?_
          refine SL.val (O.ldN (m := 3) (PtI.ref rfl rfl) (js := [_, _, _]) rfl (Nat.le_of_ble_eq_true rfl) Try.underlying73 rfl (by kernel_rfl) rfl Taken.no) ?_
          refine SL.effS (O.st_ref (m := 3) rfl rfl rfl (js := [_, _, _]) rfl rfl (by kernel_rfl) (by simp) (Nat.le_of_ble_eq_true rfl) rfl (is' := [_, _, _]) rfl Taken.no) (S' := (102, _) :: _) rfl ?_
          refine SL.nil ?_
          refine E.inn ?_
          refine E.to ?_
          refine W.region ?_
          refine SL.val (O.move rfl rfl Taken.no) ?_
          refine SL.val (O.det (fun _ => by first | exact G.R.add64 rfl rfl (by omega) | exact G.R.add rfl rfl) rfl Taken.no) ?_
          refine SL.val (O.assign rfl rfl Taken.no) ?_
          refine SL.nil ?_
          refine E.again ((k + 1), (getS (doS st (clampO l[k]!)) 1 (doS st (clampO l[k]!)).time)) (rn []) ?_ ?_ rfl (fixL_spec rfl) ?_ ?_
          · exact (SubF.cons rfl (SubF.cons rfl (SubF.cons rfl (SubF.cons rfl (SubF.cons rfl (SubF.cons rfl (SubF.cons rfl SubF.nil)))))))
          · exact (SubS.cons rfl (SubS.cons rfl SubS.nil))
          ·try dsimp only
           exact ⟨by omega, fz.2.2⟩
          · (try dsimp only); omega
         ·skip
          have fz := frozen_get (p := page) hv (hasU_has hu)
          refine W.skip ?_
          refine E.to ?_
          refine W.seq ?_
          refine W.region ?_
          refine SL.val (O.ldN (m := 3) (PtI.ref rfl rfl) (js := [_, _, _]) rfl (Nat.le_of_ble_eq_true rfl) Try.underlying73 rfl (by kernel_rfl) rfl Taken.no) ?_
          refine SL.val (O.move rfl rfl Taken.no) ?_
          refine SL.val (O.move rfl rfl Taken.no) ?_
          refine SL.val (O.fld_ref (o' := 1) rfl Try.underlying73 rfl (m := 0) (by kernel_rfl) rfl rfl Taken.no) ?_
          refine SL.val (O.ld1 (PtI.ref rfl rfl) rfl Try.underlying3 rfl rfl Taken.no) ?_
          refine SL.memS (O.call (rn []) [] rfl rfl rfl (get_h 1 page) (.cons (ArgOk.aggU (.cons (ArgOk.same rfl) (.cons (ArgOk.same rfl) (.cons (ArgOk.same rfl) .nil)))) (.cons (ArgOk.same rfl) (.cons (ArgOk.same rfl) (.cons (ArgOk.same rfl) .nil)))) SubS.nil rfl rfl rfl rfl rfl (.inl rfl) hcallOk46 (r' := .tup [.agg [.u _, .u _, .u _], .u _, .u _]) rfl rfl Taken.no) rfl rfl (S' := _) rfl ?_
          refine SL.val (O.move rfl rfl Taken.no) ?_
          refine SL.val (O.extract rfl rfl rfl Taken.no) ?_
          refine SL.val (O.extract rfl rfl rfl Taken.no) ?_
          refine SL.val (O.extract rfl rfl rfl Taken.no) ?_
          refine SL.memS (O.alloc (z := .agg #[.int .i64 0, .int .i64 0, .slice none 0 0]) (is := [.u (.sc (.int .i64 0)), .u (.sc (.int .i64 0)), .u (.sc (.slice none 0 0))]) 109 (by kernel_rfl) rfl rfl rfl Taken.no) rfl rfl (S' := (109, _) :: _) rfl ?_
          refine SL.effS (O.st_ref (m := 3) rfl rfl rfl (js := [_, _, _]) rfl rfl (by kernel_rfl) (by simp) (Nat.le_of_ble_eq_true rfl) rfl (is' := [_, _, _]) rfl Taken.no) (S' := (109, _) :: _) rfl ?_
          refine SL.val (O.assign rfl rfl Taken.no) ?_
          refine SL.val (O.assign rfl rfl Taken.no) ?_
          refine SL.nil ?_
          refine E.to ?_
          refine W.pick (.cons (t := 1) rfl (.cons (t := 2) rfl (.cons (t := 7) rfl (.cons (t := 8) rfl (.cons (t := 10) rfl (.cons (t := 11) rfl (.cons (t := 12) rfl (.cons (t := 18) rfl (.cons (t := 19) rfl (.cons (t := 20) rfl .nil)))))))))) (.cons (t := 101) rfl (.cons (t := 102) rfl (.cons (t := 103) rfl (.cons (t := 107) rfl (.cons (t := 109) rfl .nil))))) ?_
          refine W.seq ?_
          refine W.seq ?_
          refine W.region ?_
          refine SL.val (O.move rfl rfl Taken.no) ?_
          refine SL.val (O.move rfl rfl Taken.no) ?_
          refine SL.val (O.det (fun _ => G.R.mv (G.R.neq rfl rfl) (congrArg Value.bool (decide_eq_false (by exact fun h => h fz.1)))) rfl Taken.no) ?_
          refine SL.val (O.move rfl rfl Taken.no) ?_
          have hg15 : false = false := by decide
          refine SL.val (O.move rfl rfl (Taken.yes rfl rfl hg15)) ?_
          refine SL.val (O.move rfl rfl (Taken.yes rfl rfl hg15)) ?_
          refine SL.val (O.callp rfl rfl rfl (sameHits_h (a := _) (b := pageQ s page)) (.cons (ArgOk.same rfl) (.cons (ArgOk.same rfl) .nil)) hcallOk25 rfl (Taken.yes rfl rfl hg15)) ?_
          refine SL.as (i' := vB true) 115 rfl (by exact iv_bool (dec_t fz.2.1)) ?_
          refine SL.val (O.det (fun _ => G.R.mv (G.R.not rfl) rfl) rfl (Taken.yes rfl rfl hg15)) ?_
          refine SL.val (O.pick_f rfl rfl rfl rfl Taken.no) ?_
          refine SL.nil ?_
          refine E.to ?_
          refine W.cond_f rfl ?_
          refine W.skip ?_
          refine E.to ?_
          refine W.region ?_
          refine SL.val (O.ldN (m := 3) (PtI.ref rfl rfl) (js := [_, _, _]) rfl (Nat.le_of_ble_eq_true rfl) Try.underlying73 rfl (by kernel_rfl) rfl Taken.no) ?_
          refine SL.effS (O.st_ref (m := 3) rfl rfl rfl (js := [_, _, _]) rfl rfl (by kernel_rfl) (by simp) (Nat.le_of_ble_eq_true rfl) rfl (is' := [_, _, _]) rfl Taken.no) (S' := (102, _) :: _) rfl ?_
          refine SL.nil ?_
          refine E.inn ?_
          refine E.to ?_
          refine W.region ?_
          refine SL.val (O.move rfl rfl Taken.no) ?_
          refine SL.val (O.det (fun _ => by first | exact G.R.add64 rfl rfl (by omega) | exact G.R.add rfl rfl) rfl Taken.no) ?_
          refine SL.val (O.assign rfl rfl Taken.no) ?_
          refine SL.nil ?_
          refine E.again ((k + 1), (getS st 1 st.time)) (rn []) ?_ ?_ rfl (fixL_spec rfl) ?_ ?_
          · exact (SubF.cons rfl (SubF.cons rfl (SubF.cons rfl (SubF.cons rfl (SubF.cons rfl (SubF.cons rfl (SubF.cons rfl SubF.nil)))))))
          · exact (SubS.cons rfl (SubS.cons rfl SubS.nil))
          ·try dsimp only
           exact ⟨by omega, fz.2.2⟩
          · (try dsimp only); omega
       ·skip
        first | have hg7p := G.gA5 hg7 | have hg7p := G.gA6 hg7 | have hg7p := hg7
        refine SL.skip (OpOk.not rfl rfl rfl hg7) ?_
        refine SL.skip (OpOk.not rfl rfl rfl hg7) ?_
        refine SL.skip (OpOk.not rfl rfl rfl hg7) ?_
        refine SL.val (O.pick_f rfl (G.ne_t hg7) rfl rfl Taken.no) ?_
        refine SL.val (O.move rfl rfl Taken.no) ?_
        have hg16 : false ≠ true := by decide
        refine SL.skip (OpOk.not rfl rfl rfl hg16) ?_
        refine SL.skip (OpOk.not rfl rfl rfl hg16) ?_
        refine SL.skip (OpOk.not rfl rfl rfl hg16) ?_
        refine SL.skip (OpOk.not rfl rfl rfl hg16) ?_
        refine SL.val (O.pick_f rfl rfl rfl rfl Taken.no) ?_
        refine SL.nil ?_
        refine E.to ?_
        refine W.pick (.cons (t := 1) rfl (.cons (t := 2) rfl (.cons (t := 7) rfl (.cons (t := 8) rfl (.cons (t := 10) rfl (.cons (t := 11) rfl (.cons (t := 12) rfl (.cons (t := 13) rfl (.cons (t := 87) rfl .nil))))))))) (.cons (t := 101) rfl (.cons (t := 102) rfl (.cons (t := 103) rfl .nil))) ?_
        refine W.cond_f rfl ?_
        refine W.skip ?_
        refine E.to ?_
        refine W.seq ?_
        refine W.region ?_
        refine SL.val (O.ldN (m := 3) (PtI.ref rfl rfl) (js := [_, _, _]) rfl (Nat.le_of_ble_eq_true rfl) Try.underlying73 rfl (by kernel_rfl) rfl Taken.no) ?_
        refine SL.val (O.ldN (m := 6) (PtI.ref rfl rfl) (js := [_, _, _, _, _, _]) rfl (Nat.le_of_ble_eq_true rfl) Try.underlying82 rfl (by kernel_rfl) rfl Taken.no) ?_
        refine SL.memS (O.call (rn []) [] rfl rfl rfl (do_h (st := st) (o := (clampO l[k]!)) ht) (.cons (ArgOk.aggU (.cons (ArgOk.same rfl) (.cons (ArgOk.same rfl) (.cons (ArgOk.same rfl) .nil)))) (.cons (ArgOk.aggU (.cons (ArgOk.same rfl) (.cons (ArgOk.same rfl) (.cons (ArgOk.same rfl) (.cons (ArgOk.same rfl) (.cons (ArgOk.same rfl) (.cons (ArgOk.same rfl) .nil))))))) .nil)) SubS.nil rfl rfl rfl rfl rfl (.inl rfl) hcallOk37 (r' := .tup [.agg [.u _, .u _, .u _], .u _, .u _, .u _]) rfl rfl Taken.no) rfl rfl (S' := _) rfl ?_
        refine SL.val (O.move rfl rfl Taken.no) ?_
        refine SL.val (O.extract rfl rfl rfl Taken.no) ?_
        refine SL.val (O.extract rfl rfl rfl Taken.no) ?_
        refine SL.val (O.extract rfl rfl rfl Taken.no) ?_
        refine SL.val (O.extract rfl rfl rfl Taken.no) ?_
        refine SL.memS (O.alloc (z := .agg #[.int .i64 0, .int .i64 0, .slice none 0 0]) (is := [.u (.sc (.int .i64 0)), .u (.sc (.int .i64 0)), .u (.sc (.slice none 0 0))]) 110 (by kernel_rfl) rfl rfl rfl Taken.no) rfl rfl (S' := (110, _) :: _) rfl ?_
        refine SL.effS (O.st_ref (m := 3) rfl rfl rfl (js := [_, _, _]) rfl rfl (by kernel_rfl) (by simp) (Nat.le_of_ble_eq_true rfl) rfl (is' := [_, _, _]) rfl Taken.no) (S' := (110, _) :: _) rfl ?_
        refine SL.val (O.assign rfl rfl Taken.no) ?_
        refine SL.val (O.assign rfl rfl Taken.no) ?_
        refine SL.val (O.assign rfl rfl Taken.no) ?_
        refine SL.nil ?_
        refine E.to ?_
        refine W.seq ?_
        refine W.seq ?_
        refine W.region ?_
        refine SL.val (O.move rfl rfl Taken.no) ?_
        refine SL.val (O.det (fun _ => G.R.neq rfl rfl) rfl Taken.no) ?_
        refine SL.nil ?_
        refine E.to ?_
        first | refine W.cond_d rfl (fun hc17 => ?_) (fun hc17 => ?_) | refine W.cond_nd rfl (fun hc17 => ?_) (fun hc17 => ?_) | refine W.cond rfl (fun hc17 => ?_) (fun hc17 => ?_)
        ·skip
         have fz := frozen_get (p := page) (frozen_do (o := l[k]!) hu (by omega) (by omega)).1 (frozen_do (o := l[k]!) hu (by omega) (by omega)).2
         refine W.region ?_
         refine SL.val (O.ldN (m := 3) (PtI.ref rfl rfl) (js := [_, _, _]) rfl (Nat.le_of_ble_eq_true rfl) Try.underlying73 rfl (by kernel_rfl) rfl Taken.no) ?_
         refine SL.effS (O.st_ref (m := 3) rfl rfl rfl (js := [_, _, _]) rfl rfl (by kernel_rfl) (by simp) (Nat.le_of_ble_eq_true rfl) rfl (is' := [_, _, _]) rfl Taken.no) (S' := (102, _) :: _) rfl ?_
         refine SL.nil ?_
         refine E.to ?_
         refine W.seq ?_
         refine W.region ?_
         refine SL.val (O.ldN (m := 3) (PtI.ref rfl rfl) (js := [_, _, _]) rfl (Nat.le_of_ble_eq_true rfl) Try.underlying73 rfl (by kernel_rfl) rfl Taken.no) ?_
         refine SL.val (O.move rfl rfl Taken.no) ?_
         refine SL.val (O.move rfl rfl Taken.no) ?_
         refine SL.val (O.fld_ref (o' := 1) rfl Try.underlying73 rfl (m := 0) (by kernel_rfl) rfl rfl Taken.no) ?_
         refine SL.val (O.ld1 (PtI.ref rfl rfl) rfl Try.underlying3 rfl rfl Taken.no) ?_
         refine SL.memS (O.call (rn []) [] rfl rfl rfl (get_h 1 page) (.cons (ArgOk.aggU (.cons (ArgOk.same rfl) (.cons (ArgOk.same rfl) (.cons (ArgOk.same rfl) .nil)))) (.cons (ArgOk.same rfl) (.cons (ArgOk.same rfl) (.cons (ArgOk.same rfl) .nil)))) SubS.nil rfl rfl rfl rfl rfl (.inl rfl) hcallOk46 (r' := .tup [.agg [.u _, .u _, .u _], .u _, .u _]) rfl rfl Taken.no) rfl rfl (S' := _) rfl ?_
         refine SL.val (O.move rfl rfl Taken.no) ?_
         refine SL.val (O.extract rfl rfl rfl Taken.no) ?_
         refine SL.val (O.extract rfl rfl rfl Taken.no) ?_
         refine SL.val (O.extract rfl rfl rfl Taken.no) ?_
         refine SL.memS (O.alloc (z := .agg #[.int .i64 0, .int .i64 0, .slice none 0 0]) (is := [.u (.sc (.int .i64 0)), .u (.sc (.int .i64 0)), .u (.sc (.slice none 0 0))]) 111 (by kernel_rfl) rfl rfl rfl Taken.no) rfl rfl (S' := (111, _) :: _) rfl ?_
         refine SL.effS (O.st_ref (m := 3) rfl rfl rfl (js := [_, _, _]) rfl rfl (by kernel_rfl) (by simp) (Nat.le_of_ble_eq_true rfl) rfl (is' := [_, _, _]) rfl Taken.no) (S' := (111, _) :: _) rfl ?_
         refine SL.val (O.assign rfl rfl Taken.no) ?_
         refine SL.val (O.assign rfl rfl Taken.no) ?_
         refine SL.nil ?_
         refine E.to ?_
         refine W.pick (.cons (t := 1) rfl (.cons (t := 2) rfl (.cons (t := 7) rfl (.cons (t := 8) rfl (.cons (t := 10) rfl (.cons (t := 11) rfl (.cons (t := 12) rfl (.cons (t := 18) rfl (.cons (t := 19) rfl (.cons (t := 20) rfl .nil)))))))))) (.cons (t := 101) rfl (.cons (t := 102) rfl (.cons (t := 103) rfl (.cons (t := 110) rfl (.cons (t := 111) rfl .nil))))) ?_
         refine W.seq ?_
         refine W.seq ?_
         refine W.region ?_
         refine SL.val (O.move rfl rfl Taken.no) ?_
         refine SL.val (O.move rfl rfl Taken.no) ?_
         refine SL.val (O.det (fun _ => G.R.mv (G.R.neq rfl rfl) (congrArg Value.bool (decide_eq_false (by exact fun h => h fz.1)))) rfl Taken.no) ?_
         refine SL.val (O.move rfl rfl Taken.no) ?_
         have hg18 : false = false := by decide
         refine SL.val (O.move rfl rfl (Taken.yes rfl rfl hg18)) ?_
         refine SL.val (O.move rfl rfl (Taken.yes rfl rfl hg18)) ?_
         refine SL.val (O.callp rfl rfl rfl (sameHits_h (a := _) (b := pageQ s page)) (.cons (ArgOk.same rfl) (.cons (ArgOk.same rfl) .nil)) hcallOk25 rfl (Taken.yes rfl rfl hg18)) ?_
         refine SL.as (i' := vB true) 115 rfl (by exact iv_bool (dec_t fz.2.1)) ?_
         refine SL.val (O.det (fun _ => G.R.mv (G.R.not rfl) rfl) rfl (Taken.yes rfl rfl hg18)) ?_
         refine SL.val (O.pick_f rfl rfl rfl rfl Taken.no) ?_
         refine SL.nil ?_
         refine E.to ?_
         refine W.cond_f rfl ?_
         refine W.skip ?_
         refine E.to ?_
         refine W.region ?_
         refine SL.val (O.ldN (m := 3) (PtI.ref rfl rfl) (js := [_, _, _]) rfl (Nat.le_of_ble_eq_true rfl) Try.underlying73 rfl (by kernel_rfl) rfl Taken.no) ?_
         refine SL.effS (O.st_ref (m := 3) rfl rfl rfl (js := [_, _, _]) rfl rfl (by kernel_rfl) (by simp) (Nat.le_of_ble_eq_true rfl) rfl (is' := [_, _, _]) rfl Taken.no) (S' := (102, _) :: _) rfl ?_
         refine SL.nil ?_
         refine E.inn ?_
         refine E.to ?_
         refine W.region ?_
         refine SL.val (O.move rfl rfl Taken.no) ?_
         refine SL.val (O.det (fun _ => by first | exact G.R.add64 rfl rfl (by omega) | exact G.R.add rfl rfl) rfl Taken.no) ?_
         refine SL.val (O.assign rfl rfl Taken.no) ?_
         refine SL.nil ?_
         refine E.again ((k + 1), (getS (doS st (clampO l[k]!)) 1 (doS st (clampO l[k]!)).time)) (rn []) ?_ ?_ rfl (fixL_spec rfl) ?_ ?_
         · exact (SubF.cons rfl (SubF.cons rfl (SubF.cons rfl (SubF.cons rfl (SubF.cons rfl (SubF.cons rfl (SubF.cons rfl SubF.nil)))))))
         · exact (SubS.cons rfl (SubS.cons rfl SubS.nil))
         ·try dsimp only
          exact ⟨by omega, fz.2.2⟩
         · (try dsimp only); omega
        ·skip
         have fz := frozen_get (p := page) hv (hasU_has hu)
         refine W.skip ?_
         refine E.to ?_
         refine W.seq ?_
         refine W.region ?_
         refine SL.val (O.ldN (m := 3) (PtI.ref rfl rfl) (js := [_, _, _]) rfl (Nat.le_of_ble_eq_true rfl) Try.underlying73 rfl (by kernel_rfl) rfl Taken.no) ?_
         refine SL.val (O.move rfl rfl Taken.no) ?_
         refine SL.val (O.move rfl rfl Taken.no) ?_
         refine SL.val (O.fld_ref (o' := 1) rfl Try.underlying73 rfl (m := 0) (by kernel_rfl) rfl rfl Taken.no) ?_
         refine SL.val (O.ld1 (PtI.ref rfl rfl) rfl Try.underlying3 rfl rfl Taken.no) ?_
         refine SL.memS (O.call (rn []) [] rfl rfl rfl (get_h 1 page) (.cons (ArgOk.aggU (.cons (ArgOk.same rfl) (.cons (ArgOk.same rfl) (.cons (ArgOk.same rfl) .nil)))) (.cons (ArgOk.same rfl) (.cons (ArgOk.same rfl) (.cons (ArgOk.same rfl) .nil)))) SubS.nil rfl rfl rfl rfl rfl (.inl rfl) hcallOk46 (r' := .tup [.agg [.u _, .u _, .u _], .u _, .u _]) rfl rfl Taken.no) rfl rfl (S' := _) rfl ?_
         refine SL.val (O.move rfl rfl Taken.no) ?_
         refine SL.val (O.extract rfl rfl rfl Taken.no) ?_
         refine SL.val (O.extract rfl rfl rfl Taken.no) ?_
         refine SL.val (O.extract rfl rfl rfl Taken.no) ?_
         refine SL.memS (O.alloc (z := .agg #[.int .i64 0, .int .i64 0, .slice none 0 0]) (is := [.u (.sc (.int .i64 0)), .u (.sc (.int .i64 0)), .u (.sc (.slice none 0 0))]) 112 (by kernel_rfl) rfl rfl rfl Taken.no) rfl rfl (S' := (112, _) :: _) rfl ?_
         refine SL.effS (O.st_ref (m := 3) rfl rfl rfl (js := [_, _, _]) rfl rfl (by kernel_rfl) (by simp) (Nat.le_of_ble_eq_true rfl) rfl (is' := [_, _, _]) rfl Taken.no) (S' := (112, _) :: _) rfl ?_
         refine SL.val (O.assign rfl rfl Taken.no) ?_
         refine SL.val (O.assign rfl rfl Taken.no) ?_
         refine SL.nil ?_
         refine E.to ?_
         refine W.pick (.cons (t := 1) rfl (.cons (t := 2) rfl (.cons (t := 7) rfl (.cons (t := 8) rfl (.cons (t := 10) rfl (.cons (t := 11) rfl (.cons (t := 12) rfl (.cons (t := 18) rfl (.cons (t := 19) rfl (.cons (t := 20) rfl .nil)))))))))) (.cons (t := 101) rfl (.cons (t := 102) rfl (.cons (t := 103) rfl (.cons (t := 110) rfl (.cons (t := 112) rfl .nil))))) ?_
         refine W.seq ?_
         refine W.seq ?_
         refine W.region ?_
         refine SL.val (O.move rfl rfl Taken.no) ?_
         refine SL.val (O.move rfl rfl Taken.no) ?_
         refine SL.val (O.det (fun _ => G.R.mv (G.R.neq rfl rfl) (congrArg Value.bool (decide_eq_false (by exact fun h => h fz.1)))) rfl Taken.no) ?_
         refine SL.val (O.move rfl rfl Taken.no) ?_
         have hg19 : false = false := by decide
         refine SL.val (O.move rfl rfl (Taken.yes rfl rfl hg19)) ?_
         refine SL.val (O.move rfl rfl (Taken.yes rfl rfl hg19)) ?_
         refine SL.val (O.callp rfl rfl rfl (sameHits_h (a := _) (b := pageQ s page)) (.cons (ArgOk.same rfl) (.cons (ArgOk.same rfl) .nil)) hcallOk25 rfl (Taken.yes rfl rfl hg19)) ?_
         refine SL.as (i' := vB true) 115 rfl (by exact iv_bool (dec_t fz.2.1)) ?_
         refine SL.val (O.det (fun _ => G.R.mv (G.R.not rfl) rfl) rfl (Taken.yes rfl rfl hg19)) ?_
         refine SL.val (O.pick_f rfl rfl rfl rfl Taken.no) ?_
         refine SL.nil ?_
         refine E.to ?_
         refine W.cond_f rfl ?_
         refine W.skip ?_
         refine E.to ?_
         refine W.region ?_
         refine SL.val (O.ldN (m := 3) (PtI.ref rfl rfl) (js := [_, _, _]) rfl (Nat.le_of_ble_eq_true rfl) Try.underlying73 rfl (by kernel_rfl) rfl Taken.no) ?_
         refine SL.effS (O.st_ref (m := 3) rfl rfl rfl (js := [_, _, _]) rfl rfl (by kernel_rfl) (by simp) (Nat.le_of_ble_eq_true rfl) rfl (is' := [_, _, _]) rfl Taken.no) (S' := (102, _) :: _) rfl ?_
         refine SL.nil ?_
         refine E.inn ?_
         refine E.to ?_
         refine W.region ?_
         refine SL.val (O.move rfl rfl Taken.no) ?_
         refine SL.val (O.det (fun _ => by first | exact G.R.add64 rfl rfl (by omega) | exact G.R.add rfl rfl) rfl Taken.no) ?_
         refine SL.val (O.assign rfl rfl Taken.no) ?_
         refine SL.nil ?_
         refine E.again ((k + 1), (getS st 1 st.time)) (rn []) ?_ ?_ rfl (fixL_spec rfl) ?_ ?_
         · exact (SubF.cons rfl (SubF.cons rfl (SubF.cons rfl (SubF.cons rfl (SubF.cons rfl (SubF.cons rfl (SubF.cons rfl SubF.nil)))))))
         · exact (SubS.cons rfl (SubS.cons rfl SubS.nil))
         ·try dsimp only
          exact ⟨by omega, fz.2.2⟩
         · (try dsimp only); omega
      ·skip
       refine W.exit ?_
       refine E.th ?_
       refine E.th ?_
       refine E.hit ?_
       refine E.to ?_
       refine W.seq ?_
       refine W.region ?_
       refine SL.val (O.assign rfl rfl Taken.no) ?_
       refine SL.nil ?_
       refine E.to ?_
       refine W.ret ?_
       refine E.fin (rs := [_]) (rn []) (.inl rfl) rfl (.cons (ResOne.tmp rfl) .nil) ?_ ?_ rfl (fixL_spec rfl)
       ·skip
        rfl
       · exact SubS.nil
    ·skip
     first | have hg4p := G.gA7 hg4 | have hg4p := G.gA8 hg4 | have hg4p := hg4
     refine SL.skip (OpOk.not rfl rfl rfl hg4) ?_
     refine SL.skip (OpOk.not rfl rfl rfl hg4) ?_
     refine SL.skip (OpOk.not rfl rfl rfl hg4) ?_
     refine SL.val (O.pick_t rfl (G.ne_f hg4) rfl rfl Taken.no) ?_
     refine SL.nil ?_
     refine E.to ?_
     refine W.pick (.cons (t := 1) rfl (.cons (t := 2) rfl (.cons (t := 3) rfl (.cons (t := 6) rfl (.cons (t := 41) rfl .nil))))) (.cons (t := 101) rfl .nil) ?_
     refine W.cond_t rfl ?_
     refine W.seq ?_
     refine W.region ?_
     refine SL.val (O.assign rfl rfl Taken.no) ?_
     refine SL.nil ?_
     refine E.to ?_
     refine W.ret ?_
     refine E.thr ?_
     refine E.fin (rs := [_]) (rn []) (.inl rfl) rfl (.cons (ResOne.tmp rfl) .nil) ?_ ?_ rfl (fixL_spec rfl)
     ·skip
      rfl
     · exact SubS.nil
   ·skip
    first | have hg3p := G.gA7 hg3 | have hg3p := G.gA8 hg3 | have hg3p := hg3
    refine SL.skip (OpOk.not rfl rfl rfl hg3) ?_
    refine SL.skip (OpOk.not rfl rfl rfl hg3) ?_
    refine SL.skip (OpOk.not rfl rfl rfl hg3) ?_
    refine SL.skip (OpOk.not rfl rfl rfl hg3) ?_
    refine SL.val (O.pick_t rfl (G.ne_f hg3) rfl rfl Taken.no) ?_
    refine SL.val (O.move rfl rfl Taken.no) ?_
    have hg20 : true ≠ false := by decide
    refine SL.skip (OpOk.not rfl rfl rfl hg20) ?_
    refine SL.skip (OpOk.not rfl rfl rfl hg20) ?_
    refine SL.skip (OpOk.not rfl rfl rfl hg20) ?_
    refine SL.val (O.pick_t rfl rfl rfl rfl Taken.no) ?_
    refine SL.nil ?_
    refine E.to ?_
    refine W.pick (.cons (t := 1) rfl (.cons (t := 2) rfl (.cons (t := 3) rfl (.cons (t := 6) rfl (.cons (t := 41) rfl .nil))))) (.cons (t := 101) rfl .nil) ?_
    refine W.cond_t rfl ?_
    refine W.seq ?_
    refine W.region ?_
    refine SL.val (O.assign rfl rfl Taken.no) ?_
    refine SL.nil ?_
    refine E.to ?_
    refine W.ret ?_
    refine E.thr ?_
    refine E.fin (rs := [_]) (rn []) (.inl rfl) rfl (.cons (ResOne.tmp rfl) .nil) ?_ ?_ rfl (fixL_spec rfl)
    ·skip
     rfl
    · exact SubS.nil
  ·skip
   first | have hg2p := G.gA7 hg2 | have hg2p := G.gA8 hg2 | have hg2p := hg2
   refine SL.skip (OpOk.not rfl rfl rfl hg2) ?_
   refine SL.skip (OpOk.not rfl rfl rfl hg2) ?_
   refine SL.skip (OpOk.not rfl rfl rfl hg2) ?_
   refine SL.val (O.pick_t rfl (G.ne_f hg2) rfl rfl Taken.no) ?_
   refine SL.val (O.move rfl rfl Taken.no) ?_
   have hg21 : true ≠ false := by decide
   refine SL.skip (OpOk.not rfl rfl rfl hg21) ?_
   refine SL.skip (OpOk.not rfl rfl rfl hg21) ?_
   refine SL.skip (OpOk.not rfl rfl rfl hg21) ?_
   refine SL.skip (OpOk.not rfl rfl rfl hg21) ?_
   refine SL.val (O.pick_t rfl rfl rfl rfl Taken.no) ?_
   refine SL.val (O.move rfl rfl Taken.no) ?_
   have hg22 : true ≠ false := by decide
   refine SL.skip (OpOk.not rfl rfl rfl hg22) ?_
   refine SL.skip (OpOk.not rfl rfl rfl hg22) ?_
   refine SL.skip (OpOk.not rfl rfl rfl hg22) ?_
   refine SL.val (O.pick_t rfl rfl rfl rfl Taken.no) ?_
   refine SL.nil ?_
   refine E.to ?_
   refine W.pick (.cons (t := 1) rfl (.cons (t := 2) rfl (.cons (t := 3) rfl (.cons (t := 6) rfl (.cons (t := 41) rfl .nil))))) (.cons (t := 101) rfl .nil) ?_
   refine W.cond_t rfl ?_
   refine W.seq ?_
   refine W.region ?_
   refine SL.val (O.assign rfl rfl Taken.no) ?_
   refine SL.nil ?_
   refine E.to ?_
   refine W.ret ?_
   refine E.thr ?_
   refine E.fin (rs := [_]) (rn []) (.inl rfl) rfl (.cons (ResOne.tmp rfl) .nil) ?_ ?_ rfl (fixL_spec rfl)
   ·skip
    rfl
   · exact SubS.nil

end Go.Proofs.Ytoebjajbmkdcfaa
