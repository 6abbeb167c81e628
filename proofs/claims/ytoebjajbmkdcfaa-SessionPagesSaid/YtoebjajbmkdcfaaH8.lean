/-
  The walks.
-/
import Derived.Test.YtoebjajbmkdcfaaH7
namespace Go.Proofs.Ytoebjajbmkdcfaa
open Go Go.RowKit Go.H Go.D51

theorem hcallOk11 : G.callOk Try.prog 11 = true := by kernel_rfl
theorem hcallOk12 : G.callOk Try.prog 12 = true := by kernel_rfl
theorem hcallOk14 : G.callOk Try.prog 14 = true := by kernel_rfl
theorem hcallOk19 : G.callOk Try.prog 19 = true := by kernel_rfl
theorem hcallOk27 : G.callOk Try.prog 27 = true := by kernel_rfl
theorem hcallOk28 : G.callOk Try.prog 28 = true := by kernel_rfl
theorem hcallOk29 : G.callOk Try.prog 29 = true := by kernel_rfl
theorem hcallOk30 : G.callOk Try.prog 30 = true := by kernel_rfl
theorem hcallOk39 : G.callOk Try.prog 39 = true := by kernel_rfl
theorem hcallOk40 : G.callOk Try.prog 40 = true := by kernel_rfl
theorem hcallOk44 : G.callOk Try.prog 44 = true := by kernel_rfl

set_option maxRecDepth 8000 in
/-- bookplate/bookplatelaw51.SessionStart. -/
theorem sessionStart_h {l : List Hit} {size a b : Int} :
    Con Try.prog 3 [vL 2 (l.map eT), vI size, vA [uI a, uI b]] [] (vB true) [] := by
 refine Con.enterL (n := 123) Try.func3 rfl rfl rfl (fun τ w ok vs hin => ?_)
 have hl0 := hin.len (i := 0) rfl
 try rw [List.length_map] at hl0
 clear hin
 refine W.seq ?_
 refine W.region ?_
 refine SL.memS (O.box (is := [_, _]) 101 rfl rfl (by simp) rfl rfl Taken.no) rfl rfl (S' := (101, _) :: _) rfl ?_
 refine SL.val (O.assign rfl rfl Taken.no) ?_
 refine SL.nil ?_
 refine E.to ?_
 refine W.seq ?_
 refine W.seq ?_
 refine W.region ?_
 refine SL.val (O.callp rfl rfl rfl (awake_h) .nil hcallOk11 rfl Taken.no) ?_
 refine SL.val (O.det (fun _ => G.R.not rfl) rfl Taken.no) ?_
 refine SL.nil ?_
 refine E.to ?_
 first | refine W.cond_d rfl (fun hc1 => ?_) (fun hc1 => ?_) | refine W.cond_nd rfl (fun hc1 => ?_) (fun hc1 => ?_) | refine W.cond rfl (fun hc1 => ?_) (fun hc1 => ?_)
 ·skip
  refine W.seq ?_
  refine W.region ?_
  refine SL.val (O.assign rfl rfl Taken.no) ?_
  refine SL.nil ?_
  refine E.to ?_
  refine W.ret ?_
  refine E.thr ?_
  refine E.fin (rs := [_]) (rn []) (.inl rfl) rfl (.cons (ResOne.tmp rfl) .nil) ?_ ?_ rfl (fixL_spec rfl)
  ·skip
   exact absurd hc1 (by decide)
  · exact SubS.nil
 ·skip
  refine W.skip ?_
  refine E.to ?_
  refine W.seq ?_
  refine W.seq ?_
  refine W.region ?_
  refine SL.val (O.move rfl rfl Taken.no) ?_
  refine SL.val (O.callp rfl rfl rfl (short_h (l := l)) (.cons (ArgOk.same rfl) .nil) hcallOk12 rfl Taken.no) ?_
  refine SL.val (O.det (fun _ => G.R.not rfl) rfl Taken.no) ?_
  refine SL.nil ?_
  refine E.to ?_
  first | refine W.cond_d rfl (fun hc2 => ?_) (fun hc2 => ?_) | refine W.cond_nd rfl (fun hc2 => ?_) (fun hc2 => ?_) | refine W.cond rfl (fun hc2 => ?_) (fun hc2 => ?_)
  ·skip
   refine W.seq ?_
   refine W.region ?_
   refine SL.val (O.assign rfl rfl Taken.no) ?_
   refine SL.nil ?_
   refine E.to ?_
   refine W.ret ?_
   refine E.thr ?_
   refine E.fin (rs := [_]) (rn []) (.inl rfl) rfl (.cons (ResOne.tmp rfl) .nil) ?_ ?_ rfl (fixL_spec rfl)
   ·skip
    rfl
   · exact SubS.nil
  ·skip
   refine W.skip ?_
   refine E.to ?_
   refine W.seq ?_
   refine W.region ?_
   refine SL.val (O.move rfl rfl Taken.no) ?_
   refine SL.val (O.move rfl rfl Taken.no) ?_
   refine SL.memS (O.call (rn []) [] rfl rfl rfl (start_h (l := l) (size := size) (by omega)) (.cons (ArgOk.same rfl) (.cons (ArgOk.same rfl) .nil)) SubS.nil rfl rfl rfl rfl rfl (.inl rfl) hcallOk13 (r' := .tup [.agg [.u _, .u _], .u _]) rfl rfl Taken.no) rfl rfl (S' := _) rfl ?_
   refine SL.val (O.move rfl rfl Taken.no) ?_
   refine SL.val (O.extract rfl rfl rfl Taken.no) ?_
   refine SL.val (O.extract rfl rfl rfl Taken.no) ?_
   refine SL.memS (O.alloc (z := .agg #[.int .i64 0, .slice none 0 0]) (is := [.u (.sc (.int .i64 0)), .u (.sc (.slice none 0 0))]) 102 (by kernel_rfl) rfl rfl rfl Taken.no) rfl rfl (S' := (102, _) :: _) rfl ?_
   refine SL.effS (O.st_ref (m := 2) rfl rfl rfl (js := [_, _]) rfl rfl (by kernel_rfl) (by simp) (Nat.le_of_ble_eq_true rfl) rfl (is' := [_, _]) rfl Taken.no) (S' := (102, _) :: _) rfl ?_
   refine SL.val (O.assign rfl rfl Taken.no) ?_
   refine SL.nil ?_
   refine E.to ?_
   refine W.seq ?_
   refine W.region ?_
   refine SL.val (O.move rfl rfl Taken.no) ?_
   refine SL.val (O.move rfl rfl Taken.no) ?_
   refine SL.memS (O.call (rn []) [] rfl rfl rfl (refStart_h (l := l) (size := size) (by omega)) (.cons (ArgOk.same rfl) (.cons (ArgOk.same rfl) .nil)) SubS.nil rfl rfl rfl rfl rfl (.inl rfl) hcallOk14 (r' := .tup [.agg [.u _, .u _], .u _]) rfl rfl Taken.no) rfl rfl (S' := _) rfl ?_
   refine SL.val (O.move rfl rfl Taken.no) ?_
   refine SL.val (O.extract rfl rfl rfl Taken.no) ?_
   refine SL.val (O.extract rfl rfl rfl Taken.no) ?_
   refine SL.memS (O.alloc (z := .agg #[.int .i64 0, .slice none 0 0]) (is := [.u (.sc (.int .i64 0)), .u (.sc (.slice none 0 0))]) 103 (by kernel_rfl) rfl rfl rfl Taken.no) rfl rfl (S' := (103, _) :: _) rfl ?_
   refine SL.effS (O.st_ref (m := 2) rfl rfl rfl (js := [_, _]) rfl rfl (by kernel_rfl) (by simp) (Nat.le_of_ble_eq_true rfl) rfl (is' := [_, _]) rfl Taken.no) (S' := (103, _) :: _) rfl ?_
   refine SL.val (O.assign rfl rfl Taken.no) ?_
   refine SL.nil ?_
   refine E.to ?_
   refine W.pick (.cons (t := 0) rfl (.cons (t := 1) rfl (.cons (t := 5) rfl (.cons (t := 6) rfl (.cons (t := 7) rfl (.cons (t := 8) rfl (.cons (t := 9) rfl (.cons (t := 10) rfl .nil)))))))) (.cons (t := 101) rfl (.cons (t := 102) rfl (.cons (t := 103) rfl .nil))) ?_
   refine W.seq ?_
   refine W.region ?_
   refine SL.val (O.move rfl rfl Taken.no) ?_
   refine SL.val (O.move rfl rfl Taken.no) ?_
   refine SL.val (O.build (res := [_, _]) (z := .agg #[.int .i64 0, .slice none 0 0]) (places := [(0, 1), (1, 1)]) rfl rfl Try.underlying31 (by kernel_rfl) (fun _ => by kernel_rfl) rfl rfl Taken.no) ?_
   refine SL.memS (O.alloc (z := .agg #[.int .i64 0, .slice none 0 0]) (is := [.u (.sc (.int .i64 0)), .u (.sc (.slice none 0 0))]) 104 (by kernel_rfl) rfl rfl rfl Taken.no) rfl rfl (S' := (104, _) :: _) rfl ?_
   refine SL.effS (O.st_ref (m := 2) rfl rfl rfl (js := [_, _]) rfl rfl (by kernel_rfl) (by simp) (Nat.le_of_ble_eq_true rfl) rfl (is' := [_, _]) rfl Taken.no) (S' := (104, _) :: _) rfl ?_
   refine SL.nil ?_
   refine E.to ?_
   refine W.seq ?_
   refine W.draw [⟨[104], [], []⟩, ⟨[], [], []⟩, ⟨[101], [], []⟩, ⟨[101], [], []⟩, ⟨[], [], []⟩, ⟨[], [], []⟩, ⟨[], [], []⟩, ⟨[], [], []⟩, ⟨[], [], []⟩, ⟨[], [], []⟩] rfl (by kernel_rfl) (by kernel_rfl) rfl rfl ?_
   refine WH.val (O.ldN (m := 2) (PtI.ref rfl rfl) (js := [_, _]) rfl (Nat.le_of_ble_eq_true rfl) Try.underlying31 rfl (by kernel_rfl) rfl Taken.no) rfl rfl ?_
   refine WH.memS (O.call (rn []) [] rfl rfl rfl (ours_h (s := ⟨size, l⟩)) (.cons (ArgOk.aggU (.cons (ArgOk.same rfl) (.cons (ArgOk.same rfl) .nil))) .nil) SubS.nil rfl rfl rfl rfl rfl (.inl rfl) hcallOk16 (r' := .agg [.u _, .u _]) rfl rfl Taken.no) rfl rfl rfl rfl rfl (S' := _) rfl ?_
   refine WH.val (O.idx_ref (i := 0) (m := 1) rfl rfl (rfl) (by decide) Try.underlying23 (by kernel_rfl) rfl rfl Taken.no) rfl rfl ?_
   refine WH.val (O.ld1 (PtI.ref rfl rfl) rfl Try.underlying3 rfl rfl Taken.no) rfl rfl ?_
   refine WH.memS (O.call (rn []) [] rfl rfl rfl (page_h (s := ⟨size, l⟩) a) (.cons (ArgOk.aggU (.cons (ArgOk.same rfl) (.cons (ArgOk.same rfl) .nil))) (.cons (ArgOk.same rfl) .nil)) SubS.nil rfl rfl rfl rfl rfl (.inl rfl) hcallOk15 (r' := .tup [.u _, .u _]) rfl rfl Taken.no) rfl rfl rfl rfl rfl (S' := _) rfl ?_
   refine WH.val (O.move rfl rfl Taken.no) rfl rfl ?_
   refine WH.val (O.extract rfl rfl rfl Taken.no) rfl rfl ?_
   refine WH.val (O.extract rfl rfl rfl Taken.no) rfl rfl ?_
   refine WH.val (O.assign rfl rfl Taken.no) rfl rfl ?_
   refine WH.val (O.assign rfl rfl Taken.no) rfl rfl ?_
   refine WH.nil ?_
   refine E.to ?_
   refine W.seq ?_
   refine W.region ?_
   refine SL.val (O.ldN (m := 2) (PtI.ref rfl rfl) (js := [_, _]) rfl (Nat.le_of_ble_eq_true rfl) Try.underlying31 rfl (by kernel_rfl) rfl Taken.no) ?_
   refine SL.val (O.idx_ref (i := 0) (m := 1) rfl rfl (rfl) (by decide) Try.underlying23 (by kernel_rfl) rfl rfl Taken.no) ?_
   refine SL.val (O.ld1 (PtI.ref rfl rfl) rfl Try.underlying3 rfl rfl Taken.no) ?_
   refine SL.memS (O.call (rn []) [] rfl rfl rfl (refPage_h (s := ⟨size, l⟩) a) (.cons (ArgOk.aggU (.cons (ArgOk.same rfl) (.cons (ArgOk.same rfl) .nil))) (.cons (ArgOk.same rfl) .nil)) SubS.nil rfl rfl rfl rfl rfl (.inl rfl) hcallOk17 (r' := .tup [.u _, .u _]) rfl rfl Taken.no) rfl rfl (S' := _) rfl ?_
   refine SL.val (O.move rfl rfl Taken.no) ?_
   refine SL.val (O.extract rfl rfl rfl Taken.no) ?_
   refine SL.val (O.extract rfl rfl rfl Taken.no) ?_
   refine SL.val (O.assign rfl rfl Taken.no) ?_
   refine SL.val (O.assign rfl rfl Taken.no) ?_
   refine SL.nil ?_
   refine E.to ?_
   refine W.pick (.cons (t := 5) rfl (.cons (t := 6) rfl (.cons (t := 7) rfl (.cons (t := 8) rfl (.cons (t := 9) rfl (.cons (t := 10) rfl (.cons (t := 11) rfl (.cons (t := 12) rfl (.cons (t := 13) rfl (.cons (t := 14) rfl (.cons (t := 15) rfl .nil))))))))))) (.cons (t := 101) rfl (.cons (t := 102) rfl (.cons (t := 103) rfl (.cons (t := 104) rfl .nil)))) ?_
   refine W.seq ?_
   refine W.draw [⟨[104], [], []⟩, ⟨[], [], []⟩, ⟨[101], [], []⟩, ⟨[101], [], []⟩, ⟨[], [], []⟩, ⟨[], [], []⟩, ⟨[], [], []⟩, ⟨[], [], []⟩, ⟨[], [], []⟩, ⟨[], [], []⟩, ⟨[], [], []⟩, ⟨[], [], []⟩] rfl (by kernel_rfl) (by kernel_rfl) rfl rfl ?_
   refine WH.val (O.ldN (m := 2) (PtI.ref rfl rfl) (js := [_, _]) rfl (Nat.le_of_ble_eq_true rfl) Try.underlying31 rfl (by kernel_rfl) rfl Taken.no) rfl rfl ?_
   refine WH.memS (O.call (rn []) [] rfl rfl rfl (ours_h (s := ⟨size, l⟩)) (.cons (ArgOk.aggU (.cons (ArgOk.same rfl) (.cons (ArgOk.same rfl) .nil))) .nil) SubS.nil rfl rfl rfl rfl rfl (.inl rfl) hcallOk16 (r' := .agg [.u _, .u _]) rfl rfl Taken.no) rfl rfl rfl rfl rfl (S' := _) rfl ?_
   refine WH.val (O.idx_ref (i := 1) (m := 1) rfl rfl (rfl) (by decide) Try.underlying23 (by kernel_rfl) rfl rfl Taken.no) rfl rfl ?_
   refine WH.val (O.ld1 (PtI.ref rfl rfl) rfl Try.underlying3 rfl rfl Taken.no) rfl rfl ?_
   refine WH.memS (O.call (rn []) [] rfl rfl rfl (find_h (s := ⟨size, l⟩) b) (.cons (ArgOk.aggU (.cons (ArgOk.same rfl) (.cons (ArgOk.same rfl) .nil))) (.cons (ArgOk.same rfl) .nil)) SubS.nil rfl rfl rfl rfl rfl (.inl rfl) hcallOk18 (r' := .tup [.u _, .u _, .u _]) rfl rfl Taken.no) rfl rfl rfl rfl rfl (S' := _) rfl ?_
   refine WH.val (O.move rfl rfl Taken.no) rfl rfl ?_
   refine WH.val (O.extract rfl rfl rfl Taken.no) rfl rfl ?_
   refine WH.val (O.extract rfl rfl rfl Taken.no) rfl rfl ?_
   refine WH.val (O.extract rfl rfl rfl Taken.no) rfl rfl ?_
   refine WH.val (O.assign rfl rfl Taken.no) rfl rfl ?_
   refine WH.val (O.assign rfl rfl Taken.no) rfl rfl ?_
   refine WH.val (O.assign rfl rfl Taken.no) rfl rfl ?_
   refine WH.nil ?_
   refine E.to ?_
   refine W.seq ?_
   refine W.region ?_
   refine SL.val (O.ldN (m := 2) (PtI.ref rfl rfl) (js := [_, _]) rfl (Nat.le_of_ble_eq_true rfl) Try.underlying31 rfl (by kernel_rfl) rfl Taken.no) ?_
   refine SL.val (O.idx_ref (i := 1) (m := 1) rfl rfl (rfl) (by decide) Try.underlying23 (by kernel_rfl) rfl rfl Taken.no) ?_
   refine SL.val (O.ld1 (PtI.ref rfl rfl) rfl Try.underlying3 rfl rfl Taken.no) ?_
   refine SL.memS (O.call (rn []) [] rfl rfl rfl (refFind_h (s := ⟨size, l⟩) b) (.cons (ArgOk.aggU (.cons (ArgOk.same rfl) (.cons (ArgOk.same rfl) .nil))) (.cons (ArgOk.same rfl) .nil)) SubS.nil rfl rfl rfl rfl rfl (.inl rfl) hcallOk19 (r' := .tup [.u _, .u _, .u _]) rfl rfl Taken.no) rfl rfl (S' := _) rfl ?_
   refine SL.val (O.move rfl rfl Taken.no) ?_
   refine SL.val (O.extract rfl rfl rfl Taken.no) ?_
   refine SL.val (O.extract rfl rfl rfl Taken.no) ?_
   refine SL.val (O.extract rfl rfl rfl Taken.no) ?_
   refine SL.val (O.assign rfl rfl Taken.no) ?_
   refine SL.val (O.assign rfl rfl Taken.no) ?_
   refine SL.val (O.assign rfl rfl Taken.no) ?_
   refine SL.nil ?_
   refine E.to ?_
   refine W.pick (.cons (t := 6) rfl (.cons (t := 7) rfl (.cons (t := 8) rfl (.cons (t := 9) rfl (.cons (t := 10) rfl (.cons (t := 11) rfl (.cons (t := 12) rfl (.cons (t := 13) rfl (.cons (t := 14) rfl (.cons (t := 15) rfl (.cons (t := 16) rfl (.cons (t := 17) rfl (.cons (t := 18) rfl (.cons (t := 19) rfl (.cons (t := 20) rfl (.cons (t := 21) rfl .nil)))))))))))))))) (.cons (t := 101) rfl (.cons (t := 102) rfl (.cons (t := 103) rfl (.cons (t := 104) rfl .nil)))) ?_
   refine W.seq ?_
   refine W.draw [⟨[102], [], []⟩, ⟨[103], [], []⟩, ⟨[], [], []⟩, ⟨[], [], []⟩, ⟨[], [], []⟩, ⟨[], [], []⟩, ⟨[], [], []⟩, ⟨[], [], []⟩, ⟨[], [], []⟩, ⟨[104], [], []⟩, ⟨[], [], []⟩, ⟨[], [], []⟩, ⟨[104], [], []⟩, ⟨[], [], []⟩, ⟨[], [], []⟩, ⟨[], [], []⟩, ⟨[], [], []⟩, ⟨[104], [], []⟩, ⟨[], [], []⟩, ⟨[], [], []⟩, ⟨[104], [], []⟩, ⟨[], [], []⟩, ⟨[], [], []⟩, ⟨[], [], []⟩, ⟨[], [], []⟩, ⟨[], [], []⟩, ⟨[], [], []⟩, ⟨[], [], []⟩, ⟨[], [], []⟩, ⟨[], [], []⟩, ⟨[], [], []⟩, ⟨[], [], []⟩, ⟨[], [], []⟩, ⟨[], [], []⟩, ⟨[], [], []⟩, ⟨[], [], []⟩, ⟨[], [], []⟩, ⟨[], [], []⟩, ⟨[], [], []⟩, ⟨[], [], []⟩, ⟨[], [], []⟩, ⟨[], [], []⟩, ⟨[], [], []⟩, ⟨[], [], []⟩, ⟨[], [], []⟩, ⟨[], [], []⟩, ⟨[], [], []⟩, ⟨[], [], []⟩, ⟨[], [], []⟩, ⟨[], [], []⟩] rfl (by kernel_rfl) (by kernel_rfl) rfl rfl ?_
   refine WH.val (O.ldN (m := 2) (PtI.ref rfl rfl) (js := [_, _]) rfl (Nat.le_of_ble_eq_true rfl) Try.underlying27 rfl (by kernel_rfl) rfl Taken.no) rfl rfl ?_
   refine WH.val (O.ldN (m := 2) (PtI.ref rfl rfl) (js := [_, _]) rfl (Nat.le_of_ble_eq_true rfl) Try.underlying31 rfl (by kernel_rfl) rfl Taken.no) rfl rfl ?_
   refine WH.val (OpOk.re (i' := vB true) (O.callp rfl rfl rfl (equal_h (a := startS l size) (b := startS l size)) (.cons (ArgOk.aggU (.cons (ArgOk.same rfl) (.cons (ArgOk.same rfl) .nil))) (.cons (ArgOk.aggU (.cons (ArgOk.same rfl) (.cons (ArgOk.same rfl) .nil))) .nil)) hcallOk20 rfl Taken.no) (by exact iv_bool (dec_t ⟨rfl, rfl⟩))) rfl rfl ?_
   refine WH.val (O.move rfl rfl Taken.no) rfl rfl ?_
   have hg3 : true = true := by decide
   refine WH.val (O.move rfl rfl (Taken.yes rfl rfl hg3)) rfl rfl ?_
   refine WH.val (O.move rfl rfl (Taken.yes rfl rfl hg3)) rfl rfl ?_
   refine WH.val (O.det (fun _ => G.R.mv (G.R.eql rfl rfl) (congrArg Value.bool (decide_eq_true (by rfl)))) rfl (Taken.yes rfl rfl hg3)) rfl rfl ?_
   refine WH.val (O.pick_t rfl rfl rfl rfl Taken.no) rfl rfl ?_
   refine WH.val (O.move rfl rfl Taken.no) rfl rfl ?_
   have hg4 : true = true := by decide
   refine WH.val (O.ldN (m := 2) (PtI.ref rfl rfl) (js := [_, _]) rfl (Nat.le_of_ble_eq_true rfl) Try.underlying31 rfl (by kernel_rfl) rfl (Taken.yes rfl rfl hg4)) rfl rfl ?_
   refine WH.memS (O.call (rn []) [] rfl rfl rfl (ours_h (s := ⟨size, l⟩)) (.cons (ArgOk.aggU (.cons (ArgOk.same rfl) (.cons (ArgOk.same rfl) .nil))) .nil) SubS.nil rfl rfl rfl rfl rfl (.inl rfl) hcallOk16 (r' := .agg [.u _, .u _]) rfl rfl (Taken.yes rfl rfl hg4)) rfl rfl rfl rfl rfl (S' := _) rfl ?_
   refine WH.val (O.callp rfl rfl rfl (valid_h (s := ⟨size, l⟩)) (.cons (ArgOk.aggU (.cons (ArgOk.same rfl) (.cons (ArgOk.same rfl) .nil))) .nil) hcallOk21 rfl (Taken.yes rfl rfl hg4)) rfl rfl ?_
   refine WH.val (O.ldN (m := 2) (PtI.ref rfl rfl) (js := [_, _]) rfl (Nat.le_of_ble_eq_true rfl) Try.underlying31 rfl (by kernel_rfl) rfl (Taken.yes rfl rfl hg4)) rfl rfl ?_
   refine WH.val (O.callp rfl rfl rfl (refValid_h (s := ⟨size, l⟩)) (.cons (ArgOk.aggU (.cons (ArgOk.same rfl) (.cons (ArgOk.same rfl) .nil))) .nil) hcallOk22 rfl (Taken.yes rfl rfl hg4)) rfl rfl ?_
   refine WH.val (O.det (fun _ => G.R.mv (G.R.booleql rfl rfl Try.underlying4) (congrArg Value.bool (beq_self_eq_true _))) rfl (Taken.yes rfl rfl hg4)) rfl rfl ?_
   refine WH.val (O.pick_t rfl rfl rfl rfl Taken.no) rfl rfl ?_
   refine WH.val (O.move rfl rfl Taken.no) rfl rfl ?_
   have hg5 : true = true := by decide
   refine WH.val (O.ldN (m := 2) (PtI.ref rfl rfl) (js := [_, _]) rfl (Nat.le_of_ble_eq_true rfl) Try.underlying31 rfl (by kernel_rfl) rfl (Taken.yes rfl rfl hg5)) rfl rfl ?_
   refine WH.memS (O.call (rn []) [] rfl rfl rfl (ours_h (s := ⟨size, l⟩)) (.cons (ArgOk.aggU (.cons (ArgOk.same rfl) (.cons (ArgOk.same rfl) .nil))) .nil) SubS.nil rfl rfl rfl rfl rfl (.inl rfl) hcallOk16 (r' := .agg [.u _, .u _]) rfl rfl (Taken.yes rfl rfl hg5)) rfl rfl rfl rfl rfl (S' := _) rfl ?_
   refine WH.val (O.callp rfl rfl rfl (pagesN_h (s := ⟨size, l⟩)) (.cons (ArgOk.aggU (.cons (ArgOk.same rfl) (.cons (ArgOk.same rfl) .nil))) .nil) hcallOk23 rfl (Taken.yes rfl rfl hg5)) rfl rfl ?_
   refine WH.val (O.ldN (m := 2) (PtI.ref rfl rfl) (js := [_, _]) rfl (Nat.le_of_ble_eq_true rfl) Try.underlying31 rfl (by kernel_rfl) rfl (Taken.yes rfl rfl hg5)) rfl rfl ?_
   refine WH.val (O.callp rfl rfl rfl (refPagesN_h (s := ⟨size, l⟩)) (.cons (ArgOk.aggU (.cons (ArgOk.same rfl) (.cons (ArgOk.same rfl) .nil))) .nil) hcallOk24 rfl (Taken.yes rfl rfl hg5)) rfl rfl ?_
   refine WH.val (O.det (fun _ => G.R.mv (G.R.eql rfl rfl) (congrArg Value.bool (decide_eq_true (by rfl)))) rfl (Taken.yes rfl rfl hg5)) rfl rfl ?_
   refine WH.val (O.pick_t rfl rfl rfl rfl Taken.no) rfl rfl ?_
   refine WH.val (O.move rfl rfl Taken.no) rfl rfl ?_
   have hg6 : true = true := by decide
   refine WH.val (O.move rfl rfl (Taken.yes rfl rfl hg6)) rfl rfl ?_
   refine WH.val (O.move rfl rfl (Taken.yes rfl rfl hg6)) rfl rfl ?_
   refine WH.val (OpOk.re (i' := vB true) (O.callp rfl rfl rfl (sameHits_h (a := pageQ ⟨size, l⟩ a) (b := pageQ ⟨size, l⟩ a)) (.cons (ArgOk.same rfl) (.cons (ArgOk.same rfl) .nil)) hcallOk25 rfl (Taken.yes rfl rfl hg6)) (by exact iv_bool (dec_t rfl))) rfl rfl ?_
   refine WH.val (O.pick_t rfl rfl rfl rfl Taken.no) rfl rfl ?_
   refine WH.val (O.move rfl rfl Taken.no) rfl rfl ?_
   have hg7 : true = true := by decide
   refine WH.val (O.move rfl rfl (Taken.yes rfl rfl hg7)) rfl rfl ?_
   refine WH.val (O.move rfl rfl (Taken.yes rfl rfl hg7)) rfl rfl ?_
   refine WH.val (O.det (fun _ => G.R.mv (G.R.eql rfl rfl) (congrArg Value.bool (decide_eq_true (by rfl)))) rfl (Taken.yes rfl rfl hg7)) rfl rfl ?_
   refine WH.val (O.pick_t rfl rfl rfl rfl Taken.no) rfl rfl ?_
   refine WH.val (O.move rfl rfl Taken.no) rfl rfl ?_
   have hg8 : true = true := by decide
   refine WH.val (O.move rfl rfl (Taken.yes rfl rfl hg8)) rfl rfl ?_
   refine WH.val (O.move rfl rfl (Taken.yes rfl rfl hg8)) rfl rfl ?_
   refine WH.val (O.det (fun _ => G.R.mv (G.R.eql rfl rfl) (congrArg Value.bool (decide_eq_true (by rfl)))) rfl (Taken.yes rfl rfl hg8)) rfl rfl ?_
   refine WH.val (O.pick_t rfl rfl rfl rfl Taken.no) rfl rfl ?_
   refine WH.val (O.move rfl rfl Taken.no) rfl rfl ?_
   have hg9 : true = true := by decide
   refine WH.val (O.move rfl rfl (Taken.yes rfl rfl hg9)) rfl rfl ?_
   refine WH.val (O.move rfl rfl (Taken.yes rfl rfl hg9)) rfl rfl ?_
   refine WH.val (O.det (fun _ => G.R.mv (G.R.eql rfl rfl) (congrArg Value.bool (decide_eq_true (by rfl)))) rfl (Taken.yes rfl rfl hg9)) rfl rfl ?_
   refine WH.val (O.pick_t rfl rfl rfl rfl Taken.no) rfl rfl ?_
   refine WH.val (O.move rfl rfl Taken.no) rfl rfl ?_
   have hg10 : true = true := by decide
   refine WH.val (O.move rfl rfl (Taken.yes rfl rfl hg10)) rfl rfl ?_
   refine WH.val (O.move rfl rfl (Taken.yes rfl rfl hg10)) rfl rfl ?_
   refine WH.val (O.det (fun _ => G.R.mv (G.R.eql rfl rfl) (congrArg Value.bool (decide_eq_true (by rfl)))) rfl (Taken.yes rfl rfl hg10)) rfl rfl ?_
   refine WH.val (O.pick_t rfl rfl rfl rfl Taken.no) rfl rfl ?_
   refine WH.val (O.assign rfl rfl Taken.no) rfl rfl ?_
   refine WH.nil ?_
   refine E.to ?_
   refine W.pick (.cons (t := 6) rfl .nil) (.cons (t := 101) rfl (.cons (t := 102) rfl (.cons (t := 103) rfl (.cons (t := 104) rfl .nil)))) ?_
   refine W.ret ?_
   refine E.fin (rs := [_]) (rn []) (.inl rfl) rfl (.cons (ResOne.tmp rfl) .nil) ?_ ?_ rfl (fixL_spec rfl)
   ·skip
    rfl
   · exact SubS.nil

set_option maxRecDepth 8000 in
/-- bookplate/bookplatelaw51.SessionShow. -/
theorem sessionShow_h {s : Sess} (i : Int) {l : List Lead} :
    Con Try.prog 4 [vA [uI s.size, .sl 2 (s.items.map eT)], vI i, vL 2 (l.map eLd)] [] (vB true) [] := by
 refine Con.enterL (n := 55) Try.func4 rfl rfl rfl (fun τ w ok vs hin => ?_)
 have hl0_1 := hin.lenA (i := 0) (j := 1) rfl rfl
 try rw [List.length_map] at hl0_1
 have hl2 := hin.len (i := 2) rfl
 try rw [List.length_map] at hl2
 clear hin
 refine W.seq ?_
 refine W.region ?_
 refine SL.memS (O.box (is := [_, _]) 101 rfl rfl (by simp) rfl rfl Taken.no) rfl rfl (S' := (101, _) :: _) rfl ?_
 refine SL.val (O.assign rfl rfl Taken.no) ?_
 refine SL.nil ?_
 refine E.to ?_
 refine W.seq ?_
 refine W.seq ?_
 refine W.region ?_
 refine SL.val (O.callp rfl rfl rfl (awake_h) .nil hcallOk11 rfl Taken.no) ?_
 refine SL.val (O.det (fun _ => G.R.not rfl) rfl Taken.no) ?_
 refine SL.nil ?_
 refine E.to ?_
 first | refine W.cond_d rfl (fun hc1 => ?_) (fun hc1 => ?_) | refine W.cond_nd rfl (fun hc1 => ?_) (fun hc1 => ?_) | refine W.cond rfl (fun hc1 => ?_) (fun hc1 => ?_)
 ·skip
  refine W.seq ?_
  refine W.region ?_
  refine SL.val (O.assign rfl rfl Taken.no) ?_
  refine SL.nil ?_
  refine E.to ?_
  refine W.ret ?_
  refine E.thr ?_
  refine E.fin (rs := [_]) (rn []) (.inl rfl) rfl (.cons (ResOne.tmp rfl) .nil) ?_ ?_ rfl (fixL_spec rfl)
  ·skip
   exact absurd hc1 (by decide)
  · exact SubS.nil
 ·skip
  refine W.skip ?_
  refine E.to ?_
  refine W.seq ?_
  refine W.seq ?_
  refine W.region ?_
  refine SL.val (O.fld_ref (o' := 1) rfl Try.underlying31 rfl (m := 0) (by kernel_rfl) rfl rfl Taken.no) ?_
  refine SL.val (O.ld1 (PtI.ref rfl rfl) rfl Try.underlying22 rfl rfl Taken.no) ?_
  refine SL.val (O.callp rfl rfl rfl (short_h) (.cons (ArgOk.same rfl) .nil) hcallOk12 rfl Taken.no) ?_
  refine SL.val (O.det (fun _ => G.R.not rfl) rfl Taken.no) ?_
  refine SL.val (O.move rfl rfl Taken.no) ?_
  refine SL.case (j := 4) (g := 17) (want := false) rfl rfl (fun hg2 => ?_) (fun hg2 => ?_)
  ·skip
   first | have hg2p := G.gA3 hg2 | have hg2p := G.gA4 hg2 | have hg2p := hg2
   refine SL.val (O.move rfl rfl (Taken.yes rfl rfl hg2)) ?_
   refine SL.val (O.lenE (SlOf.fz rfl (by decide)) (by first | exact List.length_map _ | rfl) Try.underlying48 rfl (Taken.yes rfl rfl hg2)) ?_
   refine SL.val (O.det (fun _ => G.R.gtr rfl rfl) rfl (Taken.yes rfl rfl hg2)) ?_
   refine SL.val (O.pick_f rfl hg2 rfl rfl Taken.no) ?_
   refine SL.nil ?_
   refine E.to ?_
   first | refine W.cond_d rfl (fun hc3 => ?_) (fun hc3 => ?_) | refine W.cond_nd rfl (fun hc3 => ?_) (fun hc3 => ?_) | refine W.cond rfl (fun hc3 => ?_) (fun hc3 => ?_)
   ·skip
    refine W.seq ?_
    refine W.region ?_
    refine SL.val (O.assign rfl rfl Taken.no) ?_
    refine SL.nil ?_
    refine E.to ?_
    refine W.ret ?_
    refine E.thr ?_
    refine E.fin (rs := [_]) (rn []) (.inl rfl) rfl (.cons (ResOne.tmp rfl) .nil) ?_ ?_ rfl (fixL_spec rfl)
    ·skip
     rfl
    · exact SubS.nil
   ·skip
    refine W.skip ?_
    refine E.to ?_
    refine W.seq ?_
    refine W.region ?_
    refine SL.val (O.ldN (m := 2) (PtI.ref rfl rfl) (js := [_, _]) rfl (Nat.le_of_ble_eq_true rfl) Try.underlying31 rfl (by kernel_rfl) rfl Taken.no) ?_
    refine SL.memS (O.call (rn []) [] rfl rfl rfl (ours_h) (.cons (ArgOk.aggU (.cons (ArgOk.same rfl) (.cons (ArgOk.same rfl) .nil))) .nil) SubS.nil rfl rfl rfl rfl rfl (.inl rfl) hcallOk16 (r' := .agg [.u _, .u _]) rfl rfl Taken.no) rfl rfl (S' := _) rfl ?_
    refine SL.val (O.move rfl rfl Taken.no) ?_
    refine SL.val (O.move rfl rfl Taken.no) ?_
    refine SL.val (O.callp rfl rfl rfl (leads_h (by omega)) (.cons (ArgOk.same rfl) .nil) hcallOk27 rfl Taken.no) ?_
    refine SL.memS (O.call (rn []) [] rfl rfl rfl (show_h (s := s) (l := l) i (by omega)) (.cons (ArgOk.aggU (.cons (ArgOk.same rfl) (.cons (ArgOk.same rfl) .nil))) (.cons (ArgOk.same rfl) (.cons (ArgOk.same rfl) .nil))) SubS.nil rfl rfl rfl rfl rfl (.inl rfl) hcallOk26 (r' := .tup [.u _, .u _]) rfl rfl Taken.no) rfl rfl (S' := _) rfl ?_
    refine SL.val (O.move rfl rfl Taken.no) ?_
    refine SL.val (O.extract rfl rfl rfl Taken.no) ?_
    refine SL.val (O.extract rfl rfl rfl Taken.no) ?_
    refine SL.val (O.assign rfl rfl Taken.no) ?_
    refine SL.val (O.assign rfl rfl Taken.no) ?_
    refine SL.nil ?_
    refine E.to ?_
    refine W.pick (.cons (t := 1) rfl (.cons (t := 2) rfl (.cons (t := 3) rfl (.cons (t := 6) rfl (.cons (t := 7) rfl (.cons (t := 8) rfl .nil)))))) (.cons (t := 101) rfl .nil) ?_
    refine W.seq ?_
    refine W.region ?_
    refine SL.val (O.ldN (m := 2) (PtI.ref rfl rfl) (js := [_, _]) rfl (Nat.le_of_ble_eq_true rfl) Try.underlying31 rfl (by kernel_rfl) rfl Taken.no) ?_
    refine SL.val (O.move rfl rfl Taken.no) ?_
    refine SL.val (O.move rfl rfl Taken.no) ?_
    refine SL.memS (O.call (rn []) [] rfl rfl rfl (refShow_h (s := s) (l := l) i (by omega)) (.cons (ArgOk.aggU (.cons (ArgOk.same rfl) (.cons (ArgOk.same rfl) .nil))) (.cons (ArgOk.same rfl) (.cons (ArgOk.same rfl) .nil))) SubS.nil rfl rfl rfl rfl rfl (.inl rfl) hcallOk28 (r' := .tup [.u _, .u _]) rfl rfl Taken.no) rfl rfl (S' := _) rfl ?_
    refine SL.val (O.move rfl rfl Taken.no) ?_
    refine SL.val (O.extract rfl rfl rfl Taken.no) ?_
    refine SL.val (O.extract rfl rfl rfl Taken.no) ?_
    refine SL.val (O.assign rfl rfl Taken.no) ?_
    refine SL.val (O.assign rfl rfl Taken.no) ?_
    refine SL.nil ?_
    refine E.to ?_
    refine W.seq ?_
    refine W.region ?_
    refine SL.val (O.move rfl rfl Taken.no) ?_
    refine SL.val (O.callp rfl rfl rfl (entries_h (l := showQ s i l) (by have := showQ_len s i l; omega)) (.cons (ArgOk.same rfl) .nil) hcallOk30 rfl Taken.no) ?_
    refine SL.val (O.move rfl rfl Taken.no) ?_
    refine SL.val (O.callp rfl rfl rfl (sameEntries_h (a := showQ s i l) (b := showQ s i l)) (.cons (ArgOk.same rfl) (.cons (ArgOk.same rfl) .nil)) hcallOk29 rfl Taken.no) ?_
    refine SL.as (i' := vB true) 41 rfl (by exact iv_bool (dec_t rfl)) ?_
    refine SL.val (O.move rfl rfl Taken.no) ?_
    have hg4 : true = true := by decide
    refine SL.val (O.move rfl rfl (Taken.yes rfl rfl hg4)) ?_
    refine SL.val (O.move rfl rfl (Taken.yes rfl rfl hg4)) ?_
    refine SL.val (O.det (fun _ => G.R.mv (G.R.eql rfl rfl) (congrArg Value.bool (decide_eq_true (by rfl)))) rfl (Taken.yes rfl rfl hg4)) ?_
    refine SL.val (O.pick_t rfl rfl rfl rfl Taken.no) ?_
    refine SL.val (O.move rfl rfl Taken.no) ?_
    have hg5 : true = true := by decide
    refine SL.val (O.move rfl rfl (Taken.yes rfl rfl hg5)) ?_
    refine SL.val (O.callp rfl rfl rfl (leads_h (by omega)) (.cons (ArgOk.same rfl) .nil) hcallOk27 rfl (Taken.yes rfl rfl hg5)) ?_
    refine SL.val (O.callp rfl rfl rfl (validLeads_h (l := l)) (.cons (ArgOk.same rfl) .nil) hcallOk31 rfl (Taken.yes rfl rfl hg5)) ?_
    refine SL.val (O.move rfl rfl (Taken.yes rfl rfl hg5)) ?_
    refine SL.val (O.callp rfl rfl rfl (refValidLeads_h (l := l)) (.cons (ArgOk.same rfl) .nil) hcallOk32 rfl (Taken.yes rfl rfl hg5)) ?_
    refine SL.val (O.det (fun _ => G.R.mv (G.R.booleql rfl rfl Try.underlying4) (congrArg Value.bool (beq_self_eq_true _))) rfl (Taken.yes rfl rfl hg5)) ?_
    refine SL.val (O.pick_t rfl rfl rfl rfl Taken.no) ?_
    refine SL.val (O.assign rfl rfl Taken.no) ?_
    refine SL.nil ?_
    refine E.to ?_
    refine W.pick (.cons (t := 6) rfl .nil) (.cons (t := 101) rfl .nil) ?_
    refine W.ret ?_
    refine E.fin (rs := [_]) (rn []) (.inl rfl) rfl (.cons (ResOne.tmp rfl) .nil) ?_ ?_ rfl (fixL_spec rfl)
    ·skip
     rfl
    · exact SubS.nil
  ·skip
   first | have hg2p := G.gA7 hg2 | have hg2p := G.gA8 hg2 | have hg2p := hg2
   refine SL.skip (OpOk.not rfl rfl rfl hg2) ?_
   refine SL.skip (OpOk.not rfl rfl rfl hg2) ?_
   refine SL.skip (OpOk.not rfl rfl rfl hg2) ?_
   refine SL.val (O.pick_t rfl (G.ne_f hg2) rfl rfl Taken.no) ?_
   refine SL.nil ?_
   refine E.to ?_
   refine W.cond_t rfl ?_
   refine W.seq ?_
   refine W.region ?_
   refine SL.val (O.assign rfl rfl Taken.no) ?_
   refine SL.nil ?_
   refine E.to ?_
   refine W.ret ?_
   refine E.thr ?_
   refine E.fin (rs := [_]) (rn []) (.inl rfl) rfl (.cons (ResOne.tmp rfl) .nil) ?_ ?_ rfl (fixL_spec rfl)
   ·skip
    rfl
   · exact SubS.nil

set_option maxRecDepth 8000 in
/-- bookplate/bookplatelaw51.SessionValid. -/
theorem sessionValid_h {st : Store} {s : Sess} {a b c : Int} :
    Con Try.prog 8 [vA [uI st.next, uI st.time, .sl 4 (st.opn.map eO)], vA [uI s.size, .sl 2 (s.items.map eT)], vA [uI a, uI b, uI c]] [] (vB true) [] := by
 obtain ⟨i92, hi92, hz92, hs92, hb92⟩ := hinf92
 refine Con.enterL (n := 165) Try.func8 rfl rfl rfl (fun τ w ok vs hin => ?_)
 have hl0_2 := hin.lenA (i := 0) (j := 2) rfl rfl
 try rw [List.length_map] at hl0_2
 have hl1_1 := hin.lenA (i := 1) (j := 1) rfl rfl
 try rw [List.length_map] at hl1_1
 clear hin
 refine W.seq ?_
 refine W.region ?_
 refine SL.memS (O.box (is := [_, _, _]) 101 rfl rfl (by simp) rfl rfl Taken.no) rfl rfl (S' := (101, _) :: _) rfl ?_
 refine SL.memS (O.box (is := [_, _]) 102 rfl rfl (by simp) rfl rfl Taken.no) rfl rfl (S' := (102, _) :: _) rfl ?_
 refine SL.memS (O.box (is := [_, _, _]) 103 rfl rfl (by simp) rfl rfl Taken.no) rfl rfl (S' := (103, _) :: _) rfl ?_
 refine SL.val (O.assign rfl rfl Taken.no) ?_
 refine SL.nil ?_
 refine E.to ?_
 refine W.seq ?_
 refine W.seq ?_
 refine W.region ?_
 refine SL.val (O.callp rfl rfl rfl (awake_h) .nil hcallOk11 rfl Taken.no) ?_
 refine SL.val (O.det (fun _ => G.R.not rfl) rfl Taken.no) ?_
 refine SL.nil ?_
 refine E.to ?_
 first | refine W.cond_d rfl (fun hc1 => ?_) (fun hc1 => ?_) | refine W.cond_nd rfl (fun hc1 => ?_) (fun hc1 => ?_) | refine W.cond rfl (fun hc1 => ?_) (fun hc1 => ?_)
 ·skip
  refine W.seq ?_
  refine W.region ?_
  refine SL.val (O.assign rfl rfl Taken.no) ?_
  refine SL.nil ?_
  refine E.to ?_
  refine W.ret ?_
  refine E.thr ?_
  refine E.fin (rs := [_]) (rn []) (.inl rfl) rfl (.cons (ResOne.tmp rfl) .nil) ?_ ?_ rfl (fixL_spec rfl)
  ·skip
   exact absurd hc1 (by decide)
  · exact SubS.nil
 ·skip
  refine W.skip ?_
  refine E.to ?_
  refine W.seq ?_
  refine W.seq ?_
  refine W.region ?_
  refine SL.val (O.fld_ref (o' := 2) rfl Try.underlying77 rfl (m := 0) (by kernel_rfl) rfl rfl Taken.no) ?_
  refine SL.val (O.ld1 (PtI.ref rfl rfl) rfl Try.underlying75 rfl rfl Taken.no) ?_
  refine SL.val (O.lenE (SlOf.fz rfl (by decide)) (by first | exact List.length_map _ | rfl) Try.underlying75 rfl Taken.no) ?_
  refine SL.val (O.det (fun _ => G.R.gtr rfl rfl) rfl Taken.no) ?_
  refine SL.val (O.move rfl rfl Taken.no) ?_
  refine SL.case (j := 4) (g := 30) (want := false) rfl rfl (fun hg2 => ?_) (fun hg2 => ?_)
  ·skip
   first | have hg2p := G.gA3 hg2 | have hg2p := G.gA4 hg2 | have hg2p := hg2
   refine SL.val (O.fld_ref (o' := 1) rfl Try.underlying31 rfl (m := 0) (by kernel_rfl) rfl rfl (Taken.yes rfl rfl hg2)) ?_
   refine SL.val (O.ld1 (PtI.ref rfl rfl) rfl Try.underlying22 rfl rfl (Taken.yes rfl rfl hg2)) ?_
   refine SL.val (O.lenE (SlOf.fz rfl (by decide)) (by first | exact List.length_map _ | rfl) Try.underlying22 rfl (Taken.yes rfl rfl hg2)) ?_
   refine SL.val (O.det (fun _ => G.R.gtr rfl rfl) rfl (Taken.yes rfl rfl hg2)) ?_
   refine SL.val (O.pick_f rfl hg2 rfl rfl Taken.no) ?_
   refine SL.nil ?_
   refine E.to ?_
   first | refine W.cond_d rfl (fun hc3 => ?_) (fun hc3 => ?_) | refine W.cond_nd rfl (fun hc3 => ?_) (fun hc3 => ?_) | refine W.cond rfl (fun hc3 => ?_) (fun hc3 => ?_)
   ·skip
    refine W.seq ?_
    refine W.region ?_
    refine SL.val (O.assign rfl rfl Taken.no) ?_
    refine SL.nil ?_
    refine E.to ?_
    refine W.ret ?_
    refine E.thr ?_
    refine E.fin (rs := [_]) (rn []) (.inl rfl) rfl (.cons (ResOne.tmp rfl) .nil) ?_ ?_ rfl (fixL_spec rfl)
    ·skip
     rfl
    · exact SubS.nil
   ·skip
    refine W.skip ?_
    refine E.to ?_
    refine W.seq ?_
    refine W.seq ?_
    refine W.region ?_
    refine SL.val (O.assign rfl rfl Taken.no) ?_
    refine SL.nil ?_
    refine E.to ?_
    refine W.block ?_
    refine W.loopx1 (fun (k : Nat) => [(7, vI (k : Int))]) (fun (k : Nat) => []) (fun (k : Nat) => k ≤ st.opn.length) (fun (k : Nat) => st.opn.length - k) (0) (rn []) (.cons (t := 3) rfl (.cons (t := 4) rfl (.cons (t := 5) rfl .nil))) (.cons (t := 101) rfl (.cons (t := 102) rfl (.cons (t := 103) rfl .nil))) rfl ?_ ?_ rfl rfl ?_ ?_
    · exact (SubF.cons rfl SubF.nil)
    · exact SubS.nil
    ·skip
     omega
    intro k hinv
    have hk := hinv
    refine W.seq ?_
    refine W.seq ?_
    refine W.region ?_
    refine SL.val (O.move rfl rfl Taken.no) ?_
    refine SL.val (O.fld_ref (o' := 2) rfl Try.underlying77 rfl (m := 0) (by kernel_rfl) rfl rfl Taken.no) ?_
    refine SL.val (O.ld1 (PtI.ref rfl rfl) rfl Try.underlying75 rfl rfl Taken.no) ?_
    refine SL.val (O.lenE (SlOf.fz rfl (by decide)) (by first | exact List.length_map _ | rfl) Try.underlying75 rfl Taken.no) ?_
    refine SL.val (O.det (fun _ => G.R.lss rfl rfl) rfl Taken.no) ?_
    refine SL.nil ?_
    refine E.to ?_
    first | refine W.cond_d rfl (fun hc4 => ?_) (fun hc4 => ?_) | refine W.cond_nd rfl (fun hc4 => ?_) (fun hc4 => ?_) | refine W.cond rfl (fun hc4 => ?_) (fun hc4 => ?_)
    ·skip
     refine W.skip ?_
     refine E.to ?_
     refine W.seq ?_
     refine W.block ?_
     refine W.seq ?_
     refine W.region ?_
     refine SL.val (O.fld_ref (o' := 2) rfl Try.underlying77 rfl (m := 0) (by kernel_rfl) rfl rfl Taken.no) ?_
     refine SL.val (O.ld1 (PtI.ref rfl rfl) rfl Try.underlying75 rfl rfl Taken.no) ?_
     refine SL.val (O.move rfl rfl Taken.no) ?_
     refine SL.val (O.idx_fz rfl rfl (rfl) (row_get (by omega)) Try.underlying75 hi92 hs92 rfl Taken.no) ?_
     refine SL.val (O.fld_fz rfl Try.underlying92 rfl (m := 1) (by kernel_rfl) rfl rfl Taken.no) ?_
     refine SL.val (O.fld_fz rfl Try.underlying31 rfl (m := 0) (by kernel_rfl) rfl rfl Taken.no) ?_
     refine SL.val (O.ld1 (PtI.ofU (PtU.fz rfl)) rfl Try.underlying22 rfl rfl Taken.no) ?_
     refine SL.val (O.lenE (SlOf.fz rfl (by decide)) (by first | exact List.length_map _ | rfl) Try.underlying22 rfl Taken.no) ?_
     refine SL.val (O.det (fun _ => G.R.gtr rfl rfl) rfl Taken.no) ?_
     refine SL.nil ?_
     refine E.to ?_
     first | refine W.cond_d rfl (fun hc5 => ?_) (fun hc5 => ?_) | refine W.cond_nd rfl (fun hc5 => ?_) (fun hc5 => ?_) | refine W.cond rfl (fun hc5 => ?_) (fun hc5 => ?_)
     ·skip
      refine W.seq ?_
      refine W.region ?_
      refine SL.val (O.assign rfl rfl Taken.no) ?_
      refine SL.nil ?_
      refine E.to ?_
      refine W.ret ?_
      refine E.inr ?_
      refine E.thr ?_
      refine E.thr ?_
      refine E.inr ?_
      refine E.thr ?_
      refine E.fin (rs := [_]) (rn []) (.inl rfl) rfl (.cons (ResOne.tmp rfl) .nil) ?_ ?_ rfl (fixL_spec rfl)
      ·skip
       rfl
      · exact SubS.nil
     ·skip
      refine W.skip ?_
      refine E.inn ?_
      refine E.to ?_
      refine W.region ?_
      refine SL.val (O.move rfl rfl Taken.no) ?_
      refine SL.val (O.det (fun _ => by first | exact G.R.add64 rfl rfl (by omega) | exact G.R.add rfl rfl) rfl Taken.no) ?_
      refine SL.val (O.assign rfl rfl Taken.no) ?_
      refine SL.nil ?_
      refine E.again ((k + 1)) (rn []) ?_ ?_ rfl (fixL_spec rfl) ?_ ?_
      · exact (SubF.cons rfl (SubF.cons rfl (SubF.cons rfl (SubF.cons rfl SubF.nil))))
      · exact (SubS.cons rfl (SubS.cons rfl (SubS.cons rfl SubS.nil)))
      ·try dsimp only
       omega
      · (try dsimp only); omega
    ·skip
     refine W.exit ?_
     refine E.th ?_
     refine E.th ?_
     refine E.hit ?_
     refine E.to ?_
     refine W.seq ?_
     refine W.draw [⟨[101], [], []⟩, ⟨[], [], []⟩, ⟨[102], [], []⟩, ⟨[], [], []⟩, ⟨[103], [], []⟩, ⟨[103], [], []⟩, ⟨[], [], []⟩, ⟨[], [], []⟩, ⟨[], [], []⟩, ⟨[], [], []⟩, ⟨[], [], []⟩, ⟨[104], [104], [104]⟩, ⟨[104], [104], []⟩, ⟨[], [], []⟩, ⟨[], [], []⟩] rfl (by kernel_rfl) (by kernel_rfl) rfl rfl ?_
     refine WH.val (O.ldN (m := 3) (PtI.ref rfl rfl) (js := [_, _, _]) rfl (Nat.le_of_ble_eq_true rfl) Try.underlying77 rfl (by kernel_rfl) rfl Taken.no) rfl rfl ?_
     refine WH.memS (O.call (rn []) [] rfl rfl rfl (own_h (st := st) (by omega)) (.cons (ArgOk.aggU (.cons (ArgOk.same rfl) (.cons (ArgOk.same rfl) (.cons (ArgOk.same rfl) .nil)))) .nil) SubS.nil rfl rfl rfl rfl rfl (.inl rfl) hcallOk44 (r' := .agg [.u _, .u _, .u _]) rfl rfl Taken.no) rfl rfl rfl rfl rfl (S' := _) rfl ?_
     refine WH.val (O.ldN (m := 2) (PtI.ref rfl rfl) (js := [_, _]) rfl (Nat.le_of_ble_eq_true rfl) Try.underlying31 rfl (by kernel_rfl) rfl Taken.no) rfl rfl ?_
     refine WH.memS (O.call (rn []) [] rfl rfl rfl (ours_h) (.cons (ArgOk.aggU (.cons (ArgOk.same rfl) (.cons (ArgOk.same rfl) .nil))) .nil) SubS.nil rfl rfl rfl rfl rfl (.inl rfl) hcallOk16 (r' := .agg [.u _, .u _]) rfl rfl Taken.no) rfl rfl rfl rfl rfl (S' := _) rfl ?_
     refine WH.val (O.idx_ref (i := 2) (m := 1) rfl rfl (rfl) (by decide) Try.underlying90 (by kernel_rfl) rfl rfl Taken.no) rfl rfl ?_
     refine WH.val (O.ld1 (PtI.ref rfl rfl) rfl Try.underlying3 rfl rfl Taken.no) rfl rfl ?_
     refine WH.memS (O.call (rn []) [] rfl rfl rfl (open_h (st := st) (s := s) (now := c)) (.cons (ArgOk.aggU (.cons (ArgOk.same rfl) (.cons (ArgOk.same rfl) (.cons (ArgOk.same rfl) .nil)))) (.cons (ArgOk.aggU (.cons (ArgOk.same rfl) (.cons (ArgOk.same rfl) .nil))) (.cons (ArgOk.same rfl) .nil))) SubS.nil rfl rfl rfl rfl rfl (.inl rfl) hcallOk43 (r' := .tup [.agg [.u _, .u _, .u _], .u _, .u _]) rfl rfl Taken.no) rfl rfl rfl rfl rfl (S' := _) rfl ?_
     refine WH.val (O.move rfl rfl Taken.no) rfl rfl ?_
     refine WH.val (O.extract rfl rfl rfl Taken.no) rfl rfl ?_
     refine WH.val (O.extract rfl rfl rfl Taken.no) rfl rfl ?_
     refine WH.val (O.extract rfl rfl rfl Taken.no) rfl rfl ?_
     refine WH.memS (O.alloc (z := .agg #[.int .i64 0, .int .i64 0, .slice none 0 0]) (is := [.u (.sc (.int .i64 0)), .u (.sc (.int .i64 0)), .u (.sc (.slice none 0 0))]) 104 (by kernel_rfl) rfl rfl rfl Taken.no) rfl rfl rfl rfl rfl (S' := (104, _) :: _) rfl ?_
     refine WH.effS (O.st_ref (m := 3) rfl rfl rfl (js := [_, _, _]) rfl rfl (by kernel_rfl) (by simp) (Nat.le_of_ble_eq_true rfl) rfl (is' := [_, _, _]) rfl Taken.no) rfl rfl rfl (S' := (104, _) :: _) rfl ?_
     refine WH.val (O.assign rfl rfl Taken.no) rfl rfl ?_
     refine WH.val (O.assign rfl rfl Taken.no) rfl rfl ?_
     refine WH.nil ?_
     refine E.to ?_
     refine W.seq ?_
     refine W.region ?_
     refine SL.val (O.ldN (m := 3) (PtI.ref rfl rfl) (js := [_, _, _]) rfl (Nat.le_of_ble_eq_true rfl) Try.underlying77 rfl (by kernel_rfl) rfl Taken.no) ?_
     refine SL.val (O.ldN (m := 2) (PtI.ref rfl rfl) (js := [_, _]) rfl (Nat.le_of_ble_eq_true rfl) Try.underlying31 rfl (by kernel_rfl) rfl Taken.no) ?_
     refine SL.val (O.idx_ref (i := 2) (m := 1) rfl rfl (rfl) (by decide) Try.underlying90 (by kernel_rfl) rfl rfl Taken.no) ?_
     refine SL.val (O.ld1 (PtI.ref rfl rfl) rfl Try.underlying3 rfl rfl Taken.no) ?_
     refine SL.memS (O.call (rn []) [] rfl rfl rfl (refOpen_h (st := st) (s := s) (now := c)) (.cons (ArgOk.aggU (.cons (ArgOk.same rfl) (.cons (ArgOk.same rfl) (.cons (ArgOk.same rfl) .nil)))) (.cons (ArgOk.aggU (.cons (ArgOk.same rfl) (.cons (ArgOk.same rfl) .nil))) (.cons (ArgOk.same rfl) .nil))) SubS.nil rfl rfl rfl rfl rfl (.inl rfl) hcallOk45 (r' := .tup [.agg [.u _, .u _, .u _], .u _, .u _]) rfl rfl Taken.no) rfl rfl (S' := _) rfl ?_
     refine SL.val (O.move rfl rfl Taken.no) ?_
     refine SL.val (O.extract rfl rfl rfl Taken.no) ?_
     refine SL.val (O.extract rfl rfl rfl Taken.no) ?_
     refine SL.val (O.extract rfl rfl rfl Taken.no) ?_
     refine SL.memS (O.alloc (z := .agg #[.int .i64 0, .int .i64 0, .slice none 0 0]) (is := [.u (.sc (.int .i64 0)), .u (.sc (.int .i64 0)), .u (.sc (.slice none 0 0))]) 105 (by kernel_rfl) rfl rfl rfl Taken.no) rfl rfl (S' := (105, _) :: _) rfl ?_
     refine SL.effS (O.st_ref (m := 3) rfl rfl rfl (js := [_, _, _]) rfl rfl (by kernel_rfl) (by simp) (Nat.le_of_ble_eq_true rfl) rfl (is' := [_, _, _]) rfl Taken.no) (S' := (105, _) :: _) rfl ?_
     refine SL.val (O.assign rfl rfl Taken.no) ?_
     refine SL.val (O.assign rfl rfl Taken.no) ?_
     refine SL.nil ?_
     refine E.to ?_
     refine W.pick (.cons (t := 3) rfl (.cons (t := 5) rfl (.cons (t := 8) rfl (.cons (t := 9) rfl (.cons (t := 10) rfl (.cons (t := 11) rfl (.cons (t := 12) rfl (.cons (t := 13) rfl .nil)))))))) (.cons (t := 101) rfl (.cons (t := 102) rfl (.cons (t := 103) rfl (.cons (t := 104) rfl (.cons (t := 105) rfl .nil))))) ?_
     refine W.seq ?_
     refine W.draw [⟨[101], [], []⟩, ⟨[], [], []⟩, ⟨[103], [], []⟩, ⟨[103], [], []⟩, ⟨[103], [], []⟩, ⟨[103], [], []⟩, ⟨[103], [], []⟩, ⟨[103], [], []⟩, ⟨[], [], []⟩, ⟨[], [], []⟩, ⟨[], [], []⟩, ⟨[], [], []⟩, ⟨[], [], []⟩, ⟨[106], [106], [106]⟩, ⟨[106], [106], []⟩, ⟨[], [], []⟩, ⟨[], [], []⟩] rfl (by kernel_rfl) (by kernel_rfl) rfl rfl ?_
     refine WH.val (O.ldN (m := 3) (PtI.ref rfl rfl) (js := [_, _, _]) rfl (Nat.le_of_ble_eq_true rfl) Try.underlying77 rfl (by kernel_rfl) rfl Taken.no) rfl rfl ?_
     refine WH.memS (O.call (rn []) [] rfl rfl rfl (own_h (st := st) (by omega)) (.cons (ArgOk.aggU (.cons (ArgOk.same rfl) (.cons (ArgOk.same rfl) (.cons (ArgOk.same rfl) .nil)))) .nil) SubS.nil rfl rfl rfl rfl rfl (.inl rfl) hcallOk44 (r' := .agg [.u _, .u _, .u _]) rfl rfl Taken.no) rfl rfl rfl rfl rfl (S' := _) rfl ?_
     refine WH.val (O.idx_ref (i := 0) (m := 1) rfl rfl (rfl) (by decide) Try.underlying90 (by kernel_rfl) rfl rfl Taken.no) rfl rfl ?_
     refine WH.val (O.ld1 (PtI.ref rfl rfl) rfl Try.underlying3 rfl rfl Taken.no) rfl rfl ?_
     refine WH.val (O.idx_ref (i := 1) (m := 1) rfl rfl (rfl) (by decide) Try.underlying90 (by kernel_rfl) rfl rfl Taken.no) rfl rfl ?_
     refine WH.val (O.ld1 (PtI.ref rfl rfl) rfl Try.underlying3 rfl rfl Taken.no) rfl rfl ?_
     refine WH.val (O.idx_ref (i := 2) (m := 1) rfl rfl (rfl) (by decide) Try.underlying90 (by kernel_rfl) rfl rfl Taken.no) rfl rfl ?_
     refine WH.val (O.ld1 (PtI.ref rfl rfl) rfl Try.underlying3 rfl rfl Taken.no) rfl rfl ?_
     refine WH.memS (O.call (rn []) [] rfl rfl rfl (get_h (st := st) a b (now := c)) (.cons (ArgOk.aggU (.cons (ArgOk.same rfl) (.cons (ArgOk.same rfl) (.cons (ArgOk.same rfl) .nil)))) (.cons (ArgOk.same rfl) (.cons (ArgOk.same rfl) (.cons (ArgOk.same rfl) .nil)))) SubS.nil rfl rfl rfl rfl rfl (.inl rfl) hcallOk46 (r' := .tup [.agg [.u _, .u _, .u _], .u _, .u _]) rfl rfl Taken.no) rfl rfl rfl rfl rfl (S' := _) rfl ?_
     refine WH.val (O.move rfl rfl Taken.no) rfl rfl ?_
     refine WH.val (O.extract rfl rfl rfl Taken.no) rfl rfl ?_
     refine WH.val (O.extract rfl rfl rfl Taken.no) rfl rfl ?_
     refine WH.val (O.extract rfl rfl rfl Taken.no) rfl rfl ?_
     refine WH.memS (O.alloc (z := .agg #[.int .i64 0, .int .i64 0, .slice none 0 0]) (is := [.u (.sc (.int .i64 0)), .u (.sc (.int .i64 0)), .u (.sc (.slice none 0 0))]) 106 (by kernel_rfl) rfl rfl rfl Taken.no) rfl rfl rfl rfl rfl (S' := (106, _) :: _) rfl ?_
     refine WH.effS (O.st_ref (m := 3) rfl rfl rfl (js := [_, _, _]) rfl rfl (by kernel_rfl) (by simp) (Nat.le_of_ble_eq_true rfl) rfl (is' := [_, _, _]) rfl Taken.no) rfl rfl rfl (S' := (106, _) :: _) rfl ?_
     refine WH.val (O.assign rfl rfl Taken.no) rfl rfl ?_
     refine WH.val (O.assign rfl rfl Taken.no) rfl rfl ?_
     refine WH.nil ?_
     refine E.to ?_
     refine W.seq ?_
     refine W.region ?_
     refine SL.val (O.ldN (m := 3) (PtI.ref rfl rfl) (js := [_, _, _]) rfl (Nat.le_of_ble_eq_true rfl) Try.underlying77 rfl (by kernel_rfl) rfl Taken.no) ?_
     refine SL.val (O.idx_ref (i := 0) (m := 1) rfl rfl (rfl) (by decide) Try.underlying90 (by kernel_rfl) rfl rfl Taken.no) ?_
     refine SL.val (O.ld1 (PtI.ref rfl rfl) rfl Try.underlying3 rfl rfl Taken.no) ?_
     refine SL.val (O.idx_ref (i := 1) (m := 1) rfl rfl (rfl) (by decide) Try.underlying90 (by kernel_rfl) rfl rfl Taken.no) ?_
     refine SL.val (O.ld1 (PtI.ref rfl rfl) rfl Try.underlying3 rfl rfl Taken.no) ?_
     refine SL.val (O.idx_ref (i := 2) (m := 1) rfl rfl (rfl) (by decide) Try.underlying90 (by kernel_rfl) rfl rfl Taken.no) ?_
     refine SL.val (O.ld1 (PtI.ref rfl rfl) rfl Try.underlying3 rfl rfl Taken.no) ?_
     refine SL.memS (O.call (rn []) [] rfl rfl rfl (refGet_h (st := st) a b (now := c)) (.cons (ArgOk.aggU (.cons (ArgOk.same rfl) (.cons (ArgOk.same rfl) (.cons (ArgOk.same rfl) .nil)))) (.cons (ArgOk.same rfl) (.cons (ArgOk.same rfl) (.cons (ArgOk.same rfl) .nil)))) SubS.nil rfl rfl rfl rfl rfl (.inl rfl) hcallOk41 (r' := .tup [.agg [.u _, .u _, .u _], .u _, .u _]) rfl rfl Taken.no) rfl rfl (S' := _) rfl ?_
     refine SL.val (O.move rfl rfl Taken.no) ?_
     refine SL.val (O.extract rfl rfl rfl Taken.no) ?_
     refine SL.val (O.extract rfl rfl rfl Taken.no) ?_
     refine SL.val (O.extract rfl rfl rfl Taken.no) ?_
     refine SL.memS (O.alloc (z := .agg #[.int .i64 0, .int .i64 0, .slice none 0 0]) (is := [.u (.sc (.int .i64 0)), .u (.sc (.int .i64 0)), .u (.sc (.slice none 0 0))]) 107 (by kernel_rfl) rfl rfl rfl Taken.no) rfl rfl (S' := (107, _) :: _) rfl ?_
     refine SL.effS (O.st_ref (m := 3) rfl rfl rfl (js := [_, _, _]) rfl rfl (by kernel_rfl) (by simp) (Nat.le_of_ble_eq_true rfl) rfl (is' := [_, _, _]) rfl Taken.no) (S' := (107, _) :: _) rfl ?_
     refine SL.val (O.assign rfl rfl Taken.no) ?_
     refine SL.val (O.assign rfl rfl Taken.no) ?_
     refine SL.nil ?_
     refine E.to ?_
     refine W.pick (.cons (t := 3) rfl (.cons (t := 5) rfl (.cons (t := 8) rfl (.cons (t := 9) rfl (.cons (t := 10) rfl (.cons (t := 11) rfl (.cons (t := 12) rfl (.cons (t := 13) rfl (.cons (t := 14) rfl (.cons (t := 15) rfl (.cons (t := 16) rfl (.cons (t := 17) rfl (.cons (t := 18) rfl (.cons (t := 19) rfl .nil)))))))))))))) (.cons (t := 101) rfl (.cons (t := 102) rfl (.cons (t := 103) rfl (.cons (t := 104) rfl (.cons (t := 105) rfl (.cons (t := 106) rfl (.cons (t := 107) rfl .nil))))))) ?_
     refine W.seq ?_
     refine W.draw [⟨[101], [], []⟩, ⟨[], [], []⟩, ⟨[103], [], []⟩, ⟨[103], [], []⟩, ⟨[103], [], []⟩, ⟨[103], [], []⟩, ⟨[], [], []⟩, ⟨[], [], []⟩, ⟨[], [], []⟩, ⟨[], [], []⟩, ⟨[108], [108], [108]⟩, ⟨[108], [108], []⟩, ⟨[], [], []⟩] rfl (by kernel_rfl) (by kernel_rfl) rfl rfl ?_
     refine WH.val (O.ldN (m := 3) (PtI.ref rfl rfl) (js := [_, _, _]) rfl (Nat.le_of_ble_eq_true rfl) Try.underlying77 rfl (by kernel_rfl) rfl Taken.no) rfl rfl ?_
     refine WH.memS (O.call (rn []) [] rfl rfl rfl (own_h (st := st) (by omega)) (.cons (ArgOk.aggU (.cons (ArgOk.same rfl) (.cons (ArgOk.same rfl) (.cons (ArgOk.same rfl) .nil)))) .nil) SubS.nil rfl rfl rfl rfl rfl (.inl rfl) hcallOk44 (r' := .agg [.u _, .u _, .u _]) rfl rfl Taken.no) rfl rfl rfl rfl rfl (S' := _) rfl ?_
     refine WH.val (O.idx_ref (i := 0) (m := 1) rfl rfl (rfl) (by decide) Try.underlying90 (by kernel_rfl) rfl rfl Taken.no) rfl rfl ?_
     refine WH.val (O.ld1 (PtI.ref rfl rfl) rfl Try.underlying3 rfl rfl Taken.no) rfl rfl ?_
     refine WH.val (O.idx_ref (i := 2) (m := 1) rfl rfl (rfl) (by decide) Try.underlying90 (by kernel_rfl) rfl rfl Taken.no) rfl rfl ?_
     refine WH.val (O.ld1 (PtI.ref rfl rfl) rfl Try.underlying3 rfl rfl Taken.no) rfl rfl ?_
     refine WH.memS (O.call (rn []) [] rfl rfl rfl (close_h (st := st) a (now := c)) (.cons (ArgOk.aggU (.cons (ArgOk.same rfl) (.cons (ArgOk.same rfl) (.cons (ArgOk.same rfl) .nil)))) (.cons (ArgOk.same rfl) (.cons (ArgOk.same rfl) .nil))) SubS.nil rfl rfl rfl rfl rfl (.inl rfl) hcallOk47 (r' := .tup [.agg [.u _, .u _, .u _], .u _]) rfl rfl Taken.no) rfl rfl rfl rfl rfl (S' := _) rfl ?_
     refine WH.val (O.move rfl rfl Taken.no) rfl rfl ?_
     refine WH.val (O.extract rfl rfl rfl Taken.no) rfl rfl ?_
     refine WH.val (O.extract rfl rfl rfl Taken.no) rfl rfl ?_
     refine WH.memS (O.alloc (z := .agg #[.int .i64 0, .int .i64 0, .slice none 0 0]) (is := [.u (.sc (.int .i64 0)), .u (.sc (.int .i64 0)), .u (.sc (.slice none 0 0))]) 108 (by kernel_rfl) rfl rfl rfl Taken.no) rfl rfl rfl rfl rfl (S' := (108, _) :: _) rfl ?_
     refine WH.effS (O.st_ref (m := 3) rfl rfl rfl (js := [_, _, _]) rfl rfl (by kernel_rfl) (by simp) (Nat.le_of_ble_eq_true rfl) rfl (is' := [_, _, _]) rfl Taken.no) rfl rfl rfl (S' := (108, _) :: _) rfl ?_
     refine WH.val (O.assign rfl rfl Taken.no) rfl rfl ?_
     refine WH.nil ?_
     refine E.to ?_
     refine W.pick (.cons (t := 3) rfl (.cons (t := 5) rfl (.cons (t := 8) rfl (.cons (t := 9) rfl (.cons (t := 10) rfl (.cons (t := 11) rfl (.cons (t := 12) rfl (.cons (t := 13) rfl (.cons (t := 14) rfl (.cons (t := 15) rfl (.cons (t := 16) rfl (.cons (t := 17) rfl (.cons (t := 18) rfl (.cons (t := 19) rfl (.cons (t := 20) rfl (.cons (t := 21) rfl .nil)))))))))))))))) (.cons (t := 101) rfl (.cons (t := 102) rfl (.cons (t := 103) rfl (.cons (t := 104) rfl (.cons (t := 105) rfl (.cons (t := 106) rfl (.cons (t := 107) rfl (.cons (t := 108) rfl .nil)))))))) ?_
     refine W.seq ?_
     refine W.region ?_
     refine SL.val (O.ldN (m := 3) (PtI.ref rfl rfl) (js := [_, _, _]) rfl (Nat.le_of_ble_eq_true rfl) Try.underlying77 rfl (by kernel_rfl) rfl Taken.no) ?_
     refine SL.val (O.idx_ref (i := 0) (m := 1) rfl rfl (rfl) (by decide) Try.underlying90 (by kernel_rfl) rfl rfl Taken.no) ?_
     refine SL.val (O.ld1 (PtI.ref rfl rfl) rfl Try.underlying3 rfl rfl Taken.no) ?_
     refine SL.val (O.idx_ref (i := 2) (m := 1) rfl rfl (rfl) (by decide) Try.underlying90 (by kernel_rfl) rfl rfl Taken.no) ?_
     refine SL.val (O.ld1 (PtI.ref rfl rfl) rfl Try.underlying3 rfl rfl Taken.no) ?_
     refine SL.memS (O.call (rn []) [] rfl rfl rfl (refClose_h (st := st) a (now := c)) (.cons (ArgOk.aggU (.cons (ArgOk.same rfl) (.cons (ArgOk.same rfl) (.cons (ArgOk.same rfl) .nil)))) (.cons (ArgOk.same rfl) (.cons (ArgOk.same rfl) .nil))) SubS.nil rfl rfl rfl rfl rfl (.inl rfl) hcallOk48 (r' := .tup [.agg [.u _, .u _, .u _], .u _]) rfl rfl Taken.no) rfl rfl (S' := _) rfl ?_
     refine SL.val (O.move rfl rfl Taken.no) ?_
     refine SL.val (O.extract rfl rfl rfl Taken.no) ?_
     refine SL.val (O.extract rfl rfl rfl Taken.no) ?_
     refine SL.memS (O.alloc (z := .agg #[.int .i64 0, .int .i64 0, .slice none 0 0]) (is := [.u (.sc (.int .i64 0)), .u (.sc (.int .i64 0)), .u (.sc (.slice none 0 0))]) 109 (by kernel_rfl) rfl rfl rfl Taken.no) rfl rfl (S' := (109, _) :: _) rfl ?_
     refine SL.effS (O.st_ref (m := 3) rfl rfl rfl (js := [_, _, _]) rfl rfl (by kernel_rfl) (by simp) (Nat.le_of_ble_eq_true rfl) rfl (is' := [_, _, _]) rfl Taken.no) (S' := (109, _) :: _) rfl ?_
     refine SL.val (O.assign rfl rfl Taken.no) ?_
     refine SL.nil ?_
     refine E.to ?_
     refine W.pick (.cons (t := 3) rfl (.cons (t := 8) rfl (.cons (t := 9) rfl (.cons (t := 10) rfl (.cons (t := 11) rfl (.cons (t := 12) rfl (.cons (t := 13) rfl (.cons (t := 14) rfl (.cons (t := 15) rfl (.cons (t := 16) rfl (.cons (t := 17) rfl (.cons (t := 18) rfl (.cons (t := 19) rfl (.cons (t := 20) rfl (.cons (t := 21) rfl (.cons (t := 22) rfl (.cons (t := 23) rfl .nil))))))))))))))))) (.cons (t := 101) rfl (.cons (t := 102) rfl (.cons (t := 103) rfl (.cons (t := 104) rfl (.cons (t := 105) rfl (.cons (t := 106) rfl (.cons (t := 107) rfl (.cons (t := 108) rfl (.cons (t := 109) rfl .nil))))))))) ?_
     refine W.seq ?_
     refine W.draw [⟨[101], [], []⟩, ⟨[], [], []⟩, ⟨[], [], []⟩, ⟨[101], [], []⟩, ⟨[], [], []⟩, ⟨[], [], []⟩, ⟨[], [], []⟩, ⟨[104], [], []⟩, ⟨[], [], []⟩, ⟨[105], [], []⟩, ⟨[], [], []⟩, ⟨[], [], []⟩, ⟨[], [], []⟩, ⟨[], [], []⟩, ⟨[], [], []⟩, ⟨[], [], []⟩, ⟨[], [], []⟩, ⟨[], [], []⟩, ⟨[], [], []⟩, ⟨[], [], []⟩, ⟨[], [], []⟩, ⟨[], [], []⟩, ⟨[], [], []⟩, ⟨[106], [], []⟩, ⟨[], [], []⟩, ⟨[107], [], []⟩, ⟨[], [], []⟩, ⟨[], [], []⟩, ⟨[], [], []⟩, ⟨[], [], []⟩, ⟨[], [], []⟩, ⟨[], [], []⟩, ⟨[], [], []⟩, ⟨[], [], []⟩, ⟨[], [], []⟩, ⟨[], [], []⟩, ⟨[], [], []⟩, ⟨[], [], []⟩, ⟨[], [], []⟩, ⟨[108], [], []⟩, ⟨[], [], []⟩, ⟨[109], [], []⟩, ⟨[], [], []⟩, ⟨[], [], []⟩, ⟨[], [], []⟩, ⟨[], [], []⟩, ⟨[], [], []⟩, ⟨[], [], []⟩, ⟨[], [], []⟩, ⟨[], [], []⟩] rfl (by kernel_rfl) (by kernel_rfl) rfl rfl ?_
     refine WH.val (O.ldN (m := 3) (PtI.ref rfl rfl) (js := [_, _, _]) rfl (Nat.le_of_ble_eq_true rfl) Try.underlying77 rfl (by kernel_rfl) rfl Taken.no) rfl rfl ?_
     refine WH.memS (O.call (rn []) [] rfl rfl rfl (own_h (st := st) (by omega)) (.cons (ArgOk.aggU (.cons (ArgOk.same rfl) (.cons (ArgOk.same rfl) (.cons (ArgOk.same rfl) .nil)))) .nil) SubS.nil rfl rfl rfl rfl rfl (.inl rfl) hcallOk44 (r' := .agg [.u _, .u _, .u _]) rfl rfl Taken.no) rfl rfl rfl rfl rfl (S' := _) rfl ?_
     refine WH.val (O.callp rfl rfl rfl (validStore_h (st := st)) (.cons (ArgOk.aggU (.cons (ArgOk.same rfl) (.cons (ArgOk.same rfl) (.cons (ArgOk.same rfl) .nil)))) .nil) hcallOk42 rfl Taken.no) rfl rfl ?_
     refine WH.val (O.ldN (m := 3) (PtI.ref rfl rfl) (js := [_, _, _]) rfl (Nat.le_of_ble_eq_true rfl) Try.underlying77 rfl (by kernel_rfl) rfl Taken.no) rfl rfl ?_
     refine WH.val (O.callp rfl rfl rfl (refValidStore_h (st := st)) (.cons (ArgOk.aggU (.cons (ArgOk.same rfl) (.cons (ArgOk.same rfl) (.cons (ArgOk.same rfl) .nil)))) .nil) hcallOk49 rfl Taken.no) rfl rfl ?_
     refine WH.val (O.det (fun _ => G.R.mv (G.R.booleql rfl rfl Try.underlying4) (congrArg Value.bool (beq_self_eq_true _))) rfl Taken.no) rfl rfl ?_
     refine WH.val (O.move rfl rfl Taken.no) rfl rfl ?_
     have hg6 : true = true := by decide
     refine WH.val (O.ldN (m := 3) (PtI.ref rfl rfl) (js := [_, _, _]) rfl (Nat.le_of_ble_eq_true rfl) Try.underlying73 rfl (by kernel_rfl) rfl (Taken.yes rfl rfl hg6)) rfl rfl ?_
     refine WH.memS (O.call (rn []) [] rfl rfl rfl (store_h (st := opnS st s c) (by have := opnS_len st s c; omega)) (.cons (ArgOk.aggU (.cons (ArgOk.same rfl) (.cons (ArgOk.same rfl) (.cons (ArgOk.same rfl) .nil)))) .nil) SubS.nil rfl rfl rfl rfl rfl (.inl rfl) hcallOk40 (r' := .agg [.u _, .u _, .u _]) rfl rfl (Taken.yes rfl rfl hg6)) rfl rfl rfl rfl rfl (S' := _) rfl ?_
     refine WH.val (O.ldN (m := 3) (PtI.ref rfl rfl) (js := [_, _, _]) rfl (Nat.le_of_ble_eq_true rfl) Try.underlying77 rfl (by kernel_rfl) rfl (Taken.yes rfl rfl hg6)) rfl rfl ?_
     refine WH.val (OpOk.re (i' := vB true) (O.callp rfl rfl rfl (sameStore_h (a := opnS st s c) (b := opnS st s c)) (.cons (ArgOk.aggU (.cons (ArgOk.same rfl) (.cons (ArgOk.same rfl) (.cons (ArgOk.same rfl) .nil)))) (.cons (ArgOk.aggU (.cons (ArgOk.same rfl) (.cons (ArgOk.same rfl) (.cons (ArgOk.same rfl) .nil)))) .nil)) hcallOk39 rfl (Taken.yes rfl rfl hg6)) (by exact iv_bool (dec_t rfl))) rfl rfl ?_
     refine WH.val (O.pick_t rfl rfl rfl rfl Taken.no) rfl rfl ?_
     refine WH.val (O.move rfl rfl Taken.no) rfl rfl ?_
     have hg7 : true = true := by decide
     refine WH.val (O.move rfl rfl (Taken.yes rfl rfl hg7)) rfl rfl ?_
     refine WH.val (O.move rfl rfl (Taken.yes rfl rfl hg7)) rfl rfl ?_
     refine WH.val (O.det (fun _ => G.R.mv (G.R.eql rfl rfl) (congrArg Value.bool (decide_eq_true (by rfl)))) rfl (Taken.yes rfl rfl hg7)) rfl rfl ?_
     refine WH.val (O.pick_t rfl rfl rfl rfl Taken.no) rfl rfl ?_
     refine WH.val (O.move rfl rfl Taken.no) rfl rfl ?_
     have hg8 : true = true := by decide
     refine WH.val (O.move rfl rfl (Taken.yes rfl rfl hg8)) rfl rfl ?_
     refine WH.val (O.move rfl rfl (Taken.yes rfl rfl hg8)) rfl rfl ?_
     refine WH.val (O.det (fun _ => G.R.mv (G.R.eql rfl rfl) (congrArg Value.bool (decide_eq_true (by rfl)))) rfl (Taken.yes rfl rfl hg8)) rfl rfl ?_
     refine WH.val (O.pick_t rfl rfl rfl rfl Taken.no) rfl rfl ?_
     refine WH.val (O.move rfl rfl Taken.no) rfl rfl ?_
     have hg9 : true = true := by decide
     refine WH.val (O.ldN (m := 3) (PtI.ref rfl rfl) (js := [_, _, _]) rfl (Nat.le_of_ble_eq_true rfl) Try.underlying73 rfl (by kernel_rfl) rfl (Taken.yes rfl rfl hg9)) rfl rfl ?_
     refine WH.memS (O.call (rn []) [] rfl rfl rfl (store_h (st := getS st a c) (by have := getS_len st a c; omega)) (.cons (ArgOk.aggU (.cons (ArgOk.same rfl) (.cons (ArgOk.same rfl) (.cons (ArgOk.same rfl) .nil)))) .nil) SubS.nil rfl rfl rfl rfl rfl (.inl rfl) hcallOk40 (r' := .agg [.u _, .u _, .u _]) rfl rfl (Taken.yes rfl rfl hg9)) rfl rfl rfl rfl rfl (S' := _) rfl ?_
     refine WH.val (O.ldN (m := 3) (PtI.ref rfl rfl) (js := [_, _, _]) rfl (Nat.le_of_ble_eq_true rfl) Try.underlying77 rfl (by kernel_rfl) rfl (Taken.yes rfl rfl hg9)) rfl rfl ?_
     refine WH.val (OpOk.re (i' := vB true) (O.callp rfl rfl rfl (sameStore_h (a := getS st a c) (b := getS st a c)) (.cons (ArgOk.aggU (.cons (ArgOk.same rfl) (.cons (ArgOk.same rfl) (.cons (ArgOk.same rfl) .nil)))) (.cons (ArgOk.aggU (.cons (ArgOk.same rfl) (.cons (ArgOk.same rfl) (.cons (ArgOk.same rfl) .nil)))) .nil)) hcallOk39 rfl (Taken.yes rfl rfl hg9)) (by exact iv_bool (dec_t rfl))) rfl rfl ?_
     refine WH.val (O.pick_t rfl rfl rfl rfl Taken.no) rfl rfl ?_
     refine WH.val (O.move rfl rfl Taken.no) rfl rfl ?_
     have hg10 : true = true := by decide
     refine WH.val (O.move rfl rfl (Taken.yes rfl rfl hg10)) rfl rfl ?_
     refine WH.val (O.move rfl rfl (Taken.yes rfl rfl hg10)) rfl rfl ?_
     refine WH.val (OpOk.re (i' := vB true) (O.callp rfl rfl rfl (sameHits_h (a := getQ st a b c) (b := getQ st a b c)) (.cons (ArgOk.same rfl) (.cons (ArgOk.same rfl) .nil)) hcallOk25 rfl (Taken.yes rfl rfl hg10)) (by exact iv_bool (dec_t rfl))) rfl rfl ?_
     refine WH.val (O.pick_t rfl rfl rfl rfl Taken.no) rfl rfl ?_
     refine WH.val (O.move rfl rfl Taken.no) rfl rfl ?_
     have hg11 : true = true := by decide
     refine WH.val (O.move rfl rfl (Taken.yes rfl rfl hg11)) rfl rfl ?_
     refine WH.val (O.move rfl rfl (Taken.yes rfl rfl hg11)) rfl rfl ?_
     refine WH.val (O.det (fun _ => G.R.mv (G.R.eql rfl rfl) (congrArg Value.bool (decide_eq_true (by rfl)))) rfl (Taken.yes rfl rfl hg11)) rfl rfl ?_
     refine WH.val (O.pick_t rfl rfl rfl rfl Taken.no) rfl rfl ?_
     refine WH.val (O.move rfl rfl Taken.no) rfl rfl ?_
     have hg12 : true = true := by decide
     refine WH.val (O.ldN (m := 3) (PtI.ref rfl rfl) (js := [_, _, _]) rfl (Nat.le_of_ble_eq_true rfl) Try.underlying73 rfl (by kernel_rfl) rfl (Taken.yes rfl rfl hg12)) rfl rfl ?_
     refine WH.memS (O.call (rn []) [] rfl rfl rfl (store_h (st := clsS st a c) (by have := clsS_len st a c; omega)) (.cons (ArgOk.aggU (.cons (ArgOk.same rfl) (.cons (ArgOk.same rfl) (.cons (ArgOk.same rfl) .nil)))) .nil) SubS.nil rfl rfl rfl rfl rfl (.inl rfl) hcallOk40 (r' := .agg [.u _, .u _, .u _]) rfl rfl (Taken.yes rfl rfl hg12)) rfl rfl rfl rfl rfl (S' := _) rfl ?_
     refine WH.val (O.ldN (m := 3) (PtI.ref rfl rfl) (js := [_, _, _]) rfl (Nat.le_of_ble_eq_true rfl) Try.underlying77 rfl (by kernel_rfl) rfl (Taken.yes rfl rfl hg12)) rfl rfl ?_
     refine WH.val (OpOk.re (i' := vB true) (O.callp rfl rfl rfl (sameStore_h (a := clsS st a c) (b := clsS st a c)) (.cons (ArgOk.aggU (.cons (ArgOk.same rfl) (.cons (ArgOk.same rfl) (.cons (ArgOk.same rfl) .nil)))) (.cons (ArgOk.aggU (.cons (ArgOk.same rfl) (.cons (ArgOk.same rfl) (.cons (ArgOk.same rfl) .nil)))) .nil)) hcallOk39 rfl (Taken.yes rfl rfl hg12)) (by exact iv_bool (dec_t rfl))) rfl rfl ?_
     refine WH.val (O.pick_t rfl rfl rfl rfl Taken.no) rfl rfl ?_
     refine WH.val (O.move rfl rfl Taken.no) rfl rfl ?_
     have hg13 : true = true := by decide
     refine WH.val (O.move rfl rfl (Taken.yes rfl rfl hg13)) rfl rfl ?_
     refine WH.val (O.move rfl rfl (Taken.yes rfl rfl hg13)) rfl rfl ?_
     refine WH.val (O.det (fun _ => G.R.mv (G.R.eql rfl rfl) (congrArg Value.bool (decide_eq_true (by rfl)))) rfl (Taken.yes rfl rfl hg13)) rfl rfl ?_
     refine WH.val (O.pick_t rfl rfl rfl rfl Taken.no) rfl rfl ?_
     refine WH.val (O.assign rfl rfl Taken.no) rfl rfl ?_
     refine WH.nil ?_
     refine E.to ?_
     refine W.pick (.cons (t := 6) rfl .nil) (.cons (t := 101) rfl (.cons (t := 102) rfl (.cons (t := 103) rfl (.cons (t := 104) rfl (.cons (t := 105) rfl (.cons (t := 106) rfl (.cons (t := 107) rfl (.cons (t := 108) rfl (.cons (t := 109) rfl .nil))))))))) ?_
     refine W.ret ?_
     refine E.fin (rs := [_]) (rn []) (.inl rfl) rfl (.cons (ResOne.tmp rfl) .nil) ?_ ?_ rfl (fixL_spec rfl)
     ·skip
      rfl
     · exact SubS.nil
  ·skip
   first | have hg2p := G.gA7 hg2 | have hg2p := G.gA8 hg2 | have hg2p := hg2
   refine SL.skip (OpOk.not rfl rfl rfl hg2) ?_
   refine SL.skip (OpOk.not rfl rfl rfl hg2) ?_
   refine SL.skip (OpOk.not rfl rfl rfl hg2) ?_
   refine SL.skip (OpOk.not rfl rfl rfl hg2) ?_
   refine SL.val (O.pick_t rfl (G.ne_f hg2) rfl rfl Taken.no) ?_
   refine SL.nil ?_
   refine E.to ?_
   refine W.cond_t rfl ?_
   refine W.seq ?_
   refine W.region ?_
   refine SL.val (O.assign rfl rfl Taken.no) ?_
   refine SL.nil ?_
   refine E.to ?_
   refine W.ret ?_
   refine E.thr ?_
   refine E.fin (rs := [_]) (rn []) (.inl rfl) rfl (.cons (ResOne.tmp rfl) .nil) ?_ ?_ rfl (fixL_spec rfl)
   ·skip
    rfl
   · exact SubS.nil

set_option maxRecDepth 8000 in
/-- bookplate/bookplatelaw51.SessionIdle. -/
theorem sessionIdle_h {s : Sess} {a b : Int} :
    Con Try.prog 10 [vA [uI s.size, .sl 2 (s.items.map eT)], vI a, vI b] [] (vB true) [] := by
 refine Con.enterL (n := 102) Try.func10 rfl rfl rfl (fun τ w ok vs hin => ?_)
 have hl0_1 := hin.lenA (i := 0) (j := 1) rfl rfl
 try rw [List.length_map] at hl0_1
 clear hin
 refine W.seq ?_
 refine W.region ?_
 refine SL.memS (O.box (is := [_, _]) 101 rfl rfl (by simp) rfl rfl Taken.no) rfl rfl (S' := (101, _) :: _) rfl ?_
 refine SL.val (O.assign rfl rfl Taken.no) ?_
 refine SL.nil ?_
 refine E.to ?_
 refine W.seq ?_
 refine W.seq ?_
 refine W.region ?_
 refine SL.val (O.callp rfl rfl rfl (awake_h) .nil hcallOk11 rfl Taken.no) ?_
 refine SL.val (O.det (fun _ => G.R.not rfl) rfl Taken.no) ?_
 refine SL.nil ?_
 refine E.to ?_
 first | refine W.cond_d rfl (fun hc1 => ?_) (fun hc1 => ?_) | refine W.cond_nd rfl (fun hc1 => ?_) (fun hc1 => ?_) | refine W.cond rfl (fun hc1 => ?_) (fun hc1 => ?_)
 ·skip
  refine W.seq ?_
  refine W.region ?_
  refine SL.val (O.assign rfl rfl Taken.no) ?_
  refine SL.nil ?_
  refine E.to ?_
  refine W.ret ?_
  refine E.thr ?_
  refine E.fin (rs := [_]) (rn []) (.inl rfl) rfl (.cons (ResOne.tmp rfl) .nil) ?_ ?_ rfl (fixL_spec rfl)
  ·skip
   exact absurd hc1 (by decide)
  · exact SubS.nil
 ·skip
  refine W.skip ?_
  refine E.to ?_
  refine W.seq ?_
  refine W.seq ?_
  refine W.region ?_
  refine SL.val (O.fld_ref (o' := 1) rfl Try.underlying31 rfl (m := 0) (by kernel_rfl) rfl rfl Taken.no) ?_
  refine SL.val (O.ld1 (PtI.ref rfl rfl) rfl Try.underlying22 rfl rfl Taken.no) ?_
  refine SL.val (O.callp rfl rfl rfl (short_h) (.cons (ArgOk.same rfl) .nil) hcallOk12 rfl Taken.no) ?_
  refine SL.val (O.det (fun _ => G.R.not rfl) rfl Taken.no) ?_
  refine SL.val (O.move rfl rfl Taken.no) ?_
  refine SL.case (j := 4) (g := 21) (want := false) rfl rfl (fun hg2 => ?_) (fun hg2 => ?_)
  ·skip
   first | have hg2p := G.gA3 hg2 | have hg2p := G.gA4 hg2 | have hg2p := hg2
   refine SL.val (O.ldN (m := 2) (PtI.ref rfl rfl) (js := [_, _]) rfl (Nat.le_of_ble_eq_true rfl) Try.underlying31 rfl (by kernel_rfl) rfl (Taken.yes rfl rfl hg2)) ?_
   refine SL.val (O.callp rfl rfl rfl (refValid_h) (.cons (ArgOk.aggU (.cons (ArgOk.same rfl) (.cons (ArgOk.same rfl) .nil))) .nil) hcallOk22 rfl (Taken.yes rfl rfl hg2)) ?_
   refine SL.val (O.det (fun _ => G.R.not rfl) rfl (Taken.yes rfl rfl hg2)) ?_
   refine SL.val (O.pick_f rfl hg2 rfl rfl Taken.no) ?_
   refine SL.val (O.move rfl rfl Taken.no) ?_
   refine SL.case (j := 9) (g := 26) (want := false) rfl rfl (fun hg3 => ?_) (fun hg3 => ?_)
   ·skip
    first | have hg3p := G.gA3 hg3 | have hg3p := G.gA4 hg3 | have hg3p := hg3
    refine SL.val (O.move rfl rfl (Taken.yes rfl rfl hg3)) ?_
    refine SL.val (O.det (fun _ => G.R.lss rfl rfl) rfl (Taken.yes rfl rfl hg3)) ?_
    refine SL.val (O.pick_f rfl hg3 rfl rfl Taken.no) ?_
    refine SL.val (O.move rfl rfl Taken.no) ?_
    refine SL.case (j := 13) (g := 30) (want := false) rfl rfl (fun hg4 => ?_) (fun hg4 => ?_)
    ·skip
     first | have hg4p := G.gA3 hg4 | have hg4p := G.gA4 hg4 | have hg4p := hg4
     refine SL.val (O.move rfl rfl (Taken.yes rfl rfl hg4)) ?_
     refine SL.val (O.det (fun _ => G.R.gtr rfl rfl) rfl (Taken.yes rfl rfl hg4)) ?_
     refine SL.val (O.pick_f rfl hg4 rfl rfl Taken.no) ?_
     refine SL.val (O.move rfl rfl Taken.no) ?_
     refine SL.case (j := 17) (g := 34) (want := false) rfl rfl (fun hg5 => ?_) (fun hg5 => ?_)
     ·skip
      first | have hg5p := G.gA3 hg5 | have hg5p := G.gA4 hg5 | have hg5p := hg5
      refine SL.val (O.move rfl rfl (Taken.yes rfl rfl hg5)) ?_
      refine SL.val (O.det (fun _ => G.R.lss rfl rfl) rfl (Taken.yes rfl rfl hg5)) ?_
      refine SL.val (O.pick_f rfl hg5 rfl rfl Taken.no) ?_
      refine SL.val (O.move rfl rfl Taken.no) ?_
      refine SL.case (j := 21) (g := 38) (want := false) rfl rfl (fun hg6 => ?_) (fun hg6 => ?_)
      ·skip
       first | have hg6p := G.gA3 hg6 | have hg6p := G.gA4 hg6 | have hg6p := hg6
       refine SL.val (O.move rfl rfl (Taken.yes rfl rfl hg6)) ?_
       refine SL.val (O.det (fun _ => G.R.gtr rfl rfl) rfl (Taken.yes rfl rfl hg6)) ?_
       refine SL.val (O.pick_f rfl hg6 rfl rfl Taken.no) ?_
       refine SL.nil ?_
       refine E.to ?_
       refine W.pick (.cons (t := 1) rfl (.cons (t := 2) rfl (.cons (t := 3) rfl (.cons (t := 6) rfl (.cons (t := 41) rfl .nil))))) (.cons (t := 101) rfl .nil) ?_
       first | refine W.cond_d rfl (fun hc7 => ?_) (fun hc7 => ?_) | refine W.cond_nd rfl (fun hc7 => ?_) (fun hc7 => ?_) | refine W.cond rfl (fun hc7 => ?_) (fun hc7 => ?_)
       ·skip
        refine W.seq ?_
        refine W.region ?_
        refine SL.val (O.assign rfl rfl Taken.no) ?_
        refine SL.nil ?_
        refine E.to ?_
        refine W.ret ?_
        refine E.thr ?_
        refine E.fin (rs := [_]) (rn []) (.inl rfl) rfl (.cons (ResOne.tmp rfl) .nil) ?_ ?_ rfl (fixL_spec rfl)
        ·skip
         first | rfl | exact iv_bool (by simp_all) | exact iv_bool (by omega)
        · exact SubS.nil
       ·skip
        have hv : validS s := by simp_all
        have ha : 0 ≤ a ∧ a ≤ 999900 := by constructor <;> omega
        have hb : 0 ≤ b ∧ b ≤ 100 := by constructor <;> omega
        refine W.skip ?_
        refine E.to ?_
        refine W.seq ?_
        refine W.draw [⟨[], [], []⟩, ⟨[101], [], []⟩, ⟨[], [], []⟩, ⟨[], [], []⟩, ⟨[], [], []⟩, ⟨[], [], []⟩, ⟨[], [], []⟩, ⟨[], [], []⟩, ⟨[], [], []⟩, ⟨[102], [102], [102]⟩, ⟨[102], [102], []⟩, ⟨[], [], []⟩, ⟨[], [], []⟩] rfl (by kernel_rfl) (by kernel_rfl) rfl rfl ?_
        refine WH.memS (O.call (rn []) [] rfl rfl rfl (new_h) .nil SubS.nil rfl rfl rfl rfl rfl (.inl rfl) hcallOk35 (r' := .agg [.u _, .u _, .u _]) rfl rfl Taken.no) rfl rfl rfl rfl rfl (S' := _) rfl ?_
        refine WH.val (O.ldN (m := 2) (PtI.ref rfl rfl) (js := [_, _]) rfl (Nat.le_of_ble_eq_true rfl) Try.underlying31 rfl (by kernel_rfl) rfl Taken.no) rfl rfl ?_
        refine WH.memS (O.call (rn []) [] rfl rfl rfl (ours_h) (.cons (ArgOk.aggU (.cons (ArgOk.same rfl) (.cons (ArgOk.same rfl) .nil))) .nil) SubS.nil rfl rfl rfl rfl rfl (.inl rfl) hcallOk16 (r' := .agg [.u _, .u _]) rfl rfl Taken.no) rfl rfl rfl rfl rfl (S' := _) rfl ?_
        refine WH.val (O.move rfl rfl Taken.no) rfl rfl ?_
        refine WH.memS (OpOk.re (i' := .tup [.agg [vI 2, vI a, vL 4 (([⟨1, a, s⟩] : List Opn).map eO)], vI 1, vI 0]) (O.call (rn []) [] rfl rfl rfl (open_h (st := newSt) (s := s) (now := a)) (.cons (ArgOk.aggU (.cons (ArgOk.same rfl) (.cons (ArgOk.same rfl) (.cons (ArgOk.same rfl) .nil)))) (.cons (ArgOk.aggU (.cons (ArgOk.same rfl) (.cons (ArgOk.same rfl) .nil))) (.cons (ArgOk.same rfl) .nil))) SubS.nil rfl rfl rfl rfl rfl (.inl rfl) hcallOk43 (r' := .tup [.agg [.u _, .u _, .u _], .u _, .u _]) rfl rfl Taken.no) (by rw [(new_opn hv ha.1 (by omega)).1, (new_opn hv ha.1 (by omega)).2.1, (new_opn hv ha.1 (by omega)).2.2])) rfl rfl rfl rfl rfl (S' := _) rfl ?_
        refine WH.val (O.move rfl rfl Taken.no) rfl rfl ?_
        refine WH.val (O.extract rfl rfl rfl Taken.no) rfl rfl ?_
        refine WH.val (O.extract rfl rfl rfl Taken.no) rfl rfl ?_
        refine WH.val (O.extract rfl rfl rfl Taken.no) rfl rfl ?_
        refine WH.memS (O.alloc (z := .agg #[.int .i64 0, .int .i64 0, .slice none 0 0]) (is := [.u (.sc (.int .i64 0)), .u (.sc (.int .i64 0)), .u (.sc (.slice none 0 0))]) 102 (by kernel_rfl) rfl rfl rfl Taken.no) rfl rfl rfl rfl rfl (S' := (102, _) :: _) rfl ?_
        refine WH.effS (O.st_ref (m := 3) rfl rfl rfl (js := [_, _, _]) rfl rfl (by kernel_rfl) (by simp) (Nat.le_of_ble_eq_true rfl) rfl (is' := [_, _, _]) rfl Taken.no) rfl rfl rfl (S' := (102, _) :: _) rfl ?_
        refine WH.val (O.assign rfl rfl Taken.no) rfl rfl ?_
        refine WH.val (O.assign rfl rfl Taken.no) rfl rfl ?_
        refine WH.nil ?_
        refine E.to ?_
        refine W.seq ?_
        refine W.region ?_
        refine SL.val (O.ldN (m := 3) (PtI.ref rfl rfl) (js := [_, _, _]) rfl (Nat.le_of_ble_eq_true rfl) Try.underlying73 rfl (by kernel_rfl) rfl Taken.no) ?_
        refine SL.val (O.move rfl rfl Taken.no) ?_
        refine SL.val (O.move rfl rfl Taken.no) ?_
        refine SL.val (O.move rfl rfl Taken.no) ?_
        refine SL.val (O.det (fun _ => by first | exact G.R.add64 rfl rfl (by omega) | exact G.R.add rfl rfl) rfl Taken.no) ?_
        refine SL.memS (O.call (rn []) [] rfl rfl rfl (get_h (st := ⟨2, a, [⟨1, a, s⟩]⟩) 1 1 (now := a + b)) (.cons (ArgOk.aggU (.cons (ArgOk.same rfl) (.cons (ArgOk.same rfl) (.cons (ArgOk.same rfl) .nil)))) (.cons (ArgOk.same rfl) (.cons (ArgOk.same rfl) (.cons (ArgOk.same rfl) .nil)))) SubS.nil rfl rfl rfl rfl rfl (.inl rfl) hcallOk46 (r' := .tup [.agg [.u _, .u _, .u _], .u _, .u _]) rfl rfl Taken.no) rfl rfl (S' := _) rfl ?_
        refine SL.val (O.move rfl rfl Taken.no) ?_
        refine SL.val (O.extract rfl rfl rfl Taken.no) ?_
        refine SL.val (O.extract rfl rfl rfl Taken.no) ?_
        refine SL.val (O.extract rfl rfl rfl Taken.no) ?_
        refine SL.memS (O.alloc (z := .agg #[.int .i64 0, .int .i64 0, .slice none 0 0]) (is := [.u (.sc (.int .i64 0)), .u (.sc (.int .i64 0)), .u (.sc (.slice none 0 0))]) 103 (by kernel_rfl) rfl rfl rfl Taken.no) rfl rfl (S' := (103, _) :: _) rfl ?_
        refine SL.effS (O.st_ref (m := 3) rfl rfl rfl (js := [_, _, _]) rfl rfl (by kernel_rfl) (by simp) (Nat.le_of_ble_eq_true rfl) rfl (is' := [_, _, _]) rfl Taken.no) (S' := (103, _) :: _) rfl ?_
        refine SL.val (O.assign rfl rfl Taken.no) ?_
        refine SL.val (O.assign rfl rfl Taken.no) ?_
        refine SL.nil ?_
        refine E.to ?_
        refine W.pick (.cons (t := 1) rfl (.cons (t := 2) rfl (.cons (t := 3) rfl (.cons (t := 6) rfl (.cons (t := 7) rfl (.cons (t := 8) rfl (.cons (t := 9) rfl (.cons (t := 12) rfl .nil)))))))) (.cons (t := 101) rfl (.cons (t := 102) rfl (.cons (t := 103) rfl .nil))) ?_
        refine W.seq ?_
        refine W.region ?_
        refine SL.val (O.ldN (m := 3) (PtI.ref rfl rfl) (js := [_, _, _]) rfl (Nat.le_of_ble_eq_true rfl) Try.underlying73 rfl (by kernel_rfl) rfl Taken.no) ?_
        refine SL.val (O.move rfl rfl Taken.no) ?_
        refine SL.val (O.move rfl rfl Taken.no) ?_
        refine SL.val (O.move rfl rfl Taken.no) ?_
        refine SL.val (O.det (fun _ => by first | exact G.R.add64 rfl rfl (by omega) | exact G.R.add rfl rfl) rfl Taken.no) ?_
        refine SL.memS (O.call (rn []) [] rfl rfl rfl (close_h (st := ⟨2, a, [⟨1, a, s⟩]⟩) 1 (now := a + b)) (.cons (ArgOk.aggU (.cons (ArgOk.same rfl) (.cons (ArgOk.same rfl) (.cons (ArgOk.same rfl) .nil)))) (.cons (ArgOk.same rfl) (.cons (ArgOk.same rfl) .nil))) SubS.nil rfl rfl rfl rfl rfl (.inl rfl) hcallOk47 (r' := .tup [.agg [.u _, .u _, .u _], .u _]) rfl rfl Taken.no) rfl rfl (S' := _) rfl ?_
        refine SL.val (O.move rfl rfl Taken.no) ?_
        refine SL.val (O.extract rfl rfl rfl Taken.no) ?_
        refine SL.val (O.extract rfl rfl rfl Taken.no) ?_
        refine SL.memS (O.alloc (z := .agg #[.int .i64 0, .int .i64 0, .slice none 0 0]) (is := [.u (.sc (.int .i64 0)), .u (.sc (.int .i64 0)), .u (.sc (.slice none 0 0))]) 104 (by kernel_rfl) rfl rfl rfl Taken.no) rfl rfl (S' := (104, _) :: _) rfl ?_
        refine SL.effS (O.st_ref (m := 3) rfl rfl rfl (js := [_, _, _]) rfl rfl (by kernel_rfl) (by simp) (Nat.le_of_ble_eq_true rfl) rfl (is' := [_, _, _]) rfl Taken.no) (S' := (104, _) :: _) rfl ?_
        refine SL.val (O.assign rfl rfl Taken.no) ?_
        refine SL.nil ?_
        refine E.to ?_
        refine W.seq ?_
        refine W.seq ?_
        refine W.region ?_
        refine SL.val (O.move rfl rfl Taken.no) ?_
        refine SL.val (O.det (fun _ => G.R.gtr rfl rfl) rfl Taken.no) ?_
        refine SL.nil ?_
        refine E.to ?_
        first | refine W.cond_d rfl (fun hc8 => ?_) (fun hc8 => ?_) | refine W.cond_nd rfl (fun hc8 => ?_) (fun hc8 => ?_) | refine W.cond rfl (fun hc8 => ?_) (fun hc8 => ?_)
        ·skip
         rw [(idle_no (i := 1) hv ha.1 (by omega) (by omega)).1, (idle_no (i := 1) hv ha.1 (by omega) (by omega)).2]
         refine W.seq ?_
         refine W.region ?_
         refine SL.val (O.move rfl rfl Taken.no) ?_
         refine SL.val (O.det (fun _ => G.R.mv (G.R.eql rfl rfl) (congrArg Value.bool (decide_eq_true (by decide)))) rfl Taken.no) ?_
         refine SL.val (O.move rfl rfl Taken.no) ?_
         have hg9 : true = true := by decide
         refine SL.val (O.move rfl rfl (Taken.yes rfl rfl hg9)) ?_
         refine SL.val (O.det (fun _ => G.R.mv (G.R.eql rfl rfl) (congrArg Value.bool (decide_eq_true (by decide)))) rfl (Taken.yes rfl rfl hg9)) ?_
         refine SL.val (O.pick_t rfl rfl rfl rfl Taken.no) ?_
         refine SL.val (O.move rfl rfl Taken.no) ?_
         have hg10 : true = true := by decide
         refine SL.val (O.move rfl rfl (Taken.yes rfl rfl hg10)) ?_
         refine SL.val (O.det (fun _ => G.R.mv (G.R.eql rfl rfl) (congrArg Value.bool (decide_eq_true (by decide)))) rfl (Taken.yes rfl rfl hg10)) ?_
         refine SL.val (O.pick_t rfl rfl rfl rfl Taken.no) ?_
         refine SL.val (O.assign rfl rfl Taken.no) ?_
         refine SL.nil ?_
         refine E.to ?_
         refine W.pick (.cons (t := 3) rfl (.cons (t := 6) rfl (.cons (t := 9) rfl (.cons (t := 12) rfl (.cons (t := 14) rfl .nil))))) (.cons (t := 101) rfl (.cons (t := 102) rfl (.cons (t := 103) rfl (.cons (t := 104) rfl .nil)))) ?_
         refine W.ret ?_
         refine E.thr ?_
         refine E.fin (rs := [_]) (rn []) (.inl rfl) rfl (.cons (ResOne.tmp rfl) .nil) ?_ ?_ rfl (fixL_spec rfl)
         ·skip
          first | rfl | exact iv_bool (by simp_all) | exact iv_bool (by omega)
         · exact SubS.nil
        ·skip
         rw [(idle_yes (i := 1) hv ha.1 hb.1 (by omega) (by omega)).1, (idle_yes (i := 1) hv ha.1 hb.1 (by omega) (by omega)).2]
         have hp1 := page_one hv
         refine W.skip ?_
         refine E.to ?_
         refine W.seq ?_
         refine W.region ?_
         refine SL.val (O.move rfl rfl Taken.no) ?_
         refine SL.val (O.det (fun _ => G.R.mv (G.R.eql rfl rfl) (congrArg Value.bool (decide_eq_true (by decide)))) rfl Taken.no) ?_
         refine SL.val (O.move rfl rfl Taken.no) ?_
         have hg11 : true = true := by decide
         refine SL.val (O.move rfl rfl (Taken.yes rfl rfl hg11)) ?_
         refine SL.val (O.det (fun _ => G.R.eql rfl rfl) rfl (Taken.yes rfl rfl hg11)) ?_
         refine SL.val (O.move rfl rfl (Taken.yes rfl rfl hg11)) ?_
         refine SL.case (j := 5) (g := 87) (want := false) rfl rfl (fun hg12 => ?_) (fun hg12 => ?_)
         ·skip
          first | have hg12p := G.gA3 hg12 | have hg12p := G.gA4 hg12 | have hg12p := hg12
          refine SL.val (O.move rfl rfl (Taken.yes rfl rfl hg12)) ?_
          refine SL.val (O.det (fun _ => G.R.eql rfl rfl) rfl (Taken.yes rfl rfl hg12)) ?_
          refine SL.val (O.move rfl rfl (Taken.yes rfl rfl hg12)) ?_
          refine SL.case (j := 8) (g := 90) (want := true) rfl rfl (fun hg13 => ?_) (fun hg13 => ?_)
          ·skip
           first | have hg13p := G.gA1 hg13 | have hg13p := G.gA2 hg13 | have hg13p := hg13
           refine SL.val (O.fld_ref (o' := 1) rfl Try.underlying31 rfl (m := 0) (by kernel_rfl) rfl rfl (Taken.yes rfl rfl hg13)) ?_
           refine SL.val (O.ld1 (PtI.ref rfl rfl) rfl Try.underlying22 rfl rfl (Taken.yes rfl rfl hg13)) ?_
           refine SL.val (O.lenE (SlOf.fz rfl (by decide)) (by first | exact List.length_map _ | rfl) Try.underlying22 rfl (Taken.yes rfl rfl hg13)) ?_
           refine SL.val (O.det (fun _ => G.R.eql rfl rfl) rfl (Taken.yes rfl rfl hg13)) ?_
           refine SL.val (O.pick_t rfl hg13 rfl rfl (Taken.yes rfl rfl hg12)) ?_
           refine SL.val (O.pick_f rfl hg12 rfl rfl (Taken.yes rfl rfl hg11)) ?_
           refine SL.val (O.pick_t rfl rfl rfl rfl Taken.no) ?_
           refine SL.val (O.move rfl rfl Taken.no) ?_
           refine SL.case (j := 16) (g := 98) (want := true) rfl rfl (fun hg14 => ?_) (fun hg14 => ?_)
           ·skip
            first | have hg14p := G.gA1 hg14 | have hg14p := G.gA2 hg14 | have hg14p := hg14
            refine SL.val (O.move rfl rfl (Taken.yes rfl rfl hg14)) ?_
            refine SL.val (O.det (fun _ => G.R.mv (G.R.eql rfl rfl) (congrArg Value.bool (decide_eq_true (by decide)))) rfl (Taken.yes rfl rfl hg14)) ?_
            refine SL.val (O.pick_t rfl hg14 rfl rfl Taken.no) ?_
            refine SL.val (O.assign rfl rfl Taken.no) ?_
            refine SL.nil ?_
            refine E.to ?_
            refine W.pick (.cons (t := 6) rfl .nil) (.cons (t := 101) rfl (.cons (t := 102) rfl (.cons (t := 103) rfl (.cons (t := 104) rfl .nil)))) ?_
            refine W.ret ?_
            refine E.fin (rs := [_]) (rn []) (.inl rfl) rfl (.cons (ResOne.tmp rfl) .nil) ?_ ?_ rfl (fixL_spec rfl)
            ·skip
             first | rfl | exact iv_bool (by simp_all) | exact iv_bool (by omega)
            · exact SubS.nil
           ·skip
            first | have hg14p := G.gA5 hg14 | have hg14p := G.gA6 hg14 | have hg14p := hg14
            refine SL.skip (OpOk.not rfl rfl rfl hg14) ?_
            refine SL.skip (OpOk.not rfl rfl rfl hg14) ?_
            refine SL.val (O.pick_f rfl (G.ne_t hg14) rfl rfl Taken.no) ?_
            refine SL.val (O.assign rfl rfl Taken.no) ?_
            refine SL.nil ?_
            refine E.to ?_
            refine W.pick (.cons (t := 6) rfl .nil) (.cons (t := 101) rfl (.cons (t := 102) rfl (.cons (t := 103) rfl (.cons (t := 104) rfl .nil)))) ?_
            refine W.ret ?_
            refine E.fin (rs := [_]) (rn []) (.inl rfl) rfl (.cons (ResOne.tmp rfl) .nil) ?_ ?_ rfl (fixL_spec rfl)
            ·skip
             first | rfl | exact iv_bool (by simp_all) | exact iv_bool (by omega)
            · exact SubS.nil
          ·skip
           first | have hg13p := G.gA5 hg13 | have hg13p := G.gA6 hg13 | have hg13p := hg13
           refine SL.skip (OpOk.not rfl rfl rfl hg13) ?_
           refine SL.skip (OpOk.not rfl rfl rfl hg13) ?_
           refine SL.skip (OpOk.not rfl rfl rfl hg13) ?_
           refine SL.skip (OpOk.not rfl rfl rfl hg13) ?_
           refine SL.val (O.pick_f rfl (G.ne_t hg13) rfl rfl (Taken.yes rfl rfl hg12)) ?_
           refine SL.val (O.pick_f rfl hg12 rfl rfl (Taken.yes rfl rfl hg11)) ?_
           refine SL.val (O.pick_t rfl rfl rfl rfl Taken.no) ?_
           refine SL.val (O.move rfl rfl Taken.no) ?_
           have hg15 : false ≠ true := by decide
           refine SL.skip (OpOk.not rfl rfl rfl hg15) ?_
           refine SL.skip (OpOk.not rfl rfl rfl hg15) ?_
           refine SL.val (O.pick_f rfl rfl rfl rfl Taken.no) ?_
           refine SL.val (O.assign rfl rfl Taken.no) ?_
           refine SL.nil ?_
           refine E.to ?_
           refine W.pick (.cons (t := 6) rfl .nil) (.cons (t := 101) rfl (.cons (t := 102) rfl (.cons (t := 103) rfl (.cons (t := 104) rfl .nil)))) ?_
           refine W.ret ?_
           refine E.fin (rs := [_]) (rn []) (.inl rfl) rfl (.cons (ResOne.tmp rfl) .nil) ?_ ?_ rfl (fixL_spec rfl)
           ·skip
            first | rfl | exact iv_bool (by simp_all) | exact iv_bool (by omega)
           · exact SubS.nil
         ·skip
          first | have hg12p := G.gA7 hg12 | have hg12p := G.gA8 hg12 | have hg12p := hg12
          refine SL.skip (OpOk.not rfl rfl rfl hg12) ?_
          refine SL.skip (OpOk.not rfl rfl rfl hg12) ?_
          refine SL.skip (OpOk.not rfl rfl rfl hg12) ?_
          refine SL.skip (OpOk.not2 rfl rfl rfl) ?_
          refine SL.skip (OpOk.not2 rfl rfl rfl) ?_
          refine SL.skip (OpOk.not2 rfl rfl rfl) ?_
          refine SL.skip (OpOk.not2 rfl rfl rfl) ?_
          refine SL.skip (OpOk.not rfl rfl rfl hg12) ?_
          refine SL.val (O.pick_t rfl (G.ne_f hg12) rfl rfl (Taken.yes rfl rfl hg11)) ?_
          refine SL.val (O.pick_t rfl rfl rfl rfl Taken.no) ?_
          refine SL.val (O.move rfl rfl Taken.no) ?_
          have hg16 : true = true := by decide
          refine SL.val (O.move rfl rfl (Taken.yes rfl rfl hg16)) ?_
          refine SL.val (O.det (fun _ => G.R.mv (G.R.eql rfl rfl) (congrArg Value.bool (decide_eq_true (by decide)))) rfl (Taken.yes rfl rfl hg16)) ?_
          refine SL.val (O.pick_t rfl rfl rfl rfl Taken.no) ?_
          refine SL.val (O.assign rfl rfl Taken.no) ?_
          refine SL.nil ?_
          refine E.to ?_
          refine W.pick (.cons (t := 6) rfl .nil) (.cons (t := 101) rfl (.cons (t := 102) rfl (.cons (t := 103) rfl (.cons (t := 104) rfl .nil)))) ?_
          refine W.ret ?_
          refine E.fin (rs := [_]) (rn []) (.inl rfl) rfl (.cons (ResOne.tmp rfl) .nil) ?_ ?_ rfl (fixL_spec rfl)
          ·skip
           first | rfl | exact iv_bool (by simp_all) | exact iv_bool (by omega)
          · exact SubS.nil
      ·skip
       first | have hg6p := G.gA7 hg6 | have hg6p := G.gA8 hg6 | have hg6p := hg6
       refine SL.skip (OpOk.not rfl rfl rfl hg6) ?_
       refine SL.skip (OpOk.not rfl rfl rfl hg6) ?_
       refine SL.val (O.pick_t rfl (G.ne_f hg6) rfl rfl Taken.no) ?_
       refine SL.nil ?_
       refine E.to ?_
       refine W.pick (.cons (t := 1) rfl (.cons (t := 2) rfl (.cons (t := 3) rfl (.cons (t := 6) rfl (.cons (t := 41) rfl .nil))))) (.cons (t := 101) rfl .nil) ?_
       refine W.cond_t rfl ?_
       refine W.seq ?_
       refine W.region ?_
       refine SL.val (O.assign rfl rfl Taken.no) ?_
       refine SL.nil ?_
       refine E.to ?_
       refine W.ret ?_
       refine E.thr ?_
       refine E.fin (rs := [_]) (rn []) (.inl rfl) rfl (.cons (ResOne.tmp rfl) .nil) ?_ ?_ rfl (fixL_spec rfl)
       ·skip
        first | rfl | exact iv_bool (by simp_all) | exact iv_bool (by omega)
       · exact SubS.nil
     ·skip
      first | have hg5p := G.gA7 hg5 | have hg5p := G.gA8 hg5 | have hg5p := hg5
      refine SL.skip (OpOk.not rfl rfl rfl hg5) ?_
      refine SL.skip (OpOk.not rfl rfl rfl hg5) ?_
      refine SL.val (O.pick_t rfl (G.ne_f hg5) rfl rfl Taken.no) ?_
      refine SL.val (O.move rfl rfl Taken.no) ?_
      have hg17 : true ≠ false := by decide
      refine SL.skip (OpOk.not rfl rfl rfl hg17) ?_
      refine SL.skip (OpOk.not rfl rfl rfl hg17) ?_
      refine SL.val (O.pick_t rfl rfl rfl rfl Taken.no) ?_
      refine SL.nil ?_
      refine E.to ?_
      refine W.pick (.cons (t := 1) rfl (.cons (t := 2) rfl (.cons (t := 3) rfl (.cons (t := 6) rfl (.cons (t := 41) rfl .nil))))) (.cons (t := 101) rfl .nil) ?_
      refine W.cond_t rfl ?_
      refine W.seq ?_
      refine W.region ?_
      refine SL.val (O.assign rfl rfl Taken.no) ?_
      refine SL.nil ?_
      refine E.to ?_
      refine W.ret ?_
      refine E.thr ?_
      refine E.fin (rs := [_]) (rn []) (.inl rfl) rfl (.cons (ResOne.tmp rfl) .nil) ?_ ?_ rfl (fixL_spec rfl)
      ·skip
       first | rfl | exact iv_bool (by simp_all) | exact iv_bool (by omega)
      · exact SubS.nil
    ·skip
     first | have hg4p := G.gA7 hg4 | have hg4p := G.gA8 hg4 | have hg4p := hg4
     refine SL.skip (OpOk.not rfl rfl rfl hg4) ?_
     refine SL.skip (OpOk.not rfl rfl rfl hg4) ?_
     refine SL.val (O.pick_t rfl (G.ne_f hg4) rfl rfl Taken.no) ?_
     refine SL.val (O.move rfl rfl Taken.no) ?_
     have hg18 : true ≠ false := by decide
     refine SL.skip (OpOk.not rfl rfl rfl hg18) ?_
     refine SL.skip (OpOk.not rfl rfl rfl hg18) ?_
     refine SL.val (O.pick_t rfl rfl rfl rfl Taken.no) ?_
     refine SL.val (O.move rfl rfl Taken.no) ?_
     have hg19 : true ≠ false := by decide
     refine SL.skip (OpOk.not rfl rfl rfl hg19) ?_
     refine SL.skip (OpOk.not rfl rfl rfl hg19) ?_
     refine SL.val (O.pick_t rfl rfl rfl rfl Taken.no) ?_
     refine SL.nil ?_
     refine E.to ?_
     refine W.pick (.cons (t := 1) rfl (.cons (t := 2) rfl (.cons (t := 3) rfl (.cons (t := 6) rfl (.cons (t := 41) rfl .nil))))) (.cons (t := 101) rfl .nil) ?_
     refine W.cond_t rfl ?_
     refine W.seq ?_
     refine W.region ?_
     refine SL.val (O.assign rfl rfl Taken.no) ?_
     refine SL.nil ?_
     refine E.to ?_
     refine W.ret ?_
     refine E.thr ?_
     refine E.fin (rs := [_]) (rn []) (.inl rfl) rfl (.cons (ResOne.tmp rfl) .nil) ?_ ?_ rfl (fixL_spec rfl)
     ·skip
      first | rfl | exact iv_bool (by simp_all) | exact iv_bool (by omega)
     · exact SubS.nil
   ·skip
    first | have hg3p := G.gA7 hg3 | have hg3p := G.gA8 hg3 | have hg3p := hg3
    refine SL.skip (OpOk.not rfl rfl rfl hg3) ?_
    refine SL.skip (OpOk.not rfl rfl rfl hg3) ?_
    refine SL.val (O.pick_t rfl (G.ne_f hg3) rfl rfl Taken.no) ?_
    refine SL.val (O.move rfl rfl Taken.no) ?_
    have hg20 : true ≠ false := by decide
    refine SL.skip (OpOk.not rfl rfl rfl hg20) ?_
    refine SL.skip (OpOk.not rfl rfl rfl hg20) ?_
    refine SL.val (O.pick_t rfl rfl rfl rfl Taken.no) ?_
    refine SL.val (O.move rfl rfl Taken.no) ?_
    have hg21 : true ≠ false := by decide
    refine SL.skip (OpOk.not rfl rfl rfl hg21) ?_
    refine SL.skip (OpOk.not rfl rfl rfl hg21) ?_
    refine SL.val (O.pick_t rfl rfl rfl rfl Taken.no) ?_
    refine SL.val (O.move rfl rfl Taken.no) ?_
    have hg22 : true ≠ false := by decide
    refine SL.skip (OpOk.not rfl rfl rfl hg22) ?_
    refine SL.skip (OpOk.not rfl rfl rfl hg22) ?_
    refine SL.val (O.pick_t rfl rfl rfl rfl Taken.no) ?_
    refine SL.nil ?_
    refine E.to ?_
    refine W.pick (.cons (t := 1) rfl (.cons (t := 2) rfl (.cons (t := 3) rfl (.cons (t := 6) rfl (.cons (t := 41) rfl .nil))))) (.cons (t := 101) rfl .nil) ?_
    refine W.cond_t rfl ?_
    refine W.seq ?_
    refine W.region ?_
    refine SL.val (O.assign rfl rfl Taken.no) ?_
    refine SL.nil ?_
    refine E.to ?_
    refine W.ret ?_
    refine E.thr ?_
    refine E.fin (rs := [_]) (rn []) (.inl rfl) rfl (.cons (ResOne.tmp rfl) .nil) ?_ ?_ rfl (fixL_spec rfl)
    ·skip
     first | rfl | exact iv_bool (by simp_all) | exact iv_bool (by omega)
    · exact SubS.nil
  ·skip
   first | have hg2p := G.gA7 hg2 | have hg2p := G.gA8 hg2 | have hg2p := hg2
   refine SL.skip (OpOk.not rfl rfl rfl hg2) ?_
   refine SL.skip (OpOk.not rfl rfl rfl hg2) ?_
   refine SL.skip (OpOk.not rfl rfl rfl hg2) ?_
   refine SL.val (O.pick_t rfl (G.ne_f hg2) rfl rfl Taken.no) ?_
   refine SL.val (O.move rfl rfl Taken.no) ?_
   have hg23 : true ≠ false := by decide
   refine SL.skip (OpOk.not rfl rfl rfl hg23) ?_
   refine SL.skip (OpOk.not rfl rfl rfl hg23) ?_
   refine SL.val (O.pick_t rfl rfl rfl rfl Taken.no) ?_
   refine SL.val (O.move rfl rfl Taken.no) ?_
   have hg24 : true ≠ false := by decide
   refine SL.skip (OpOk.not rfl rfl rfl hg24) ?_
   refine SL.skip (OpOk.not rfl rfl rfl hg24) ?_
   refine SL.val (O.pick_t rfl rfl rfl rfl Taken.no) ?_
   refine SL.val (O.move rfl rfl Taken.no) ?_
   have hg25 : true ≠ false := by decide
   refine SL.skip (OpOk.not rfl rfl rfl hg25) ?_
   refine SL.skip (OpOk.not rfl rfl rfl hg25) ?_
   refine SL.val (O.pick_t rfl rfl rfl rfl Taken.no) ?_
   refine SL.val (O.move rfl rfl Taken.no) ?_
   have hg26 : true ≠ false := by decide
   refine SL.skip (OpOk.not rfl rfl rfl hg26) ?_
   refine SL.skip (OpOk.not rfl rfl rfl hg26) ?_
   refine SL.val (O.pick_t rfl rfl rfl rfl Taken.no) ?_
   refine SL.nil ?_
   refine E.to ?_
   refine W.pick (.cons (t := 1) rfl (.cons (t := 2) rfl (.cons (t := 3) rfl (.cons (t := 6) rfl (.cons (t := 41) rfl .nil))))) (.cons (t := 101) rfl .nil) ?_
   refine W.cond_t rfl ?_
   refine W.seq ?_
   refine W.region ?_
   refine SL.val (O.assign rfl rfl Taken.no) ?_
   refine SL.nil ?_
   refine E.to ?_
   refine W.ret ?_
   refine E.thr ?_
   refine E.fin (rs := [_]) (rn []) (.inl rfl) rfl (.cons (ResOne.tmp rfl) .nil) ?_ ?_ rfl (fixL_spec rfl)
   ·skip
    first | rfl | exact iv_bool (by simp_all) | exact iv_bool (by omega)
   · exact SubS.nil

end Go.Proofs.Ytoebjajbmkdcfaa
