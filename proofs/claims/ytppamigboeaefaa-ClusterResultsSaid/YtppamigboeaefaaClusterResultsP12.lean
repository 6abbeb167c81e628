/-
  What the proof rests on: part 12 of 12.
-/
import Derived.Test.YtppamigboeaefaaClusterResultsP11
section
namespace Go.Proofs.Ytppamigboeaefaa
open Go Go.RowKit Go.H Go.D33

theorem hcallOk15 : G.callOk Try.prog 15 = true := by kernel_rfl
theorem hcallOk21 : G.callOk Try.prog 21 = true := by kernel_rfl
theorem hcallOk24 : G.callOk Try.prog 24 = true := by kernel_rfl


set_option maxRecDepth 8000 in
set_option maxHeartbeats 1600000 in
/-- bookplate/bookplatelaw33.awake. -/
theorem awake_h  :
    Con Try.prog 11 [] [] (vB true) [] := by
 obtain ⟨i3, hi3, hz3, hs3, hb3⟩ := hinf3
 obtain ⟨i36, hi36, hz36, hs36, hb36⟩ := hinf36
 obtain ⟨i38, hi38, hz38, hs38, hb38⟩ := hinf38
 refine Con.enterL (n := 61) Try.func11 rfl rfl rfl (fun τ w ok vs hin => ?_)
 clear hin
 refine W.rg (SL.an rfl rfl (E.fo (W.rg ?_)))
 refine SL.val (O.build (res := [_, _, _]) (z := .agg #[.int .i64 0, .int .i64 0, .int .i64 0]) (places := [(0, 1), (1, 1), (2, 1)]) rfl rfl Try.underlying36 (by kernel_rfl) (fun _ => by kernel_rfl) rfl rfl Taken.no) ?_
 refine SL.val (O.build (res := [_, _, _]) (z := .agg #[.int .i64 0, .int .i64 0, .int .i64 0]) (places := [(0, 1), (1, 1), (2, 1)]) rfl rfl Try.underlying36 (by kernel_rfl) (fun _ => by kernel_rfl) rfl rfl Taken.no) ?_
 refine SL.val (O.build (res := [_, _, _]) (z := .agg #[.int .i64 0, .int .i64 0, .int .i64 0]) (places := [(0, 1), (1, 1), (2, 1)]) rfl rfl Try.underlying36 (by kernel_rfl) (fun _ => by kernel_rfl) rfl rfl Taken.no) ?_
 refine SL.memS (O.buildSlice 101 (rows := exP.map ePr) rfl rfl Try.underlying30 hi36 hz36 hs36 (by decide) rfl (by decide) rfl rfl rfl Taken.no) rfl rfl (S' := (101, .data 36 3 (exP.map ePr)) :: _) rfl ?_
 refine SL.freeze 101 rfl (F' := [(11, _)]) (⟨⟨_, rfl, rfl⟩, trivial⟩) ?_
 refine SL.val (O.build (res := [_, _, _]) (z := .agg #[.int .i64 0, .slice none 0 0, .slice none 0 0]) (places := [(0, 1), (1, 1), (2, 1)]) rfl rfl Try.underlying32 (by kernel_rfl) (fun _ => by kernel_rfl) rfl rfl Taken.no) ?_
 refine SL.memS (O.alloc (z := .agg #[.int .i64 0, .slice none 0 0, .slice none 0 0]) (is := [.u (.sc (.int .i64 0)), .u (.sc (.slice none 0 0)), .u (.sc (.slice none 0 0))]) 102 (by kernel_rfl) rfl rfl rfl Taken.no) rfl rfl (S' := (102, _) :: _) rfl ?_
 refine SL.effS (O.st_ref (m := 3) rfl rfl rfl (js := [_, _, _]) rfl rfl (by kernel_rfl) (by simp) (Nat.le_of_ble_eq_true rfl) rfl (is' := [_, _, _]) rfl Taken.no) (S' := (102, _) :: _) rfl ?_
 refine E.fo (W.rg ?_)
 refine SL.val (O.ldN (m := 3) (PtI.ref rfl rfl) (js := [_, _, _]) rfl (Nat.le_of_ble_eq_true rfl) Try.underlying32 rfl (by kernel_rfl) rfl Taken.no) ?_
 refine SL.memS (O.call (rn []) [] rfl rfl rfl (solveC_ok ex_ok) (.cons (ArgOk.aggU (.cons (ArgOk.same rfl) (.cons (ArgOk.same rfl) (.cons ArgOk.nil .nil)))) .nil) SubS.nil rfl rfl rfl rfl rfl (.inl rfl) hcallOk15 (r' := .tup [.u _, .u _]) rfl rfl Taken.no) rfl rfl (S' := _) rfl ?_
 refine SL.as (i' := .tup [vL 1 (([0, 0, 2] : List Nat).map eN), vI 0]) 15 rfl (by rw [ex_s1]) ?_
 refine SL.mv rfl rfl ?_
 refine SL.val (O.extract rfl rfl rfl Taken.no) ?_
 refine SL.val (O.extract rfl rfl rfl Taken.no) ?_
 refine SL.an rfl rfl (SL.an rfl rfl (E.fo (W.rg ?_)))
 refine SL.val (O.ldN (m := 3) (PtI.ref rfl rfl) (js := [_, _, _]) rfl (Nat.le_of_ble_eq_true rfl) Try.underlying32 rfl (by kernel_rfl) rfl Taken.no) ?_
 refine SL.mv rfl rfl ?_
 refine SL.memS (O.call (rn []) [] rfl rfl rfl (valueC_ok (l := [0, 0, 2]) ex_ok) (.cons (ArgOk.aggU (.cons (ArgOk.same rfl) (.cons (ArgOk.same rfl) (.cons ArgOk.nil .nil)))) (.cons (ArgOk.same rfl) .nil)) SubS.nil rfl rfl rfl rfl rfl (.inl rfl) hcallOk21 (r' := .tup [.u _, .u _]) rfl rfl Taken.no) rfl rfl (S' := _) rfl ?_
 refine SL.as (i' := .tup [vI 5, vI 0]) 21 rfl (by rw [ex_v.1, ex_v.2]) ?_
 refine SL.mv rfl rfl ?_
 refine SL.val (O.extract rfl rfl rfl Taken.no) ?_
 refine SL.val (O.extract rfl rfl rfl Taken.no) ?_
 refine SL.an rfl rfl (SL.an rfl rfl (E.fo ?_))
 refine W.pick (K:=[(0,_),(1,_),(2,_),(3,_),(4,_),(5,_)]) (Z:=[(102,_)]) ⟨rfl,rfl,rfl,rfl,rfl,rfl,trivial⟩ ⟨rfl,trivial⟩ ?_
 refine W.rg ?_
 refine SL.val (O.build (res := [_, _, _]) (z := .agg #[.int .i64 0, .int .i64 0, .int .i64 0]) (places := [(0, 1), (1, 1), (2, 1)]) rfl rfl Try.underlying38 (by kernel_rfl) (fun _ => by kernel_rfl) rfl rfl Taken.no) ?_
 refine SL.memS (O.buildSlice 103 (rows := exR.map eRu) rfl rfl Try.underlying23 hi38 hz38 hs38 (by decide) rfl (by decide) rfl rfl rfl Taken.no) rfl rfl (S' := (103, .data 38 3 (exR.map eRu)) :: _) rfl ?_
 refine SL.val (O.fld_ref (o' := 2) rfl Try.underlying32 rfl (m := 0) (by kernel_rfl) rfl rfl Taken.no) ?_
 refine SL.effS (O.st_ref (m := 1) rfl rfl rfl (js := [_]) rfl rfl (by kernel_rfl) (by simp) (Nat.le_of_ble_eq_true rfl) rfl (is' := [_, _, _]) rfl Taken.no) (S' := (102, _) :: _) rfl ?_
 refine E.fo (W.seq ?_)
 refine W.freezeC 102 2 103 (is' := [_, _, _]) rfl rfl rfl rfl ?_
 refine W.region ?_
 refine SL.val (O.ldN (m := 3) (PtI.ref rfl rfl) (js := [_, _, _]) rfl (Nat.le_of_ble_eq_true rfl) Try.underlying32 rfl (by kernel_rfl) rfl Taken.no) ?_
 refine SL.memS (O.call (rn []) [] rfl rfl rfl (solveC_ok ex_ok2) (.cons (ArgOk.aggU (.cons (ArgOk.same rfl) (.cons (ArgOk.same rfl) (.cons (ArgOk.same rfl) .nil)))) .nil) SubS.nil rfl rfl rfl rfl rfl (.inl rfl) hcallOk15 (r' := .tup [.u _, .u _]) rfl rfl Taken.no) rfl rfl (S' := _) rfl ?_
 refine SL.as (i' := .tup [vL 1 (([0, 1, 1] : List Nat).map eN), vI 0]) 29 rfl (by rw [ex_s2]) ?_
 refine SL.mv rfl rfl ?_
 refine SL.val (O.extract rfl rfl rfl Taken.no) ?_
 refine SL.val (O.extract rfl rfl rfl Taken.no) ?_
 refine SL.an rfl rfl (SL.an rfl rfl (E.fo (W.rg (SL.mv rfl rfl ?_))))
 refine SL.val (O.det (fun _ => G.R.mv (G.R.eql rfl rfl) (congrArg Value.bool (decide_eq_true (by rfl)))) rfl Taken.no) ?_
 refine SL.mv rfl rfl ?_
 have hg1 : true = true := by decide
 refine SL.val (O.move rfl rfl (Taken.yes rfl rfl hg1)) ?_
 refine SL.val (O.det (fun _ => G.R.mv (G.R.eql rfl rfl) (congrArg Value.bool (decide_eq_true (by rfl)))) rfl (Taken.yes rfl rfl hg1)) ?_
 refine SL.val (O.pick_t rfl rfl rfl rfl Taken.no) ?_
 refine SL.mv rfl rfl ?_
 have hg2 : true = true := by decide
 refine SL.val (O.move rfl rfl (Taken.yes rfl rfl hg2)) ?_
 refine SL.val (O.det (fun _ => G.R.mv (G.R.eql rfl rfl) (congrArg Value.bool (decide_eq_true (by rfl)))) rfl (Taken.yes rfl rfl hg2)) ?_
 refine SL.val (O.pick_t rfl rfl rfl rfl Taken.no) ?_
 refine SL.mv rfl rfl ?_
 have hg3 : true = true := by decide
 refine SL.val (O.move rfl rfl (Taken.yes rfl rfl hg3)) ?_
 refine SL.val (O.det (fun _ => G.R.mv (G.R.eql rfl rfl) (congrArg Value.bool (decide_eq_true (by rfl)))) rfl (Taken.yes rfl rfl hg3)) ?_
 refine SL.val (O.pick_t rfl rfl rfl rfl Taken.no) ?_
 refine SL.mv rfl rfl ?_
 have hg4 : true = true := by decide
 refine SL.val (O.move rfl rfl (Taken.yes rfl rfl hg4)) ?_
 refine SL.memS (O.buildSlice 104 (rows := ([0, 0, 2] : List Nat).map eN) rfl rfl Try.underlying39 hi3 hz3 hs3 (by decide) rfl (by decide) rfl rfl rfl (Taken.yes rfl rfl hg4)) rfl rfl (S' := (104, .data 3 1 (([0, 0, 2] : List Nat).map eN)) :: _) rfl ?_
 refine SL.memS (O.call (rn []) [104] rfl rfl rfl (same_h (a := [0, 0, 2]) (b := [0, 0, 2])) (.cons (ArgOk.same rfl) (.cons (ArgOk.own rfl rfl) .nil)) SubS.nil rfl rfl rfl rfl rfl (.inr ⟨rfl, fun x hx => by simp at hx⟩) hcallOk16 (r' := .u _) rfl rfl (Taken.yes rfl rfl hg4)) rfl rfl (S' := _) rfl ?_
 refine SL.as (i' := vB true) 49 rfl (by exact iv_bool (dec_t rfl)) ?_
 refine SL.val (O.pick_t rfl rfl rfl rfl Taken.no) ?_
 refine SL.mv rfl rfl ?_
 have hg5 : true = true := by decide
 refine SL.val (O.move rfl rfl (Taken.yes rfl rfl hg5)) ?_
 refine SL.memS (O.buildSlice 105 (rows := ([0, 1, 1] : List Nat).map eN) rfl rfl Try.underlying39 hi3 hz3 hs3 (by decide) rfl (by decide) rfl rfl rfl (Taken.yes rfl rfl hg5)) rfl rfl (S' := (105, .data 3 1 (([0, 1, 1] : List Nat).map eN)) :: _) rfl ?_
 refine SL.memS (O.call (rn []) [105] rfl rfl rfl (same_h (a := [0, 1, 1]) (b := [0, 1, 1])) (.cons (ArgOk.same rfl) (.cons (ArgOk.own rfl rfl) .nil)) SubS.nil rfl rfl rfl rfl rfl (.inr ⟨rfl, fun x hx => by simp at hx⟩) hcallOk16 (r' := .u _) rfl rfl (Taken.yes rfl rfl hg5)) rfl rfl (S' := _) rfl ?_
 refine SL.as (i' := vB true) 54 rfl (by exact iv_bool (dec_t rfl)) ?_
 refine SL.val (O.pick_t rfl rfl rfl rfl Taken.no) ?_
 refine SL.mv rfl rfl ?_
 have hg6 : true = true := by decide
 refine SL.val (O.ldN (m := 3) (PtI.ref rfl rfl) (js := [_, _, _]) rfl (Nat.le_of_ble_eq_true rfl) Try.underlying32 rfl (by kernel_rfl) rfl (Taken.yes rfl rfl hg6)) ?_
 refine SL.val (O.move rfl rfl (Taken.yes rfl rfl hg6)) ?_
 refine SL.val (O.callp rfl rfl rfl (permC_ok (l := [0, 1, 1]) ex_ok2) (.cons (ArgOk.aggU (.cons (ArgOk.same rfl) (.cons (ArgOk.same rfl) (.cons (ArgOk.same rfl) .nil)))) (.cons (ArgOk.same rfl) .nil)) hcallOk24 rfl (Taken.yes rfl rfl hg6)) ?_
 refine SL.as (i' := vB true) 59 rfl (by exact iv_bool (dec_t ex_p)) ?_
 refine SL.val (O.pick_t rfl rfl rfl rfl Taken.no) ?_
 refine SL.an rfl rfl (E.fo ?_)
 refine W.pick (K:=[(0,_)]) (Z:=[(102,_),(104,_),(105,_)]) ⟨rfl,trivial⟩ ⟨rfl,rfl,rfl,trivial⟩ ?_
 refine W.ret ?_
 refine E.fin (rs := [_]) (rn []) (.inl rfl) rfl (.cons (ResOne.tmp rfl) .nil) ?_ ?_ rfl (fixL_spec rfl)
 ·skip
  rfl
 · exact SubS.nil

end Go.Proofs.Ytppamigboeaefaa
end
section
namespace Go.Proofs.Ytppamigboeaefaa
open Go Go.RowKit Go.H Go.D33

theorem hcallOk11 : G.callOk Try.prog 11 = true := by kernel_rfl
theorem hcallOk12 : G.callOk Try.prog 12 = true := by kernel_rfl
theorem hcallOk14 : G.callOk Try.prog 14 = true := by kernel_rfl
theorem hcallOk18 : G.callOk Try.prog 18 = true := by kernel_rfl
theorem hcallOk26 : G.callOk Try.prog 26 = true := by kernel_rfl










end Go.Proofs.Ytppamigboeaefaa
end
section
namespace Go.Proofs.Ytppamigboeaefaa
open Go Go.RowKit Go.H Go.D33

theorem hinf57 : ∃ i, Try.prog.info? 57 = some i ∧ i.zero = some (.agg #[.bool false, .int .i64 0, .int .i64 0]) ∧ i.size = 3 ∧ i.bytes = 24 := G.info_of (by kernel_rfl)





set_option maxRecDepth 8000 in
set_option maxHeartbeats 3200000 in
/-- bookplate/bookplatelaw33.ClusterResults. -/
theorem clusterResults_ok {n : Nat} {ps : List Pr} {rs : List Ru} {l : List Stp} (hok : (Prob.mk (n : Int) ps rs).ok) :
    Con Try.prog 7 [vA [uI (n : Int), .sl 3 (ps.map ePr), .sl 3 (rs.map eRu)], vL 3 (l.map eStp)] [] (vB true) [] := by
 have hf := hok.1
 have hn2 : (n : Int) ≤ 200 := hf.2.1
 have hr4 : rs.length ≤ 400 := hf.2.2.1
 obtain ⟨i57, hi57, hz57, hs57, hb57⟩ := hinf57
 refine Con.enterL (n := 97) Try.func7 rfl rfl rfl (fun τ w ok vs hin => ?_)
 have hl0_1 := hin.lenA (i := 0) (j := 1) rfl rfl
 try rw [List.length_map] at hl0_1
 have hl0_2 := hin.lenA (i := 0) (j := 2) rfl rfl
 try rw [List.length_map] at hl0_2
 have hl1 := hin.len (i := 1) rfl
 try rw [List.length_map] at hl1
 clear hin
 refine W.rg ?_
 refine SL.memS (O.box (is := [_, _, _]) 101 rfl rfl (by simp) rfl rfl Taken.no) rfl rfl (S' := (101, _) :: _) rfl ?_
 refine SL.an rfl rfl (E.fo (W.seq (W.rg ?_)))
 refine SL.val (O.callp rfl rfl rfl (awake_h) .nil hcallOk11 rfl Taken.no) ?_
 refine SL.as (i' := vB true) 17 rfl (by rfl) ?_
 refine SL.val (O.det (fun _ => G.R.mv (G.R.not rfl) rfl) rfl Taken.no) ?_
 refine SL.mv rfl rfl ?_
 have hg1 : false = false := by decide
 refine SL.val (O.ldN (m := 3) (PtI.ref rfl rfl) (js := [_, _, _]) rfl (Nat.le_of_ble_eq_true rfl) Try.underlying25 rfl (by kernel_rfl) rfl (Taken.yes rfl rfl hg1)) ?_
 refine SL.val (O.callp rfl rfl rfl (few_h) (.cons (ArgOk.aggU (.cons (ArgOk.same rfl) (.cons (ArgOk.same rfl) (.cons (ArgOk.same rfl) .nil)))) .nil) hcallOk12 rfl (Taken.yes rfl rfl hg1)) ?_
 refine SL.val (O.det (fun _ => G.R.not rfl) rfl (Taken.yes rfl rfl hg1)) ?_
 refine SL.val (O.pick_f rfl rfl rfl rfl Taken.no) ?_
 refine SL.mv rfl rfl ?_
 refine SL.case (j := 7) (g := 24) (want := false) rfl rfl (fun hg2 => ?_) (fun hg2 => ?_)
 ·skip
  first | have hg2p := G.gA3 hg2 | have hg2p := G.gA4 hg2 | have hg2p := hg2
  have hfew : ((n : Int) ≤ 9 ∨ 200 < (n : Int)) ∧ ps.length ≤ 40 ∧ (rs.length ≤ 12 ∨ rs.length = 401) := by simp_all
  refine SL.val (O.move rfl rfl (Taken.yes rfl rfl hg2)) ?_
  refine SL.val (O.lenE (SlOf.fz rfl (by decide)) (by first | exact List.length_map _ | rfl) Try.underlying56 rfl (Taken.yes rfl rfl hg2)) ?_
  refine SL.val (O.det (fun _ => G.R.gtr rfl rfl) rfl (Taken.yes rfl rfl hg2)) ?_
  refine SL.val (O.pick_f rfl hg2 rfl rfl Taken.no) ?_
  refine SL.mv rfl rfl ?_
  refine SL.case (j := 12) (g := 29) (want := false) rfl rfl (fun hg3 => ?_) (fun hg3 => ?_)
  ·skip
   first | have hg3p := G.gA3 hg3 | have hg3p := G.gA4 hg3 | have hg3p := hg3
   refine SL.val (O.ldN (m := 3) (PtI.ref rfl rfl) (js := [_, _, _]) rfl (Nat.le_of_ble_eq_true rfl) Try.underlying25 rfl (by kernel_rfl) rfl (Taken.yes rfl rfl hg3)) ?_
   refine SL.val (O.callp rfl rfl rfl (refvalid_h (N := (n : Int)) (ps := ps) (rs := rs)) (.cons (ArgOk.aggU (.cons (ArgOk.same rfl) (.cons (ArgOk.same rfl) (.cons (ArgOk.same rfl) .nil)))) .nil) hcallOk13 rfl (Taken.yes rfl rfl hg3)) ?_
   refine SL.as (i' := vI 0) 31 rfl (by rw [Prob.err_0 hok]) ?_
   refine SL.val (O.det (fun _ => G.R.mv (G.R.neq rfl rfl) (congrArg Value.bool (decide_eq_false (by decide)))) rfl (Taken.yes rfl rfl hg3)) ?_
   refine SL.val (O.pick_f rfl hg3 rfl rfl Taken.no) ?_
   refine E.fo ?_
   refine W.cond_f rfl ?_
   refine W.skip (E.to (W.rg ?_))
   refine SL.val (O.ldN (m := 3) (PtI.ref rfl rfl) (js := [_, _, _]) rfl (Nat.le_of_ble_eq_true rfl) Try.underlying25 rfl (by kernel_rfl) rfl Taken.no) ?_
   refine SL.memS (O.call (rn []) [] rfl rfl rfl (own_h (by omega) (by omega)) (.cons (ArgOk.aggU (.cons (ArgOk.same rfl) (.cons (ArgOk.same rfl) (.cons (ArgOk.same rfl) .nil)))) .nil) SubS.nil rfl rfl rfl rfl rfl (.inl rfl) hcallOk14 (r' := .agg [.u _, .u _, .u _]) rfl rfl Taken.no) rfl rfl (S' := _) rfl ?_
   refine SL.memS (O.alloc (z := .agg #[.int .i64 0, .slice none 0 0, .slice none 0 0]) (is := [.u (.sc (.int .i64 0)), .u (.sc (.slice none 0 0)), .u (.sc (.slice none 0 0))]) 102 (by kernel_rfl) rfl rfl rfl Taken.no) rfl rfl (S' := (102, _) :: _) rfl ?_
   refine SL.effS (O.st_ref (m := 3) rfl rfl rfl (js := [_, _, _]) rfl rfl (by kernel_rfl) (by simp) (Nat.le_of_ble_eq_true rfl) rfl (is' := [_, _, _]) rfl Taken.no) (S' := (102, _) :: _) rfl ?_
   refine E.fo ?_
   refine W.pick (K:=[(1,_),(2,_),(4,_),(5,_)]) (Z:=[(101,_),(102,_)]) ⟨rfl,rfl,rfl,rfl,trivial⟩ ⟨rfl,rfl,trivial⟩ ?_
   refine W.rg ?_
   refine SL.val (O.ldN (m := 3) (PtI.ref rfl rfl) (js := [_, _, _]) rfl (Nat.le_of_ble_eq_true rfl) Try.underlying32 rfl (by kernel_rfl) rfl Taken.no) ?_
   refine SL.memS (O.call (rn []) [] rfl rfl rfl (atoms_ok hok) (.cons (ArgOk.aggU (.cons (ArgOk.same rfl) (.cons (ArgOk.same rfl) (.cons (ArgOk.same rfl) .nil)))) .nil) SubS.nil rfl rfl rfl rfl rfl (.inl rfl) hcallOk18 (r' := .tup [.u _, .u _]) rfl rfl Taken.no) rfl rfl (S' := _) rfl ?_
   refine SL.as (i' := .tup [vL 1 (((atomsL n rs).map (fun x : Nat => (x : Int))).map eI), vI 0]) 39 rfl (by rw [eI_eN, atoms_eq hf]) ?_
   refine SL.mv rfl rfl ?_
   refine SL.val (O.extract rfl rfl rfl Taken.no) ?_
   refine SL.val (O.extract rfl rfl rfl Taken.no) ?_
   refine SL.an rfl rfl (SL.an rfl rfl (E.fo (W.seq (W.rg (SL.mv rfl rfl ?_)))))
   refine SL.val (O.det (fun _ => G.R.mv (G.R.neq rfl rfl) (congrArg Value.bool (decide_eq_false (by decide)))) rfl Taken.no) ?_
   refine E.fo ?_
   refine W.cond_f rfl ?_
   refine W.skip (E.to (W.seq (W.rg (SL.mv rfl rfl ?_))))
   refine SL.val (O.lenE (SlOf.fz rfl (by decide)) (by first | exact List.length_map _ | rfl) Try.underlying56 rfl Taken.no) ?_
   refine SL.mv rfl rfl (E.fo (W.block ?_))
   refine W.loopx2 (fun (k : Nat) (m : List Nat) => [(46, vI (k : Int)), (6, vL 1 ((m.map (fun x : Nat => (x : Int))).map eI))]) (fun (k : Nat) (m : List Nat) => []) (fun (k : Nat) (m : List Nat) => k ≤ l.length ∧ isP n m ∧ permR n ps rs m) (fun (k : Nat) (m : List Nat) => l.length - k) (0) ((atomsL n rs)) (rn []) (.cons (t := 2) rfl (.cons (t := 5) rfl (.cons (t := 44) rfl (.cons (t := 45) rfl .nil)))) (.cons (t := 101) rfl (.cons (t := 102) rfl .nil)) rfl ?_ ?_ rfl rfl ?_ ?_
   · exact (SubF.cons rfl (SubF.cons rfl SubF.nil))
   · exact SubS.nil
   ·skip
    exact ⟨by omega, (atoms_perm hok).1, (atoms_perm hok).2⟩
   intro k m hinv
   obtain ⟨hk, hQ, hpr⟩ := hinv
   have hps := permS_cast.2 ⟨hQ, hpr⟩
   refine W.rg ?_
   refine SL.val (O.det (fun _ => G.R.lss rfl rfl) rfl Taken.no) ?_
   refine E.fo (W.seq ?_)
   first | refine W.cond_d rfl (fun hc4 => ?_) (fun hc4 => ?_) | refine W.cond_nd rfl (fun hc4 => ?_) (fun hc4 => ?_) | refine W.cond rfl (fun hc4 => ?_) (fun hc4 => ?_)
   ·skip
    refine W.skip (E.to (W.seq (W.block (W.rg ?_))))
    refine SL.val (O.idx_fz (i := k) rfl rfl (rfl) (row_get (by omega)) Try.underlying56 hi57 hs57 rfl Taken.no) ?_
    refine SL.val (O.ldU (m := 3) (PtU.fz rfl) rfl Try.underlying57 rfl (by kernel_rfl) rfl Taken.no) ?_
    refine SL.memS (O.alloc (z := .agg #[.bool false, .int .i64 0, .int .i64 0]) (is := [.u (.sc (.bool false)), .u (.sc (.int .i64 0)), .u (.sc (.int .i64 0))]) 103 (by kernel_rfl) rfl rfl rfl Taken.no) rfl rfl (S' := (103, _) :: _) rfl ?_
    refine SL.effS (O.st_ref (m := 3) rfl rfl rfl (js := [_, _, _]) rfl rfl (by kernel_rfl) (by simp) (Nat.le_of_ble_eq_true rfl) rfl (is' := [_, _, _]) rfl Taken.no) (S' := (103, _) :: _) rfl ?_
    refine E.fo (W.rg ?_)
    refine SL.val (O.ldN (m := 3) (PtI.ref rfl rfl) (js := [_, _, _]) rfl (Nat.le_of_ble_eq_true rfl) Try.underlying32 rfl (by kernel_rfl) rfl Taken.no) ?_
    refine SL.mv rfl rfl ?_
    refine SL.val (O.ldN (m := 3) (PtI.ref rfl rfl) (js := [_, _, _]) rfl (Nat.le_of_ble_eq_true rfl) Try.underlying57 rfl (by kernel_rfl) rfl Taken.no) ?_
    refine SL.memS (O.call (rn []) [] rfl rfl rfl (applyC_ok (l := (m.map (fun x : Nat => (x : Int)))) (u := l[k]!.u) (f := l[k]!.f) (t := l[k]!.t) hok) (.cons (ArgOk.aggU (.cons (ArgOk.same rfl) (.cons (ArgOk.same rfl) (.cons (ArgOk.same rfl) .nil)))) (.cons (ArgOk.same rfl) (.cons (ArgOk.aggU (.cons (ArgOk.same rfl) (.cons (ArgOk.same rfl) (.cons (ArgOk.same rfl) .nil)))) .nil))) SubS.nil rfl rfl rfl rfl rfl (.inl rfl) hcallOk26 (r' := .tup [.u _, .u _, .u _]) rfl rfl Taken.no) rfl rfl (S' := _) rfl ?_
    refine SL.as (i' := .tup [vL 1 ((apL n ps rs (m.map (fun x : Nat => (x : Int))) l[k]!).map eN), vI (apV n ps rs (m.map (fun x : Nat => (x : Int))) l[k]!), vI (apE n ps rs (m.map (fun x : Nat => (x : Int))) l[k]!)]) 54 rfl (by rfl) ?_
    refine SL.mv rfl rfl ?_
    refine SL.val (O.extract rfl rfl rfl Taken.no) ?_
    refine SL.val (O.extract rfl rfl rfl Taken.no) ?_
    refine SL.val (O.extract rfl rfl rfl Taken.no) ?_
    refine SL.an rfl rfl (SL.an rfl rfl (SL.an rfl rfl (E.fo (W.seq (W.rg (SL.mv rfl rfl ?_))))))
    refine SL.val (O.det (fun _ => G.R.eql rfl rfl) rfl Taken.no) ?_
    refine E.fo ?_
    first | refine W.cond_d rfl (fun hc5 => ?_) (fun hc5 => ?_) | refine W.cond_nd rfl (fun hc5 => ?_) (fun hc5 => ?_) | refine W.cond rfl (fun hc5 => ?_) (fun hc5 => ?_)
    ·skip
     refine W.exit (E.th (E.hit (E.to (W.region ?_))))
     refine SL.val (O.det (fun _ => by first | exact G.R.add64 rfl rfl (by omega) | exact G.R.add rfl rfl) rfl Taken.no) ?_
     refine SL.mv rfl rfl (SL.nil ?_)
     refine E.again ((k + 1), (m)) (rn []) ?_ ?_ rfl (fixL_spec rfl) ?_ ?_
     · exact (SubF.cons rfl (SubF.cons rfl (SubF.cons rfl (SubF.cons rfl (SubF.cons rfl (SubF.cons rfl SubF.nil))))))
     · exact (SubS.cons rfl (SubS.cons rfl SubS.nil))
     ·try dsimp only
      exact ⟨by omega, hQ, hpr⟩
     · (try dsimp only); omega
    ·skip
     have hpos : posR n (barL rs) (atomsL n rs) m l[k]! := Decidable.byContradiction fun q => by have h2 := (ap_no hps q).2.2; simp_all
     have hay := ap_yes hps hpos
     have hrp := res_perm hf hQ hpr hpos
     have hv1 := valR_le hf m
     have hv2 := valR_le hf (resR n ps rs m l[k]!)
     rw [hay.1, hay.2.1, hay.2.2, ← eI_eN (resR n ps rs m l[k]!)]
     refine W.skip (E.to (W.rg ?_))
     refine SL.val (O.ldN (m := 3) (PtI.ref rfl rfl) (js := [_, _, _]) rfl (Nat.le_of_ble_eq_true rfl) Try.underlying32 rfl (by kernel_rfl) rfl Taken.no) ?_
     refine SL.mv rfl rfl ?_
     refine SL.memS (O.call (rn []) [] rfl rfl rfl (valueC_ok (l := (m.map (fun x : Nat => (x : Int)))) hok) (.cons (ArgOk.aggU (.cons (ArgOk.same rfl) (.cons (ArgOk.same rfl) (.cons (ArgOk.same rfl) .nil)))) (.cons (ArgOk.same rfl) .nil)) SubS.nil rfl rfl rfl rfl rfl (.inl rfl) hcallOk21 (r' := .tup [.u _, .u _]) rfl rfl Taken.no) rfl rfl (S' := _) rfl ?_
     refine SL.as (i' := .tup [vI (valR m ps), vI 0]) 63 rfl (by rw [valI_eq hf, (valSI_y hQ).1, (valSI_y (ps := ps) hQ).2]) ?_
     refine SL.mv rfl rfl ?_
     refine SL.val (O.extract rfl rfl rfl Taken.no) ?_
     refine SL.val (O.extract rfl rfl rfl Taken.no) ?_
     refine SL.an rfl rfl (SL.an rfl rfl (E.fo ?_))
     refine W.pick (K:=[(2,_),(5,_),(6,_),(10,_),(11,_),(12,_),(13,_),(14,_),(44,_),(45,_),(46,_)]) (Z:=[(101,_),(102,_),(103,_)]) ⟨rfl,rfl,rfl,rfl,rfl,rfl,rfl,rfl,rfl,rfl,rfl,trivial⟩ ⟨rfl,rfl,rfl,trivial⟩ ?_
     refine W.rg ?_
     refine SL.val (O.ldN (m := 3) (PtI.ref rfl rfl) (js := [_, _, _]) rfl (Nat.le_of_ble_eq_true rfl) Try.underlying32 rfl (by kernel_rfl) rfl Taken.no) ?_
     refine SL.mv rfl rfl ?_
     refine SL.memS (O.call (rn []) [] rfl rfl rfl (valueC_ok (l := ((resR n ps rs m l[k]!).map (fun x : Nat => (x : Int)))) hok) (.cons (ArgOk.aggU (.cons (ArgOk.same rfl) (.cons (ArgOk.same rfl) (.cons (ArgOk.same rfl) .nil)))) (.cons (ArgOk.same rfl) .nil)) SubS.nil rfl rfl rfl rfl rfl (.inl rfl) hcallOk21 (r' := .tup [.u _, .u _]) rfl rfl Taken.no) rfl rfl (S' := _) rfl ?_
     refine SL.as (i' := .tup [vI (valR (resR n ps rs m l[k]!) ps), vI 0]) 69 rfl (by rw [valI_eq hf, (valSI_y hrp.1).1, (valSI_y (ps := ps) hrp.1).2]) ?_
     refine SL.mv rfl rfl ?_
     refine SL.val (O.extract rfl rfl rfl Taken.no) ?_
     refine SL.val (O.extract rfl rfl rfl Taken.no) ?_
     refine SL.an rfl rfl (SL.an rfl rfl (E.fo (W.seq (W.rg (SL.mv rfl rfl ?_)))))
     refine SL.val (O.det (fun _ => G.R.mv (G.R.neq rfl rfl) (congrArg Value.bool (decide_eq_false (by decide)))) rfl Taken.no) ?_
     refine SL.mv rfl rfl ?_
     have hg6 : false = false := by decide
     refine SL.val (O.move rfl rfl (Taken.yes rfl rfl hg6)) ?_
     refine SL.val (O.det (fun _ => G.R.mv (G.R.neq rfl rfl) (congrArg Value.bool (decide_eq_false (by decide)))) rfl (Taken.yes rfl rfl hg6)) ?_
     refine SL.val (O.pick_f rfl rfl rfl rfl Taken.no) ?_
     refine SL.mv rfl rfl ?_
     have hg7 : false = false := by decide
     refine SL.val (O.move rfl rfl (Taken.yes rfl rfl hg7)) ?_
     refine SL.val (O.det (fun _ => G.R.mv (G.R.neq rfl rfl) (congrArg Value.bool (decide_eq_false (by decide)))) rfl (Taken.yes rfl rfl hg7)) ?_
     refine SL.val (O.pick_f rfl rfl rfl rfl Taken.no) ?_
     refine SL.mv rfl rfl ?_
     have hg8 : false = false := by decide
     refine SL.val (O.move rfl rfl (Taken.yes rfl rfl hg8)) ?_
     refine SL.val (O.move rfl rfl (Taken.yes rfl rfl hg8)) ?_
     refine SL.val (O.det (fun _ => by first | exact G.R.sub64 rfl rfl (by omega) | exact G.R.sub rfl rfl) rfl (Taken.yes rfl rfl hg8)) ?_
     refine SL.val (O.move rfl rfl (Taken.yes rfl rfl hg8)) ?_
     refine SL.val (O.det (fun _ => G.R.mv (G.R.neq rfl rfl) (congrArg Value.bool (decide_eq_false (by (show ¬ (_ ≠ gnR n ps rs m l[k]!); unfold gnR; omega))))) rfl (Taken.yes rfl rfl hg8)) ?_
     refine SL.val (O.pick_f rfl rfl rfl rfl Taken.no) ?_
     refine SL.mv rfl rfl ?_
     have hg9 : false = false := by decide
     refine SL.val (O.ldN (m := 3) (PtI.ref rfl rfl) (js := [_, _, _]) rfl (Nat.le_of_ble_eq_true rfl) Try.underlying25 rfl (by kernel_rfl) rfl (Taken.yes rfl rfl hg9)) ?_
     refine SL.val (O.move rfl rfl (Taken.yes rfl rfl hg9)) ?_
     refine SL.val (O.callp rfl rfl rfl (refPerm_ok (l := ((resR n ps rs m l[k]!).map (fun x : Nat => (x : Int)))) hok) (.cons (ArgOk.aggU (.cons (ArgOk.same rfl) (.cons (ArgOk.same rfl) (.cons (ArgOk.same rfl) .nil)))) (.cons (ArgOk.same rfl) .nil)) hcallOk25 rfl (Taken.yes rfl rfl hg9)) ?_
     refine SL.as (i' := vB true) 92 rfl (by exact iv_bool (dec_t (permS_cast.2 ⟨hrp.1, hrp.2⟩))) ?_
     refine SL.val (O.det (fun _ => G.R.mv (G.R.not rfl) rfl) rfl (Taken.yes rfl rfl hg9)) ?_
     refine SL.val (O.pick_f rfl rfl rfl rfl Taken.no) ?_
     refine E.fo ?_
     refine W.pick (K:=[(2,_),(5,_),(6,_),(10,_),(44,_),(45,_),(46,_),(94,_)]) (Z:=[(101,_),(102,_),(103,_)]) ⟨rfl,rfl,rfl,rfl,rfl,rfl,rfl,rfl,trivial⟩ ⟨rfl,rfl,rfl,trivial⟩ ?_
     refine W.cond_f rfl ?_
     refine W.skip (E.to (W.region (SL.mv rfl rfl (SL.an rfl rfl (SL.nil (E.inn (E.to (W.region ?_))))))))
     refine SL.val (O.det (fun _ => by first | exact G.R.add64 rfl rfl (by omega) | exact G.R.add rfl rfl) rfl Taken.no) ?_
     refine SL.mv rfl rfl (SL.nil ?_)
     refine E.again ((k + 1), ((resR n ps rs m l[k]!))) (rn []) ?_ ?_ rfl (fixL_spec rfl) ?_ ?_
     · exact (SubF.cons rfl (SubF.cons rfl (SubF.cons rfl (SubF.cons rfl (SubF.cons rfl (SubF.cons rfl SubF.nil))))))
     · exact (SubS.cons rfl (SubS.cons rfl SubS.nil))
     ·try dsimp only
      exact ⟨by omega, hrp.1, hrp.2⟩
     · (try dsimp only); omega
   ·skip
    refine W.exit (E.th (E.th (E.hit (E.to (W.rg (SL.an rfl rfl (E.fo (W.ret ?_))))))))
    refine E.fin (rs := [_]) (rn []) (.inl rfl) rfl (.cons (ResOne.tmp rfl) .nil) ?_ ?_ rfl (fixL_spec rfl)
    ·skip
     first | rfl | simp_all
    · exact SubS.nil
  ·skip
   first | have hg3p := G.gA7 hg3 | have hg3p := G.gA8 hg3 | have hg3p := hg3
   refine SL.sk rfl rfl rfl hg3 (SL.sk rfl rfl rfl hg3 (SL.sk rfl rfl rfl hg3 ?_))
   refine SL.val (O.pick_t rfl (G.ne_f hg3) rfl rfl Taken.no) ?_
   refine E.fo ?_
   refine W.cond_t rfl ?_
   refine W.rg ?_
   refine SL.val (O.callp rfl rfl rfl (awake_h) .nil hcallOk11 rfl Taken.no) ?_
   refine SL.an rfl rfl (E.fo (W.ret (E.thr ?_)))
   refine E.fin (rs := [_]) (rn []) (.inl rfl) rfl (.cons (ResOne.tmp rfl) .nil) ?_ ?_ rfl (fixL_spec rfl)
   ·skip
    first | rfl | simp_all
   · exact SubS.nil
 ·skip
  first | have hg2p := G.gA7 hg2 | have hg2p := G.gA8 hg2 | have hg2p := hg2
  refine SL.sk rfl rfl rfl hg2 (SL.sk rfl rfl rfl hg2 (SL.sk rfl rfl rfl hg2 ?_))
  refine SL.val (O.pick_t rfl (G.ne_f hg2) rfl rfl Taken.no) ?_
  refine SL.mv rfl rfl ?_
  have hg10 : true ≠ false := by decide
  refine SL.sk rfl rfl rfl hg10 (SL.sk rfl rfl rfl hg10 (SL.sk rfl rfl rfl hg10 ?_))
  refine SL.val (O.pick_t rfl rfl rfl rfl Taken.no) ?_
  refine E.fo ?_
  refine W.cond_t rfl ?_
  refine W.rg ?_
  refine SL.val (O.callp rfl rfl rfl (awake_h) .nil hcallOk11 rfl Taken.no) ?_
  refine SL.an rfl rfl (E.fo (W.ret (E.thr ?_)))
  refine E.fin (rs := [_]) (rn []) (.inl rfl) rfl (.cons (ResOne.tmp rfl) .nil) ?_ ?_ rfl (fixL_spec rfl)
  ·skip
   first | rfl | simp_all
  · exact SubS.nil

set_option maxRecDepth 8000 in
set_option maxHeartbeats 3200000 in
/-- bookplate/bookplatelaw33.ClusterResults. -/
theorem clusterResults_bad {N : Int} {ps : List Pr} {rs : List Ru} {l : List Stp} (hok : ¬ (Prob.mk N ps rs).ok) :
    Con Try.prog 7 [vA [uI N, .sl 3 (ps.map ePr), .sl 3 (rs.map eRu)], vL 3 (l.map eStp)] [] (vB true) [] := by
 have he : (Prob.mk N ps rs).err ≠ 0 := fun q => hok (Prob.err_iff.1 q)
 refine Con.enterL (n := 97) Try.func7 rfl rfl rfl (fun τ w ok vs hin => ?_)
 have hl0_1 := hin.lenA (i := 0) (j := 1) rfl rfl
 try rw [List.length_map] at hl0_1
 have hl0_2 := hin.lenA (i := 0) (j := 2) rfl rfl
 try rw [List.length_map] at hl0_2
 have hl1 := hin.len (i := 1) rfl
 try rw [List.length_map] at hl1
 clear hin
 refine W.rg ?_
 refine SL.memS (O.box (is := [_, _, _]) 101 rfl rfl (by simp) rfl rfl Taken.no) rfl rfl (S' := (101, _) :: _) rfl ?_
 refine SL.an rfl rfl (E.fo (W.seq (W.rg ?_)))
 refine SL.val (O.callp rfl rfl rfl (awake_h) .nil hcallOk11 rfl Taken.no) ?_
 refine SL.as (i' := vB true) 17 rfl (by rfl) ?_
 refine SL.val (O.det (fun _ => G.R.mv (G.R.not rfl) rfl) rfl Taken.no) ?_
 refine SL.mv rfl rfl ?_
 have hg1 : false = false := by decide
 refine SL.val (O.ldN (m := 3) (PtI.ref rfl rfl) (js := [_, _, _]) rfl (Nat.le_of_ble_eq_true rfl) Try.underlying25 rfl (by kernel_rfl) rfl (Taken.yes rfl rfl hg1)) ?_
 refine SL.val (O.callp rfl rfl rfl (few_h) (.cons (ArgOk.aggU (.cons (ArgOk.same rfl) (.cons (ArgOk.same rfl) (.cons (ArgOk.same rfl) .nil)))) .nil) hcallOk12 rfl (Taken.yes rfl rfl hg1)) ?_
 refine SL.val (O.det (fun _ => G.R.not rfl) rfl (Taken.yes rfl rfl hg1)) ?_
 refine SL.val (O.pick_f rfl rfl rfl rfl Taken.no) ?_
 refine SL.mv rfl rfl ?_
 refine SL.case (j := 7) (g := 24) (want := false) rfl rfl (fun hg2 => ?_) (fun hg2 => ?_)
 ·skip
  first | have hg2p := G.gA3 hg2 | have hg2p := G.gA4 hg2 | have hg2p := hg2
  have hfew : (N ≤ 9 ∨ 200 < N) ∧ ps.length ≤ 40 ∧ (rs.length ≤ 12 ∨ rs.length = 401) := by simp_all
  refine SL.val (O.move rfl rfl (Taken.yes rfl rfl hg2)) ?_
  refine SL.val (O.lenE (SlOf.fz rfl (by decide)) (by first | exact List.length_map _ | rfl) Try.underlying56 rfl (Taken.yes rfl rfl hg2)) ?_
  refine SL.val (O.det (fun _ => G.R.gtr rfl rfl) rfl (Taken.yes rfl rfl hg2)) ?_
  refine SL.val (O.pick_f rfl hg2 rfl rfl Taken.no) ?_
  refine SL.mv rfl rfl ?_
  refine SL.case (j := 12) (g := 29) (want := false) rfl rfl (fun hg3 => ?_) (fun hg3 => ?_)
  ·skip
   first | have hg3p := G.gA3 hg3 | have hg3p := G.gA4 hg3 | have hg3p := hg3
   refine SL.val (O.ldN (m := 3) (PtI.ref rfl rfl) (js := [_, _, _]) rfl (Nat.le_of_ble_eq_true rfl) Try.underlying25 rfl (by kernel_rfl) rfl (Taken.yes rfl rfl hg3)) ?_
   refine SL.val (O.callp rfl rfl rfl (refvalid_h (N := N) (ps := ps) (rs := rs)) (.cons (ArgOk.aggU (.cons (ArgOk.same rfl) (.cons (ArgOk.same rfl) (.cons (ArgOk.same rfl) .nil)))) .nil) hcallOk13 rfl (Taken.yes rfl rfl hg3)) ?_
   refine SL.val (O.det (fun _ => G.R.mv (G.R.neq rfl rfl) (congrArg Value.bool (decide_eq_true (by exact he)))) rfl (Taken.yes rfl rfl hg3)) ?_
   refine SL.val (O.pick_f rfl hg3 rfl rfl Taken.no) ?_
   refine E.fo ?_
   refine W.cond_t rfl ?_
   refine W.rg ?_
   refine SL.val (O.callp rfl rfl rfl (awake_h) .nil hcallOk11 rfl Taken.no) ?_
   refine SL.an rfl rfl (E.fo (W.ret (E.thr ?_)))
   refine E.fin (rs := [_]) (rn []) (.inl rfl) rfl (.cons (ResOne.tmp rfl) .nil) ?_ ?_ rfl (fixL_spec rfl)
   ·skip
    first | rfl | simp_all
   · exact SubS.nil
  ·skip
   first | have hg3p := G.gA7 hg3 | have hg3p := G.gA8 hg3 | have hg3p := hg3
   refine SL.sk rfl rfl rfl hg3 (SL.sk rfl rfl rfl hg3 (SL.sk rfl rfl rfl hg3 ?_))
   refine SL.val (O.pick_t rfl (G.ne_f hg3) rfl rfl Taken.no) ?_
   refine E.fo ?_
   refine W.cond_t rfl ?_
   refine W.rg ?_
   refine SL.val (O.callp rfl rfl rfl (awake_h) .nil hcallOk11 rfl Taken.no) ?_
   refine SL.an rfl rfl (E.fo (W.ret (E.thr ?_)))
   refine E.fin (rs := [_]) (rn []) (.inl rfl) rfl (.cons (ResOne.tmp rfl) .nil) ?_ ?_ rfl (fixL_spec rfl)
   ·skip
    first | rfl | simp_all
   · exact SubS.nil
 ·skip
  first | have hg2p := G.gA7 hg2 | have hg2p := G.gA8 hg2 | have hg2p := hg2
  refine SL.sk rfl rfl rfl hg2 (SL.sk rfl rfl rfl hg2 (SL.sk rfl rfl rfl hg2 ?_))
  refine SL.val (O.pick_t rfl (G.ne_f hg2) rfl rfl Taken.no) ?_
  refine SL.mv rfl rfl ?_
  have hg4 : true ≠ false := by decide
  refine SL.sk rfl rfl rfl hg4 (SL.sk rfl rfl rfl hg4 (SL.sk rfl rfl rfl hg4 ?_))
  refine SL.val (O.pick_t rfl rfl rfl rfl Taken.no) ?_
  refine E.fo ?_
  refine W.cond_t rfl ?_
  refine W.rg ?_
  refine SL.val (O.callp rfl rfl rfl (awake_h) .nil hcallOk11 rfl Taken.no) ?_
  refine SL.an rfl rfl (E.fo (W.ret (E.thr ?_)))
  refine E.fin (rs := [_]) (rn []) (.inl rfl) rfl (.cons (ResOne.tmp rfl) .nil) ?_ ?_ rfl (fixL_spec rfl)
  ·skip
   first | rfl | simp_all
  · exact SubS.nil

theorem clusterResults_h {N : Int} {ps : List Pr} {rs : List Ru} {l : List Stp} : Con Try.prog 7 [vA [uI N, .sl 3 (ps.map ePr), .sl 3 (rs.map eRu)], vL 3 (l.map eStp)] [] (vB true) [] := by
  by_cases h : (Prob.mk N ps rs).ok
  · obtain ⟨n, rfl⟩ : ∃ n : Nat, N = (n : Int) := ⟨N.toNat, Prob.nat h.1⟩
    exact clusterResults_ok h
  · exact clusterResults_bad h

end Go.Proofs.Ytppamigboeaefaa
end
