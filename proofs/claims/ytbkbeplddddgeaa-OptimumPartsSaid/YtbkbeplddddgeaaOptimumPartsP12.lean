/-
  What the proof rests on: part 12 of 12.
-/
import Derived.Test.YtbkbeplddddgeaaOptimumPartsP11
section
namespace Go.Proofs.Ytbkbeplddddgeaa
open Go Go.RowKit Go.H Go.D33

theorem hcallOk12 : G.callOk Try.prog 12 = true := by kernel_rfl
theorem hcallOk35 : G.callOk Try.prog 35 = true := by kernel_rfl
theorem hcallOk40 : G.callOk Try.prog 40 = true := by kernel_rfl

theorem eachB0 {n : Nat} {ps : List Pr} {rs : List Ru} (hok : (Prob.mk (n : Int) ps rs).ok) (s : BS) : Con Try.prog 61 [vI 0, .u (.ptr [.sl 1 ((selfs n (atomsL n rs)).map eN)]), .u (.ptr [uI (n : Int), .sl 3 (ps.map ePr), .sl 3 (rs.map eRu)]), .u (.ptr [.sl 1 ((atomsL n rs).map eN)]), .ref 0 0, .ref 2 0, .ref 3 0] [(0, .cells 80 [.own 1]), (1, .mp []), (2, .cells 67 [.clo (.func 36) [] [.ref 4 0, .ref 5 0, .ref 6 0]]), (3, .cells 96 [.clo (.func 61) [] [.u (.ptr [.sl 1 ((selfs n (atomsL n rs)).map eN)]), .u (.ptr [uI (n : Int), .sl 3 (ps.map ePr), .sl 3 (rs.map eRu)]), .u (.ptr [.sl 1 ((atomsL n rs).map eN)]), .ref 0 0, .ref 2 0, .ref 3 0]]), (4, .cells 4 [.u (uB s.any)]), (5, .cells 3 [.u (uI s.most)]), (6, .cells 32 [.u (.sl 1 (s.best.map eN))])] (.tup []) [(0, .cells 80 [.own 1]), (1, .mp []), (2, .cells 67 [.clo (.func 36) [] [.ref 4 0, .ref 5 0, .ref 6 0]]), (3, .cells 96 [.clo (.func 61) [] [.u (.ptr [.sl 1 ((selfs n (atomsL n rs)).map eN)]), .u (.ptr [uI (n : Int), .sl 3 (ps.map ePr), .sl 3 (rs.map eRu)]), .u (.ptr [.sl 1 ((atomsL n rs).map eN)]), .ref 0 0, .ref 2 0, .ref 3 0]]), (4, .cells 4 [.u (uB ((allL n ps rs).foldl (bsF ps) s).any)]), (5, .cells 3 [.u (uI ((allL n ps rs).foldl (bsF ps) s).most)]), (6, .cells 32 [.u (.sl 1 (((allL n ps rs).foldl (bsF ps) s).best.map eN))])] := by
  have hf := hok.1
  have ha := atoms_comp hf
  have h := eachB hok ha.len (atm_nms hf) (selfs n (atomsL n rs)).length 0 [] s (by omega) rfl
  rw [allL_vis hf, show mpH (selfs n (atomsL n rs)) [] = [] by unfold mpH; rw [List.zip_nil_right]; rfl] at h
  exact h

theorem eachC0 {n : Nat} {ps : List Pr} {rs : List Ru} (hok : (Prob.mk (n : Int) ps rs).ok) (s : Nat) (hb : s + (allL n ps rs).length ≤ 1000000) : Con Try.prog 61 [vI 0, .u (.ptr [.sl 1 ((selfs n (atomsL n rs)).map eN)]), .u (.ptr [uI (n : Int), .sl 3 (ps.map ePr), .sl 3 (rs.map eRu)]), .u (.ptr [.sl 1 ((atomsL n rs).map eN)]), .ref 0 0, .ref 2 0, .ref 3 0] [(0, .cells 80 [.own 1]), (1, .mp []), (2, .cells 67 [.clo (.func 42) [] [.ref 4 0]]), (3, .cells 96 [.clo (.func 61) [] [.u (.ptr [.sl 1 ((selfs n (atomsL n rs)).map eN)]), .u (.ptr [uI (n : Int), .sl 3 (ps.map ePr), .sl 3 (rs.map eRu)]), .u (.ptr [.sl 1 ((atomsL n rs).map eN)]), .ref 0 0, .ref 2 0, .ref 3 0]]), (4, .cells 3 [.u (uI ((s : Nat) : Int))])] (.tup []) [(0, .cells 80 [.own 1]), (1, .mp []), (2, .cells 67 [.clo (.func 42) [] [.ref 4 0]]), (3, .cells 96 [.clo (.func 61) [] [.u (.ptr [.sl 1 ((selfs n (atomsL n rs)).map eN)]), .u (.ptr [uI (n : Int), .sl 3 (ps.map ePr), .sl 3 (rs.map eRu)]), .u (.ptr [.sl 1 ((atomsL n rs).map eN)]), .ref 0 0, .ref 2 0, .ref 3 0]]), (4, .cells 3 [.u (uI (((s + (allL n ps rs).length) : Nat) : Int))])] := by
  have hf := hok.1
  have ha := atoms_comp hf
  have h := eachC hok ha.len (atm_nms hf) (selfs n (atomsL n rs)).length 0 [] s (by omega) rfl (by rw [allL_vis hf]; exact hb)
  rw [allL_vis hf, show mpH (selfs n (atomsL n rs)) [] = [] by unfold mpH; rw [List.zip_nil_right]; rfl] at h
  exact h

set_option maxRecDepth 8000 in
theorem each3_ok {n : Nat} {ps : List Pr} {rs : List Ru} {s : BS} (hok : (Prob.mk (n : Int) ps rs).ok) (h8 : (selfs n (atomsL n rs)).length ≤ 8) :
    Con Try.prog 35 [vA [uI (n : Int), .sl 3 (ps.map ePr), .sl 3 (rs.map eRu)], .clo (.func 36) [] [.ref 0 0, .ref 1 0, .ref 2 0]] [(0, .cells 4 [.u (uB s.any)]), (1, .cells 3 [.u (uI s.most)]), (2, .cells 32 [.u (.sl 1 (s.best.map eN))])] (vI 0) [(0, .cells 4 [.u (uB ((allL n ps rs).foldl (bsF ps) s).any)]), (1, .cells 3 [.u (uI ((allL n ps rs).foldl (bsF ps) s).most)]), (2, .cells 32 [.u (.sl 1 (((allL n ps rs).foldl (bsF ps) s).best.map eN))])] := by
 refine Con.enterL (n := 28) Try.func35 rfl rfl rfl (fun τ w ok vs hin => ?_)
 have hl0_1 := hin.lenA (i := 0) (j := 1) rfl rfl
 try rw [List.length_map] at hl0_1
 have hl0_2 := hin.lenA (i := 0) (j := 2) rfl rfl
 try rw [List.length_map] at hl0_2
 clear hin
 refine W.rg ?_
 refine SL.memS (O.box (is := [_, _, _]) 101 rfl rfl (by simp) rfl rfl Taken.no) rfl rfl (S' := (101, _) :: _) rfl ?_
 refine SL.memS (O.box (is := [_]) 102 rfl rfl (by simp) rfl rfl Taken.no) rfl rfl (S' := (102, _) :: _) rfl ?_
 refine SL.an rfl rfl (E.fo (W.rg ?_))
 refine SL.val (O.ldN (m := 3) (PtI.ref rfl rfl) (js := [_, _, _]) rfl (Nat.le_of_ble_eq_true rfl) Try.underlying30 rfl (by kernel_rfl) rfl Taken.no) ?_
 refine SL.memS (O.call (rn []) [] rfl rfl rfl (atomsOf_ok hok) (.cons (ArgOk.aggU (.cons (ArgOk.same rfl) (.cons (ArgOk.same rfl) (.cons (ArgOk.same rfl) .nil)))) .nil) SubS.nil rfl rfl rfl rfl rfl (.inl rfl) hcallOk40 (r' := .tup [.u _, .u _, .u _]) rfl rfl Taken.no) rfl rfl (S' := _) rfl ?_
 refine SL.mv rfl rfl ?_
 refine SL.val (O.extract rfl rfl rfl Taken.no) ?_
 refine SL.val (O.extract rfl rfl rfl Taken.no) ?_
 refine SL.val (O.extract rfl rfl rfl Taken.no) ?_
 refine SL.memS (O.alloc (z := .slice none 0 0) (is := [.u (.sc (.slice none 0 0))]) 103 (by kernel_rfl) rfl rfl rfl Taken.no) rfl rfl (S' := (103, _) :: _) rfl ?_
 refine SL.memS (O.alloc (z := .slice none 0 0) (is := [.u (.sc (.slice none 0 0))]) 104 (by kernel_rfl) rfl rfl rfl Taken.no) rfl rfl (S' := (104, _) :: _) rfl ?_
 refine SL.effS (O.st_ref (m := 1) rfl rfl rfl (js := [_]) rfl rfl (by kernel_rfl) (by simp) (Nat.le_of_ble_eq_true rfl) rfl (is' := [_]) rfl Taken.no) (S' := (103, _) :: _) rfl ?_
 refine SL.effS (O.st_ref (m := 1) rfl rfl rfl (js := [_]) rfl rfl (by kernel_rfl) (by simp) (Nat.le_of_ble_eq_true rfl) rfl (is' := [_]) rfl Taken.no) (S' := (104, _) :: _) rfl ?_
 refine SL.an rfl rfl (E.fo (W.seq (W.block (W.rg (SL.mv rfl rfl ?_)))))
 refine SL.val (O.det (fun _ => G.R.mv (G.R.neq rfl rfl) (congrArg Value.bool (decide_eq_false (by decide)))) rfl Taken.no) ?_
 refine SL.an rfl rfl (E.fo ?_)
 refine W.cond_f rfl ?_
 refine W.rg ?_
 refine SL.val (O.ld1 (PtI.ref rfl rfl) rfl Try.underlying32 rfl rfl Taken.no) ?_
 refine SL.val (O.lenE (SlOf.fz rfl (by decide)) (by first | exact List.length_map _ | rfl) Try.underlying32 rfl Taken.no) ?_
 refine SL.val (O.det (fun _ => G.R.mv (G.R.gtr rfl rfl) (congrArg Value.bool (decide_eq_false (by omega)))) rfl Taken.no) ?_
 refine SL.an rfl rfl (E.fo ?_)
 refine W.cond_f rfl ?_
 refine W.skip (E.inn (E.to (W.rg ?_)))
 refine SL.memS (O.makeMap 105 rfl Taken.no) rfl rfl (S' := (105, .mp []) :: _) rfl ?_
 refine SL.memS (O.alloc (z := .map none) (is := [.u (.sc (.map none))]) 106 (by kernel_rfl) rfl rfl rfl Taken.no) rfl rfl (S' := (106, _) :: _) rfl ?_
 refine SL.effS (O.st_ref (m := 1) rfl rfl rfl (js := [_]) rfl rfl (by kernel_rfl) (by simp) (Nat.le_of_ble_eq_true rfl) rfl (is' := [_]) rfl Taken.no) (S' := (106, _) :: _) rfl ?_
 refine E.fo (W.rg ?_)
 refine SL.memS (O.alloc (z := .nilFunc) (is := [.u (.sc (.nilFunc))]) 107 (by kernel_rfl) rfl rfl rfl Taken.no) rfl rfl (S' := (107, _) :: _) rfl ?_
 refine E.fo (W.rg ?_)
 refine SL.freezeP ([_]) 104 rfl (by rfl) (F' := [(6, _)]) (⟨⟨_, rfl, rfl⟩, trivial⟩) ?_
 refine SL.freezeP ([_, _, _]) 101 rfl (by rfl) (F' := [(2, _)]) (⟨⟨_, rfl, rfl⟩, trivial⟩) ?_
 refine SL.freezeP ([_]) 103 rfl (by rfl) (F' := [(5, _)]) (⟨⟨_, rfl, rfl⟩, trivial⟩) ?_
 refine SL.val (O.makeFunc rfl rfl rfl Taken.no) ?_
 refine SL.effS (O.st_ref (m := 1) rfl rfl rfl (js := [_]) rfl rfl (by kernel_rfl) (by simp) (Nat.le_of_ble_eq_true rfl) rfl (is' := [_]) rfl Taken.no) (S' := (107, _) :: _) rfl ?_
 refine E.fo ?_
 refine W.pick (K:=[(4,_),(9,_)]) (Z:=[(0,_),(1,_),(2,_),(102,_),(105,_),(106,_),(107,_)]) ⟨rfl,rfl,trivial⟩ ⟨rfl,rfl,rfl,rfl,rfl,rfl,rfl,trivial⟩ ?_
 refine W.rg ?_
 refine SL.val (O.ld1 (PtI.ref rfl rfl) rfl Try.underlying96 rfl rfl Taken.no) ?_
 refine SL.memS (O.call (rn [(0, 106), (1, 105), (2, 102), (3, 107), (4, 0), (5, 1), (6, 2)]) [] rfl rfl rfl (eachB0 hok s) (.cons (ArgOk.same rfl) (.cons (ArgOk.same rfl) (.cons (ArgOk.same rfl) (.cons (ArgOk.same rfl) (.cons (ArgOk.same rfl) (.cons (ArgOk.same rfl) (.cons (ArgOk.same rfl) .nil))))))) (SubS.cons rfl (SubS.cons rfl (SubS.cons rfl (SubS.cons rfl (SubS.cons rfl (SubS.cons rfl (SubS.cons rfl SubS.nil))))))) rfl rfl rfl rfl rfl (.inl rfl) hcallOk61 (r' := .tup []) rfl rfl Taken.no) rfl rfl (S' := (106, .cells _ [.own 105]) :: (105, .mp _) :: (102, .cells _ [_]) :: (107, .cells _ [_]) :: (0, .cells _ [.u _]) :: (1, .cells _ [.u _]) :: (2, .cells _ [.u _]) :: _) rfl ?_
 refine E.fo (W.rg (SL.an rfl rfl (E.fo (W.ret ?_))))
 refine E.fin (rs := [_]) (rn []) (.inl rfl) rfl (.cons (ResOne.tmp rfl) .nil) ?_ ?_ rfl (fixL_spec rfl)
 ·skip
  rfl
 · exact (SubS.cons rfl (SubS.cons rfl (SubS.cons rfl SubS.nil)))



set_option maxRecDepth 8000 in
theorem each1_ok {n : Nat} {ps : List Pr} {rs : List Ru} {s : Nat} (hok : (Prob.mk (n : Int) ps rs).ok) (h8 : (selfs n (atomsL n rs)).length ≤ 8) (hb : s + (allL n ps rs).length ≤ 1000000) :
    Con Try.prog 35 [vA [uI (n : Int), .sl 3 (ps.map ePr), .sl 3 (rs.map eRu)], .clo (.func 42) [] [.ref 0 0]] [(0, .cells 3 [.u (uI ((s : Nat) : Int))])] (vI 0) [(0, .cells 3 [.u (uI (((s + (allL n ps rs).length) : Nat) : Int))])] := by
 refine Con.enterL (n := 28) Try.func35 rfl rfl rfl (fun τ w ok vs hin => ?_)
 have hl0_1 := hin.lenA (i := 0) (j := 1) rfl rfl
 try rw [List.length_map] at hl0_1
 have hl0_2 := hin.lenA (i := 0) (j := 2) rfl rfl
 try rw [List.length_map] at hl0_2
 clear hin
 refine W.rg ?_
 refine SL.memS (O.box (is := [_, _, _]) 101 rfl rfl (by simp) rfl rfl Taken.no) rfl rfl (S' := (101, _) :: _) rfl ?_
 refine SL.memS (O.box (is := [_]) 102 rfl rfl (by simp) rfl rfl Taken.no) rfl rfl (S' := (102, _) :: _) rfl ?_
 refine SL.an rfl rfl (E.fo (W.rg ?_))
 refine SL.val (O.ldN (m := 3) (PtI.ref rfl rfl) (js := [_, _, _]) rfl (Nat.le_of_ble_eq_true rfl) Try.underlying30 rfl (by kernel_rfl) rfl Taken.no) ?_
 refine SL.memS (O.call (rn []) [] rfl rfl rfl (atomsOf_ok hok) (.cons (ArgOk.aggU (.cons (ArgOk.same rfl) (.cons (ArgOk.same rfl) (.cons (ArgOk.same rfl) .nil)))) .nil) SubS.nil rfl rfl rfl rfl rfl (.inl rfl) hcallOk40 (r' := .tup [.u _, .u _, .u _]) rfl rfl Taken.no) rfl rfl (S' := _) rfl ?_
 refine SL.mv rfl rfl ?_
 refine SL.val (O.extract rfl rfl rfl Taken.no) ?_
 refine SL.val (O.extract rfl rfl rfl Taken.no) ?_
 refine SL.val (O.extract rfl rfl rfl Taken.no) ?_
 refine SL.memS (O.alloc (z := .slice none 0 0) (is := [.u (.sc (.slice none 0 0))]) 103 (by kernel_rfl) rfl rfl rfl Taken.no) rfl rfl (S' := (103, _) :: _) rfl ?_
 refine SL.memS (O.alloc (z := .slice none 0 0) (is := [.u (.sc (.slice none 0 0))]) 104 (by kernel_rfl) rfl rfl rfl Taken.no) rfl rfl (S' := (104, _) :: _) rfl ?_
 refine SL.effS (O.st_ref (m := 1) rfl rfl rfl (js := [_]) rfl rfl (by kernel_rfl) (by simp) (Nat.le_of_ble_eq_true rfl) rfl (is' := [_]) rfl Taken.no) (S' := (103, _) :: _) rfl ?_
 refine SL.effS (O.st_ref (m := 1) rfl rfl rfl (js := [_]) rfl rfl (by kernel_rfl) (by simp) (Nat.le_of_ble_eq_true rfl) rfl (is' := [_]) rfl Taken.no) (S' := (104, _) :: _) rfl ?_
 refine SL.an rfl rfl (E.fo (W.seq (W.block (W.rg (SL.mv rfl rfl ?_)))))
 refine SL.val (O.det (fun _ => G.R.mv (G.R.neq rfl rfl) (congrArg Value.bool (decide_eq_false (by decide)))) rfl Taken.no) ?_
 refine SL.an rfl rfl (E.fo ?_)
 refine W.cond_f rfl ?_
 refine W.rg ?_
 refine SL.val (O.ld1 (PtI.ref rfl rfl) rfl Try.underlying32 rfl rfl Taken.no) ?_
 refine SL.val (O.lenE (SlOf.fz rfl (by decide)) (by first | exact List.length_map _ | rfl) Try.underlying32 rfl Taken.no) ?_
 refine SL.val (O.det (fun _ => G.R.mv (G.R.gtr rfl rfl) (congrArg Value.bool (decide_eq_false (by omega)))) rfl Taken.no) ?_
 refine SL.an rfl rfl (E.fo ?_)
 refine W.cond_f rfl ?_
 refine W.skip (E.inn (E.to (W.rg ?_)))
 refine SL.memS (O.makeMap 105 rfl Taken.no) rfl rfl (S' := (105, .mp []) :: _) rfl ?_
 refine SL.memS (O.alloc (z := .map none) (is := [.u (.sc (.map none))]) 106 (by kernel_rfl) rfl rfl rfl Taken.no) rfl rfl (S' := (106, _) :: _) rfl ?_
 refine SL.effS (O.st_ref (m := 1) rfl rfl rfl (js := [_]) rfl rfl (by kernel_rfl) (by simp) (Nat.le_of_ble_eq_true rfl) rfl (is' := [_]) rfl Taken.no) (S' := (106, _) :: _) rfl ?_
 refine E.fo (W.rg ?_)
 refine SL.memS (O.alloc (z := .nilFunc) (is := [.u (.sc (.nilFunc))]) 107 (by kernel_rfl) rfl rfl rfl Taken.no) rfl rfl (S' := (107, _) :: _) rfl ?_
 refine E.fo (W.rg ?_)
 refine SL.freezeP ([_]) 104 rfl (by rfl) (F' := [(6, _)]) (⟨⟨_, rfl, rfl⟩, trivial⟩) ?_
 refine SL.freezeP ([_, _, _]) 101 rfl (by rfl) (F' := [(2, _)]) (⟨⟨_, rfl, rfl⟩, trivial⟩) ?_
 refine SL.freezeP ([_]) 103 rfl (by rfl) (F' := [(5, _)]) (⟨⟨_, rfl, rfl⟩, trivial⟩) ?_
 refine SL.val (O.makeFunc rfl rfl rfl Taken.no) ?_
 refine SL.effS (O.st_ref (m := 1) rfl rfl rfl (js := [_]) rfl rfl (by kernel_rfl) (by simp) (Nat.le_of_ble_eq_true rfl) rfl (is' := [_]) rfl Taken.no) (S' := (107, _) :: _) rfl ?_
 refine E.fo ?_
 refine W.pick (K:=[(4,_),(9,_)]) (Z:=[(0,_),(102,_),(105,_),(106,_),(107,_)]) ⟨rfl,rfl,trivial⟩ ⟨rfl,rfl,rfl,rfl,rfl,trivial⟩ ?_
 refine W.rg ?_
 refine SL.val (O.ld1 (PtI.ref rfl rfl) rfl Try.underlying96 rfl rfl Taken.no) ?_
 refine SL.memS (O.call (rn [(0, 106), (1, 105), (2, 102), (3, 107), (4, 0)]) [] rfl rfl rfl (eachC0 hok s hb) (.cons (ArgOk.same rfl) (.cons (ArgOk.same rfl) (.cons (ArgOk.same rfl) (.cons (ArgOk.same rfl) (.cons (ArgOk.same rfl) (.cons (ArgOk.same rfl) (.cons (ArgOk.same rfl) .nil))))))) (SubS.cons rfl (SubS.cons rfl (SubS.cons rfl (SubS.cons rfl (SubS.cons rfl SubS.nil))))) rfl rfl rfl rfl rfl (.inl rfl) hcallOk61 (r' := .tup []) rfl rfl Taken.no) rfl rfl (S' := (106, .cells _ [.own 105]) :: (105, .mp _) :: (102, .cells _ [_]) :: (107, .cells _ [_]) :: (0, .cells _ [.u _]) :: _) rfl ?_
 refine E.fo (W.rg (SL.an rfl rfl (E.fo (W.ret ?_))))
 refine E.fin (rs := [_]) (rn []) (.inl rfl) rfl (.cons (ResOne.tmp rfl) .nil) ?_ ?_ rfl (fixL_spec rfl)
 ·skip
  rfl
 · exact (SubS.cons rfl SubS.nil)



set_option maxRecDepth 8000 in
theorem bestC_ok {n : Nat} {ps : List Pr} {rs : List Ru} (hok : (Prob.mk (n : Int) ps rs).ok) (h8 : (selfs n (atomsL n rs)).length ≤ 8) :
    Con Try.prog 12 [vA [uI (n : Int), .sl 3 (ps.map ePr), .sl 3 (rs.map eRu)]] [] (.tup [vL 1 ((stB n ps rs).best.map eN), vI (stB n ps rs).most, vI 0]) [] := by
 refine Con.enterL (n := 17) Try.func12 rfl rfl rfl (fun τ w ok vs hin => ?_)
 have hl0_1 := hin.lenA (i := 0) (j := 1) rfl rfl
 try rw [List.length_map] at hl0_1
 have hl0_2 := hin.lenA (i := 0) (j := 2) rfl rfl
 try rw [List.length_map] at hl0_2
 clear hin
 refine W.rg ?_
 refine SL.memS (O.box (is := [_, _, _]) 101 rfl rfl (by simp) rfl rfl Taken.no) rfl rfl (S' := (101, _) :: _) rfl ?_
 refine SL.an rfl rfl (SL.an rfl rfl (SL.an rfl rfl (E.fo (W.rg ?_))))
 refine SL.memS (O.alloc (z := .slice none 0 0) (is := [.u (.sc (.slice none 0 0))]) 102 (by kernel_rfl) rfl rfl rfl Taken.no) rfl rfl (S' := (102, _) :: _) rfl ?_
 refine E.fo (W.rg ?_)
 refine SL.memS (O.alloc (z := .int .i64 0) (is := [.u (.sc (.int .i64 0))]) 103 (by kernel_rfl) rfl rfl rfl Taken.no) rfl rfl (S' := (103, _) :: _) rfl ?_
 refine SL.memS (O.alloc (z := .bool false) (is := [.u (.sc (.bool false))]) 104 (by kernel_rfl) rfl rfl rfl Taken.no) rfl rfl (S' := (104, _) :: _) rfl ?_
 refine SL.effS (O.st_ref (m := 1) rfl rfl rfl (js := [_]) rfl rfl (by kernel_rfl) (by simp) (Nat.le_of_ble_eq_true rfl) rfl (is' := [_]) rfl Taken.no) (S' := (103, _) :: _) rfl ?_
 refine SL.effS (O.st_ref (m := 1) rfl rfl rfl (js := [_]) rfl rfl (by kernel_rfl) (by simp) (Nat.le_of_ble_eq_true rfl) rfl (is' := [_]) rfl Taken.no) (S' := (104, _) :: _) rfl ?_
 refine E.fo (W.rg ?_)
 refine SL.val (O.ldN (m := 3) (PtI.ref rfl rfl) (js := [_, _, _]) rfl (Nat.le_of_ble_eq_true rfl) Try.underlying30 rfl (by kernel_rfl) rfl Taken.no) ?_
 refine SL.nilslC 102 0 1 (is' := [_]) rfl rfl rfl ?_
 refine SL.val (O.makeFunc rfl rfl rfl Taken.no) ?_
 refine SL.memS (O.call (rn [(0, 104), (1, 103), (2, 102)]) [] rfl rfl rfl (each3_ok (s := ⟨false, 0, []⟩) hok h8) (.cons (ArgOk.aggU (.cons (ArgOk.same rfl) (.cons (ArgOk.same rfl) (.cons (ArgOk.same rfl) .nil)))) (.cons (ArgOk.same rfl) .nil)) (SubS.cons rfl (SubS.cons rfl (SubS.cons rfl SubS.nil))) rfl rfl rfl rfl rfl (.inl rfl) hcallOk35 (r' := .u _) rfl rfl Taken.no) rfl rfl (S' := (104, .cells _ [.u _]) :: (103, .cells _ [.u _]) :: (102, .cells _ [.u _]) :: _) rfl ?_
 refine SL.an rfl rfl (E.fo (W.seq (W.rg (SL.mv rfl rfl ?_))))
 refine SL.val (O.det (fun _ => G.R.mv (G.R.neq rfl rfl) (congrArg Value.bool (decide_eq_false (by decide)))) rfl Taken.no) ?_
 refine E.fo ?_
 refine W.cond_f rfl ?_
 refine W.skip (E.to (W.seq ?_))
 refine W.draw [⟨[102], [], [], []⟩, ⟨[103], [], [], []⟩, ⟨[], [], [], []⟩, ⟨[], [], [], []⟩, ⟨[], [], [], []⟩] rfl (by kernel_rfl) (by kernel_rfl) rfl rfl ?_
 refine WH.val (O.ld1 (PtI.ref rfl rfl) rfl Try.underlying32 rfl rfl Taken.no) rfl rfl ?_
 refine WH.val (O.ld1 (PtI.ref rfl rfl) rfl Try.underlying3 rfl rfl Taken.no) rfl rfl ?_
 refine WH.val (O.assign rfl rfl Taken.no) rfl rfl ?_
 refine WH.val (O.assign rfl rfl Taken.no) rfl rfl ?_
 refine WH.val (O.assign rfl rfl Taken.no) rfl rfl ?_
 refine WH.nil (E.to (W.ret ?_))
 refine E.fin (rs := [_, _, _]) (rn []) (.inl rfl) rfl (.cons (ResOne.tmp rfl) (.cons (ResOne.tmp rfl) (.cons (ResOne.tmp rfl) .nil))) ?_ ?_ rfl (fixL_spec rfl)
 ·skip
  rfl
 · exact SubS.nil



set_option maxRecDepth 8000 in
theorem countC_ok {n : Nat} {ps : List Pr} {rs : List Ru} (hok : (Prob.mk (n : Int) ps rs).ok) (h8 : (selfs n (atomsL n rs)).length ≤ 8) (hb : (allL n ps rs).length ≤ 1000000) :
    Con Try.prog 16 [vA [uI (n : Int), .sl 3 (ps.map ePr), .sl 3 (rs.map eRu)]] [] (.tup [vI ((allL n ps rs).length : Int), vI 0]) [] := by
 refine Con.enterL (n := 13) Try.func16 rfl rfl rfl (fun τ w ok vs hin => ?_)
 have hl0_1 := hin.lenA (i := 0) (j := 1) rfl rfl
 try rw [List.length_map] at hl0_1
 have hl0_2 := hin.lenA (i := 0) (j := 2) rfl rfl
 try rw [List.length_map] at hl0_2
 clear hin
 refine W.rg ?_
 refine SL.memS (O.box (is := [_, _, _]) 101 rfl rfl (by simp) rfl rfl Taken.no) rfl rfl (S' := (101, _) :: _) rfl ?_
 refine SL.an rfl rfl (SL.an rfl rfl (E.fo (W.rg ?_)))
 refine SL.memS (O.alloc (z := .int .i64 0) (is := [.u (.sc (.int .i64 0))]) 102 (by kernel_rfl) rfl rfl rfl Taken.no) rfl rfl (S' := (102, _) :: _) rfl ?_
 refine SL.effS (O.st_ref (m := 1) rfl rfl rfl (js := [_]) rfl rfl (by kernel_rfl) (by simp) (Nat.le_of_ble_eq_true rfl) rfl (is' := [_]) rfl Taken.no) (S' := (102, _) :: _) rfl ?_
 refine E.fo (W.rg ?_)
 refine SL.val (O.ldN (m := 3) (PtI.ref rfl rfl) (js := [_, _, _]) rfl (Nat.le_of_ble_eq_true rfl) Try.underlying30 rfl (by kernel_rfl) rfl Taken.no) ?_
 refine SL.val (O.makeFunc rfl rfl rfl Taken.no) ?_
 refine SL.memS (O.call (rn [(0, 102)]) [] rfl rfl rfl (each1_ok (s := 0) hok h8 (by omega)) (.cons (ArgOk.aggU (.cons (ArgOk.same rfl) (.cons (ArgOk.same rfl) (.cons (ArgOk.same rfl) .nil)))) (.cons (ArgOk.same rfl) .nil)) (SubS.cons rfl SubS.nil) rfl rfl rfl rfl rfl (.inl rfl) hcallOk35 (r' := .u _) rfl rfl Taken.no) rfl rfl (S' := (102, .cells _ [.u _]) :: _) rfl ?_
 refine SL.an rfl rfl (E.fo (W.seq (W.rg (SL.mv rfl rfl ?_))))
 refine SL.val (O.det (fun _ => G.R.mv (G.R.neq rfl rfl) (congrArg Value.bool (decide_eq_false (by decide)))) rfl Taken.no) ?_
 refine E.fo ?_
 refine W.cond_f rfl ?_
 refine W.skip (E.to (W.rg ?_))
 refine SL.val (O.ld1 (PtI.ref rfl rfl) rfl Try.underlying3 rfl rfl Taken.no) ?_
 refine SL.an rfl rfl (SL.an rfl rfl (E.fo (W.ret ?_)))
 refine E.fin (rs := [_, _]) (rn []) (.inl rfl) rfl (.cons (ResOne.tmp rfl) (.cons (ResOne.tmp rfl) .nil)) ?_ ?_ rfl (fixL_spec rfl)
 ·skip
  rw [Nat.zero_add]; rfl
 · exact SubS.nil



set_option maxRecDepth 8000 in
theorem boundC_ok {n : Nat} {ps : List Pr} {rs : List Ru} (hok : (Prob.mk (n : Int) ps rs).ok) (hpl : ps.length ≤ 1000000) :
    Con Try.prog 14 [vA [uI (n : Int), .sl 3 (ps.map ePr), .sl 3 (rs.map eRu)]] [] (.tup [vI (bndL rs (atomsL n rs) ps), vI 0]) [] := by
 have hf := hok.1
 have hn2 : (n : Int) ≤ 200 := hf.2.1
 have hal := (atoms_comp hf).len
 have hbb := bnd_b (rs := rs) (atm := atomsL n rs) (fun x hx => by have q := pr_in hf hx; unfold prOk at q; omega)
 obtain ⟨i3, hi3, hz3, hs3, hb3⟩ := hinf3
 obtain ⟨i61, hi61, hz61, hs61, hb61⟩ := hinf61
 refine Con.enterL (n := 60) Try.func14 rfl rfl rfl (fun τ w ok vs hin => ?_)
 have hl0_1 := hin.lenA (i := 0) (j := 1) rfl rfl
 try rw [List.length_map] at hl0_1
 have hl0_2 := hin.lenA (i := 0) (j := 2) rfl rfl
 try rw [List.length_map] at hl0_2
 clear hin
 refine W.rg ?_
 refine SL.memS (O.box (is := [_, _, _]) 101 rfl rfl (by simp) rfl rfl Taken.no) rfl rfl (S' := (101, _) :: _) rfl ?_
 refine SL.an rfl rfl (SL.an rfl rfl (E.fo (W.rg ?_)))
 refine SL.val (O.ldN (m := 3) (PtI.ref rfl rfl) (js := [_, _, _]) rfl (Nat.le_of_ble_eq_true rfl) Try.underlying30 rfl (by kernel_rfl) rfl Taken.no) ?_
 refine SL.memS (O.call (rn []) [] rfl rfl rfl (atomsOf_ok hok) (.cons (ArgOk.aggU (.cons (ArgOk.same rfl) (.cons (ArgOk.same rfl) (.cons (ArgOk.same rfl) .nil)))) .nil) SubS.nil rfl rfl rfl rfl rfl (.inl rfl) hcallOk40 (r' := .tup [.u _, .u _, .u _]) rfl rfl Taken.no) rfl rfl (S' := _) rfl ?_
 refine SL.mv rfl rfl ?_
 refine SL.val (O.extract rfl rfl rfl Taken.no) ?_
 refine SL.val (O.extract rfl rfl rfl Taken.no) ?_
 refine SL.val (O.extract rfl rfl rfl Taken.no) ?_
 refine SL.an rfl rfl (SL.an rfl rfl (SL.an rfl rfl (E.fo (W.seq (W.rg (SL.mv rfl rfl ?_))))))
 refine SL.val (O.det (fun _ => G.R.mv (G.R.neq rfl rfl) (congrArg Value.bool (decide_eq_false (by decide)))) rfl Taken.no) ?_
 refine E.fo ?_
 refine W.cond_f rfl ?_
 refine W.skip (E.to (W.rg (SL.an rfl rfl (E.fo (W.seq (W.rg ?_))))))
 refine SL.val (O.fld_ref (o' := 1) rfl Try.underlying30 rfl (m := 0) (by kernel_rfl) rfl rfl Taken.no) ?_
 refine SL.val (O.ld1 (PtI.ref rfl rfl) rfl Try.underlying28 rfl rfl Taken.no) ?_
 refine SL.val (O.lenE (SlOf.fz rfl (by decide)) (by first | exact List.length_map _ | rfl) Try.underlying28 rfl Taken.no) ?_
 refine SL.mv rfl rfl (E.fo (W.block ?_))
 refine W.loopx1 (fun (k : Nat) => [(24, vI (k : Int)), (7, vI (bndL rs (atomsL n rs) (ps.take k)))]) (fun (k : Nat) => []) (fun (k : Nat) => k ≤ ps.length) (fun (k : Nat) => ps.length - k) (0) (rn []) (.cons (t := 1) rfl (.cons (t := 2) rfl (.cons (t := 3) rfl (.cons (t := 4) rfl (.cons (t := 22) rfl (.cons (t := 23) rfl .nil)))))) (.cons (t := 101) rfl .nil) rfl ?_ ?_ rfl rfl ?_ ?_
 · exact (SubF.cons rfl (SubF.cons rfl SubF.nil))
 · exact SubS.nil
 ·skip
  omega
 intro k hinv
 have hk := hinv
 have hbk := hbb k hk
 refine W.rg ?_
 refine SL.val (O.det (fun _ => G.R.lss rfl rfl) rfl Taken.no) ?_
 refine E.fo (W.seq ?_)
 first | refine W.cond_d rfl (fun hc1 => ?_) (fun hc1 => ?_) | refine W.cond_nd rfl (fun hc1 => ?_) (fun hc1 => ?_) | refine W.cond rfl (fun hc1 => ?_) (fun hc1 => ?_)
 ·skip
  have hpk : prOk (n : Int) ps[k]! := pr_in hf (mem_at (by omega))
  unfold prOk at hpk
  refine W.skip (E.to (W.seq (W.block (W.rg ?_))))
  refine SL.val (O.idx_fz rfl rfl (rfl) (row_get (by omega)) Try.underlying28 hi61 hs61 rfl Taken.no) ?_
  refine SL.val (O.ldU (m := 3) (PtU.fz rfl) rfl Try.underlying61 rfl (by kernel_rfl) rfl Taken.no) ?_
  refine SL.memS (O.alloc (z := .agg #[.int .i64 0, .int .i64 0, .int .i64 0]) (is := [.u (.sc (.int .i64 0)), .u (.sc (.int .i64 0)), .u (.sc (.int .i64 0))]) 102 (by kernel_rfl) rfl rfl rfl Taken.no) rfl rfl (S' := (102, _) :: _) rfl ?_
  refine SL.effS (O.st_ref (m := 3) rfl rfl rfl (js := [_, _, _]) rfl rfl (by kernel_rfl) (by simp) (Nat.le_of_ble_eq_true rfl) rfl (is' := [_, _, _]) rfl Taken.no) (S' := (102, _) :: _) rfl ?_
  refine E.fo (W.seq ?_)
  refine W.draw [⟨[], [], [], []⟩, ⟨[], [], [], [102]⟩, ⟨[102], [], [], []⟩, ⟨[], [], [], []⟩, ⟨[], [], [], []⟩, ⟨[], [], [], []⟩, ⟨[], [], [], [102]⟩, ⟨[102], [], [], []⟩, ⟨[], [], [], []⟩, ⟨[], [], [], []⟩, ⟨[], [], [], []⟩, ⟨[], [], [], []⟩] rfl (by kernel_rfl) (by kernel_rfl) rfl rfl ?_
  refine WH.mv rfl rfl rfl ?_
  refine WH.val (O.fld_ref (o' := 0) rfl Try.underlying61 rfl (m := 0) (by kernel_rfl) rfl rfl Taken.no) rfl rfl ?_
  refine WH.val (O.ld1 (PtI.ref rfl rfl) rfl Try.underlying3 rfl rfl Taken.no) rfl rfl ?_
  refine WH.val (O.idx_fz (i := ps[k]!.a.toNat) rfl rfl (by omega) (row_get (by omega)) Try.underlying32 hi3 hs3 rfl Taken.no) rfl rfl ?_
  refine WH.val (O.ld1 (PtI.ofU (PtU.fz rfl)) rfl Try.underlying3 rfl rfl Taken.no) rfl rfl ?_
  refine WH.mv rfl rfl rfl ?_
  refine WH.val (O.fld_ref (o' := 1) rfl Try.underlying61 rfl (m := 0) (by kernel_rfl) rfl rfl Taken.no) rfl rfl ?_
  refine WH.val (O.ld1 (PtI.ref rfl rfl) rfl Try.underlying3 rfl rfl Taken.no) rfl rfl ?_
  refine WH.val (O.idx_fz (i := ps[k]!.b.toNat) rfl rfl (by omega) (row_get (by omega)) Try.underlying32 hi3 hs3 rfl Taken.no) rfl rfl ?_
  refine WH.val (O.ld1 (PtI.ofU (PtU.fz rfl)) rfl Try.underlying3 rfl rfl Taken.no) rfl rfl ?_
  refine WH.val (O.assign rfl rfl Taken.no) rfl rfl ?_
  refine WH.val (O.assign rfl rfl Taken.no) rfl rfl ?_
  refine WH.nil (E.to (W.rg (SL.mv rfl rfl (SL.mv rfl rfl ?_))))
  refine SL.val (O.det (fun _ => G.R.eql rfl rfl) rfl Taken.no) ?_
  refine SL.mv rfl rfl ?_
  refine SL.case (j := 3) (g := 41) (want := false) rfl rfl (fun hg2 => ?_) (fun hg2 => ?_)
  ·skip
   first | have hg2p := G.gA3 hg2 | have hg2p := G.gA4 hg2 | have hg2p := hg2
   refine SL.val (O.fld_ref (o' := 2) rfl Try.underlying61 rfl (m := 0) (by kernel_rfl) rfl rfl (Taken.yes rfl rfl hg2)) ?_
   refine SL.val (O.ld1 (PtI.ref rfl rfl) rfl Try.underlying3 rfl rfl (Taken.yes rfl rfl hg2)) ?_
   refine SL.val (O.det (fun _ => G.R.gtr rfl rfl) rfl (Taken.yes rfl rfl hg2)) ?_
   refine SL.val (O.move rfl rfl (Taken.yes rfl rfl hg2)) ?_
   refine SL.case (j := 7) (g := 45) (want := true) rfl rfl (fun hg3 => ?_) (fun hg3 => ?_)
   ·skip
    first | have hg3p := G.gA1 hg3 | have hg3p := G.gA2 hg3 | have hg3p := hg3
    refine SL.val (O.ldN (m := 3) (PtI.ref rfl rfl) (js := [_, _, _]) rfl (Nat.le_of_ble_eq_true rfl) Try.underlying30 rfl (by kernel_rfl) rfl (Taken.yes rfl rfl hg3)) ?_
    refine SL.val (O.move rfl rfl (Taken.yes rfl rfl hg3)) ?_
    refine SL.val (O.move rfl rfl (Taken.yes rfl rfl hg3)) ?_
    refine SL.val (O.move rfl rfl (Taken.yes rfl rfl hg3)) ?_
    refine SL.val (O.callp rfl rfl rfl (barred_h (atm := atomsL n rs) (a := (atomsL n rs)[ps[k]!.a.toNat]!) (b := (atomsL n rs)[ps[k]!.b.toNat]!) hf hal) (.cons (ArgOk.aggU (.cons (ArgOk.same rfl) (.cons (ArgOk.same rfl) (.cons (ArgOk.same rfl) .nil)))) (.cons (ArgOk.same rfl) (.cons (ArgOk.same rfl) (.cons (ArgOk.same rfl) .nil)))) hcallOk41 rfl (Taken.yes rfl rfl hg3)) ?_
    refine SL.val (O.det (fun _ => G.R.not rfl) rfl (Taken.yes rfl rfl hg3)) ?_
    refine SL.val (O.pick_t rfl hg3 rfl rfl (Taken.yes rfl rfl hg2)) ?_
    refine SL.val (O.pick_f rfl hg2 rfl rfl Taken.no) ?_
    refine E.fo ?_
    refine W.pick (K:=[(1,_),(2,_),(3,_),(4,_),(7,_),(9,_),(22,_),(23,_),(24,_),(53,_)]) (Z:=[(101,_),(102,_)]) ⟨rfl,rfl,rfl,rfl,rfl,rfl,rfl,rfl,rfl,rfl,trivial⟩ ⟨rfl,rfl,trivial⟩ ?_
    first | refine W.cond_d rfl (fun hc4 => ?_) (fun hc4 => ?_) | refine W.cond_nd rfl (fun hc4 => ?_) (fun hc4 => ?_) | refine W.cond rfl (fun hc4 => ?_) (fun hc4 => ?_)
    ·skip
     refine W.region (SL.mv rfl rfl ?_)
     refine SL.val (O.fld_ref (o' := 2) rfl Try.underlying61 rfl (m := 0) (by kernel_rfl) rfl rfl Taken.no) ?_
     refine SL.val (O.ld1 (PtI.ref rfl rfl) rfl Try.underlying3 rfl rfl Taken.no) ?_
     refine SL.val (O.det (fun _ => by first | exact G.R.add64 rfl rfl (by omega) | exact G.R.add rfl rfl) rfl Taken.no) ?_
     refine SL.an rfl rfl (SL.nil (E.inn (E.to (W.region ?_))))
     refine SL.val (O.det (fun _ => by first | exact G.R.add64 rfl rfl (by omega) | exact G.R.add rfl rfl) rfl Taken.no) ?_
     refine SL.mv rfl rfl (SL.nil ?_)
     refine E.again ((k + 1)) (rn []) ?_ ?_ rfl (fixL_spec rfl) ?_ ?_
     · exact (SubF.cons rfl (SubF.val rfl (by (try dsimp only); first | exact iv_int (by rw [bnd_y1 (by omega) (by omega)]) | exact iv_int (by rw [bnd_y2 (by omega) (by omega) (not_t (by assumption))]) | exact iv_int (by rw [bnd_n (by omega) (by omega) (by first | exact .inl (by omega) | exact .inr (not_f (by assumption)) | exact .inr (not_f2 (by assumption)))])) (SubF.cons rfl (SubF.cons rfl (SubF.cons rfl (SubF.cons rfl (SubF.cons rfl (SubF.cons rfl SubF.nil))))))))
     · exact (SubS.cons rfl SubS.nil)
     ·try dsimp only
      omega
     · (try dsimp only); omega
    refine W.skip (E.inn (E.to (W.region ?_)))
    refine SL.val (O.det (fun _ => by first | exact G.R.add64 rfl rfl (by omega) | exact G.R.add rfl rfl) rfl Taken.no) ?_
    refine SL.mv rfl rfl (SL.nil ?_)
    refine E.again ((k + 1)) (rn []) ?_ ?_ rfl (fixL_spec rfl) ?_ ?_
    · exact (SubF.cons rfl (SubF.val rfl (by (try dsimp only); first | exact iv_int (by rw [bnd_y1 (by omega) (by omega)]) | exact iv_int (by rw [bnd_y2 (by omega) (by omega) (not_t (by assumption))]) | exact iv_int (by rw [bnd_n (by omega) (by omega) (by first | exact .inl (by omega) | exact .inr (not_f (by assumption)) | exact .inr (not_f2 (by assumption)))])) (SubF.cons rfl (SubF.cons rfl (SubF.cons rfl (SubF.cons rfl (SubF.cons rfl (SubF.cons rfl SubF.nil))))))))
    · exact (SubS.cons rfl SubS.nil)
    ·try dsimp only
     omega
    · (try dsimp only); omega
   first | have hg3p := G.gA5 hg3 | have hg3p := G.gA6 hg3 | have hg3p := hg3
   refine SL.sk rfl rfl rfl hg3 (SL.sk rfl rfl rfl hg3 (SL.sk rfl rfl rfl hg3 (SL.sk rfl rfl rfl hg3 (SL.sk rfl rfl rfl hg3 (SL.sk rfl rfl rfl hg3 ?_)))))
   refine SL.val (O.pick_f rfl (G.ne_t hg3) rfl rfl (Taken.yes rfl rfl hg2)) ?_
   refine SL.val (O.pick_f rfl hg2 rfl rfl Taken.no) ?_
   refine E.fo ?_
   refine W.pick (K:=[(1,_),(2,_),(3,_),(4,_),(7,_),(9,_),(22,_),(23,_),(24,_),(53,_)]) (Z:=[(101,_),(102,_)]) ⟨rfl,rfl,rfl,rfl,rfl,rfl,rfl,rfl,rfl,rfl,trivial⟩ ⟨rfl,rfl,trivial⟩ ?_
   refine W.cond_f rfl ?_
   refine W.skip (E.inn (E.to (W.region ?_)))
   refine SL.val (O.det (fun _ => by first | exact G.R.add64 rfl rfl (by omega) | exact G.R.add rfl rfl) rfl Taken.no) ?_
   refine SL.mv rfl rfl (SL.nil ?_)
   refine E.again ((k + 1)) (rn []) ?_ ?_ rfl (fixL_spec rfl) ?_ ?_
   · exact (SubF.cons rfl (SubF.val rfl (by (try dsimp only); first | exact iv_int (by rw [bnd_y1 (by omega) (by omega)]) | exact iv_int (by rw [bnd_y2 (by omega) (by omega) (not_t (by assumption))]) | exact iv_int (by rw [bnd_n (by omega) (by omega) (by first | exact .inl (by omega) | exact .inr (not_f (by assumption)) | exact .inr (not_f2 (by assumption)))])) (SubF.cons rfl (SubF.cons rfl (SubF.cons rfl (SubF.cons rfl (SubF.cons rfl (SubF.cons rfl SubF.nil))))))))
   · exact (SubS.cons rfl SubS.nil)
   ·try dsimp only
    omega
   · (try dsimp only); omega
  first | have hg2p := G.gA7 hg2 | have hg2p := G.gA8 hg2 | have hg2p := hg2
  refine SL.sk rfl rfl rfl hg2 (SL.sk rfl rfl rfl hg2 (SL.sk rfl rfl rfl hg2 (SL.sk rfl rfl rfl hg2 ?_)))
  refine SL.skip (OpOk.not2 rfl rfl rfl) ?_
  refine SL.skip (OpOk.not2 rfl rfl rfl) ?_
  refine SL.skip (OpOk.not2 rfl rfl rfl) ?_
  refine SL.skip (OpOk.not2 rfl rfl rfl) ?_
  refine SL.skip (OpOk.not2 rfl rfl rfl) ?_
  refine SL.skip (OpOk.not2 rfl rfl rfl) ?_
  refine SL.sk rfl rfl rfl hg2 ?_
  refine SL.val (O.pick_t rfl (G.ne_f hg2) rfl rfl Taken.no) ?_
  refine E.fo ?_
  refine W.pick (K:=[(1,_),(2,_),(3,_),(4,_),(7,_),(9,_),(22,_),(23,_),(24,_),(53,_)]) (Z:=[(101,_),(102,_)]) ⟨rfl,rfl,rfl,rfl,rfl,rfl,rfl,rfl,rfl,rfl,trivial⟩ ⟨rfl,rfl,trivial⟩ ?_
  refine W.cond_t rfl ?_
  refine W.region (SL.mv rfl rfl ?_)
  refine SL.val (O.fld_ref (o' := 2) rfl Try.underlying61 rfl (m := 0) (by kernel_rfl) rfl rfl Taken.no) ?_
  refine SL.val (O.ld1 (PtI.ref rfl rfl) rfl Try.underlying3 rfl rfl Taken.no) ?_
  refine SL.val (O.det (fun _ => by first | exact G.R.add64 rfl rfl (by omega) | exact G.R.add rfl rfl) rfl Taken.no) ?_
  refine SL.an rfl rfl (SL.nil (E.inn (E.to (W.region ?_))))
  refine SL.val (O.det (fun _ => by first | exact G.R.add64 rfl rfl (by omega) | exact G.R.add rfl rfl) rfl Taken.no) ?_
  refine SL.mv rfl rfl (SL.nil ?_)
  refine E.again ((k + 1)) (rn []) ?_ ?_ rfl (fixL_spec rfl) ?_ ?_
  · exact (SubF.cons rfl (SubF.val rfl (by (try dsimp only); first | exact iv_int (by rw [bnd_y1 (by omega) (by omega)]) | exact iv_int (by rw [bnd_y2 (by omega) (by omega) (not_t (by assumption))]) | exact iv_int (by rw [bnd_n (by omega) (by omega) (by first | exact .inl (by omega) | exact .inr (not_f (by assumption)) | exact .inr (not_f2 (by assumption)))])) (SubF.cons rfl (SubF.cons rfl (SubF.cons rfl (SubF.cons rfl (SubF.cons rfl (SubF.cons rfl SubF.nil))))))))
  · exact (SubS.cons rfl SubS.nil)
  ·try dsimp only
   omega
  · (try dsimp only); omega
 refine W.exit (E.th (E.th (E.hit (E.to (W.rg (SL.mv rfl rfl (SL.an rfl rfl (SL.an rfl rfl (E.fo (W.ret ?_))))))))))
 refine E.fin (rs := [_, _]) (rn []) (.inl rfl) rfl (.cons (ResOne.tmp rfl) (.cons (ResOne.tmp rfl) .nil)) ?_ ?_ rfl (fixL_spec rfl)
 ·skip
  rw [show k = ps.length by omega, List.take_length]; rfl
 · exact SubS.nil





end Go.Proofs.Ytbkbeplddddgeaa
end
section
namespace Go.G
open Go Go.RowKit
@[reducible] def bs (l : List UInt8) : ByteArray := ⟨⟨l⟩⟩
section
variable {P : Program} {F : Frm} {w : World} {ty : TypeId}
end
end Go.G
namespace Go.H
open Go Go.RowKit
open Go.G (bs)
abbrev uT (s : List UInt8) : UV := .sc (.string (bs s))
abbrev vT (s : List UInt8) : IV := .u (uT s)
abbrev eStr (s : List UInt8) : List UV := [uT s]
section
variable {c : Ctx} {P : Program} {F : Frm} {S : Sto} {ops : Array Oper} {T N : List Nat}
theorem upon_mono {P : Program} {Q Q' : Value → World → Prop} {x : Result Next} (h : upon P Q x) (hq : ∀ u w, Q u w → Q' u w) : upon P Q' x := by
  match x, h with
  | .ok (.value u) w', h => exact hq _ _ h
  | .ok .skip w', h => exact hq _ _ h
  | .ok (.enter f args) w', h => exact Calls.mono h fun _ _ ⟨v, e, hv⟩ => ⟨v, e, hq _ _ hv⟩
end
end Go.H
end
section
namespace Go.H
open Go Go.RowKit
section
variable {c : Ctx} {P : Program} {F : Frm} {S : Sto} {ops : Array Oper} {T N : List Nat}
theorem Sat.frz2 {σ : Sig} {a : Act} {w : World} {d : Option Nat} {kk kd e sz : Nat} {rows : List (List UV)} (hn : σ.sto kk = none) (h : Sat c (σ.upd d (some (.own kk)) [(kk, some (.data e sz rows)), (kd, none)]) a w) : Sat c (σ.upd d (some (.u (.sl sz rows))) [(kd, none)]) a w := by
  obtain ⟨τ, h⟩ := h
  have hk : (σ.upd d (some (.own kk)) [(kk, some (.data e sz rows)), (kd, none)]).sto kk = some (.data e sz rows) := by simp [Sig.upd, look]
  have hs : ∀ k sb, (σ.upd d (some (.u (.sl sz rows))) [(kd, none)]).sto k = some sb → k ≠ kk ∧ (σ.upd d (some (.own kk)) [(kk, some (.data e sz rows)), (kd, none)]).sto k = some sb := fun k sb q => by
    have hne : k ≠ kk := fun e => by
      subst e
      by_cases z : kd = k
      · subst z; simp [Sig.upd, look] at q
      · simp only [Sig.upd, look_ne z] at q
        have q : σ.sto k = some sb := q
        rw [hn] at q; cases q
    exact ⟨hne, by simp only [Sig.upd, look_ne (Ne.symm hne)]; exact q⟩
  have h2 : ∀ b, okOf c τ (σ.upd d (some (.own kk)) [(kk, some (.data e sz rows)), (kd, none)]).sto b → okOf c τ (σ.upd d (some (.u (.sl sz rows))) [(kd, none)]).sto b := fun b hb => ⟨hb.1, fun k sb q => hb.2 k sb (hs k sb q).2⟩
  have hm : ∀ b, okOf c τ (σ.upd d (some (.own kk)) [(kk, some (.data e sz rows)), (kd, none)]).sto b → b < w.heap.size → okOf c τ (σ.upd d (some (.u (.sl sz rows))) [(kd, none)]).sto b ∧ w.heap[b]? = w.heap[b]? := fun b hb _ => ⟨h2 b hb, rfl⟩
  have h1 : ∀ b, vblk (τ kk) = some b → okOf c τ (σ.upd d (some (.u (.sl sz rows))) [(kd, none)]).sto b := fun b hb => ⟨.inr (h.own kk _ b hk hb), fun k sb q hv => (hs k sb q).1 (h.inj k kk _ _ b (hs k sb q).2 hk hv hb)⟩
  refine ⟨τ, h.size, h.defers, h.gr, fun t j hl => ?_, fun k sb q => ?_, fun k k' sb sb' b q q' => ?_, fun k sb b q => ?_, h.pin⟩
  · by_cases e : d = some t
    · subst e
      have hj : IV.u (.sl sz rows) = j := by simpa [Sig.upd] using hl
      subst hj
      obtain ⟨u, q1, q2⟩ := h.slot t (.own kk) (by simp [Sig.upd])
      cases q2 with
      | own _ _ => exact ⟨_, q1, .u (own_sl (h.sto kk _ hk) h1 h2)⟩
    · obtain ⟨u, q1, q2⟩ := h.slot t j (by simp only [Sig.upd, if_neg e] at hl ⊢; exact hl)
      exact ⟨u, q1, q2.mono (Nat.le_refl _) hm (fun _ _ => rfl)⟩
  · exact (h.sto k sb (hs k sb q).2).mono (Nat.le_refl _) hm (fun _ _ => rfl) rfl (fun _ _ => rfl)
  · exact h.inj k k' sb sb' b (hs k sb q).2 (hs k' sb' q').2
  · exact h.own k sb b (hs k sb q).2
theorem OpOk.frz2 {kk kd e sz : Nat} {rows : List (List UV)} {o : Oper} (h : OpOk c P ops o F S T [kk] (some (.own kk)) [(kk, some (.data e sz rows)), (kd, none)]) : OpOk c P ops o F S T [kk] (some (.u (.sl sz rows))) [(kd, none)] := fun σ a w h1 h2 h3 h4 => by
  have hn := (h3 kk (by simp)).2.1
  have := h σ a w h1 h2 h3 h4
  split at this
  · rename_i e; rw [if_pos e]; exact upon_mono this fun u w' q => q.frz2 hn
  · rename_i e; rw [if_neg e]; exact this.frz2 hn
end
end Go.H
end
section
namespace Go.Proofs.Ytbkbeplddddgeaa
open Go Go.RowKit Go.H Go.D33

theorem hcallOk22 : G.callOk Try.prog 22 = true := by kernel_rfl
theorem hcallOk32 : G.callOk Try.prog 32 = true := by kernel_rfl
theorem hcallOk34 : G.callOk Try.prog 34 = true := by kernel_rfl
theorem hcallOk38 : G.callOk Try.prog 38 = true := by kernel_rfl
theorem hcallOk39 : G.callOk Try.prog 39 = true := by kernel_rfl

theorem refPermN_h {n : Nat} {ps : List Pr} {rs : List Ru} {m : List Nat} (hok : (Prob.mk (n : Int) ps rs).ok) : Con Try.prog 20 [vA [uI (n : Int), .sl 3 (ps.map ePr), .sl 3 (rs.map eRu)], vL 1 (m.map eN)] [] (vB (permB n ps rs m)) [] := by
  have h := refPerm_ok (l := m.map fun x : Nat => (x : Int)) hok
  rw [eI_eN] at h
  exact h

set_option maxRecDepth 8000 in
theorem names_h {n : Nat} {ps : List Pr} {rs : List Ru} (hok : (Prob.mk (n : Int) ps rs).ok) :
    Con Try.prog 34 [vA [uI (n : Int), .sl 3 (ps.map ePr), .sl 3 (rs.map eRu)]] [] (vL 1 ((selfs n (atomsL n rs)).map eN)) [] := by
 have hf := hok.1
 have hn2 : (n : Int) ≤ 200 := hf.2.1
 have hal := (atoms_comp hf).len
 obtain ⟨i3, hi3, hz3, hs3, hb3⟩ := hinf3
 refine Con.enterL (n := 29) Try.func34 rfl rfl rfl (fun τ w ok vs hin => ?_)
 have hl0_1 := hin.lenA (i := 0) (j := 1) rfl rfl
 try rw [List.length_map] at hl0_1
 have hl0_2 := hin.lenA (i := 0) (j := 2) rfl rfl
 try rw [List.length_map] at hl0_2
 clear hin
 refine W.rg ?_
 refine SL.memS (O.box (is := [_, _, _]) 101 rfl rfl (by simp) rfl rfl Taken.no) rfl rfl (S' := (101, _) :: _) rfl ?_
 refine SL.an rfl rfl (E.fo (W.rg ?_))
 refine SL.val (O.ldN (m := 3) (PtI.ref rfl rfl) (js := [_, _, _]) rfl (Nat.le_of_ble_eq_true rfl) Try.underlying25 rfl (by kernel_rfl) rfl Taken.no) ?_
 refine SL.memS (O.call (rn []) [] rfl rfl rfl (refAtoms_ok hok) (.cons (ArgOk.aggU (.cons (ArgOk.same rfl) (.cons (ArgOk.same rfl) (.cons (ArgOk.same rfl) .nil)))) .nil) SubS.nil rfl rfl rfl rfl rfl (.inl rfl) hcallOk22 (r' := .tup [.u _, .u _]) rfl rfl Taken.no) rfl rfl (S' := _) rfl ?_
 refine SL.mv rfl rfl ?_
 refine SL.val (O.extract rfl rfl rfl Taken.no) ?_
 refine SL.val (O.extract rfl rfl rfl Taken.no) ?_
 refine SL.an rfl rfl (SL.an rfl rfl (E.fo (W.rg (SL.an rfl rfl (E.fo (W.seq (W.rg (SL.an rfl rfl (E.fo (W.block ?_))))))))))
 refine W.adopt 5 103 3 1 (by decide) rfl rfl rfl ?_
 refine W.loopx1 (fun (i : Nat) => [(6, vI (i : Int)), (5, .own 102)]) (fun (i : Nat) => [(102, .data 3 1 ((selfs i (atomsL n rs)).map eN))]) (fun (i : Nat) => i ≤ n) (fun (i : Nat) => n - i) (0) (rn [(102, 103)]) (.cons (t := 2) rfl (.cons (t := 3) rfl .nil)) (.cons (t := 101) rfl .nil) rfl ?_ ?_ rfl rfl ?_ ?_
 · exact (SubF.cons rfl (SubF.cons rfl SubF.nil))
 · exact (SubS.cons rfl SubS.nil)
 ·skip
  omega
 intro i hinv
 have hi := hinv
 have hsl := selfs_len i (atomsL n rs)
 refine W.seq (W.rg (SL.mv rfl rfl (SL.mv rfl rfl ?_)))
 refine SL.val (O.lenE (SlOf.fz rfl (by decide)) (by first | exact List.length_map _ | rfl) Try.underlying32 rfl Taken.no) ?_
 refine SL.val (O.det (fun _ => G.R.lss rfl rfl) rfl Taken.no) ?_
 refine E.fo ?_
 first | refine W.cond_d rfl (fun hc1 => ?_) (fun hc1 => ?_) | refine W.cond_nd rfl (fun hc1 => ?_) (fun hc1 => ?_) | refine W.cond rfl (fun hc1 => ?_) (fun hc1 => ?_)
 ·skip
  refine W.skip (E.to (W.seq (W.block (W.rg (SL.mv rfl rfl (SL.mv rfl rfl ?_))))))
  refine SL.val (O.idx_fz (i := i) rfl rfl (rfl) (row_get (by omega)) Try.underlying32 hi3 hs3 rfl Taken.no) ?_
  refine SL.val (O.ld1 (PtI.ofU (PtU.fz rfl)) rfl Try.underlying3 rfl rfl Taken.no) ?_
  refine SL.mv rfl rfl ?_
  refine SL.val (O.det (fun _ => G.R.eql rfl rfl) rfl Taken.no) ?_
  refine E.fo ?_
  first | refine W.cond_d rfl (fun hc2 => ?_) (fun hc2 => ?_) | refine W.cond_nd rfl (fun hc2 => ?_) (fun hc2 => ?_) | refine W.cond rfl (fun hc2 => ?_) (fun hc2 => ?_)
  ·skip
   refine W.region (SL.mv rfl rfl (SL.mv rfl rfl ?_))
   refine SL.memS (O.buildSlice 104 (rows := [i].map eN) rfl rfl Try.underlying32 hi3 hz3 hs3 (by decide) rfl (by decide) rfl rfl rfl Taken.no) rfl rfl (S' := (104, .data 3 1 ([i].map eN)) :: _) rfl ?_
   refine SL.memS (O.app (k' := 105) rfl rfl (SlOf.own rfl rfl) Try.underlying32 hi3 hz3 hs3 rfl rfl (by exact app_map) (by rw [hb3]; (simp only [List.length_map, List.length_singleton]; omega)) (by (simp only [List.length_map, List.length_singleton]; omega)) rfl Taken.no) rfl rfl (S' := (105, _) :: (102, .dead) :: _) rfl ?_
   refine SL.an rfl rfl (SL.nil (E.inn (E.to (W.region (SL.mv rfl rfl ?_)))))
   refine SL.val (O.det (fun _ => by first | exact G.R.add64 rfl rfl (by omega) | exact G.R.add rfl rfl) rfl Taken.no) ?_
   refine SL.an rfl rfl (SL.nil ?_)
   refine E.again ((i + 1)) (rn [(102, 105)]) ?_ ?_ rfl (fixL_spec rfl) ?_ ?_
   · exact (SubF.cons rfl (SubF.cons rfl (SubF.cons rfl (SubF.cons rfl SubF.nil))))
   · exact (SubS.val rfl (by (try dsimp only); first | exact sb_data (by rw [selfs_y (by omega)]) | exact sb_data (by rw [selfs_n (by omega)])) (SubS.cons rfl SubS.nil))
   ·try dsimp only
    omega
   · (try dsimp only); omega
  refine W.skip (E.inn (E.to (W.region (SL.mv rfl rfl ?_))))
  refine SL.val (O.det (fun _ => by first | exact G.R.add64 rfl rfl (by omega) | exact G.R.add rfl rfl) rfl Taken.no) ?_
  refine SL.an rfl rfl (SL.nil ?_)
  refine E.again ((i + 1)) (rn []) ?_ ?_ rfl (fixL_spec rfl) ?_ ?_
  · exact (SubF.cons rfl (SubF.cons rfl (SubF.cons rfl (SubF.cons rfl SubF.nil))))
  · exact (SubS.val rfl (by (try dsimp only); first | exact sb_data (by rw [selfs_y (by omega)]) | exact sb_data (by rw [selfs_n (by omega)])) (SubS.cons rfl SubS.nil))
  ·try dsimp only
   omega
  · (try dsimp only); omega
 refine W.exit (E.th (E.th (E.hit (E.to (W.rg (SL.mv rfl rfl (SL.an rfl rfl (E.fo (W.ret ?_)))))))))
 refine E.freeze 102 rfl (F' := [(2, _)]) (⟨⟨_, rfl, rfl⟩, trivial⟩) ?_
 refine E.fin (rs := [_]) (rn []) (.inl rfl) rfl (.cons (ResOne.tmp rfl) .nil) ?_ ?_ rfl (fixL_spec rfl)
 ·skip
  have hkn : i = n := by omega
  rw [hkn]; rfl
 · exact SubS.nil

set_option maxRecDepth 8000 in
set_option maxHeartbeats 1600000 in
theorem refAll_h {n : Nat} {ps : List Pr} {rs : List Ru} (hok : (Prob.mk (n : Int) ps rs).ok) (hn9 : n ≤ 9) :
    Con Try.prog 39 [vA [uI (n : Int), .sl 3 (ps.map ePr), .sl 3 (rs.map eRu)]] [] (vL 1 ((allL n ps rs).map eL1)) [] := by
 have hf := hok.1
 have hn2 : (n : Int) ≤ 200 := hf.2.1
 have hal := (atoms_comp hf).len
 have hle := (atoms_comp hf).le
 obtain ⟨i3, hi3, hz3, hs3, hb3⟩ := hinf3
 obtain ⟨i32, hi32, hz32, hs32, hb32⟩ := hinf32
 refine Con.enterL (n := 103) Try.func39 rfl rfl rfl (fun τ w ok vs hin => ?_)
 have hl0_1 := hin.lenA (i := 0) (j := 1) rfl rfl
 try rw [List.length_map] at hl0_1
 have hl0_2 := hin.lenA (i := 0) (j := 2) rfl rfl
 try rw [List.length_map] at hl0_2
 clear hin
 refine W.rg ?_
 refine SL.memS (O.box (is := [_, _, _]) 101 rfl rfl (by simp) rfl rfl Taken.no) rfl rfl (S' := (101, _) :: _) rfl ?_
 refine SL.an rfl rfl (E.fo (W.rg ?_))
 refine SL.val (O.ldN (m := 3) (PtI.ref rfl rfl) (js := [_, _, _]) rfl (Nat.le_of_ble_eq_true rfl) Try.underlying25 rfl (by kernel_rfl) rfl Taken.no) ?_
 refine SL.memS (O.call (rn []) [] rfl rfl rfl (refAtoms_ok hok) (.cons (ArgOk.aggU (.cons (ArgOk.same rfl) (.cons (ArgOk.same rfl) (.cons (ArgOk.same rfl) .nil)))) .nil) SubS.nil rfl rfl rfl rfl rfl (.inl rfl) hcallOk22 (r' := .tup [.u _, .u _]) rfl rfl Taken.no) rfl rfl (S' := _) rfl ?_
 refine SL.mv rfl rfl ?_
 refine SL.val (O.extract rfl rfl rfl Taken.no) ?_
 refine SL.val (O.extract rfl rfl rfl Taken.no) ?_
 refine SL.an rfl rfl (SL.an rfl rfl (E.fo (W.rg ?_)))
 refine SL.memS (O.buildSlice 102 (rows := ([] : List Nat).map eN) rfl rfl Try.underlying32 hi3 hz3 hs3 (by decide) rfl (by decide) rfl rfl rfl Taken.no) rfl rfl (S' := (102, .data 3 1 (([] : List Nat).map eN)) :: _) rfl ?_
 refine SL.freeze 102 rfl (F' := [(18, _)]) (⟨⟨_, rfl, rfl⟩, trivial⟩) ?_
 refine SL.memS (O.buildSlice 103 (rows := [([] : List Nat)].map eL1) rfl rfl Try.underlying68 hi32 hz32 hs32 (by decide) rfl (by decide) rfl rfl rfl Taken.no) rfl rfl (S' := (103, .data 32 1 ([([] : List Nat)].map eL1)) :: _) rfl ?_
 refine SL.an rfl rfl (E.fo (W.seq (W.rg (SL.an rfl rfl (E.fo (W.block ?_))))))
 refine W.loopx1 (fun (i : Nat) => [(6, vI (i : Int)), (5, .own 104)]) (fun (i : Nat) => [(104, .data 32 1 ((allR (atomsL n rs) i).map eL1))]) (fun (i : Nat) => i ≤ n) (fun (i : Nat) => n - i) (0) (rn [(104, 103)]) (.cons (t := 1) rfl (.cons (t := 2) rfl (.cons (t := 3) rfl .nil))) (.cons (t := 101) rfl .nil) rfl ?_ ?_ rfl rfl ?_ ?_
 · exact (SubF.cons rfl (SubF.cons rfl SubF.nil))
 · exact (SubS.cons rfl SubS.nil)
 ·skip
  omega
 intro i hinv
 have hi := hinv
 have hlb := allR_9 (atomsL n rs) (k := i) (by omega)
 have hrl := allR_len (atomsL n rs) i
 refine W.seq (W.rg (SL.mv rfl rfl ?_))
 refine SL.val (O.fld_ref (o' := 0) rfl Try.underlying25 rfl (m := 0) (by kernel_rfl) rfl rfl Taken.no) ?_
 refine SL.val (O.ld1 (PtI.ref rfl rfl) rfl Try.underlying3 rfl rfl Taken.no) ?_
 refine SL.val (O.det (fun _ => G.R.lss rfl rfl) rfl Taken.no) ?_
 refine E.fo ?_
 first | refine W.cond_d rfl (fun hc1 => ?_) (fun hc1 => ?_) | refine W.cond_nd rfl (fun hc1 => ?_) (fun hc1 => ?_) | refine W.cond rfl (fun hc1 => ?_) (fun hc1 => ?_)
 ·skip
  refine W.skip (E.to (W.seq (W.block (W.rg (SL.an rfl rfl (E.fo (W.seq (W.rg (SL.an rfl rfl (E.fo (W.block ?_)))))))))))
  refine W.adopt 7 106 32 1 (by decide) rfl rfl rfl ?_
  refine W.loopx1 (fun (k : Nat) => [(8, vI (k : Int)), (7, .own 105)]) (fun (k : Nat) => [(105, .data 32 1 ((((allR (atomsL n rs) i).take k).flatMap (stepA (atomsL n rs) i)).map eL1))]) (fun (k : Nat) => k ≤ (allR (atomsL n rs) i).length) (fun (k : Nat) => (allR (atomsL n rs) i).length - k) (0) (rn [(105, 106)]) (.cons (t := 1) rfl (.cons (t := 2) rfl (.cons (t := 3) rfl (.cons (t := 5) rfl (.cons (t := 6) rfl .nil))))) (.cons (t := 101) rfl (.cons (t := 104) rfl .nil)) rfl ?_ ?_ rfl rfl ?_ ?_
  · exact (SubF.cons rfl (SubF.cons rfl SubF.nil))
  · exact (SubS.val rfl (by exact sb_data (by rw [List.take_zero]; rfl)) SubS.nil)
  ·skip
   omega
  intro k hinv
  have hk := hinv
  have hpv := flat_9 (atm := atomsL n rs) (i := i) (k := k) (by omega)
  refine W.seq (W.rg (SL.mv rfl rfl (SL.mv rfl rfl ?_)))
  refine SL.val (O.lenE (SlOf.own rfl rfl) (by first | exact List.length_map _ | rfl) Try.underlying68 rfl Taken.no) ?_
  refine SL.val (O.det (fun _ => G.R.lss rfl rfl) rfl Taken.no) ?_
  refine E.fo ?_
  first | refine W.cond_d rfl (fun hc2 => ?_) (fun hc2 => ?_) | refine W.cond_nd rfl (fun hc2 => ?_) (fun hc2 => ?_) | refine W.cond rfl (fun hc2 => ?_) (fun hc2 => ?_)
  ·skip
   have hkl : k < (allR (atomsL n rs) i).length := by omega
   have hll : ((allR (atomsL n rs) i)[k]!).length = i := hrl _ (mem_at hkl)
   have hai := hle i (by omega)
   refine W.skip (E.to (W.seq (W.block (W.rg (SL.mv rfl rfl (SL.mv rfl rfl ?_))))))
   refine SL.val (O.idx_own (i := k) rfl rfl rfl (rfl) (by rw [List.length_map]; omega) Try.underlying68 hi32 hs32 rfl Taken.no) ?_
   refine SL.val (O.ld1 (PtI.ofU (PtU.el rfl rfl (row_get (by omega)))) rfl Try.underlying32 rfl rfl Taken.no) ?_
   refine SL.an rfl rfl (E.fo (W.seq (W.rg (SL.mv rfl rfl (SL.mv rfl rfl ?_)))))
   refine SL.val (O.idx_fz (i := i) rfl rfl (rfl) (row_get (by omega)) Try.underlying32 hi3 hs3 rfl Taken.no) ?_
   refine SL.val (O.ld1 (PtI.ofU (PtU.fz rfl)) rfl Try.underlying3 rfl rfl Taken.no) ?_
   refine SL.mv rfl rfl ?_
   refine SL.val (O.det (fun _ => G.R.neq rfl rfl) rfl Taken.no) ?_
   refine E.fo ?_
   first | refine W.cond_d rfl (fun hc3 => ?_) (fun hc3 => ?_) | refine W.cond_nd rfl (fun hc3 => ?_) (fun hc3 => ?_) | refine W.cond rfl (fun hc3 => ?_) (fun hc3 => ?_)
   ·skip
    have hAi : ¬ (atomsL n rs)[i]! = i := by omega
    refine W.seq ?_
    refine W.draw [⟨[], [], [], [105]⟩, ⟨[107], [107], [107], []⟩, ⟨[], [], [], []⟩, ⟨[107, 108], [107, 108], [108], []⟩, ⟨[], [], [], []⟩, ⟨[], [], [], []⟩, ⟨[], [], [], []⟩, ⟨[], [], [], []⟩, ⟨[], [], [], []⟩, ⟨[], [], [], []⟩, ⟨[], [], [], []⟩, ⟨[109], [109], [109], []⟩, ⟨[108, 109, 110], [108], [110], []⟩, ⟨[111], [111], [111], []⟩, ⟨[105, 111, 112], [105, 112], [112], []⟩, ⟨[], [], [], [112]⟩] rfl (by kernel_rfl) (by kernel_rfl) rfl rfl ?_
    refine WH.mv rfl rfl rfl ?_
    refine WH.memS (O.buildSlice 107 (rows := ([] : List Nat).map eN) rfl rfl Try.underlying32 hi3 hz3 hs3 (by decide) rfl (by decide) rfl rfl rfl Taken.no) rfl rfl rfl rfl rfl (S' := (107, .data 3 1 (([] : List Nat).map eN)) :: _) rfl ?_
    refine WH.mv rfl rfl rfl ?_
    refine WH.memS (O.app (k' := 108) rfl rfl (SlOf.fz rfl (by decide)) Try.underlying32 hi3 hz3 hs3 rfl rfl (by exact List.nil_append _) (by rw [hb3]; (simp only [List.length_map, List.length_nil]; omega)) (by (simp only [List.length_map, List.length_nil]; omega)) rfl Taken.no) rfl rfl rfl rfl rfl (S' := (108, _) :: (107, .dead) :: _) rfl ?_
    refine WH.mv rfl rfl rfl (WH.mv rfl rfl rfl (WH.mv rfl rfl rfl ?_))
    refine WH.val (O.idx_fz (i := i) rfl rfl (rfl) (row_get (by omega)) Try.underlying32 hi3 hs3 rfl Taken.no) rfl rfl ?_
    refine WH.val (O.ld1 (PtI.ofU (PtU.fz rfl)) rfl Try.underlying3 rfl rfl Taken.no) rfl rfl ?_
    refine WH.val (O.idx_fz (i := (atomsL n rs)[i]!) rfl rfl (rfl) (row_get (by omega)) Try.underlying32 hi3 hs3 rfl Taken.no) rfl rfl ?_
    refine WH.val (O.ld1 (PtI.ofU (PtU.fz rfl)) rfl Try.underlying3 rfl rfl Taken.no) rfl rfl ?_
    refine WH.memS (O.buildSlice 109 (rows := [((allR (atomsL n rs) i)[k]!)[(atomsL n rs)[i]!]!].map eN) rfl rfl Try.underlying32 hi3 hz3 hs3 (by decide) rfl (by decide) rfl rfl rfl Taken.no) rfl rfl rfl rfl rfl (S' := (109, .data 3 1 ([((allR (atomsL n rs) i)[k]!)[(atomsL n rs)[i]!]!].map eN)) :: _) rfl ?_
    refine WH.memS (OpOk.frz2 (O.app (k' := 110) rfl rfl (SlOf.own rfl rfl) Try.underlying32 hi3 hz3 hs3 rfl rfl (by exact app_map) (by rw [hb3]; (simp only [List.length_map, List.length_singleton]; omega)) (by (simp only [List.length_map, List.length_singleton]; omega)) rfl Taken.no)) rfl rfl rfl rfl rfl (S' := (108, .dead) :: _) rfl ?_
    refine WH.memS (O.buildSlice 111 (rows := [(allR (atomsL n rs) i)[k]! ++ [((allR (atomsL n rs) i)[k]!)[(atomsL n rs)[i]!]!]].map eL1) rfl rfl Try.underlying68 hi32 hz32 hs32 (by decide) rfl (by decide) rfl rfl rfl Taken.no) rfl rfl rfl rfl rfl (S' := (111, .data 32 1 ([(allR (atomsL n rs) i)[k]! ++ [((allR (atomsL n rs) i)[k]!)[(atomsL n rs)[i]!]!]].map eL1)) :: _) rfl ?_
    refine WH.memS (O.app (k' := 112) rfl rfl (SlOf.own rfl rfl) Try.underlying68 hi32 hz32 hs32 rfl rfl (by exact app_map) (by rw [hb32]; (simp only [List.length_map, List.length_singleton]; omega)) (by (simp only [List.length_map, List.length_singleton]; omega)) rfl Taken.no) rfl rfl rfl rfl rfl (S' := (112, _) :: (105, .dead) :: _) rfl ?_
    refine WH.val (O.assign rfl rfl Taken.no) rfl rfl ?_
    refine WH.nil (E.to ?_)
    refine W.pick (K:=[(1,_),(2,_),(3,_),(5,_),(6,_),(7,_),(8,_),(9,_)]) (Z:=[(101,_),(104,_),(109,_),(111,_),(112,_)]) ⟨rfl,rfl,rfl,rfl,rfl,rfl,rfl,rfl,trivial⟩ ⟨rfl,rfl,rfl,rfl,rfl,trivial⟩ ?_
    refine W.exit (E.th (E.hit (E.to (W.region (SL.mv rfl rfl ?_)))))
    refine SL.val (O.det (fun _ => by first | exact G.R.add64 rfl rfl (by omega) | exact G.R.add rfl rfl) rfl Taken.no) ?_
    refine SL.an rfl rfl (SL.nil ?_)
    refine E.again ((k + 1)) (rn [(105, 112)]) ?_ ?_ rfl (fixL_spec rfl) ?_ ?_
    · exact (SubF.cons rfl (SubF.cons rfl (SubF.cons rfl (SubF.cons rfl (SubF.cons rfl (SubF.cons rfl (SubF.cons rfl SubF.nil)))))))
    · exact (SubS.val rfl (by (try dsimp only); first | exact sb_data (by rw [flat_s hkl, stepA_n hAi]) | exact sb_data (by rw [flat_s hkl, stepA_y hAi, show c = i + 1 by omega])) (SubS.cons rfl (SubS.cons rfl SubS.nil)))
    ·try dsimp only
     omega
    · (try dsimp only); omega
   have hAi : (atomsL n rs)[i]! = i := by omega
   refine W.skip (E.to (W.rg (SL.an rfl rfl (E.fo (W.block ?_)))))
   refine W.loopx1 (fun (c : Nat) => [(10, vI (c : Int)), (7, .own 113)]) (fun (c : Nat) => [(113, .data 32 1 (((((allR (atomsL n rs) i).take k).flatMap (stepA (atomsL n rs) i)) ++ chQ i (allR (atomsL n rs) i)[k]! c).map eL1))]) (fun (c : Nat) => c ≤ i + 1) (fun (c : Nat) => i + 1 - c) (0) (rn [(113, 105)]) (.cons (t := 1) rfl (.cons (t := 2) rfl (.cons (t := 3) rfl (.cons (t := 5) rfl (.cons (t := 6) rfl (.cons (t := 8) rfl (.cons (t := 9) rfl .nil))))))) (.cons (t := 101) rfl (.cons (t := 104) rfl .nil)) rfl ?_ ?_ rfl rfl ?_ ?_
   · exact (SubF.cons rfl (SubF.cons rfl SubF.nil))
   · exact (SubS.val rfl (by exact sb_data (by show _ = List.map eL1 (_ ++ []); rw [List.append_nil])) SubS.nil)
   ·skip
    omega
   intro c hinv
   have hc := hinv
   have hcl := chQ_le i c (allR (atomsL n rs) i)[k]!
   refine W.seq (W.rg (SL.mv rfl rfl (SL.mv rfl rfl ?_)))
   refine SL.val (O.det (fun _ => G.R.leq rfl rfl) rfl Taken.no) ?_
   refine E.fo ?_
   first | refine W.cond_d rfl (fun hc4 => ?_) (fun hc4 => ?_) | refine W.cond_nd rfl (fun hc4 => ?_) (fun hc4 => ?_) | refine W.cond rfl (fun hc4 => ?_) (fun hc4 => ?_)
   ·skip
    refine W.skip (E.to (W.seq (W.block (W.rg (SL.mv rfl rfl (SL.mv rfl rfl ?_))))))
    refine SL.val (O.det (fun _ => G.R.eql rfl rfl) rfl Taken.no) ?_
    refine SL.mv rfl rfl ?_
    refine SL.case (j := 3) (g := 65) (want := false) rfl rfl (fun hg5 => ?_) (fun hg5 => ?_)
    ·skip
     first | have hg5p := G.gA3 hg5 | have hg5p := G.gA4 hg5 | have hg5p := hg5
     refine SL.val (O.move rfl rfl (Taken.yes rfl rfl hg5)) ?_
     refine SL.val (O.move rfl rfl (Taken.yes rfl rfl hg5)) ?_
     refine SL.val (O.idx_fz (i := c) rfl rfl (rfl) (row_get (by omega)) Try.underlying32 hi3 hs3 rfl (Taken.yes rfl rfl hg5)) ?_
     refine SL.val (O.ld1 (PtI.ofU (PtU.fz rfl)) rfl Try.underlying3 rfl rfl (Taken.yes rfl rfl hg5)) ?_
     refine SL.val (O.move rfl rfl (Taken.yes rfl rfl hg5)) ?_
     refine SL.val (O.det (fun _ => G.R.eql rfl rfl) rfl (Taken.yes rfl rfl hg5)) ?_
     refine SL.val (O.pick_f rfl hg5 rfl rfl Taken.no) ?_
     refine E.fo ?_
     first | refine W.cond_d rfl (fun hc6 => ?_) (fun hc6 => ?_) | refine W.cond_nd rfl (fun hc6 => ?_) (fun hc6 => ?_) | refine W.cond rfl (fun hc6 => ?_) (fun hc6 => ?_)
     ·skip
      have hQ : toQ i (allR (atomsL n rs) i)[k]! c = true := by first | exact decide_eq_true (.inl (by omega)) | exact decide_eq_true (.inr (by omega))
      refine W.region (SL.mv rfl rfl ?_)
      refine SL.memS (O.buildSlice 114 (rows := ([] : List Nat).map eN) rfl rfl Try.underlying32 hi3 hz3 hs3 (by decide) rfl (by decide) rfl rfl rfl Taken.no) rfl rfl (S' := (114, .data 3 1 (([] : List Nat).map eN)) :: _) rfl ?_
      refine SL.mv rfl rfl ?_
      refine SL.memS (O.app (k' := 115) rfl rfl (SlOf.fz rfl (by decide)) Try.underlying32 hi3 hz3 hs3 rfl rfl (by exact List.nil_append _) (by rw [hb3]; (simp only [List.length_map, List.length_nil]; omega)) (by (simp only [List.length_map, List.length_nil]; omega)) rfl Taken.no) rfl rfl (S' := (115, _) :: (114, .dead) :: _) rfl ?_
      refine SL.mv rfl rfl ?_
      refine SL.memS (O.buildSlice 116 (rows := [c].map eN) rfl rfl Try.underlying32 hi3 hz3 hs3 (by decide) rfl (by decide) rfl rfl rfl Taken.no) rfl rfl (S' := (116, .data 3 1 ([c].map eN)) :: _) rfl ?_
      refine SL.memS (O.app (k' := 117) rfl rfl (SlOf.own rfl rfl) Try.underlying32 hi3 hz3 hs3 rfl rfl (by exact app_map) (by rw [hb3]; (simp only [List.length_map, List.length_singleton]; omega)) (by (simp only [List.length_map, List.length_singleton]; omega)) rfl Taken.no) rfl rfl (S' := (117, _) :: (115, .dead) :: _) rfl ?_
      refine SL.freeze 117 rfl (F' := [(79, _)]) (⟨⟨_, rfl, rfl⟩, trivial⟩) ?_
      refine SL.memS (O.buildSlice 118 (rows := [(allR (atomsL n rs) i)[k]! ++ [c]].map eL1) rfl rfl Try.underlying68 hi32 hz32 hs32 (by decide) rfl (by decide) rfl rfl rfl Taken.no) rfl rfl (S' := (118, .data 32 1 ([(allR (atomsL n rs) i)[k]! ++ [c]].map eL1)) :: _) rfl ?_
      refine SL.memS (O.app (k' := 119) rfl rfl (SlOf.own rfl rfl) Try.underlying68 hi32 hz32 hs32 rfl rfl (by exact app_map) (by rw [hb32]; (simp only [List.length_map, List.length_singleton, List.length_append]; omega)) (by (simp only [List.length_map, List.length_singleton, List.length_append]; omega)) rfl Taken.no) rfl rfl (S' := (119, _) :: (113, .dead) :: _) rfl ?_
      refine SL.an rfl rfl (SL.nil (E.inn (E.to ?_)))
      refine W.pick (K:=[(1,_),(2,_),(3,_),(5,_),(6,_),(7,_),(8,_),(9,_),(10,_)]) (Z:=[(101,_),(104,_),(116,_),(118,_),(119,_)]) ⟨rfl,rfl,rfl,rfl,rfl,rfl,rfl,rfl,rfl,trivial⟩ ⟨rfl,rfl,rfl,rfl,rfl,trivial⟩ ?_
      refine W.region (SL.mv rfl rfl ?_)
      refine SL.val (O.det (fun _ => by first | exact G.R.add64 rfl rfl (by omega) | exact G.R.add rfl rfl) rfl Taken.no) ?_
      refine SL.an rfl rfl (SL.nil ?_)
      refine E.again ((c + 1)) (rn [(113, 119)]) ?_ ?_ rfl (fixL_spec rfl) ?_ ?_
      · exact (SubF.cons rfl (SubF.cons rfl (SubF.cons rfl (SubF.cons rfl (SubF.cons rfl (SubF.cons rfl (SubF.cons rfl (SubF.cons rfl (SubF.cons rfl SubF.nil)))))))))
      · exact (SubS.val rfl (by (try dsimp only); first | exact sb_data (by rw [chQ_y hQ, ← List.append_assoc]) | exact sb_data (by rw [chQ_no hQ]) | exact sb_data (by rw [chQ_y (decide_eq_true (.inl (by omega))), ← List.append_assoc])) (SubS.cons rfl (SubS.cons rfl SubS.nil)))
      ·try dsimp only
       omega
      · (try dsimp only); omega
     have hQ : toQ i (allR (atomsL n rs) i)[k]! c = false := decide_eq_false (fun q => by omega)
     refine W.skip (E.inn (E.to (W.region (SL.mv rfl rfl ?_))))
     refine SL.val (O.det (fun _ => by first | exact G.R.add64 rfl rfl (by omega) | exact G.R.add rfl rfl) rfl Taken.no) ?_
     refine SL.an rfl rfl (SL.nil ?_)
     refine E.again ((c + 1)) (rn []) ?_ ?_ rfl (fixL_spec rfl) ?_ ?_
     · exact (SubF.cons rfl (SubF.cons rfl (SubF.cons rfl (SubF.cons rfl (SubF.cons rfl (SubF.cons rfl (SubF.cons rfl (SubF.cons rfl (SubF.cons rfl SubF.nil)))))))))
     · exact (SubS.val rfl (by (try dsimp only); first | exact sb_data (by rw [chQ_y hQ, ← List.append_assoc]) | exact sb_data (by rw [chQ_no hQ]) | exact sb_data (by rw [chQ_y (decide_eq_true (.inl (by omega))), ← List.append_assoc])) (SubS.cons rfl (SubS.cons rfl SubS.nil)))
     ·try dsimp only
      omega
     · (try dsimp only); omega
    first | have hg5p := G.gA7 hg5 | have hg5p := G.gA8 hg5 | have hg5p := hg5
    refine SL.sk rfl rfl rfl hg5 (SL.sk rfl rfl rfl hg5 (SL.sk rfl rfl rfl hg5 (SL.sk rfl rfl rfl hg5 (SL.sk rfl rfl rfl hg5 (SL.sk rfl rfl rfl hg5 ?_)))))
    refine SL.val (O.pick_t rfl (G.ne_f hg5) rfl rfl Taken.no) ?_
    refine E.fo ?_
    refine W.cond_t rfl ?_
    refine W.region (SL.mv rfl rfl ?_)
    refine SL.memS (O.buildSlice 120 (rows := ([] : List Nat).map eN) rfl rfl Try.underlying32 hi3 hz3 hs3 (by decide) rfl (by decide) rfl rfl rfl Taken.no) rfl rfl (S' := (120, .data 3 1 (([] : List Nat).map eN)) :: _) rfl ?_
    refine SL.mv rfl rfl ?_
    refine SL.memS (O.app (k' := 121) rfl rfl (SlOf.fz rfl (by decide)) Try.underlying32 hi3 hz3 hs3 rfl rfl (by exact List.nil_append _) (by rw [hb3]; (simp only [List.length_map, List.length_nil]; omega)) (by (simp only [List.length_map, List.length_nil]; omega)) rfl Taken.no) rfl rfl (S' := (121, _) :: (120, .dead) :: _) rfl ?_
    refine SL.mv rfl rfl ?_
    refine SL.memS (O.buildSlice 122 (rows := [c].map eN) rfl rfl Try.underlying32 hi3 hz3 hs3 (by decide) rfl (by decide) rfl rfl rfl Taken.no) rfl rfl (S' := (122, .data 3 1 ([c].map eN)) :: _) rfl ?_
    refine SL.memS (O.app (k' := 123) rfl rfl (SlOf.own rfl rfl) Try.underlying32 hi3 hz3 hs3 rfl rfl (by exact app_map) (by rw [hb3]; (simp only [List.length_map, List.length_singleton]; omega)) (by (simp only [List.length_map, List.length_singleton]; omega)) rfl Taken.no) rfl rfl (S' := (123, _) :: (121, .dead) :: _) rfl ?_
    refine SL.freeze 123 rfl (F' := [(79, _)]) (⟨⟨_, rfl, rfl⟩, trivial⟩) ?_
    refine SL.memS (O.buildSlice 124 (rows := [(allR (atomsL n rs) i)[k]! ++ [c]].map eL1) rfl rfl Try.underlying68 hi32 hz32 hs32 (by decide) rfl (by decide) rfl rfl rfl Taken.no) rfl rfl (S' := (124, .data 32 1 ([(allR (atomsL n rs) i)[k]! ++ [c]].map eL1)) :: _) rfl ?_
    refine SL.memS (O.app (k' := 125) rfl rfl (SlOf.own rfl rfl) Try.underlying68 hi32 hz32 hs32 rfl rfl (by exact app_map) (by rw [hb32]; (simp only [List.length_map, List.length_singleton, List.length_append]; omega)) (by (simp only [List.length_map, List.length_singleton, List.length_append]; omega)) rfl Taken.no) rfl rfl (S' := (125, _) :: (113, .dead) :: _) rfl ?_
    refine SL.an rfl rfl (SL.nil (E.inn (E.to ?_)))
    refine W.pick (K:=[(1,_),(2,_),(3,_),(5,_),(6,_),(7,_),(8,_),(9,_),(10,_)]) (Z:=[(101,_),(104,_),(122,_),(124,_),(125,_)]) ⟨rfl,rfl,rfl,rfl,rfl,rfl,rfl,rfl,rfl,trivial⟩ ⟨rfl,rfl,rfl,rfl,rfl,trivial⟩ ?_
    refine W.region (SL.mv rfl rfl ?_)
    refine SL.val (O.det (fun _ => by first | exact G.R.add64 rfl rfl (by omega) | exact G.R.add rfl rfl) rfl Taken.no) ?_
    refine SL.an rfl rfl (SL.nil ?_)
    refine E.again ((c + 1)) (rn [(113, 125)]) ?_ ?_ rfl (fixL_spec rfl) ?_ ?_
    · exact (SubF.cons rfl (SubF.cons rfl (SubF.cons rfl (SubF.cons rfl (SubF.cons rfl (SubF.cons rfl (SubF.cons rfl (SubF.cons rfl (SubF.cons rfl SubF.nil)))))))))
    · exact (SubS.val rfl (by (try dsimp only); first | exact sb_data (by rw [chQ_y hQ, ← List.append_assoc]) | exact sb_data (by rw [chQ_no hQ]) | exact sb_data (by rw [chQ_y (decide_eq_true (.inl (by omega))), ← List.append_assoc])) (SubS.cons rfl (SubS.cons rfl SubS.nil)))
    ·try dsimp only
     omega
    · (try dsimp only); omega
   refine W.exit (E.th (E.th (E.hit (E.inn (E.to (W.region (SL.mv rfl rfl ?_)))))))
   refine SL.val (O.det (fun _ => by first | exact G.R.add64 rfl rfl (by omega) | exact G.R.add rfl rfl) rfl Taken.no) ?_
   refine SL.an rfl rfl (SL.nil ?_)
   refine E.again ((k + 1)) (rn [(105, 113)]) ?_ ?_ rfl (fixL_spec rfl) ?_ ?_
   · exact (SubF.cons rfl (SubF.cons rfl (SubF.cons rfl (SubF.cons rfl (SubF.cons rfl (SubF.cons rfl (SubF.cons rfl SubF.nil)))))))
   · exact (SubS.val rfl (by (try dsimp only); first | exact sb_data (by rw [flat_s hkl, stepA_n hAi]) | exact sb_data (by rw [flat_s hkl, stepA_y hAi, show c = i + 1 by omega])) (SubS.cons rfl (SubS.cons rfl SubS.nil)))
   ·try dsimp only
    omega
   · (try dsimp only); omega
  refine W.exit (E.th (E.th (E.hit (E.to (W.region (SL.mv rfl rfl (SL.an rfl rfl (SL.nil (E.inn (E.to (W.region (SL.mv rfl rfl ?_))))))))))))
  refine SL.val (O.det (fun _ => by first | exact G.R.add64 rfl rfl (by omega) | exact G.R.add rfl rfl) rfl Taken.no) ?_
  refine SL.an rfl rfl (SL.nil ?_)
  refine E.again ((i + 1)) (rn [(104, 105)]) ?_ ?_ rfl (fixL_spec rfl) ?_ ?_
  · exact (SubF.cons rfl (SubF.cons rfl (SubF.cons rfl (SubF.cons rfl (SubF.cons rfl SubF.nil)))))
  · exact (SubS.val rfl (by (try dsimp only); exact sb_data (by rw [show k = (allR (atomsL n rs) i).length by omega, List.take_length]; rfl)) (SubS.cons rfl SubS.nil))
  ·try dsimp only
   omega
  · (try dsimp only); omega
 refine W.exit (E.th (E.th (E.hit (E.to (W.rg (SL.an rfl rfl (E.fo (W.seq (W.rg (SL.an rfl rfl (E.fo (W.block ?_))))))))))))
 refine W.adopt 11 127 32 1 (by decide) rfl rfl rfl ?_
 refine W.loopx1 (fun (q : Nat) => [(12, vI (q : Int)), (11, .own 126)]) (fun (q : Nat) => [(126, .data 32 1 ((((allR (atomsL n rs) i).take q).filter (permB n ps rs)).map eL1))]) (fun (q : Nat) => q ≤ (allR (atomsL n rs) i).length) (fun (q : Nat) => (allR (atomsL n rs) i).length - q) (0) (rn [(126, 127)]) (.cons (t := 1) rfl (.cons (t := 2) rfl (.cons (t := 5) rfl .nil))) (.cons (t := 101) rfl (.cons (t := 104) rfl .nil)) rfl ?_ ?_ rfl rfl ?_ ?_
 · exact (SubF.cons rfl (SubF.cons rfl SubF.nil))
 · exact (SubS.val rfl (by exact sb_data (by rw [List.take_zero]; rfl)) SubS.nil)
 ·skip
  omega
 intro q hinv
 have hq := hinv
 have hfl := List.length_filter_le (permB n ps rs) ((allR (atomsL n rs) i).take q)
 rw [List.length_take] at hfl
 refine W.seq (W.rg (SL.mv rfl rfl (SL.mv rfl rfl ?_)))
 refine SL.val (O.lenE (SlOf.own rfl rfl) (by first | exact List.length_map _ | rfl) Try.underlying68 rfl Taken.no) ?_
 refine SL.val (O.det (fun _ => G.R.lss rfl rfl) rfl Taken.no) ?_
 refine E.fo ?_
 first | refine W.cond_d rfl (fun hc7 => ?_) (fun hc7 => ?_) | refine W.cond_nd rfl (fun hc7 => ?_) (fun hc7 => ?_) | refine W.cond rfl (fun hc7 => ?_) (fun hc7 => ?_)
 ·skip
  refine W.skip (E.to (W.seq (W.block (W.seq ?_))))
  refine W.draw [⟨[101], [], [], []⟩, ⟨[], [], [], [104]⟩, ⟨[], [], [], []⟩, ⟨[104], [], [], []⟩, ⟨[104], [], [], []⟩, ⟨[], [], [], []⟩] rfl (by kernel_rfl) (by kernel_rfl) rfl rfl ?_
  refine WH.val (O.ldN (m := 3) (PtI.ref rfl rfl) (js := [_, _, _]) rfl (Nat.le_of_ble_eq_true rfl) Try.underlying25 rfl (by kernel_rfl) rfl Taken.no) rfl rfl ?_
  refine WH.mv rfl rfl rfl (WH.mv rfl rfl rfl ?_)
  refine WH.val (O.idx_own (i := q) rfl rfl rfl (rfl) (by rw [List.length_map]; omega) Try.underlying68 hi32 hs32 rfl Taken.no) rfl rfl ?_
  refine WH.val (O.ld1 (PtI.ofU (PtU.el rfl rfl (row_get (by omega)))) rfl Try.underlying32 rfl rfl Taken.no) rfl rfl ?_
  refine WH.val (O.callp rfl rfl rfl (refPermN_h (m := (allR (atomsL n rs) i)[q]!) hok) (.cons (ArgOk.aggU (.cons (ArgOk.same rfl) (.cons (ArgOk.same rfl) (.cons (ArgOk.same rfl) .nil)))) (.cons (ArgOk.same rfl) .nil)) hcallOk20 rfl Taken.no) rfl rfl ?_
  refine WH.nil (E.to ?_)
  first | refine W.cond_d rfl (fun hc8 => ?_) (fun hc8 => ?_) | refine W.cond_nd rfl (fun hc8 => ?_) (fun hc8 => ?_) | refine W.cond rfl (fun hc8 => ?_) (fun hc8 => ?_)
  ·skip
   have hP : permB n ps rs (allR (atomsL n rs) i)[q]! = true := by first | assumption | exact decide_eq_true (by assumption)
   refine W.region (SL.mv rfl rfl (SL.mv rfl rfl (SL.mv rfl rfl ?_)))
   refine SL.val (O.idx_own (i := q) rfl rfl rfl (rfl) (by rw [List.length_map]; omega) Try.underlying68 hi32 hs32 rfl Taken.no) ?_
   refine SL.val (O.ld1 (PtI.ofU (PtU.el rfl rfl (row_get (by omega)))) rfl Try.underlying32 rfl rfl Taken.no) ?_
   refine SL.memS (O.buildSlice 128 (rows := [(allR (atomsL n rs) i)[q]!].map eL1) rfl rfl Try.underlying68 hi32 hz32 hs32 (by decide) rfl (by decide) rfl rfl rfl Taken.no) rfl rfl (S' := (128, .data 32 1 ([(allR (atomsL n rs) i)[q]!].map eL1)) :: _) rfl ?_
   refine SL.memS (O.app (k' := 129) rfl rfl (SlOf.own rfl rfl) Try.underlying68 hi32 hz32 hs32 rfl rfl (by exact app_map) (by rw [hb32]; (simp only [List.length_map, List.length_singleton]; omega)) (by (simp only [List.length_map, List.length_singleton]; omega)) rfl Taken.no) rfl rfl (S' := (129, _) :: (126, .dead) :: _) rfl ?_
   refine SL.an rfl rfl (SL.nil (E.inn (E.to (W.region (SL.mv rfl rfl ?_)))))
   refine SL.val (O.det (fun _ => by first | exact G.R.add64 rfl rfl (by omega) | exact G.R.add rfl rfl) rfl Taken.no) ?_
   refine SL.an rfl rfl (SL.nil ?_)
   refine E.again ((q + 1)) (rn [(126, 129)]) ?_ ?_ rfl (fixL_spec rfl) ?_ ?_
   · exact (SubF.cons rfl (SubF.cons rfl (SubF.cons rfl (SubF.cons rfl (SubF.cons rfl SubF.nil)))))
   · exact (SubS.val rfl (by (try dsimp only); first | exact sb_data (by rw [filt_s (by omega), if_pos hP]) | exact sb_data (by rw [filt_s (by omega), if_neg (by rw [hP]; decide), List.append_nil])) (SubS.cons rfl (SubS.cons rfl SubS.nil)))
   ·try dsimp only
    omega
   · (try dsimp only); omega
  have hP : permB n ps rs (allR (atomsL n rs) i)[q]! = false := by first | assumption | exact decide_eq_false (by assumption)
  refine W.skip (E.inn (E.to (W.region (SL.mv rfl rfl ?_))))
  refine SL.val (O.det (fun _ => by first | exact G.R.add64 rfl rfl (by omega) | exact G.R.add rfl rfl) rfl Taken.no) ?_
  refine SL.an rfl rfl (SL.nil ?_)
  refine E.again ((q + 1)) (rn []) ?_ ?_ rfl (fixL_spec rfl) ?_ ?_
  · exact (SubF.cons rfl (SubF.cons rfl (SubF.cons rfl (SubF.cons rfl (SubF.cons rfl SubF.nil)))))
  · exact (SubS.val rfl (by (try dsimp only); first | exact sb_data (by rw [filt_s (by omega), if_pos hP]) | exact sb_data (by rw [filt_s (by omega), if_neg (by rw [hP]; decide), List.append_nil])) (SubS.cons rfl (SubS.cons rfl SubS.nil)))
  ·try dsimp only
   omega
  · (try dsimp only); omega
 refine W.exit (E.th (E.th (E.hit (E.to (W.rg (SL.mv rfl rfl (SL.an rfl rfl (E.fo (W.ret ?_)))))))))
 refine E.freeze 126 rfl (F' := [(2, _)]) (⟨⟨_, rfl, rfl⟩, trivial⟩) ?_
 refine E.fin (rs := [_]) (rn []) (.inl rfl) rfl (.cons (ResOne.tmp rfl) .nil) ?_ ?_ rfl (fixL_spec rfl)
 ·skip
  have hin : i = n := by omega
  rw [show q = (allR (atomsL n rs) i).length by omega, List.take_length, hin]; rfl
 · exact SubS.nil

set_option maxRecDepth 8000 in
theorem check34_ok {n : Nat} {ps : List Pr} {rs : List Ru} (hok : (Prob.mk (n : Int) ps rs).ok) (h8 : (selfs n (atomsL n rs)).length ≤ 8) :
    Con Try.prog 38 [vA [uI (n : Int), .sl 3 (ps.map ePr), .sl 3 (rs.map eRu)]] [] (vI 0) [] := by
 refine Con.enterL (n := 13) Try.func38 rfl rfl rfl (fun τ w ok vs hin => ?_)
 have hl0_1 := hin.lenA (i := 0) (j := 1) rfl rfl
 try rw [List.length_map] at hl0_1
 have hl0_2 := hin.lenA (i := 0) (j := 2) rfl rfl
 try rw [List.length_map] at hl0_2
 clear hin
 refine W.rg ?_
 refine SL.memS (O.box (is := [_, _, _]) 101 rfl rfl (by simp) rfl rfl Taken.no) rfl rfl (S' := (101, _) :: _) rfl ?_
 refine SL.an rfl rfl (E.fo (W.seq (W.rg ?_)))
 refine SL.val (O.ldN (m := 3) (PtI.ref rfl rfl) (js := [_, _, _]) rfl (Nat.le_of_ble_eq_true rfl) Try.underlying25 rfl (by kernel_rfl) rfl Taken.no) ?_
 refine SL.val (O.callp rfl rfl rfl (refvalid_h (N := (n : Int)) (ps := ps) (rs := rs)) (.cons (ArgOk.aggU (.cons (ArgOk.same rfl) (.cons (ArgOk.same rfl) (.cons (ArgOk.same rfl) .nil)))) .nil) hcallOk33 rfl Taken.no) ?_
 refine SL.as (i' := vI 0) 5 rfl (by rw [Prob.err_0 hok]) ?_
 refine SL.an rfl rfl (E.fo (W.rg (SL.mv rfl rfl ?_)))
 refine SL.val (O.det (fun _ => G.R.mv (G.R.neq rfl rfl) (congrArg Value.bool (decide_eq_false (by decide)))) rfl Taken.no) ?_
 refine E.fo ?_
 refine W.cond_f rfl ?_
 refine W.skip (E.to (W.seq (W.rg ?_)))
 refine SL.val (O.ldN (m := 3) (PtI.ref rfl rfl) (js := [_, _, _]) rfl (Nat.le_of_ble_eq_true rfl) Try.underlying25 rfl (by kernel_rfl) rfl Taken.no) ?_
 refine SL.val (O.callp rfl rfl rfl (names_h hok) (.cons (ArgOk.aggU (.cons (ArgOk.same rfl) (.cons (ArgOk.same rfl) (.cons (ArgOk.same rfl) .nil)))) .nil) hcallOk34 rfl Taken.no) ?_
 refine SL.val (O.lenE (SlOf.fz rfl (by decide)) (by first | exact List.length_map _ | rfl) Try.underlying32 rfl Taken.no) ?_
 refine SL.val (O.det (fun _ => G.R.mv (G.R.gtr rfl rfl) (congrArg Value.bool (decide_eq_false (by omega)))) rfl Taken.no) ?_
 refine E.fo ?_
 refine W.cond_f rfl ?_
 refine W.skip (E.to (W.rg (SL.an rfl rfl (E.fo (W.ret ?_)))))
 refine E.fin (rs := [_]) (rn []) (.inl rfl) rfl (.cons (ResOne.tmp rfl) .nil) ?_ ?_ rfl (fixL_spec rfl)
 ·skip
  rfl
 · exact SubS.nil

set_option maxRecDepth 8000 in
theorem check34_many {n : Nat} {ps : List Pr} {rs : List Ru} (hok : (Prob.mk (n : Int) ps rs).ok) (h8 : 8 < (selfs n (atomsL n rs)).length) :
    Con Try.prog 38 [vA [uI (n : Int), .sl 3 (ps.map ePr), .sl 3 (rs.map eRu)]] [] (vI 3) [] := by
 refine Con.enterL (n := 13) Try.func38 rfl rfl rfl (fun τ w ok vs hin => ?_)
 have hl0_1 := hin.lenA (i := 0) (j := 1) rfl rfl
 try rw [List.length_map] at hl0_1
 have hl0_2 := hin.lenA (i := 0) (j := 2) rfl rfl
 try rw [List.length_map] at hl0_2
 clear hin
 refine W.rg ?_
 refine SL.memS (O.box (is := [_, _, _]) 101 rfl rfl (by simp) rfl rfl Taken.no) rfl rfl (S' := (101, _) :: _) rfl ?_
 refine SL.an rfl rfl (E.fo (W.seq (W.rg ?_)))
 refine SL.val (O.ldN (m := 3) (PtI.ref rfl rfl) (js := [_, _, _]) rfl (Nat.le_of_ble_eq_true rfl) Try.underlying25 rfl (by kernel_rfl) rfl Taken.no) ?_
 refine SL.val (O.callp rfl rfl rfl (refvalid_h (N := (n : Int)) (ps := ps) (rs := rs)) (.cons (ArgOk.aggU (.cons (ArgOk.same rfl) (.cons (ArgOk.same rfl) (.cons (ArgOk.same rfl) .nil)))) .nil) hcallOk33 rfl Taken.no) ?_
 refine SL.as (i' := vI 0) 5 rfl (by rw [Prob.err_0 hok]) ?_
 refine SL.an rfl rfl (E.fo (W.rg (SL.mv rfl rfl ?_)))
 refine SL.val (O.det (fun _ => G.R.mv (G.R.neq rfl rfl) (congrArg Value.bool (decide_eq_false (by decide)))) rfl Taken.no) ?_
 refine E.fo ?_
 refine W.cond_f rfl ?_
 refine W.skip (E.to (W.seq (W.rg ?_)))
 refine SL.val (O.ldN (m := 3) (PtI.ref rfl rfl) (js := [_, _, _]) rfl (Nat.le_of_ble_eq_true rfl) Try.underlying25 rfl (by kernel_rfl) rfl Taken.no) ?_
 refine SL.val (O.callp rfl rfl rfl (names_h hok) (.cons (ArgOk.aggU (.cons (ArgOk.same rfl) (.cons (ArgOk.same rfl) (.cons (ArgOk.same rfl) .nil)))) .nil) hcallOk34 rfl Taken.no) ?_
 refine SL.val (O.lenE (SlOf.fz rfl (by decide)) (by first | exact List.length_map _ | rfl) Try.underlying32 rfl Taken.no) ?_
 refine SL.val (O.det (fun _ => G.R.mv (G.R.gtr rfl rfl) (congrArg Value.bool (decide_eq_true (by omega)))) rfl Taken.no) ?_
 refine E.fo ?_
 refine W.cond_t rfl ?_
 refine W.rg (SL.an rfl rfl (E.fo (W.ret (E.thr ?_))))
 refine E.fin (rs := [_]) (rn []) (.inl rfl) rfl (.cons (ResOne.tmp rfl) .nil) ?_ ?_ rfl (fixL_spec rfl)
 ·skip
  rfl
 · exact SubS.nil






set_option maxRecDepth 8000 in
theorem refCount_ok {n : Nat} {ps : List Pr} {rs : List Ru} (hok : (Prob.mk (n : Int) ps rs).ok) (h8 : (selfs n (atomsL n rs)).length ≤ 8) (hn9 : n ≤ 9) :
    Con Try.prog 17 [vA [uI (n : Int), .sl 3 (ps.map ePr), .sl 3 (rs.map eRu)]] [] (.tup [vI ((allL n ps rs).length : Int), vI 0]) [] := by
 have hf := hok.1
 refine Con.enterL (n := 13) Try.func17 rfl rfl rfl (fun τ w ok vs hin => ?_)
 have hl0_1 := hin.lenA (i := 0) (j := 1) rfl rfl
 try rw [List.length_map] at hl0_1
 have hl0_2 := hin.lenA (i := 0) (j := 2) rfl rfl
 try rw [List.length_map] at hl0_2
 clear hin
 refine W.rg ?_
 refine SL.memS (O.box (is := [_, _, _]) 101 rfl rfl (by simp) rfl rfl Taken.no) rfl rfl (S' := (101, _) :: _) rfl ?_
 refine SL.an rfl rfl (SL.an rfl rfl (E.fo (W.seq (W.rg ?_))))
 refine SL.val (O.ldN (m := 3) (PtI.ref rfl rfl) (js := [_, _, _]) rfl (Nat.le_of_ble_eq_true rfl) Try.underlying25 rfl (by kernel_rfl) rfl Taken.no) ?_
 refine SL.val (O.callp rfl rfl rfl (check34_ok hok h8) (.cons (ArgOk.aggU (.cons (ArgOk.same rfl) (.cons (ArgOk.same rfl) (.cons (ArgOk.same rfl) .nil)))) .nil) hcallOk38 rfl Taken.no) ?_
 refine SL.an rfl rfl (E.fo (W.rg (SL.mv rfl rfl ?_)))
 refine SL.val (O.det (fun _ => G.R.mv (G.R.neq rfl rfl) (congrArg Value.bool (decide_eq_false (by decide)))) rfl Taken.no) ?_
 refine E.fo ?_
 refine W.cond_f rfl ?_
 refine W.skip (E.to (W.rg ?_))
 refine SL.val (O.ldN (m := 3) (PtI.ref rfl rfl) (js := [_, _, _]) rfl (Nat.le_of_ble_eq_true rfl) Try.underlying25 rfl (by kernel_rfl) rfl Taken.no) ?_
 refine SL.val (O.callp rfl rfl rfl (refAll_h hok hn9) (.cons (ArgOk.aggU (.cons (ArgOk.same rfl) (.cons (ArgOk.same rfl) (.cons (ArgOk.same rfl) .nil)))) .nil) hcallOk39 rfl Taken.no) ?_
 refine SL.val (O.lenE (SlOf.fz rfl (by decide)) (by first | exact List.length_map _ | rfl) Try.underlying68 rfl Taken.no) ?_
 refine SL.an rfl rfl (SL.an rfl rfl (E.fo (W.ret ?_)))
 refine E.fin (rs := [_, _]) (rn []) (.inl rfl) rfl (.cons (ResOne.tmp rfl) (.cons (ResOne.tmp rfl) .nil)) ?_ ?_ rfl (fixL_spec rfl)
 ·skip
  rfl
 · exact SubS.nil

set_option maxRecDepth 8000 in
theorem refCount_many {n : Nat} {ps : List Pr} {rs : List Ru} (hok : (Prob.mk (n : Int) ps rs).ok) (h8 : 8 < (selfs n (atomsL n rs)).length) :
    Con Try.prog 17 [vA [uI (n : Int), .sl 3 (ps.map ePr), .sl 3 (rs.map eRu)]] [] (.tup [vI 0, vI 3]) [] := by
 refine Con.enterL (n := 13) Try.func17 rfl rfl rfl (fun τ w ok vs hin => ?_)
 have hl0_1 := hin.lenA (i := 0) (j := 1) rfl rfl
 try rw [List.length_map] at hl0_1
 have hl0_2 := hin.lenA (i := 0) (j := 2) rfl rfl
 try rw [List.length_map] at hl0_2
 clear hin
 refine W.rg ?_
 refine SL.memS (O.box (is := [_, _, _]) 101 rfl rfl (by simp) rfl rfl Taken.no) rfl rfl (S' := (101, _) :: _) rfl ?_
 refine SL.an rfl rfl (SL.an rfl rfl (E.fo (W.seq (W.rg ?_))))
 refine SL.val (O.ldN (m := 3) (PtI.ref rfl rfl) (js := [_, _, _]) rfl (Nat.le_of_ble_eq_true rfl) Try.underlying25 rfl (by kernel_rfl) rfl Taken.no) ?_
 refine SL.val (O.callp rfl rfl rfl (check34_many hok h8) (.cons (ArgOk.aggU (.cons (ArgOk.same rfl) (.cons (ArgOk.same rfl) (.cons (ArgOk.same rfl) .nil)))) .nil) hcallOk38 rfl Taken.no) ?_
 refine SL.an rfl rfl (E.fo (W.rg (SL.mv rfl rfl ?_)))
 refine SL.val (O.det (fun _ => G.R.mv (G.R.neq rfl rfl) (congrArg Value.bool (decide_eq_true (by decide)))) rfl Taken.no) ?_
 refine E.fo ?_
 refine W.cond_t rfl ?_
 refine W.rg (SL.mv rfl rfl (SL.an rfl rfl (SL.an rfl rfl (E.fo (W.ret (E.thr ?_))))))
 refine E.fin (rs := [_, _]) (rn []) (.inl rfl) rfl (.cons (ResOne.tmp rfl) (.cons (ResOne.tmp rfl) .nil)) ?_ ?_ rfl (fixL_spec rfl)
 ·skip
  rfl
 · exact SubS.nil







set_option maxRecDepth 8000 in
theorem few34_ok {n : Nat} {ps : List Pr} {rs : List Ru} (hok : (Prob.mk (n : Int) ps rs).ok) :
    Con Try.prog 10 [vA [uI (n : Int), .sl 3 (ps.map ePr), .sl 3 (rs.map eRu)]] [] (vB (decide ((((n : Int) ≤ 9 ∨ 200 < (n : Int)) ∧ ps.length ≤ 40 ∧ (rs.length ≤ 12 ∨ rs.length = 401)) ∧ ((selfs n (atomsL n rs)).length ≤ 6 ∨ 8 < (selfs n (atomsL n rs)).length)))) [] := by
 refine Con.enterL (n := 19) Try.func10 rfl rfl rfl (fun τ w ok vs hin => ?_)
 have hl0_1 := hin.lenA (i := 0) (j := 1) rfl rfl
 try rw [List.length_map] at hl0_1
 have hl0_2 := hin.lenA (i := 0) (j := 2) rfl rfl
 try rw [List.length_map] at hl0_2
 clear hin
 refine W.rg ?_
 refine SL.memS (O.box (is := [_, _, _]) 101 rfl rfl (by simp) rfl rfl Taken.no) rfl rfl (S' := (101, _) :: _) rfl ?_
 refine SL.an rfl rfl (E.fo (W.seq (W.rg ?_)))
 refine SL.val (O.ldN (m := 3) (PtI.ref rfl rfl) (js := [_, _, _]) rfl (Nat.le_of_ble_eq_true rfl) Try.underlying25 rfl (by kernel_rfl) rfl Taken.no) ?_
 refine SL.val (O.callp rfl rfl rfl (few_h (N := (n : Int)) (ps := ps) (rs := rs)) (.cons (ArgOk.aggU (.cons (ArgOk.same rfl) (.cons (ArgOk.same rfl) (.cons (ArgOk.same rfl) .nil)))) .nil) hcallOk32 rfl Taken.no) ?_
 refine SL.val (O.det (fun _ => G.R.not rfl) rfl Taken.no) ?_
 refine E.fo ?_
 first | refine W.cond_d rfl (fun hc1 => ?_) (fun hc1 => ?_) | refine W.cond_nd rfl (fun hc1 => ?_) (fun hc1 => ?_) | refine W.cond rfl (fun hc1 => ?_) (fun hc1 => ?_)
 ·skip
  refine W.rg (SL.an rfl rfl (E.fo (W.ret (E.thr ?_))))
  refine E.fin (rs := [_]) (rn []) (.inl rfl) rfl (.cons (ResOne.tmp rfl) .nil) ?_ ?_ rfl (fixL_spec rfl)
  ·skip
   first | exact iv_bool (dec_f (by omega)) | exact iv_bool (dec_t (by omega)) | exact iv_bool (dec_iff (by omega))
  · exact SubS.nil
 refine W.skip (E.to (W.rg (SL.an rfl rfl (E.fo (W.seq (W.rg ?_))))))
 refine SL.val (O.ldN (m := 3) (PtI.ref rfl rfl) (js := [_, _, _]) rfl (Nat.le_of_ble_eq_true rfl) Try.underlying25 rfl (by kernel_rfl) rfl Taken.no) ?_
 refine SL.val (O.callp rfl rfl rfl (refvalid_h (N := (n : Int)) (ps := ps) (rs := rs)) (.cons (ArgOk.aggU (.cons (ArgOk.same rfl) (.cons (ArgOk.same rfl) (.cons (ArgOk.same rfl) .nil)))) .nil) hcallOk33 rfl Taken.no) ?_
 refine SL.as (i' := vI 0) 8 rfl (by rw [Prob.err_0 hok]) ?_
 refine SL.val (O.det (fun _ => G.R.mv (G.R.eql rfl rfl) (congrArg Value.bool (decide_eq_true (by rfl)))) rfl Taken.no) ?_
 refine E.fo ?_
 refine W.cond_t rfl ?_
 refine W.region ?_
 refine SL.val (O.ldN (m := 3) (PtI.ref rfl rfl) (js := [_, _, _]) rfl (Nat.le_of_ble_eq_true rfl) Try.underlying25 rfl (by kernel_rfl) rfl Taken.no) ?_
 refine SL.val (O.callp rfl rfl rfl (names_h hok) (.cons (ArgOk.aggU (.cons (ArgOk.same rfl) (.cons (ArgOk.same rfl) (.cons (ArgOk.same rfl) .nil)))) .nil) hcallOk34 rfl Taken.no) ?_
 refine SL.val (O.lenE (SlOf.fz rfl (by decide)) (by first | exact List.length_map _ | rfl) Try.underlying32 rfl Taken.no) ?_
 refine SL.an rfl rfl (E.fo (W.rg (SL.mv rfl rfl ?_)))
 refine SL.val (O.det (fun _ => G.R.leq rfl rfl) rfl Taken.no) ?_
 refine SL.mv rfl rfl ?_
 refine SL.case (j := 2) (g := 15) (want := false) rfl rfl (fun hg2 => ?_) (fun hg2 => ?_)
 ·skip
  first | have hg2p := G.gA3 hg2 | have hg2p := G.gA4 hg2 | have hg2p := hg2
  refine SL.val (O.move rfl rfl (Taken.yes rfl rfl hg2)) ?_
  refine SL.val (O.det (fun _ => G.R.gtr rfl rfl) rfl (Taken.yes rfl rfl hg2)) ?_
  refine SL.val (O.pick_f rfl hg2 rfl rfl Taken.no) ?_
  refine SL.an rfl rfl (E.fo (W.ret ?_))
  refine E.fin (rs := [_]) (rn []) (.inl rfl) rfl (.cons (ResOne.tmp rfl) .nil) ?_ ?_ rfl (fixL_spec rfl)
  ·skip
   first | exact iv_bool (dec_f (by omega)) | exact iv_bool (dec_t (by omega)) | exact iv_bool (dec_iff (by omega))
  · exact SubS.nil
 first | have hg2p := G.gA7 hg2 | have hg2p := G.gA8 hg2 | have hg2p := hg2
 refine SL.sk rfl rfl rfl hg2 (SL.sk rfl rfl rfl hg2 ?_)
 refine SL.val (O.pick_t rfl (G.ne_f hg2) rfl rfl Taken.no) ?_
 refine SL.an rfl rfl (E.fo (W.ret ?_))
 refine E.fin (rs := [_]) (rn []) (.inl rfl) rfl (.cons (ResOne.tmp rfl) .nil) ?_ ?_ rfl (fixL_spec rfl)
 ·skip
  first | exact iv_bool (dec_f (by omega)) | exact iv_bool (dec_t (by omega)) | exact iv_bool (dec_iff (by omega))
 · exact SubS.nil

set_option maxRecDepth 8000 in
theorem few34_bad {N : Int} {ps : List Pr} {rs : List Ru} (hok : ¬ (Prob.mk N ps rs).ok) :
    Con Try.prog 10 [vA [uI N, .sl 3 (ps.map ePr), .sl 3 (rs.map eRu)]] [] (vB (decide ((N ≤ 9 ∨ 200 < N) ∧ ps.length ≤ 40 ∧ (rs.length ≤ 12 ∨ rs.length = 401)))) [] := by
 have he : (Prob.mk N ps rs).err ≠ 0 := fun q => hok (Prob.err_iff.1 q)
 refine Con.enterL (n := 19) Try.func10 rfl rfl rfl (fun τ w ok vs hin => ?_)
 have hl0_1 := hin.lenA (i := 0) (j := 1) rfl rfl
 try rw [List.length_map] at hl0_1
 have hl0_2 := hin.lenA (i := 0) (j := 2) rfl rfl
 try rw [List.length_map] at hl0_2
 clear hin
 refine W.rg ?_
 refine SL.memS (O.box (is := [_, _, _]) 101 rfl rfl (by simp) rfl rfl Taken.no) rfl rfl (S' := (101, _) :: _) rfl ?_
 refine SL.an rfl rfl (E.fo (W.seq (W.rg ?_)))
 refine SL.val (O.ldN (m := 3) (PtI.ref rfl rfl) (js := [_, _, _]) rfl (Nat.le_of_ble_eq_true rfl) Try.underlying25 rfl (by kernel_rfl) rfl Taken.no) ?_
 refine SL.val (O.callp rfl rfl rfl (few_h (N := N) (ps := ps) (rs := rs)) (.cons (ArgOk.aggU (.cons (ArgOk.same rfl) (.cons (ArgOk.same rfl) (.cons (ArgOk.same rfl) .nil)))) .nil) hcallOk32 rfl Taken.no) ?_
 refine SL.val (O.det (fun _ => G.R.not rfl) rfl Taken.no) ?_
 refine E.fo ?_
 first | refine W.cond_d rfl (fun hc1 => ?_) (fun hc1 => ?_) | refine W.cond_nd rfl (fun hc1 => ?_) (fun hc1 => ?_) | refine W.cond rfl (fun hc1 => ?_) (fun hc1 => ?_)
 ·skip
  refine W.rg (SL.an rfl rfl (E.fo (W.ret (E.thr ?_))))
  refine E.fin (rs := [_]) (rn []) (.inl rfl) rfl (.cons (ResOne.tmp rfl) .nil) ?_ ?_ rfl (fixL_spec rfl)
  ·skip
   first | exact iv_bool (dec_f (by assumption)) | exact iv_bool (dec_t (by assumption)) | exact iv_bool (dec_iff (by omega))
  · exact SubS.nil
 refine W.skip (E.to (W.rg (SL.an rfl rfl (E.fo (W.seq (W.rg ?_))))))
 refine SL.val (O.ldN (m := 3) (PtI.ref rfl rfl) (js := [_, _, _]) rfl (Nat.le_of_ble_eq_true rfl) Try.underlying25 rfl (by kernel_rfl) rfl Taken.no) ?_
 refine SL.val (O.callp rfl rfl rfl (refvalid_h (N := N) (ps := ps) (rs := rs)) (.cons (ArgOk.aggU (.cons (ArgOk.same rfl) (.cons (ArgOk.same rfl) (.cons (ArgOk.same rfl) .nil)))) .nil) hcallOk33 rfl Taken.no) ?_
 refine SL.val (O.det (fun _ => G.R.mv (G.R.eql rfl rfl) (congrArg Value.bool (decide_eq_false (by exact he)))) rfl Taken.no) ?_
 refine E.fo ?_
 refine W.cond_f rfl ?_
 refine W.skip (E.to (W.rg (SL.mv rfl rfl ?_)))
 refine SL.val (O.det (fun _ => G.R.mv (G.R.leq rfl rfl) (congrArg Value.bool (decide_eq_true (by decide)))) rfl Taken.no) ?_
 refine SL.mv rfl rfl ?_
 have hg2 : true ≠ false := by decide
 refine SL.sk rfl rfl rfl hg2 (SL.sk rfl rfl rfl hg2 ?_)
 refine SL.val (O.pick_t rfl rfl rfl rfl Taken.no) ?_
 refine SL.an rfl rfl (E.fo (W.ret ?_))
 refine E.fin (rs := [_]) (rn []) (.inl rfl) rfl (.cons (ResOne.tmp rfl) .nil) ?_ ?_ rfl (fixL_spec rfl)
 ·skip
  first | exact iv_bool (dec_f (by assumption)) | exact iv_bool (dec_t (by assumption)) | exact iv_bool (dec_iff (by omega))
 · exact SubS.nil

end Go.Proofs.Ytbkbeplddddgeaa
end
section
namespace Go.D33
open Go Go.RowKit Go.H
theorem ex_8 : (selfs 3 (atomsL 3 [])).length ≤ 8 := by decide +kernel
theorem ex_b : (stB 3 exP []).best = [0, 0, 2] ∧ (stB 3 exP []).most = 5 := by decide +kernel
theorem ex_bd : bndL [] (atomsL 3 []) exP = 9 := by decide +kernel
theorem ex_c : (allL 3 exP []).length = 4 := by decide +kernel
theorem lexB_irr : ∀ a : List Nat, lexB a a = false
  | [] => rfl
  | x :: a => by rw [lexB, if_pos rfl]; exact lexB_irr a
theorem lexB_trans : ∀ {a b c : List Nat}, lexB a b = true → lexB b c = true → lexB a c = true
  | [], _, _, h, _ => by simp [lexB] at h
  | _ :: _, [], _, h, _ => by simp [lexB] at h
  | _ :: _, _ :: _, [], _, h => by simp [lexB] at h
  | x :: a, y :: b, z :: c, h1, h2 => by
    rw [lexB] at h1 h2 ⊢
    by_cases e1 : x = y
    · rw [if_pos e1] at h1
      by_cases e2 : y = z
      · rw [if_pos e2] at h2; rw [if_pos (e1.trans e2)]; exact lexB_trans h1 h2
      · rw [if_neg e2] at h2; rw [if_neg (by omega), e1]; exact h2
    · rw [if_neg e1] at h1
      have q1 := of_decide_eq_true h1
      by_cases e2 : y = z
      · rw [if_neg (by omega)]; exact decide_eq_true (by omega)
      · rw [if_neg e2] at h2
        have q2 := of_decide_eq_true h2
        rw [if_neg (by omega)]; exact decide_eq_true (by omega)
def GEs (ps : List Pr) (s : BS) (m : List Nat) : Prop := valR m ps ≤ s.most ∧ (valR m ps = s.most → lexB m s.best = false)
def wfS (n : Nat) (ps : List Pr) (s : BS) : Prop := s.any = true ∧ s.best.length = n ∧ s.most = valR s.best ps
theorem bsF_ge {n : Nat} {ps : List Pr} {s : BS} {x : List Nat} (hs : wfS n ps s) (hx : x.length = n) : wfS n ps (bsF ps s x) ∧ (∀ m, GEs ps s m → GEs ps (bsF ps s x) m) ∧ GEs ps (bsF ps s x) x := by
  obtain ⟨h1, h2, h3⟩ := hs
  have el : x.length = s.best.length := by rw [hx, h2]
  unfold bsF
  by_cases hw : bsW ps s x = true
  · rw [if_pos hw]
    unfold bsW at hw
    rw [h1] at hw
    simp only [Bool.not_true, Bool.false_or, Bool.or_eq_true, Bool.and_eq_true, decide_eq_true_eq] at hw
    refine ⟨⟨rfl, hx, rfl⟩, fun m hm => ⟨?_, fun e => ?_⟩, ⟨Int.le_refl _, fun _ => lexB_irr x⟩⟩
    · show valR m ps ≤ valR x ps
      have := hm.1
      rcases hw with q | ⟨q, _⟩ <;> omega
    · have e : valR m ps = valR x ps := e
      show lexB m x = false
      rcases hw with q | ⟨q1, q2⟩
      · have := hm.1; omega
      · have q2 := (cmpL_lex el).1 q2
        cases hl : lexB m x with
        | false => rfl
        | true => have := hm.2 (by omega); rw [lexB_trans hl q2] at this; cases this
  · rw [if_neg hw]
    unfold bsW at hw
    rw [h1] at hw
    simp only [Bool.not_true, Bool.false_or, Bool.or_eq_true, Bool.and_eq_true, decide_eq_true_eq] at hw
    refine ⟨⟨h1, h2, h3⟩, fun _ h => h, ⟨?_, fun e => ?_⟩⟩
    · exact Int.not_lt.1 fun q => hw (.inl q)
    · cases hl : lexB x s.best with
      | false => rfl
      | true => exact absurd (.inr ⟨e, (cmpL_lex el).2 hl⟩) hw
theorem fold_ge {n : Nat} {ps : List Pr} : ∀ {l : List (List Nat)} {s : BS}, (∀ m ∈ l, m.length = n) → wfS n ps s → wfS n ps (l.foldl (bsF ps) s) ∧ (∀ m, GEs ps s m → GEs ps (l.foldl (bsF ps) s) m) ∧ ∀ m ∈ l, GEs ps (l.foldl (bsF ps) s) m
  | [], _, _, h => ⟨h, fun _ q => q, fun _ q => by cases q⟩
  | x :: l, s, hl, h => by
    obtain ⟨a1, a2, a3⟩ := bsF_ge h (hl x (by simp))
    obtain ⟨b1, b2, b3⟩ := fold_ge (l := l) (s := bsF ps s x) (fun m hm => hl m (by simp [hm])) a1
    refine ⟨b1, fun m hm => b2 m (a2 m hm), fun m hm => ?_⟩
    rcases List.mem_cons.1 hm with q | q
    · subst q; exact b2 m a3
    · exact b3 m q
section
variable {n : Nat} {ps : List Pr} {rs : List Ru}
theorem stB_spec (hok : (Prob.mk (n : Int) ps rs).ok) : (stB n ps rs).best ∈ allL n ps rs ∧ (stB n ps rs).most = valR (stB n ps rs).best ps ∧ ∀ m ∈ allL n ps rs, GEs ps (stB n ps rs) m := by
  have hf := hok.1
  have h0 : 0 < (allL n ps rs).length := List.length_pos_iff.2 (allL_ne hok)
  have hm := stK_mem (n := n) (ps := ps) (rs := rs) h0 h0
  rw [stK_n] at hm
  have hall : ∀ m ∈ allL n ps rs, m.length = n := fun m q => allL_len hf q
  unfold stB at hm ⊢
  refine ⟨hm, ?_⟩
  clear hm
  cases e : allL n ps rs with
  | nil => rw [e] at h0; simp at h0
  | cons x l =>
    have hx : x.length = n := hall x (by rw [e]; simp)
    obtain ⟨b1, b2, b3⟩ := fold_ge (ps := ps) (l := l) (s := ⟨true, valR x ps, x⟩) (fun m q => hall m (by rw [e]; simp [q])) ⟨rfl, hx, rfl⟩
    refine ⟨b1.2.2, fun m q => ?_⟩
    rcases List.mem_cons.1 q with z | z
    · subst z; exact b2 m ⟨Int.le_refl _, fun _ => lexB_irr m⟩
    · exact b3 m z
theorem stB_perm (hok : (Prob.mk (n : Int) ps rs).ok) : isP n (stB n ps rs).best ∧ permR n ps rs (stB n ps rs).best := (mem_allL hok.1).1 (stB_spec hok).1
theorem stB_ge (hok : (Prob.mk (n : Int) ps rs).ok) {m : List Nat} (h1 : isP n m) (h2 : permR n ps rs m) : GEs ps (stB n ps rs) m := (stB_spec hok).2.2 m ((mem_allL hok.1).2 ⟨h1, h2⟩)
end
end Go.D33
end
section
namespace Go.Proofs.Ytbkbeplddddgeaa
open Go Go.RowKit Go.H Go.D33

theorem hcallOk9 : G.callOk Try.prog 9 = true := by kernel_rfl
theorem hcallOk10 : G.callOk Try.prog 10 = true := by kernel_rfl
theorem hcallOk11 : G.callOk Try.prog 11 = true := by kernel_rfl
theorem hcallOk14 : G.callOk Try.prog 14 = true := by kernel_rfl
theorem hcallOk16 : G.callOk Try.prog 16 = true := by kernel_rfl
theorem hcallOk17 : G.callOk Try.prog 17 = true := by kernel_rfl

set_option maxRecDepth 8000 in
set_option maxHeartbeats 1600000 in
theorem awake34_h  :
    Con Try.prog 9 [] [] (vB true) [] := by
 obtain ⟨i3, hi3, hz3, hs3, hb3⟩ := hinf3
 obtain ⟨i61, hi61, hz61, hs61, hb61⟩ := hinf61
 refine Con.enterL (n := 57) Try.func9 rfl rfl rfl (fun τ w ok vs hin => ?_)
 clear hin
 refine W.rg (SL.an rfl rfl (E.fo (W.rg ?_)))
 refine SL.val (O.build (res := [_, _, _]) (z := .agg #[.int .i64 0, .int .i64 0, .int .i64 0]) (places := [(0, 1), (1, 1), (2, 1)]) rfl rfl Try.underlying61 (by kernel_rfl) (fun _ => by kernel_rfl) rfl rfl Taken.no) ?_
 refine SL.val (O.build (res := [_, _, _]) (z := .agg #[.int .i64 0, .int .i64 0, .int .i64 0]) (places := [(0, 1), (1, 1), (2, 1)]) rfl rfl Try.underlying61 (by kernel_rfl) (fun _ => by kernel_rfl) rfl rfl Taken.no) ?_
 refine SL.val (O.build (res := [_, _, _]) (z := .agg #[.int .i64 0, .int .i64 0, .int .i64 0]) (places := [(0, 1), (1, 1), (2, 1)]) rfl rfl Try.underlying61 (by kernel_rfl) (fun _ => by kernel_rfl) rfl rfl Taken.no) ?_
 refine SL.memS (O.buildSlice 101 (rows := exP.map ePr) rfl rfl Try.underlying28 hi61 hz61 hs61 (by decide) rfl (by decide) rfl rfl rfl Taken.no) rfl rfl (S' := (101, .data 61 3 (exP.map ePr)) :: _) rfl ?_
 refine SL.freeze 101 rfl (F' := [(12, _)]) (⟨⟨_, rfl, rfl⟩, trivial⟩) ?_
 refine SL.val (O.build (res := [_, _, _]) (z := .agg #[.int .i64 0, .slice none 0 0, .slice none 0 0]) (places := [(0, 1), (1, 1), (2, 1)]) rfl rfl Try.underlying30 (by kernel_rfl) (fun _ => by kernel_rfl) rfl rfl Taken.no) ?_
 refine SL.memS (O.alloc (z := .agg #[.int .i64 0, .slice none 0 0, .slice none 0 0]) (is := [.u (.sc (.int .i64 0)), .u (.sc (.slice none 0 0)), .u (.sc (.slice none 0 0))]) 102 (by kernel_rfl) rfl rfl rfl Taken.no) rfl rfl (S' := (102, _) :: _) rfl ?_
 refine SL.effS (O.st_ref (m := 3) rfl rfl rfl (js := [_, _, _]) rfl rfl (by kernel_rfl) (by simp) (Nat.le_of_ble_eq_true rfl) rfl (is' := [_, _, _]) rfl Taken.no) (S' := (102, _) :: _) rfl ?_
 refine E.fo (W.rg ?_)
 refine SL.val (O.ldN (m := 3) (PtI.ref rfl rfl) (js := [_, _, _]) rfl (Nat.le_of_ble_eq_true rfl) Try.underlying30 rfl (by kernel_rfl) rfl Taken.no) ?_
 refine SL.memS (O.call (rn []) [] rfl rfl rfl (bestC_ok ex_ok ex_8) (.cons (ArgOk.aggU (.cons (ArgOk.same rfl) (.cons (ArgOk.same rfl) (.cons ArgOk.nil .nil)))) .nil) SubS.nil rfl rfl rfl rfl rfl (.inl rfl) hcallOk12 (r' := .tup [.u _, .u _, .u _]) rfl rfl Taken.no) rfl rfl (S' := _) rfl ?_
 refine SL.as (i' := .tup [vL 1 (([0, 0, 2] : List Nat).map eN), vI 5, vI 0]) 16 rfl (by rw [ex_b.1, ex_b.2]) ?_
 refine SL.mv rfl rfl ?_
 refine SL.val (O.extract rfl rfl rfl Taken.no) ?_
 refine SL.val (O.extract rfl rfl rfl Taken.no) ?_
 refine SL.val (O.extract rfl rfl rfl Taken.no) ?_
 refine SL.an rfl rfl (SL.an rfl rfl (SL.an rfl rfl (E.fo (W.rg ?_))))
 refine SL.val (O.ldN (m := 3) (PtI.ref rfl rfl) (js := [_, _, _]) rfl (Nat.le_of_ble_eq_true rfl) Try.underlying30 rfl (by kernel_rfl) rfl Taken.no) ?_
 refine SL.memS (O.call (rn []) [] rfl rfl rfl (boundC_ok ex_ok (by decide)) (.cons (ArgOk.aggU (.cons (ArgOk.same rfl) (.cons (ArgOk.same rfl) (.cons ArgOk.nil .nil)))) .nil) SubS.nil rfl rfl rfl rfl rfl (.inl rfl) hcallOk14 (r' := .tup [.u _, .u _]) rfl rfl Taken.no) rfl rfl (S' := _) rfl ?_
 refine SL.as (i' := .tup [vI 9, vI 0]) 22 rfl (by rw [ex_bd]) ?_
 refine SL.mv rfl rfl ?_
 refine SL.val (O.extract rfl rfl rfl Taken.no) ?_
 refine SL.val (O.extract rfl rfl rfl Taken.no) ?_
 refine SL.an rfl rfl (SL.an rfl rfl (E.fo ?_))
 refine W.pick (K:=[(0,_),(1,_),(2,_),(3,_),(4,_),(5,_),(6,_)]) (Z:=[(102,_)]) ⟨rfl,rfl,rfl,rfl,rfl,rfl,rfl,trivial⟩ ⟨rfl,trivial⟩ ?_
 refine W.rg ?_
 refine SL.val (O.ldN (m := 3) (PtI.ref rfl rfl) (js := [_, _, _]) rfl (Nat.le_of_ble_eq_true rfl) Try.underlying30 rfl (by kernel_rfl) rfl Taken.no) ?_
 refine SL.memS (O.call (rn []) [] rfl rfl rfl (countC_ok ex_ok ex_8 (by rw [ex_c]; decide)) (.cons (ArgOk.aggU (.cons (ArgOk.same rfl) (.cons (ArgOk.same rfl) (.cons ArgOk.nil .nil)))) .nil) SubS.nil rfl rfl rfl rfl rfl (.inl rfl) hcallOk16 (r' := .tup [.u _, .u _]) rfl rfl Taken.no) rfl rfl (S' := _) rfl ?_
 refine SL.as (i' := .tup [vI 4, vI 0]) 27 rfl (by rw [ex_c]; rfl) ?_
 refine SL.mv rfl rfl ?_
 refine SL.val (O.extract rfl rfl rfl Taken.no) ?_
 refine SL.val (O.extract rfl rfl rfl Taken.no) ?_
 refine SL.an rfl rfl (SL.an rfl rfl (E.fo (W.rg (SL.mv rfl rfl ?_))))
 refine SL.val (O.det (fun _ => G.R.mv (G.R.eql rfl rfl) (congrArg Value.bool (decide_eq_true (by rfl)))) rfl Taken.no) ?_
 refine SL.mv rfl rfl ?_
 have hg1 : true = true := by decide
 refine SL.val (O.move rfl rfl (Taken.yes rfl rfl hg1)) ?_
 refine SL.val (O.det (fun _ => G.R.mv (G.R.eql rfl rfl) (congrArg Value.bool (decide_eq_true (by rfl)))) rfl (Taken.yes rfl rfl hg1)) ?_
 refine SL.val (O.pick_t rfl rfl rfl rfl Taken.no) ?_
 refine SL.mv rfl rfl ?_
 have hg2 : true = true := by decide
 refine SL.val (O.move rfl rfl (Taken.yes rfl rfl hg2)) ?_
 refine SL.val (O.det (fun _ => G.R.mv (G.R.eql rfl rfl) (congrArg Value.bool (decide_eq_true (by rfl)))) rfl (Taken.yes rfl rfl hg2)) ?_
 refine SL.val (O.pick_t rfl rfl rfl rfl Taken.no) ?_
 refine SL.mv rfl rfl ?_
 have hg3 : true = true := by decide
 refine SL.val (O.move rfl rfl (Taken.yes rfl rfl hg3)) ?_
 refine SL.val (O.det (fun _ => G.R.mv (G.R.eql rfl rfl) (congrArg Value.bool (decide_eq_true (by rfl)))) rfl (Taken.yes rfl rfl hg3)) ?_
 refine SL.val (O.pick_t rfl rfl rfl rfl Taken.no) ?_
 refine SL.mv rfl rfl ?_
 have hg4 : true = true := by decide
 refine SL.val (O.move rfl rfl (Taken.yes rfl rfl hg4)) ?_
 refine SL.val (O.det (fun _ => G.R.mv (G.R.eql rfl rfl) (congrArg Value.bool (decide_eq_true (by rfl)))) rfl (Taken.yes rfl rfl hg4)) ?_
 refine SL.val (O.pick_t rfl rfl rfl rfl Taken.no) ?_
 refine SL.mv rfl rfl ?_
 have hg5 : true = true := by decide
 refine SL.val (O.move rfl rfl (Taken.yes rfl rfl hg5)) ?_
 refine SL.val (O.det (fun _ => G.R.mv (G.R.eql rfl rfl) (congrArg Value.bool (decide_eq_true (by rfl)))) rfl (Taken.yes rfl rfl hg5)) ?_
 refine SL.val (O.pick_t rfl rfl rfl rfl Taken.no) ?_
 refine SL.mv rfl rfl ?_
 have hg6 : true = true := by decide
 refine SL.val (O.move rfl rfl (Taken.yes rfl rfl hg6)) ?_
 refine SL.memS (O.buildSlice 103 (rows := ([0, 0, 2] : List Nat).map eN) rfl rfl Try.underlying32 hi3 hz3 hs3 (by decide) rfl (by decide) rfl rfl rfl (Taken.yes rfl rfl hg6)) rfl rfl (S' := (103, .data 3 1 (([0, 0, 2] : List Nat).map eN)) :: _) rfl ?_
 refine SL.memS (O.call (rn []) [103] rfl rfl rfl (same_h (a := [0, 0, 2]) (b := [0, 0, 2])) (.cons (ArgOk.same rfl) (.cons (ArgOk.own rfl rfl) .nil)) SubS.nil rfl rfl rfl rfl rfl (.inr ⟨rfl, fun x hx => by simp at hx⟩) hcallOk18 (r' := .u _) rfl rfl (Taken.yes rfl rfl hg6)) rfl rfl (S' := _) rfl ?_
 refine SL.as (i' := vB true) 55 rfl (by exact iv_bool (dec_t rfl)) ?_
 refine SL.val (O.pick_t rfl rfl rfl rfl Taken.no) ?_
 refine SL.an rfl rfl (E.fo ?_)
 refine W.pick (K:=[(0,_)]) (Z:=[(102,_),(103,_)]) ⟨rfl,trivial⟩ ⟨rfl,rfl,trivial⟩ ?_
 refine W.ret ?_
 refine E.fin (rs := [_]) (rn []) (.inl rfl) rfl (.cons (ResOne.tmp rfl) .nil) ?_ ?_ rfl (fixL_spec rfl)
 ·skip
  rfl
 · exact SubS.nil











set_option maxRecDepth 8000 in
theorem valid34_y {n : Nat} {ps : List Pr} {rs : List Ru} (hok : (Prob.mk (n : Int) ps rs).ok) (hfew : ((n : Int) ≤ 9 ∨ 200 < (n : Int)) ∧ ps.length ≤ 40 ∧ (rs.length ≤ 12 ∨ rs.length = 401)) (h6 : (selfs n (atomsL n rs)).length ≤ 6) :
    Con Try.prog 19 [vA [uI (n : Int), .sl 3 (ps.map ePr), .sl 3 (rs.map eRu)]] [] (vB true) [] := by
 have hf := hok.1
 have hn2 : (n : Int) ≤ 200 := hf.2.1
 have hr4 : rs.length ≤ 400 := hf.2.2.1
 have hn9 : n ≤ 9 := by omega
 have h8 : (selfs n (atomsL n rs)).length ≤ 8 := by omega
 have hnm : (selfs n (atomsL n rs)).length ≤ 6 ∨ 8 < (selfs n (atomsL n rs)).length := by omega
 have hlb := allL_9 (ps := ps) (rs := rs) hn9
 refine Con.enterL (n := 20) Try.func19 rfl rfl rfl (fun τ w ok vs hin => ?_)
 have hl0_1 := hin.lenA (i := 0) (j := 1) rfl rfl
 try rw [List.length_map] at hl0_1
 have hl0_2 := hin.lenA (i := 0) (j := 2) rfl rfl
 try rw [List.length_map] at hl0_2
 clear hin
 refine W.rg ?_
 refine SL.memS (O.box (is := [_, _, _]) 101 rfl rfl (by simp) rfl rfl Taken.no) rfl rfl (S' := (101, _) :: _) rfl ?_
 refine SL.an rfl rfl (E.fo (W.seq (W.rg ?_)))
 refine SL.val (O.ldN (m := 3) (PtI.ref rfl rfl) (js := [_, _, _]) rfl (Nat.le_of_ble_eq_true rfl) Try.underlying25 rfl (by kernel_rfl) rfl Taken.no) ?_
 refine SL.val (O.callp rfl rfl rfl (few34_ok hok) (.cons (ArgOk.aggU (.cons (ArgOk.same rfl) (.cons (ArgOk.same rfl) (.cons (ArgOk.same rfl) .nil)))) .nil) hcallOk10 rfl Taken.no) ?_
 refine SL.as (i' := vB true) 6 rfl (by exact iv_bool (dec_t ⟨hfew, hnm⟩)) ?_
 refine SL.val (O.det (fun _ => G.R.mv (G.R.not rfl) rfl) rfl Taken.no) ?_
 refine SL.mv rfl rfl ?_
 have hg1 : false = false := by decide
 refine SL.val (O.ldN (m := 3) (PtI.ref rfl rfl) (js := [_, _, _]) rfl (Nat.le_of_ble_eq_true rfl) Try.underlying25 rfl (by kernel_rfl) rfl (Taken.yes rfl rfl hg1)) ?_
 refine SL.val (O.callp rfl rfl rfl (refvalid_h (N := (n : Int)) (ps := ps) (rs := rs)) (.cons (ArgOk.aggU (.cons (ArgOk.same rfl) (.cons (ArgOk.same rfl) (.cons (ArgOk.same rfl) .nil)))) .nil) hcallOk33 rfl (Taken.yes rfl rfl hg1)) ?_
 refine SL.as (i' := vI 0) 10 rfl (by rw [Prob.err_0 hok]) ?_
 refine SL.val (O.det (fun _ => G.R.mv (G.R.neq rfl rfl) (congrArg Value.bool (decide_eq_false (by decide)))) rfl (Taken.yes rfl rfl hg1)) ?_
 refine SL.val (O.pick_f rfl rfl rfl rfl Taken.no) ?_
 refine E.fo ?_
 refine W.cond_f rfl ?_
 refine W.skip (E.to (W.rg ?_))
 refine SL.val (O.ldN (m := 3) (PtI.ref rfl rfl) (js := [_, _, _]) rfl (Nat.le_of_ble_eq_true rfl) Try.underlying25 rfl (by kernel_rfl) rfl Taken.no) ?_
 refine SL.memS (O.call (rn []) [] rfl rfl rfl (refCount_ok hok h8 hn9) (.cons (ArgOk.aggU (.cons (ArgOk.same rfl) (.cons (ArgOk.same rfl) (.cons (ArgOk.same rfl) .nil)))) .nil) SubS.nil rfl rfl rfl rfl rfl (.inl rfl) hcallOk17 (r' := .tup [.u _, .u _]) rfl rfl Taken.no) rfl rfl (S' := _) rfl ?_
 refine SL.mv rfl rfl ?_
 refine SL.val (O.extract rfl rfl rfl Taken.no) ?_
 refine SL.val (O.extract rfl rfl rfl Taken.no) ?_
 refine SL.an rfl rfl (SL.an rfl rfl (E.fo (W.rg (SL.mv rfl rfl ?_))))
 refine SL.val (O.det (fun _ => G.R.mv (G.R.eql rfl rfl) (congrArg Value.bool (decide_eq_true (by rfl)))) rfl Taken.no) ?_
 refine SL.an rfl rfl (E.fo (W.ret ?_))
 refine E.fin (rs := [_]) (rn []) (.inl rfl) rfl (.cons (ResOne.tmp rfl) .nil) ?_ ?_ rfl (fixL_spec rfl)
 ·skip
  rfl
 · exact SubS.nil

set_option maxRecDepth 8000 in
theorem valid34_m {n : Nat} {ps : List Pr} {rs : List Ru} (hok : (Prob.mk (n : Int) ps rs).ok) (hfew : ((n : Int) ≤ 9 ∨ 200 < (n : Int)) ∧ ps.length ≤ 40 ∧ (rs.length ≤ 12 ∨ rs.length = 401)) (h8 : 8 < (selfs n (atomsL n rs)).length) :
    Con Try.prog 19 [vA [uI (n : Int), .sl 3 (ps.map ePr), .sl 3 (rs.map eRu)]] [] (vB false) [] := by
 have hf := hok.1
 have hn2 : (n : Int) ≤ 200 := hf.2.1
 have hr4 : rs.length ≤ 400 := hf.2.2.1
 have hn9 : n ≤ 9 := by omega
 have hnm : (selfs n (atomsL n rs)).length ≤ 6 ∨ 8 < (selfs n (atomsL n rs)).length := by omega
 refine Con.enterL (n := 20) Try.func19 rfl rfl rfl (fun τ w ok vs hin => ?_)
 have hl0_1 := hin.lenA (i := 0) (j := 1) rfl rfl
 try rw [List.length_map] at hl0_1
 have hl0_2 := hin.lenA (i := 0) (j := 2) rfl rfl
 try rw [List.length_map] at hl0_2
 clear hin
 refine W.rg ?_
 refine SL.memS (O.box (is := [_, _, _]) 101 rfl rfl (by simp) rfl rfl Taken.no) rfl rfl (S' := (101, _) :: _) rfl ?_
 refine SL.an rfl rfl (E.fo (W.seq (W.rg ?_)))
 refine SL.val (O.ldN (m := 3) (PtI.ref rfl rfl) (js := [_, _, _]) rfl (Nat.le_of_ble_eq_true rfl) Try.underlying25 rfl (by kernel_rfl) rfl Taken.no) ?_
 refine SL.val (O.callp rfl rfl rfl (few34_ok hok) (.cons (ArgOk.aggU (.cons (ArgOk.same rfl) (.cons (ArgOk.same rfl) (.cons (ArgOk.same rfl) .nil)))) .nil) hcallOk10 rfl Taken.no) ?_
 refine SL.as (i' := vB true) 6 rfl (by exact iv_bool (dec_t ⟨hfew, hnm⟩)) ?_
 refine SL.val (O.det (fun _ => G.R.mv (G.R.not rfl) rfl) rfl Taken.no) ?_
 refine SL.mv rfl rfl ?_
 have hg1 : false = false := by decide
 refine SL.val (O.ldN (m := 3) (PtI.ref rfl rfl) (js := [_, _, _]) rfl (Nat.le_of_ble_eq_true rfl) Try.underlying25 rfl (by kernel_rfl) rfl (Taken.yes rfl rfl hg1)) ?_
 refine SL.val (O.callp rfl rfl rfl (refvalid_h (N := (n : Int)) (ps := ps) (rs := rs)) (.cons (ArgOk.aggU (.cons (ArgOk.same rfl) (.cons (ArgOk.same rfl) (.cons (ArgOk.same rfl) .nil)))) .nil) hcallOk33 rfl (Taken.yes rfl rfl hg1)) ?_
 refine SL.as (i' := vI 0) 10 rfl (by rw [Prob.err_0 hok]) ?_
 refine SL.val (O.det (fun _ => G.R.mv (G.R.neq rfl rfl) (congrArg Value.bool (decide_eq_false (by decide)))) rfl (Taken.yes rfl rfl hg1)) ?_
 refine SL.val (O.pick_f rfl rfl rfl rfl Taken.no) ?_
 refine E.fo ?_
 refine W.cond_f rfl ?_
 refine W.skip (E.to (W.rg ?_))
 refine SL.val (O.ldN (m := 3) (PtI.ref rfl rfl) (js := [_, _, _]) rfl (Nat.le_of_ble_eq_true rfl) Try.underlying25 rfl (by kernel_rfl) rfl Taken.no) ?_
 refine SL.memS (O.call (rn []) [] rfl rfl rfl (refCount_many hok h8) (.cons (ArgOk.aggU (.cons (ArgOk.same rfl) (.cons (ArgOk.same rfl) (.cons (ArgOk.same rfl) .nil)))) .nil) SubS.nil rfl rfl rfl rfl rfl (.inl rfl) hcallOk17 (r' := .tup [.u _, .u _]) rfl rfl Taken.no) rfl rfl (S' := _) rfl ?_
 refine SL.mv rfl rfl ?_
 refine SL.val (O.extract rfl rfl rfl Taken.no) ?_
 refine SL.val (O.extract rfl rfl rfl Taken.no) ?_
 refine SL.an rfl rfl (SL.an rfl rfl (E.fo (W.rg (SL.mv rfl rfl ?_))))
 refine SL.val (O.det (fun _ => G.R.mv (G.R.eql rfl rfl) (congrArg Value.bool (decide_eq_false (by decide)))) rfl Taken.no) ?_
 refine SL.an rfl rfl (E.fo (W.ret ?_))
 refine E.fin (rs := [_]) (rn []) (.inl rfl) rfl (.cons (ResOne.tmp rfl) .nil) ?_ ?_ rfl (fixL_spec rfl)
 ·skip
  rfl
 · exact SubS.nil

set_option maxRecDepth 8000 in
theorem valid34_b {N : Int} {ps : List Pr} {rs : List Ru} (hok : ¬ (Prob.mk N ps rs).ok) (hfew : (N ≤ 9 ∨ 200 < N) ∧ ps.length ≤ 40 ∧ (rs.length ≤ 12 ∨ rs.length = 401)) :
    Con Try.prog 19 [vA [uI N, .sl 3 (ps.map ePr), .sl 3 (rs.map eRu)]] [] (vB false) [] := by
 have he : (Prob.mk N ps rs).err ≠ 0 := fun q => hok (Prob.err_iff.1 q)
 refine Con.enterL (n := 20) Try.func19 rfl rfl rfl (fun τ w ok vs hin => ?_)
 have hl0_1 := hin.lenA (i := 0) (j := 1) rfl rfl
 try rw [List.length_map] at hl0_1
 have hl0_2 := hin.lenA (i := 0) (j := 2) rfl rfl
 try rw [List.length_map] at hl0_2
 clear hin
 refine W.rg ?_
 refine SL.memS (O.box (is := [_, _, _]) 101 rfl rfl (by simp) rfl rfl Taken.no) rfl rfl (S' := (101, _) :: _) rfl ?_
 refine SL.an rfl rfl (E.fo (W.seq (W.rg ?_)))
 refine SL.val (O.ldN (m := 3) (PtI.ref rfl rfl) (js := [_, _, _]) rfl (Nat.le_of_ble_eq_true rfl) Try.underlying25 rfl (by kernel_rfl) rfl Taken.no) ?_
 refine SL.val (O.callp rfl rfl rfl (few34_bad hok) (.cons (ArgOk.aggU (.cons (ArgOk.same rfl) (.cons (ArgOk.same rfl) (.cons (ArgOk.same rfl) .nil)))) .nil) hcallOk10 rfl Taken.no) ?_
 refine SL.as (i' := vB true) 6 rfl (by exact iv_bool (dec_t hfew)) ?_
 refine SL.val (O.det (fun _ => G.R.mv (G.R.not rfl) rfl) rfl Taken.no) ?_
 refine SL.mv rfl rfl ?_
 have hg1 : false = false := by decide
 refine SL.val (O.ldN (m := 3) (PtI.ref rfl rfl) (js := [_, _, _]) rfl (Nat.le_of_ble_eq_true rfl) Try.underlying25 rfl (by kernel_rfl) rfl (Taken.yes rfl rfl hg1)) ?_
 refine SL.val (O.callp rfl rfl rfl (refvalid_h (N := N) (ps := ps) (rs := rs)) (.cons (ArgOk.aggU (.cons (ArgOk.same rfl) (.cons (ArgOk.same rfl) (.cons (ArgOk.same rfl) .nil)))) .nil) hcallOk33 rfl (Taken.yes rfl rfl hg1)) ?_
 refine SL.val (O.det (fun _ => G.R.mv (G.R.neq rfl rfl) (congrArg Value.bool (decide_eq_true (by exact he)))) rfl (Taken.yes rfl rfl hg1)) ?_
 refine SL.val (O.pick_f rfl rfl rfl rfl Taken.no) ?_
 refine E.fo ?_
 refine W.cond_t rfl ?_
 refine W.rg (SL.an rfl rfl (E.fo (W.ret (E.thr ?_))))
 refine E.fin (rs := [_]) (rn []) (.inl rfl) rfl (.cons (ResOne.tmp rfl) .nil) ?_ ?_ rfl (fixL_spec rfl)
 ·skip
  rfl
 · exact SubS.nil

set_option maxRecDepth 8000 in
theorem valid34_n {N : Int} {ps : List Pr} {rs : List Ru} (hv : Con Try.prog 10 [vA [uI N, .sl 3 (ps.map ePr), .sl 3 (rs.map eRu)]] [] (vB false) []) :
    Con Try.prog 19 [vA [uI N, .sl 3 (ps.map ePr), .sl 3 (rs.map eRu)]] [] (vB false) [] := by
 refine Con.enterL (n := 20) Try.func19 rfl rfl rfl (fun τ w ok vs hin => ?_)
 have hl0_1 := hin.lenA (i := 0) (j := 1) rfl rfl
 try rw [List.length_map] at hl0_1
 have hl0_2 := hin.lenA (i := 0) (j := 2) rfl rfl
 try rw [List.length_map] at hl0_2
 clear hin
 refine W.rg ?_
 refine SL.memS (O.box (is := [_, _, _]) 101 rfl rfl (by simp) rfl rfl Taken.no) rfl rfl (S' := (101, _) :: _) rfl ?_
 refine SL.an rfl rfl (E.fo (W.seq (W.rg ?_)))
 refine SL.val (O.ldN (m := 3) (PtI.ref rfl rfl) (js := [_, _, _]) rfl (Nat.le_of_ble_eq_true rfl) Try.underlying25 rfl (by kernel_rfl) rfl Taken.no) ?_
 refine SL.val (O.callp rfl rfl rfl (hv) (.cons (ArgOk.aggU (.cons (ArgOk.same rfl) (.cons (ArgOk.same rfl) (.cons (ArgOk.same rfl) .nil)))) .nil) hcallOk10 rfl Taken.no) ?_
 refine SL.as (i' := vB false) 6 rfl (by rfl) ?_
 refine SL.val (O.det (fun _ => G.R.mv (G.R.not rfl) rfl) rfl Taken.no) ?_
 refine SL.mv rfl rfl ?_
 have hg1 : true ≠ false := by decide
 refine SL.sk rfl rfl rfl hg1 (SL.sk rfl rfl rfl hg1 (SL.sk rfl rfl rfl hg1 ?_))
 refine SL.val (O.pick_t rfl rfl rfl rfl Taken.no) ?_
 refine E.fo ?_
 refine W.cond_t rfl ?_
 refine W.rg (SL.an rfl rfl (E.fo (W.ret (E.thr ?_))))
 refine E.fin (rs := [_]) (rn []) (.inl rfl) rfl (.cons (ResOne.tmp rfl) .nil) ?_ ?_ rfl (fixL_spec rfl)
 ·skip
  rfl
 · exact SubS.nil

theorem valid34_h {N : Int} {ps : List Pr} {rs : List Ru} (h : ¬ ((Prob.mk N ps rs).ok ∧ ((N ≤ 9 ∨ 200 < N) ∧ ps.length ≤ 40 ∧ (rs.length ≤ 12 ∨ rs.length = 401)) ∧ (selfs N.toNat (atomsL N.toNat rs)).length ≤ 6)) : Con Try.prog 19 [vA [uI N, .sl 3 (ps.map ePr), .sl 3 (rs.map eRu)]] [] (vB false) [] := by
  by_cases hok : (Prob.mk N ps rs).ok
  · obtain ⟨n, rfl⟩ : ∃ n : Nat, N = (n : Int) := ⟨N.toNat, Prob.nat hok.1⟩
    by_cases hfew : ((n : Int) ≤ 9 ∨ 200 < (n : Int)) ∧ ps.length ≤ 40 ∧ (rs.length ≤ 12 ∨ rs.length = 401)
    · by_cases h8 : 8 < (selfs n (atomsL n rs)).length
      · exact valid34_m hok hfew h8
      · refine valid34_n ?_
        have h2 := few34_ok hok
        rwa [decide_eq_false (fun q => h ⟨hok, hfew, by show (selfs n (atomsL n rs)).length ≤ 6; omega⟩)] at h2
    · refine valid34_n ?_
      have h := few34_ok hok
      rwa [decide_eq_false (fun q => hfew q.1)] at h
  · by_cases hfew : (N ≤ 9 ∨ 200 < N) ∧ ps.length ≤ 40 ∧ (rs.length ≤ 12 ∨ rs.length = 401)
    · exact valid34_b hok hfew
    · refine valid34_n ?_
      have h := few34_bad hok
      rwa [decide_eq_false hfew] at h

end Go.Proofs.Ytbkbeplddddgeaa
end
section
namespace Go.Proofs.Ytbkbeplddddgeaa
open Go Go.RowKit Go.H Go.D33

theorem hcallOk19 : G.callOk Try.prog 19 = true := by kernel_rfl












end Go.Proofs.Ytbkbeplddddgeaa
end
section
namespace Go.D33
open Go Go.RowKit Go.H
theorem foldQ_add {q q1 q2 : Nat → Nat → Prop} [∀ a b, Decidable (q a b)] [∀ a b, Decidable (q1 a b)] [∀ a b, Decidable (q2 a b)] : ∀ {l : List Pr} {a b c : Int}, a = b + c →
    (∀ x ∈ l, (if q x.a.toNat x.b.toNat then x.w else 0) = (if q1 x.a.toNat x.b.toNat then x.w else 0) + if q2 x.a.toNat x.b.toNat then x.w else 0) →
    l.foldl (fun n x => if q x.a.toNat x.b.toNat then n + x.w else n) a = l.foldl (fun n x => if q1 x.a.toNat x.b.toNat then n + x.w else n) b + l.foldl (fun n x => if q2 x.a.toNat x.b.toNat then n + x.w else n) c
  | [], _, _, _, h, _ => h
  | x :: l, a, b, c, h, hl => by
    rw [List.foldl_cons, List.foldl_cons, List.foldl_cons]
    refine foldQ_add ?_ fun y hy => hl y (by simp [hy])
    have := hl x (by simp)
    split at this <;> split at this <;> split at this <;> rename_i p1 p2 p3
    · rw [if_pos p1, if_pos p2, if_pos p3]; omega
    · rw [if_pos p1, if_pos p2, if_neg p3]; omega
    · rw [if_pos p1, if_neg p2, if_pos p3]; omega
    · rw [if_pos p1, if_neg p2, if_neg p3]; omega
    · rw [if_neg p1, if_pos p2, if_pos p3]; omega
    · rw [if_neg p1, if_pos p2, if_neg p3]; omega
    · rw [if_neg p1, if_neg p2, if_pos p3]; omega
    · rw [if_neg p1, if_neg p2, if_neg p3]; omega
theorem sumQ_add {q q1 q2 : Nat → Nat → Prop} [∀ a b, Decidable (q a b)] [∀ a b, Decidable (q1 a b)] [∀ a b, Decidable (q2 a b)] {ps : List Pr} (h1 : ∀ x ∈ ps, q x.a.toNat x.b.toNat ↔ (q1 x.a.toNat x.b.toNat ∨ q2 x.a.toNat x.b.toNat)) (h2 : ∀ x ∈ ps, ¬ (q1 x.a.toNat x.b.toNat ∧ q2 x.a.toNat x.b.toNat)) :
    sumQ q ps = sumQ q1 ps + sumQ q2 ps := by
  unfold sumQ
  refine foldQ_add (by decide) fun x hx => ?_
  have a1 := h1 x hx
  have a2 := h2 x hx
  by_cases p1 : q1 x.a.toNat x.b.toNat
  · rw [if_pos (a1.2 (.inl p1)), if_pos p1, if_neg fun p2 => a2 ⟨p1, p2⟩]; omega
  · by_cases p2 : q2 x.a.toNat x.b.toNat
    · rw [if_pos (a1.2 (.inr p2)), if_neg p1, if_pos p2]; omega
    · rw [if_neg fun z => (a1.1 z).elim p1 p2, if_neg p1, if_neg p2]; omega
theorem sumQ_iff {q q' : Nat → Nat → Prop} [∀ a b, Decidable (q a b)] [∀ a b, Decidable (q' a b)] {ps : List Pr} (h : ∀ x ∈ ps, q x.a.toNat x.b.toNat ↔ q' x.a.toNat x.b.toNat) : sumQ q ps = sumQ q' ps :=
  sumQ_congr rfl (fun _ _ => rfl) fun _ hi => h _ (mem_at hi)
theorem val_sumQ (m : List Nat) (ps : List Pr) : valR m ps = sumQ (fun a b => m[a]! = m[b]!) ps := rfl
theorem lexB_tot : ∀ {a b : List Nat}, a.length = b.length → lexB a b = false → a ≠ b → lexB b a = true
  | [], [], _, _, h => absurd rfl h
  | [], _ :: _, h, _, _ => by simp at h
  | _ :: _, [], h, _, _ => by simp at h
  | x :: a, y :: b, hl, h, hne => by
    rw [lexB] at h ⊢
    by_cases e : x = y
    · rw [if_pos e] at h
      rw [if_pos e.symm]
      exact lexB_tot (by simpa using hl) h fun q => hne (by rw [e, q])
    · rw [if_neg e] at h
      rw [if_neg fun q => e q.symm]
      have := of_decide_eq_false h
      exact decide_eq_true (by omega)
theorem lexB_first : ∀ {a b : List Nat}, lexB a b = true → ∃ j, j < a.length ∧ j < b.length ∧ (∀ i, i < j → a[i]! = b[i]!) ∧ a[j]! < b[j]!
  | [], _, h => by simp [lexB] at h
  | _ :: _, [], h => by simp [lexB] at h
  | x :: a, y :: b, h => by
    rw [lexB] at h
    by_cases e : x = y
    · rw [if_pos e] at h
      obtain ⟨j, h1, h2, h3, h4⟩ := lexB_first h
      refine ⟨j + 1, by simpa using h1, by simpa using h2, fun i hi => ?_, by simpa using h4⟩
      cases i with
      | zero => simpa using e
      | succ i => simpa using h3 i (by omega)
    · rw [if_neg e] at h
      exact ⟨0, by simp, by simp, fun i hi => by omega, by simpa using of_decide_eq_true h⟩
theorem idx_at {us : List Nat} {x : Nat} (hx : x ∈ us) : us.idxOf x < us.length ∧ us[us.idxOf x]! = x := by
  have hlt : us.idxOf x < us.length := List.idxOf_lt_length_of_mem hx
  exact ⟨hlt, by rw [getElem!_pos us _ hlt, List.getElem_idxOf hlt]⟩
namespace Emb
variable {n k : Nat} {ps ps' : List Pr} {rs rs' : List Ru} {us m p : List Nat}
theorem rel_iff (E : Emb n k ps rs us ps' rs') (hr : RelE us k m p) (hlt : ∀ i, i < k → p[i]! < k) {i j : Nat} (hi : i < k) (hj : j < k) : p[i]! = p[j]! ↔ m[us[i]!]! = m[us[j]!]! := by
  rw [hr i hi, hr j hj]
  exact ⟨fun e => by rw [e], fun e => E.inj (hlt i hi) (hlt j hj) e⟩
theorem rel_perm (E : Emb n k ps rs us ps' rs') (hf : (Prob.mk (n : Int) ps rs).formed) (hf' : (Prob.mk (k : Int) ps' rs').formed) (hm : isP n m) (hp : permR n ps rs m) (hr : RelE us k m p) (hl : p.length = k) (hlt : ∀ i, i < k → p[i]! < k) : isP k p ∧ permR k ps' rs' p := by
  have hi2 := fun {i j : Nat} (hi : i < k) (hj : j < k) => E.rel_iff hr hlt hi hj
  refine ⟨⟨hl, fun i hi => ⟨(E.mono (hlt i hi) hi).1 (by rw [← hr i hi]; exact (hm.2 _ (E.lt i hi)).1), E.inj (hlt _ (hlt i hi)) (hlt i hi) (by rw [← hr _ (hlt i hi), ← hr i hi]; exact (hm.2 _ (E.lt i hi)).2)⟩⟩, ?_, fun i hi => ?_, ?_⟩
  · cases hc : clash (barL rs') p with
    | false => rfl
    | true =>
      exfalso
      obtain ⟨x, hx, e⟩ := List.any_eq_true.1 hc
      have e := of_decide_eq_true e
      have hr1 := ru_in hf' (List.mem_filter.1 hx).1
      unfold ruOk at hr1
      obtain ⟨y, hy, e1, e2⟩ := (E.can x.a.toNat x.b.toNat (by omega) (by omega)).1 ⟨x, hx, rfl, rfl⟩
      have hcl : clash (barL rs) m = true := List.any_eq_true.2 ⟨y, hy, decide_eq_true (by rw [e1, e2]; exact (hi2 (by omega) (by omega)).1 e)⟩
      rw [hp.1] at hcl; cases hcl
  · have hai : (atomsL k rs')[i]! < k := Nat.lt_of_le_of_lt ((atoms_comp hf').le i hi) hi
    exact (hi2 hi hai).2 (by rw [← atoms_emb E hf hf' i hi]; exact hp.2.1 _ (E.lt i hi))
  · have hc := conn_in hf' p
    refine ext_g (by rw [hc.len, hl]) fun i hi => ?_
    have hi : i < k := by rw [hc.len] at hi; exact hi
    have h := E.comp (R := inC n ps rs m) (R' := inC k ps' rs' p) (inC_cl E) (fun i j hi hj => by
      unfold inC
      rw [E.lk i j hi hj, hi2 hi hj]
      exact ⟨fun q => ⟨q.1, q.2.1, E.lt i hi, E.lt j hj⟩, fun q => ⟨q.1, q.2.1, hi, hj⟩⟩) (conn_in hf m) hc hi
    rw [hp.2.2, hr i hi] at h
    exact (E.inj (hlt i hi) (Nat.lt_of_le_of_lt (hc.le i hi) hi) h).symm
end Emb
def resU (us : List Nat) (k : Nat) (m : List Nat) : List Nat := (List.range k).map fun j => us.idxOf m[us[j]!]!
def repU (n : Nat) (us m p : List Nat) : List Nat := (List.range n).map fun u => if u ∈ us then us[p[us.idxOf u]!]! else m[u]!
namespace Emb
variable {n k : Nat} {ps ps' : List Pr} {rs rs' : List Ru} {us m p : List Nat}
theorem resU_get {j : Nat} (h : j < k) : (resU us k m)[j]! = us.idxOf m[us[j]!]! := by rw [resU, get_map (by rw [List.length_range]; exact h), range_get h]
theorem res_in (E : Emb n k ps rs us ps' rs') (hf : (Prob.mk (n : Int) ps rs).formed) (hm : isP n m) (hp : permR n ps rs m) {i : Nat} (hi : i < k) : m[us[i]!]! ∈ us := (name_cl E hf hm hp (E.lt i hi)).1 (E.at_ hi)
theorem resU_lt (E : Emb n k ps rs us ps' rs') (hf : (Prob.mk (n : Int) ps rs).formed) (hm : isP n m) (hp : permR n ps rs m) : ∀ i, i < k → (resU us k m)[i]! < k := fun i hi => by
  rw [resU_get hi]
  have := (idx_at (E.res_in hf hm hp hi)).1
  rwa [E.len] at this
theorem resU_rel (E : Emb n k ps rs us ps' rs') (hf : (Prob.mk (n : Int) ps rs).formed) (hm : isP n m) (hp : permR n ps rs m) : RelE us k m (resU us k m) := fun i hi => by
  rw [resU_get hi, (idx_at (E.res_in hf hm hp hi)).2]
theorem resU_perm (E : Emb n k ps rs us ps' rs') (hf : (Prob.mk (n : Int) ps rs).formed) (hf' : (Prob.mk (k : Int) ps' rs').formed) (hm : isP n m) (hp : permR n ps rs m) : isP k (resU us k m) ∧ permR k ps' rs' (resU us k m) :=
  E.rel_perm hf hf' hm hp (E.resU_rel hf hm hp) (by rw [resU, List.length_map, List.length_range]) (E.resU_lt hf hm hp)
theorem rel_uniq (E : Emb n k ps rs us ps' rs') {q : List Nat} (hp : isP k p) (hq : isP k q) (h1 : RelE us k m p) (h2 : RelE us k m q) : p = q := ext_g (by rw [hp.1, hq.1]) fun i hi => by
  have hi : i < k := by rw [hp.1] at hi; exact hi
  exact E.inj (Nat.lt_of_le_of_lt (hp.2 i hi).1 hi) (Nat.lt_of_le_of_lt (hq.2 i hi).1 hi) (by rw [← h1 i hi, ← h2 i hi])
theorem repU_len : (repU n us m p).length = n := by rw [repU, List.length_map, List.length_range]
theorem repU_get {u : Nat} (h : u < n) : (repU n us m p)[u]! = if u ∈ us then us[p[us.idxOf u]!]! else m[u]! := by rw [repU, get_map (by rw [List.length_range]; exact h), range_get h]
theorem repU_in (E : Emb n k ps rs us ps' rs') : RelE us k (repU n us m p) p := fun i hi => by
  rw [repU_get (E.lt i hi), if_pos (E.at_ hi)]
  have h := idx_at (E.at_ hi)
  have : us.idxOf us[i]! = i := E.inj (by rw [← E.len]; exact h.1) hi h.2
  rw [this]
theorem repU_out {u : Nat} (h : u < n) (hu : u ∉ us) : (repU n us m p)[u]! = m[u]! := by rw [repU_get h, if_neg hu]
theorem repU_cl (E : Emb n k ps rs us ps' rs') (hf : (Prob.mk (n : Int) ps rs).formed) (hm : isP n m) (hp : permR n ps rs m) (hq : isP k p) {u : Nat} (hu : u < n) : u ∈ us ↔ (repU n us m p)[u]! ∈ us := by
  by_cases h : u ∈ us
  · refine ⟨fun _ => ?_, fun _ => h⟩
    obtain ⟨i, hi, rfl⟩ := E.mem.1 h
    rw [E.repU_in i hi]
    exact E.at_ (Nat.lt_of_le_of_lt (hq.2 i hi).1 hi)
  · rw [repU_out hu h]
    exact name_cl E hf hm hp hu
theorem repU_perm (E : Emb n k ps rs us ps' rs') (hf : (Prob.mk (n : Int) ps rs).formed) (hf' : (Prob.mk (k : Int) ps' rs').formed) (hm : isP n m) (hp : permR n ps rs m) (hq : isP k p) (hqp : permR k ps' rs' p) : isP n (repU n us m p) ∧ permR n ps rs (repU n us m p) := by
  have hlt : ∀ i, i < k → p[i]! < k := fun i hi => Nat.lt_of_le_of_lt (hq.2 i hi).1 hi
  have hin := E.repU_in (m := m) (p := p)
  have hcl := fun {u : Nat} (hu : u < n) => E.repU_cl hf hm hp hq hu
  have hi2 := fun {i j : Nat} (hi : i < k) (hj : j < k) => E.rel_iff hin hlt hi hj
  have hat : ∀ u, u < n → (atomsL n rs)[u]! < n := fun u hu => Nat.lt_of_le_of_lt ((atoms_comp hf).le u hu) hu
  refine ⟨⟨repU_len, fun u hu => ?_⟩, ?_, fun u hu => ?_, ?_⟩
  · by_cases h : u ∈ us
    · obtain ⟨i, hi, rfl⟩ := E.mem.1 h
      rw [hin i hi]
      exact ⟨(E.mono (hlt i hi) hi).2 (hq.2 i hi).1, by rw [hin _ (hlt i hi), (hq.2 i hi).2]⟩
    · have h2 := hm.2 u hu
      rw [repU_out hu h]
      exact ⟨h2.1, by rw [repU_out (by omega) (fun z => h ((name_cl E hf hm hp hu).2 z))]; exact h2.2⟩
  · cases hc : clash (barL rs) (repU n us m p) with
    | false => rfl
    | true =>
      exfalso
      obtain ⟨y, hy, e⟩ := List.any_eq_true.1 hc
      have e := of_decide_eq_true e
      have hr1 := ru_in hf (List.mem_filter.1 hy).1
      unfold ruOk at hr1
      have ha : y.a.toNat < n := by omega
      have hb : y.b.toNat < n := by omega
      by_cases h1 : y.a.toNat ∈ us
      · have h2 : y.b.toNat ∈ us := (hcl hb).2 (by rw [← e]; exact (hcl ha).1 h1)
        obtain ⟨i, hi, e1⟩ := E.mem.1 h1
        obtain ⟨j, hj, e2⟩ := E.mem.1 h2
        obtain ⟨x, hx, x1, x2⟩ := (E.can i j hi hj).2 ⟨y, hy, e1, e2⟩
        rw [e1, e2] at e
        have hcl : clash (barL rs') p = true := List.any_eq_true.2 ⟨x, hx, decide_eq_true (by rw [x1, x2]; exact (hi2 hi hj).2 e)⟩
        rw [hqp.1] at hcl; cases hcl
      · have h2 : y.b.toNat ∉ us := fun z => h1 ((hcl ha).2 (by rw [e]; exact (hcl hb).1 z))
        rw [repU_out ha h1, repU_out hb h2] at e
        have hcl : clash (barL rs) m = true := List.any_eq_true.2 ⟨y, hy, decide_eq_true e⟩
        rw [hp.1] at hcl; cases hcl
  · by_cases h : u ∈ us
    · obtain ⟨i, hi, rfl⟩ := E.mem.1 h
      have hai : (atomsL k rs')[i]! < k := Nat.lt_of_le_of_lt ((atoms_comp hf').le i hi) hi
      rw [atoms_emb E hf hf' i hi, hin i hi, hin _ hai, ← hqp.2.1 i hi]
    · have h2 : (atomsL n rs)[u]! ∉ us := fun z => h ((perm_cl E hf hp hu (hat u hu) (hp.2.1 u hu)).2 z)
      rw [repU_out hu h, repU_out (hat u hu) h2]
      exact hp.2.1 u hu
  · have hc := conn_in hf (repU n us m p)
    refine ext_g (by rw [hc.len, repU_len]) fun u hu => ?_
    have hu : u < n := by rw [hc.len] at hu; exact hu
    by_cases h : u ∈ us
    · obtain ⟨i, hi, rfl⟩ := E.mem.1 h
      have h := E.comp (R := inC n ps rs (repU n us m p)) (R' := inC k ps' rs' p) (inC_cl E) (fun i j hi hj => by
        unfold inC
        rw [E.lk i j hi hj, hi2 hi hj]
        exact ⟨fun q => ⟨q.1, q.2.1, E.lt i hi, E.lt j hj⟩, fun q => ⟨q.1, q.2.1, hi, hj⟩⟩) hc (conn_in hf' p) hi
      rw [hqp.2.2] at h
      rw [h, hin i hi]
    · have h2 := comp_on (R := inC n ps rs (repU n us m p)) (S := inC n ps rs m) (fun x => x ∉ us) (fun x y q => not_congr (inC_cl E x y q)) (fun x y q => not_congr (inC_cl E x y q)) (fun x y hx hy => by
        unfold inC
        exact ⟨fun q => ⟨q.1, by rw [← repU_out q.2.2.1 hx, ← repU_out q.2.2.2 hy]; exact q.2.1, q.2.2⟩, fun q => ⟨q.1, by rw [repU_out q.2.2.1 hx, repU_out q.2.2.2 hy]; exact q.2.1, q.2.2⟩⟩) hc (conn_in hf m) hu h
      rw [h2, hp.2.2, repU_out hu h]
theorem val_in (E : Emb n k ps rs us ps' rs') (hr : RelE us k m p) (hlt : ∀ i, i < k → p[i]! < k) : valR p ps' = sumQ (fun a b => (a ∈ us ∧ b ∈ us) ∧ m[a]! = m[b]!) ps := by
  rw [val_sumQ]
  exact E.val (fun a b => m[a]! = m[b]!) (fun a b => p[a]! = p[b]!) fun i j hi hj => E.rel_iff hr hlt hi hj
theorem val_two (us m : List Nat) (ps : List Pr) : valR m ps = sumQ (fun a b => (a ∈ us ∧ b ∈ us) ∧ m[a]! = m[b]!) ps + sumQ (fun a b => ¬ (a ∈ us ∧ b ∈ us) ∧ m[a]! = m[b]!) ps := by
  rw [val_sumQ]
  refine sumQ_add (fun x _ => ?_) fun x _ h => h.2.1 h.1.1
  by_cases z : x.a.toNat ∈ us ∧ x.b.toNat ∈ us
  · exact ⟨fun q => .inl ⟨z, q⟩, fun q => q.elim (fun w => w.2) fun w => w.2⟩
  · exact ⟨fun q => .inr ⟨z, q⟩, fun q => q.elim (fun w => w.2) fun w => w.2⟩
theorem best_rel (E : Emb n k ps rs us ps' rs') (hok : (Prob.mk (n : Int) ps rs).ok) (hok' : (Prob.mk (k : Int) ps' rs').ok) : RelE us k (stB n ps rs).best (stB k ps' rs').best := by
  have hf := hok.1
  have hf' := hok'.1
  obtain ⟨hm, hp⟩ := stB_perm hok
  obtain ⟨hq, hqp⟩ := stB_perm hok'
  have hr := E.resU_rel hf hm hp
  obtain ⟨r1, r2⟩ := E.resU_perm hf hf' hm hp
  obtain ⟨c1, c2⟩ := E.repU_perm hf hf' hm hp hq hqp
  have hin := E.repU_in (m := (stB n ps rs).best) (p := (stB k ps' rs').best)
  have hltq : ∀ i, i < k → (stB k ps' rs').best[i]! < k := fun i hi => Nat.lt_of_le_of_lt (hq.2 i hi).1 hi
  have g1 := stB_ge hok c1 c2
  have g2 := stB_ge hok' r1 r2
  have e1 := (stB_spec hok).2.1
  have e2 := (stB_spec hok').2.1
  have v1 := val_two us (repU n us (stB n ps rs).best (stB k ps' rs').best) ps
  have v2 := val_two us (stB n ps rs).best ps
  have w1 := E.val_in hin hltq
  have w2 := E.val_in hr (E.resU_lt hf hm hp)
  have hout : sumQ (fun a b => ¬ (a ∈ us ∧ b ∈ us) ∧ (repU n us (stB n ps rs).best (stB k ps' rs').best)[a]! = (repU n us (stB n ps rs).best (stB k ps' rs').best)[b]!) ps = sumQ (fun a b => ¬ (a ∈ us ∧ b ∈ us) ∧ (stB n ps rs).best[a]! = (stB n ps rs).best[b]!) ps := by
    refine sumQ_iff fun x hx => ?_
    have hr1 := pr_in hf hx
    unfold prOk at hr1
    have ha : x.a.toNat < n := by omega
    have hb : x.b.toNat < n := by omega
    refine and_congr_right fun z => ?_
    by_cases h1 : x.a.toNat ∈ us
    · have h2 : x.b.toNat ∉ us := fun q => z ⟨h1, q⟩
      exact ⟨fun q => absurd ((perm_cl E hf c2 ha hb q).1 h1) h2, fun q => absurd ((perm_cl E hf hp ha hb q).1 h1) h2⟩
    · by_cases h2 : x.b.toNat ∈ us
      · exact ⟨fun q => absurd ((perm_cl E hf c2 ha hb q).2 h2) h1, fun q => absurd ((perm_cl E hf hp ha hb q).2 h2) h1⟩
      · rw [repU_out ha h1, repU_out hb h2]
  have k1 := g1.1
  have k2 := g2.1
  have ev : valR (resU us k (stB n ps rs).best) ps' = (stB k ps' rs').most := by omega
  have ev2 : valR (repU n us (stB n ps rs).best (stB k ps' rs').best) ps = (stB n ps rs).most := by omega
  have n1 := g1.2 ev2
  have n2 := g2.2 ev
  by_cases hne : resU us k (stB n ps rs).best = (stB k ps' rs').best
  · rw [← hne]; exact hr
  · exfalso
    have hlx := lexB_tot (by rw [r1.1, hq.1]) n2 hne
    obtain ⟨j, j1, j2, j3, j4⟩ := lexB_first hlx
    have hj : j < k := by rw [hq.1] at j1; exact j1
    have hlt := E.resU_lt hf hm hp
    have hM : lexB (repU n us (stB n ps rs).best (stB k ps' rs').best) (stB n ps rs).best = true := by
      have key : (repU n us (stB n ps rs).best (stB k ps' rs').best)[us[j]!]! < (stB n ps rs).best[us[j]!]! := by
        rw [hin j hj, hr j hj]
        exact E.asc _ _ j4 (hlt j hj)
      rw [lexB_here (k := us[j]!) (by rw [c1.1]; exact E.lt j hj) (by rw [hm.1]; exact E.lt j hj) (fun u hu => ?_) (by omega)]
      · exact decide_eq_true key
      · have hun : u < n := Nat.lt_trans hu (E.lt j hj)
        by_cases h : u ∈ us
        · obtain ⟨i, hi, rfl⟩ := E.mem.1 h
          have hij : i < j := by
            have := (not_congr (E.mono hj hi)).1 (by omega)
            omega
          rw [hin i hi, hr i hi, j3 i hij]
        · exact repU_out hun h
    rw [n1] at hM; cases hM
end Emb
theorem nodup_on {α β : Type} {f : α → β} : ∀ {l : List α}, (∀ x ∈ l, ∀ y ∈ l, f x = f y → x = y) → l.Nodup → (l.map f).Nodup
  | [], _, _ => List.nodup_nil
  | a :: l, h, hn => by
    obtain ⟨n1, n2⟩ := List.nodup_cons.1 hn
    rw [List.map_cons, List.nodup_cons]
    refine ⟨fun hm => ?_, nodup_on (fun x hx y hy => h x (by simp [hx]) y (by simp [hy])) n2⟩
    obtain ⟨b, hb, e⟩ := List.mem_map.1 hm
    have := h b (by simp [hb]) a (by simp) e
    exact n1 (this ▸ hb)
theorem nodup_len {α : Type} [DecidableEq α] : ∀ {a b : List α}, a.Nodup → (∀ x ∈ a, x ∈ b) → a.length ≤ b.length
  | [], _, _, _ => Nat.zero_le _
  | x :: a, b, hn, h => by
    obtain ⟨n1, n2⟩ := List.nodup_cons.1 hn
    have hx := h x (by simp)
    have := nodup_len (a := a) (b := b.erase x) n2 fun y hy => (List.mem_erase_of_ne fun e => n1 (by rw [← e]; exact hy)).2 (h y (by simp [hy]))
    rw [List.length_erase_of_mem hx] at this
    have := List.length_pos_of_mem hx
    rw [List.length_cons]; omega
theorem flat_len {α β : Type} {f : α → List β} {b : Nat} : ∀ {l : List α}, (∀ x ∈ l, (f x).length = b) → (l.flatMap f).length = l.length * b
  | [], _ => by simp
  | a :: l, h => by
    rw [List.flatMap_cons, List.length_append, h a (by simp), flat_len fun x hx => h x (by simp [hx]), List.length_cons, Nat.add_mul, Nat.one_mul, Nat.add_comm]
theorem sumQ_b {q : Nat → Nat → Prop} [∀ a b, Decidable (q a b)] : ∀ {l : List Pr} {s c : Int}, -c ≤ s ∧ s ≤ c → (∀ x ∈ l, -1000 ≤ x.w ∧ x.w ≤ 1000) → -c - 1000 * (l.length : Int) ≤ l.foldl (fun n x => if q x.a.toNat x.b.toNat then n + x.w else n) s ∧ l.foldl (fun n x => if q x.a.toNat x.b.toNat then n + x.w else n) s ≤ c + 1000 * (l.length : Int)
  | [], s, c, h, _ => by simpa using h
  | x :: l, s, c, h, hl => by
    have hx := hl x (by simp)
    have := sumQ_b (q := q) (l := l) (s := if q x.a.toNat x.b.toNat then s + x.w else s) (c := c + 1000) (by split <;> omega) fun y hy => hl y (by simp [hy])
    rw [List.foldl_cons, List.length_cons]
    omega
theorem sumQ_bb {q : Nat → Nat → Prop} [∀ a b, Decidable (q a b)] {ps : List Pr} (h : ∀ x ∈ ps, -1000 ≤ x.w ∧ x.w ≤ 1000) : -1000 * (ps.length : Int) ≤ sumQ q ps ∧ sumQ q ps ≤ 1000 * (ps.length : Int) := by
  have := sumQ_b (q := q) (l := ps) (s := 0) (c := 0) (by omega) h
  unfold sumQ
  omega
section
variable {n : Nat} {ps : List Pr} {rs : List Ru}
def prtL (n : Nat) (ps : List Pr) (rs : List Ru) : List Nat := namedL n (partsL (mF (lF ps) rs) (List.range n))
def unF (n : Nat) (ps : List Pr) (rs : List Ru) (f : Nat) : List Nat := partU n (prtL n ps rs) f n
def sbB (n : Nat) (ps : List Pr) (rs : List Ru) (f : Nat) : BS := stB (unF n ps rs f).length (subP (cI (unF n ps rs f)) ps) (subR (cI (unF n ps rs f)) rs)
def sbC (n : Nat) (ps : List Pr) (rs : List Ru) (f : Nat) : Nat := (allL (unF n ps rs f).length (subP (cI (unF n ps rs f)) ps) (subR (cI (unF n ps rs f)) rs)).length
def sumM (n : Nat) (ps : List Pr) (rs : List Ru) : Nat → Int
  | 0 => 0
  | f + 1 => sumM n ps rs f + (sbB n ps rs f).most
def cntM (n : Nat) (ps : List Pr) (rs : List Ru) : Nat → Nat
  | 0 => 1
  | f + 1 => cntM n ps rs f * sbC n ps rs f
theorem un_emb (hok : (Prob.mk (n : Int) ps rs).ok) (f : Nat) : Emb n (unF n ps rs f).length ps rs (unF n ps rs f) (subP (cI (unF n ps rs f)) ps) (subR (cI (unF n ps rs f)) rs) := (part_emb hok f).1
theorem un_ok (hok : (Prob.mk (n : Int) ps rs).ok) (f : Nat) : (Prob.mk ((unF n ps rs f).length : Int) (subP (cI (unF n ps rs f)) ps) (subR (cI (unF n ps rs f)) rs)).ok := (part_emb hok f).2.2
theorem mem_un {f u : Nat} : u ∈ unF n ps rs f ↔ u < n ∧ (prtL n ps rs)[u]! = f := by
  unfold unF partU
  rw [List.mem_filter, List.mem_range, decide_eq_true_eq]
theorem prt_le (hf : (Prob.mk (n : Int) ps rs).formed) {u : Nat} (h : u < n) : (prtL n ps rs)[u]! < n := by
  have := parts_eq hf
  unfold prtL
  rw [← this]
  exact Nat.lt_of_le_of_lt ((conn_comp hf _).le u h) h
theorem sum_eq (hok : (Prob.mk (n : Int) ps rs).ok) : ∀ f, sumM n ps rs f = sumQ (fun a b => (prtL n ps rs)[a]! < f ∧ (stB n ps rs).best[a]! = (stB n ps rs).best[b]!) ps
  | 0 => (sumQ_0 fun x _ h => Nat.not_lt_zero _ h.1).symm
  | f + 1 => by
    have E := un_emb hok f
    have hok' := un_ok hok f
    have hq := (stB_perm hok').1
    have hp := (stB_perm hok).2
    have hv := E.val_in (E.best_rel hok hok') fun i hi => Nat.lt_of_le_of_lt (hq.2 i hi).1 hi
    rw [sumM, sum_eq hok f]
    show _ + (stB _ _ _).most = _
    rw [(stB_spec hok').2.1, hv]
    refine (sumQ_add (fun x hx => ?_) fun x hx h => ?_).symm
    · have hr := pr_in hok.1 hx
      unfold prOk at hr
      constructor
      · rintro ⟨h1, h2⟩
        rcases Nat.lt_succ_iff_lt_or_eq.1 h1 with z | z
        · exact .inl ⟨z, h2⟩
        · have hm : x.a.toNat ∈ unF n ps rs f := mem_un.2 ⟨by omega, z⟩
          exact .inr ⟨⟨hm, (perm_cl E hok.1 hp (by omega) (by omega) h2).1 hm⟩, h2⟩
      · rintro (⟨h1, h2⟩ | ⟨h1, h2⟩)
        · exact ⟨by omega, h2⟩
        · exact ⟨by have := (mem_un.1 h1.1).2; omega, h2⟩
    · have := (mem_un.1 h.2.1.1).2
      have := h.1.1
      omega
theorem sum_all (hok : (Prob.mk (n : Int) ps rs).ok) : sumM n ps rs n = (stB n ps rs).most := by
  rw [sum_eq hok, (stB_spec hok).2.1, val_sumQ]
  refine sumQ_iff fun x hx => ?_
  have hr := pr_in hok.1 hx
  unfold prOk at hr
  exact ⟨fun h => h.2, fun h => ⟨prt_le hok.1 (by omega), h⟩⟩
theorem sum_b (hok : (Prob.mk (n : Int) ps rs).ok) (f : Nat) : -1000 * (ps.length : Int) ≤ sumM n ps rs f ∧ sumM n ps rs f ≤ 1000 * (ps.length : Int) := by
  rw [sum_eq hok f]
  exact sumQ_bb fun x hx => by
    have hr := pr_in hok.1 hx
    unfold prOk at hr
    omega
def agr (n : Nat) (ps : List Pr) (rs : List Ru) (f : Nat) (m : List Nat) : Bool := decide (∀ u, u < n → (prtL n ps rs)[u]! < f ∨ m[u]! = (stB n ps rs).best[u]!)
theorem cnt_eq (hok : (Prob.mk (n : Int) ps rs).ok) : ∀ f, cntM n ps rs f = ((allL n ps rs).filter (agr n ps rs f)).length
  | 0 => by
    have hB := stB_spec hok
    have hP := stB_perm hok
    have h1 : ((allL n ps rs).filter (agr n ps rs 0)).Nodup := (allL_nodup hok.1).filter _
    have h2 : ∀ x, x ∈ (allL n ps rs).filter (agr n ps rs 0) ↔ x ∈ [(stB n ps rs).best] := fun x => by
      rw [List.mem_filter, List.mem_singleton]
      constructor
      · rintro ⟨a, b⟩
        have b := of_decide_eq_true b
        have hx := (mem_allL hok.1).1 a
        exact ext_g (by rw [hx.1.1, hP.1.1]) fun u hu => (b u (by rw [hx.1.1] at hu; exact hu)).resolve_left (Nat.not_lt_zero _)
      · rintro rfl
        exact ⟨hB.1, decide_eq_true fun u _ => .inr rfl⟩
    have l1 := nodup_len h1 fun x hx => (h2 x).1 hx
    have l2 := nodup_len (a := [(stB n ps rs).best]) (by simp) fun x hx => (h2 x).2 hx
    rw [List.length_singleton] at l1 l2
    rw [cntM]; omega
  | f + 1 => by
    have hf := hok.1
    have E := un_emb hok f
    have hok' := un_ok hok f
    have hf' := hok'.1
    have hrel := E.best_rel hok hok'
    obtain ⟨hq, hqp⟩ := stB_perm hok'
    have inL2 : ∀ {p}, p ∈ allL (unF n ps rs f).length (subP (cI (unF n ps rs f)) ps) (subR (cI (unF n ps rs f)) rs) ↔ isP (unF n ps rs f).length p ∧ permR (unF n ps rs f).length (subP (cI (unF n ps rs f)) ps) (subR (cI (unF n ps rs f)) rs) p := mem_allL hf'
    have nd : (((allL n ps rs).filter (agr n ps rs f)).flatMap fun m => (allL (unF n ps rs f).length (subP (cI (unF n ps rs f)) ps) (subR (cI (unF n ps rs f)) rs)).map fun p => repU n (unF n ps rs f) m p).Nodup := by
      refine nodup_flatMap ((allL_nodup hf).filter _) (fun m hm => nodup_on (fun p hp q hq e => ?_) (allL_nodup hf')) fun m hm m' hm' z hz hz' => ?_
      · exact E.rel_uniq (m := repU n (unF n ps rs f) m p) (inL2.1 hp).1 (inL2.1 hq).1 E.repU_in (by rw [e]; exact E.repU_in)
      · obtain ⟨p, _, rfl⟩ := List.mem_map.1 hz
        obtain ⟨q, _, e⟩ := List.mem_map.1 hz'
        obtain ⟨a1, a2⟩ := List.mem_filter.1 hm
        obtain ⟨b1, b2⟩ := List.mem_filter.1 hm'
        have a2 := of_decide_eq_true a2
        have b2 := of_decide_eq_true b2
        have l1 := ((mem_allL hf).1 a1).1.1
        have l2 := ((mem_allL hf).1 b1).1.1
        refine ext_g (by rw [l1, l2]) fun u hu => ?_
        have hu : u < n := by rw [l1] at hu; exact hu
        by_cases hi : u ∈ unF n ps rs f
        · have := (mem_un.1 hi).2
          rw [(a2 u hu).resolve_left (by omega), (b2 u hu).resolve_left (by omega)]
        · rw [← Emb.repU_out (p := p) hu hi, ← Emb.repU_out (m := m') (p := q) hu hi, e]
    have mem : ∀ x, x ∈ (((allL n ps rs).filter (agr n ps rs f)).flatMap fun m => (allL (unF n ps rs f).length (subP (cI (unF n ps rs f)) ps) (subR (cI (unF n ps rs f)) rs)).map fun p => repU n (unF n ps rs f) m p) ↔ x ∈ (allL n ps rs).filter (agr n ps rs (f + 1)) := fun x => by
      rw [List.mem_flatMap, List.mem_filter]
      constructor
      · rintro ⟨m, hm, hx⟩
        obtain ⟨p, hp, rfl⟩ := List.mem_map.1 hx
        obtain ⟨a1, a2⟩ := List.mem_filter.1 hm
        have a2 := of_decide_eq_true a2
        have a1 := (mem_allL hf).1 a1
        have hp := inL2.1 hp
        refine ⟨(mem_allL hf).2 (E.repU_perm hf hf' a1.1 a1.2 hp.1 hp.2), decide_eq_true fun u hu => ?_⟩
        by_cases hi : u ∈ unF n ps rs f
        · have := (mem_un.1 hi).2
          exact .inl (by omega)
        · rw [Emb.repU_out hu hi]
          rcases a2 u hu with z | z
          · exact .inl (by omega)
          · exact .inr z
      · rintro ⟨a1, a2⟩
        have a2 := of_decide_eq_true a2
        have a1 := (mem_allL hf).1 a1
        have c := E.repU_perm hf hf' a1.1 a1.2 hq hqp
        refine ⟨repU n (unF n ps rs f) x (stB (unF n ps rs f).length (subP (cI (unF n ps rs f)) ps) (subR (cI (unF n ps rs f)) rs)).best, List.mem_filter.2 ⟨(mem_allL hf).2 c, decide_eq_true fun u hu => ?_⟩, List.mem_map.2 ⟨resU (unF n ps rs f) (unF n ps rs f).length x, inL2.2 (E.resU_perm hf hf' a1.1 a1.2), ?_⟩⟩
        · by_cases hi : u ∈ unF n ps rs f
          · obtain ⟨i, hi2, rfl⟩ := E.mem.1 hi
            exact .inr (by rw [E.repU_in i hi2, hrel i hi2])
          · rw [Emb.repU_out hu hi]
            rcases a2 u hu with z | z
            · rcases Nat.lt_succ_iff_lt_or_eq.1 z with y | y
              · exact .inl y
              · exact absurd (mem_un.2 ⟨hu, y⟩) hi
            · exact .inr z
        · refine ext_g (by rw [Emb.repU_len, a1.1.1]) fun u hu => ?_
          have hu : u < n := by rw [Emb.repU_len] at hu; exact hu
          by_cases hi : u ∈ unF n ps rs f
          · obtain ⟨i, hi2, rfl⟩ := E.mem.1 hi
            rw [E.repU_in i hi2, E.resU_rel hf a1.1 a1.2 i hi2]
          · rw [Emb.repU_out hu hi, Emb.repU_out hu hi]
    have l1 := nodup_len nd fun x hx => (mem x).1 hx
    have l2 := nodup_len ((allL_nodup hf).filter _) fun x hx => (mem x).2 hx
    rw [flat_len (b := sbC n ps rs f) fun m _ => by rw [List.length_map]; rfl] at l1 l2
    rw [cntM, cnt_eq hok f]
    exact Nat.le_antisymm l1 l2
theorem cnt_all (hok : (Prob.mk (n : Int) ps rs).ok) : cntM n ps rs n = (allL n ps rs).length := by
  have h : (allL n ps rs).filter (agr n ps rs n) = allL n ps rs := List.filter_eq_self.2 fun m _ => decide_eq_true fun u hu => .inl (prt_le hok.1 hu)
  rw [cnt_eq hok, h]
theorem cnt_b (hok : (Prob.mk (n : Int) ps rs).ok) (f : Nat) : cntM n ps rs f ≤ (allL n ps rs).length := by
  rw [cnt_eq hok f]; exact List.length_filter_le _ _
theorem un_names (hok : (Prob.mk (n : Int) ps rs).ok) (f : Nat) : (selfs (unF n ps rs f).length (atomsL (unF n ps rs f).length (subR (cI (unF n ps rs f)) rs))).length ≤ (selfs n (atomsL n rs)).length := by
  have E := un_emb hok f
  have hf' := (un_ok hok f).1
  have h1 : ((selfs (unF n ps rs f).length (atomsL (unF n ps rs f).length (subR (cI (unF n ps rs f)) rs))).map fun i => (unF n ps rs f)[i]!).Nodup := by
    refine nodup_on (fun x hx y hy e => ?_) ((List.nodup_range (n := _)).filter _)
    exact E.inj (List.mem_range.1 (List.mem_filter.1 hx).1) (List.mem_range.1 (List.mem_filter.1 hy).1) e
  have h2 := nodup_len (b := selfs n (atomsL n rs)) h1 fun x hx => by
    obtain ⟨i, hi, rfl⟩ := List.mem_map.1 hx
    obtain ⟨a, b⟩ := List.mem_filter.1 hi
    have a := List.mem_range.1 a
    have b := of_decide_eq_true b
    refine List.mem_filter.2 ⟨List.mem_range.2 (E.lt i a), decide_eq_true ?_⟩
    rw [atoms_emb E hok.1 hf' i a, b]
  rwa [List.length_map] at h2
end
end Go.D33
end
section
namespace Go.Proofs.Ytbkbeplddddgeaa
open Go Go.RowKit Go.H Go.D33

theorem hcallOk27 : G.callOk Try.prog 27 = true := by kernel_rfl
theorem hcallOk28 : G.callOk Try.prog 28 = true := by kernel_rfl

set_option maxRecDepth 8000 in
set_option maxHeartbeats 6400000 in
theorem optimumParts_y {n : Nat} {ps : List Pr} {rs : List Ru} (hok : (Prob.mk (n : Int) ps rs).ok) (hfew : ((n : Int) ≤ 9 ∨ 200 < (n : Int)) ∧ ps.length ≤ 40 ∧ (rs.length ≤ 12 ∨ rs.length = 401)) (h6 : (selfs n (atomsL n rs)).length ≤ 6) :
    Con Try.prog 7 [vA [uI (n : Int), .sl 3 (ps.map ePr), .sl 3 (rs.map eRu)]] [] (vB true) [] := by
 have hf := hok.1
 have hn2 : (n : Int) ≤ 200 := hf.2.1
 have hr4 : rs.length ≤ 400 := hf.2.2.1
 have hn9 : n ≤ 9 := by omega
 have h8 : (selfs n (atomsL n rs)).length ≤ 8 := by omega
 have hnm : (selfs n (atomsL n rs)).length ≤ 6 ∨ 8 < (selfs n (atomsL n rs)).length := by omega
 have hlb := allL_9 (ps := ps) (rs := rs) hn9
 have hbl := (stB_perm hok).1.1
 have hprl : (namedL n (partsL (mF (lF ps) rs) (List.range n))).length = n := by rw [named_len]
 obtain ⟨i3, hi3, hz3, hs3, hb3⟩ := hinf3
 refine Con.enterL (n := 158) Try.func7 rfl rfl rfl (fun τ w ok vs hin => ?_)
 have hl0_1 := hin.lenA (i := 0) (j := 1) rfl rfl
 try rw [List.length_map] at hl0_1
 have hl0_2 := hin.lenA (i := 0) (j := 2) rfl rfl
 try rw [List.length_map] at hl0_2
 clear hin
 refine W.rg ?_
 refine SL.memS (O.box (is := [_, _, _]) 101 rfl rfl (by simp) rfl rfl Taken.no) rfl rfl (S' := (101, _) :: _) rfl ?_
 refine SL.an rfl rfl (E.fo (W.seq (W.rg ?_)))
 refine SL.val (O.callp rfl rfl rfl (awake34_h) .nil hcallOk9 rfl Taken.no) ?_
 refine SL.as (i' := vB true) 25 rfl (by rfl) ?_
 refine SL.val (O.det (fun _ => G.R.mv (G.R.not rfl) rfl) rfl Taken.no) ?_
 refine SL.mv rfl rfl ?_
 have hg1 : false = false := by decide
 refine SL.val (O.ldN (m := 3) (PtI.ref rfl rfl) (js := [_, _, _]) rfl (Nat.le_of_ble_eq_true rfl) Try.underlying25 rfl (by kernel_rfl) rfl (Taken.yes rfl rfl hg1)) ?_
 refine SL.val (O.callp rfl rfl rfl (valid34_y hok hfew h6) (.cons (ArgOk.aggU (.cons (ArgOk.same rfl) (.cons (ArgOk.same rfl) (.cons (ArgOk.same rfl) .nil)))) .nil) hcallOk19 rfl (Taken.yes rfl rfl hg1)) ?_
 refine SL.as (i' := vB true) 29 rfl (by rfl) ?_
 refine SL.val (O.det (fun _ => G.R.mv (G.R.not rfl) rfl) rfl (Taken.yes rfl rfl hg1)) ?_
 refine SL.val (O.pick_f rfl rfl rfl rfl Taken.no) ?_
 refine E.fo ?_
 refine W.cond_f rfl ?_
 refine W.skip (E.to (W.rg ?_))
 refine SL.val (O.ldN (m := 3) (PtI.ref rfl rfl) (js := [_, _, _]) rfl (Nat.le_of_ble_eq_true rfl) Try.underlying25 rfl (by kernel_rfl) rfl Taken.no) ?_
 refine SL.memS (O.call (rn []) [] rfl rfl rfl (own_h (by omega) (by omega)) (.cons (ArgOk.aggU (.cons (ArgOk.same rfl) (.cons (ArgOk.same rfl) (.cons (ArgOk.same rfl) .nil)))) .nil) SubS.nil rfl rfl rfl rfl rfl (.inl rfl) hcallOk11 (r' := .agg [.u _, .u _, .u _]) rfl rfl Taken.no) rfl rfl (S' := _) rfl ?_
 refine SL.memS (O.alloc (z := .agg #[.int .i64 0, .slice none 0 0, .slice none 0 0]) (is := [.u (.sc (.int .i64 0)), .u (.sc (.slice none 0 0)), .u (.sc (.slice none 0 0))]) 102 (by kernel_rfl) rfl rfl rfl Taken.no) rfl rfl (S' := (102, _) :: _) rfl ?_
 refine SL.effS (O.st_ref (m := 3) rfl rfl rfl (js := [_, _, _]) rfl rfl (by kernel_rfl) (by simp) (Nat.le_of_ble_eq_true rfl) rfl (is' := [_, _, _]) rfl Taken.no) (S' := (102, _) :: _) rfl ?_
 refine E.fo (W.rg ?_)
 refine SL.val (O.ldN (m := 3) (PtI.ref rfl rfl) (js := [_, _, _]) rfl (Nat.le_of_ble_eq_true rfl) Try.underlying30 rfl (by kernel_rfl) rfl Taken.no) ?_
 refine SL.memS (O.call (rn []) [] rfl rfl rfl (bestC_ok hok h8) (.cons (ArgOk.aggU (.cons (ArgOk.same rfl) (.cons (ArgOk.same rfl) (.cons (ArgOk.same rfl) .nil)))) .nil) SubS.nil rfl rfl rfl rfl rfl (.inl rfl) hcallOk12 (r' := .tup [.u _, .u _, .u _]) rfl rfl Taken.no) rfl rfl (S' := _) rfl ?_
 refine SL.mv rfl rfl ?_
 refine SL.val (O.extract rfl rfl rfl Taken.no) ?_
 refine SL.val (O.extract rfl rfl rfl Taken.no) ?_
 refine SL.val (O.extract rfl rfl rfl Taken.no) ?_
 refine SL.an rfl rfl (SL.an rfl rfl (SL.an rfl rfl (E.fo (W.rg ?_))))
 refine SL.val (O.ldN (m := 3) (PtI.ref rfl rfl) (js := [_, _, _]) rfl (Nat.le_of_ble_eq_true rfl) Try.underlying30 rfl (by kernel_rfl) rfl Taken.no) ?_
 refine SL.memS (O.call (rn []) [] rfl rfl rfl (countC_ok hok h8 (by omega)) (.cons (ArgOk.aggU (.cons (ArgOk.same rfl) (.cons (ArgOk.same rfl) (.cons (ArgOk.same rfl) .nil)))) .nil) SubS.nil rfl rfl rfl rfl rfl (.inl rfl) hcallOk16 (r' := .tup [.u _, .u _]) rfl rfl Taken.no) rfl rfl (S' := _) rfl ?_
 refine SL.mv rfl rfl ?_
 refine SL.val (O.extract rfl rfl rfl Taken.no) ?_
 refine SL.val (O.extract rfl rfl rfl Taken.no) ?_
 refine SL.an rfl rfl (SL.an rfl rfl (E.fo ?_))
 refine W.pick (K:=[(1,_),(2,_),(3,_),(4,_),(5,_),(6,_),(7,_),(8,_)]) (Z:=[(101,_),(102,_)]) ⟨rfl,rfl,rfl,rfl,rfl,rfl,rfl,rfl,trivial⟩ ⟨rfl,rfl,trivial⟩ ?_
 refine W.rg ?_
 refine SL.val (O.ldN (m := 3) (PtI.ref rfl rfl) (js := [_, _, _]) rfl (Nat.le_of_ble_eq_true rfl) Try.underlying25 rfl (by kernel_rfl) rfl Taken.no) ?_
 refine SL.memS (O.call (rn []) [] rfl rfl rfl (refParts_ok hok) (.cons (ArgOk.aggU (.cons (ArgOk.same rfl) (.cons (ArgOk.same rfl) (.cons (ArgOk.same rfl) .nil)))) .nil) SubS.nil rfl rfl rfl rfl rfl (.inl rfl) hcallOk27 (r' := .tup [.u _, .u _]) rfl rfl Taken.no) rfl rfl (S' := _) rfl ?_
 refine SL.as (i' := .tup [vL 1 ((namedL n (partsL (mF (lF ps) rs) (List.range n))).map eN), vI 0]) 48 rfl (by rw [parts_eq hf]) ?_
 refine SL.mv rfl rfl ?_
 refine SL.val (O.extract rfl rfl rfl Taken.no) ?_
 refine SL.val (O.extract rfl rfl rfl Taken.no) ?_
 refine SL.an rfl rfl (SL.an rfl rfl (E.fo (W.seq (W.rg (SL.mv rfl rfl ?_)))))
 refine SL.val (O.det (fun _ => G.R.mv (G.R.neq rfl rfl) (congrArg Value.bool (decide_eq_false (by decide)))) rfl Taken.no) ?_
 refine SL.mv rfl rfl ?_
 have hg2 : false = false := by decide
 refine SL.val (O.move rfl rfl (Taken.yes rfl rfl hg2)) ?_
 refine SL.val (O.det (fun _ => G.R.mv (G.R.neq rfl rfl) (congrArg Value.bool (decide_eq_false (by decide)))) rfl (Taken.yes rfl rfl hg2)) ?_
 refine SL.val (O.pick_f rfl rfl rfl rfl Taken.no) ?_
 refine SL.mv rfl rfl ?_
 have hg3 : false = false := by decide
 refine SL.val (O.move rfl rfl (Taken.yes rfl rfl hg3)) ?_
 refine SL.val (O.det (fun _ => G.R.mv (G.R.neq rfl rfl) (congrArg Value.bool (decide_eq_false (by decide)))) rfl (Taken.yes rfl rfl hg3)) ?_
 refine SL.val (O.pick_f rfl rfl rfl rfl Taken.no) ?_
 refine SL.mv rfl rfl ?_
 have hg4 : false = false := by decide
 refine SL.val (O.move rfl rfl (Taken.yes rfl rfl hg4)) ?_
 refine SL.val (O.lenE (SlOf.fz rfl (by decide)) (by first | exact List.length_map _ | rfl) Try.underlying32 rfl (Taken.yes rfl rfl hg4)) ?_
 refine SL.val (O.fld_ref (o' := 0) rfl Try.underlying25 rfl (m := 0) (by kernel_rfl) rfl rfl (Taken.yes rfl rfl hg4)) ?_
 refine SL.val (O.ld1 (PtI.ref rfl rfl) rfl Try.underlying3 rfl rfl (Taken.yes rfl rfl hg4)) ?_
 refine SL.val (O.det (fun _ => G.R.mv (G.R.neq rfl rfl) (congrArg Value.bool (decide_eq_false (by omega)))) rfl (Taken.yes rfl rfl hg4)) ?_
 refine SL.val (O.pick_f rfl rfl rfl rfl Taken.no) ?_
 refine E.fo ?_
 refine W.pick (K:=[(1,_),(2,_),(3,_),(4,_),(5,_),(7,_),(9,_),(67,_)]) (Z:=[(101,_),(102,_)]) ⟨rfl,rfl,rfl,rfl,rfl,rfl,rfl,rfl,trivial⟩ ⟨rfl,rfl,trivial⟩ ?_
 refine W.cond_f rfl ?_
 refine W.skip (E.to (W.rg (SL.an rfl rfl (SL.an rfl rfl (E.fo (W.seq (W.rg ?_)))))))
 refine SL.val (O.fld_ref (o' := 0) rfl Try.underlying25 rfl (m := 0) (by kernel_rfl) rfl rfl Taken.no) ?_
 refine SL.val (O.ld1 (PtI.ref rfl rfl) rfl Try.underlying3 rfl rfl Taken.no) ?_
 refine SL.mv rfl rfl (E.fo (W.block ?_))
 refine W.loopx1 (fun (f : Nat) => [(70, vI (f : Int)), (11, vI (sumM n ps rs f)), (12, vI ((cntM n ps rs f : Nat) : Int))]) (fun (f : Nat) => []) (fun (f : Nat) => f ≤ n) (fun (f : Nat) => n - f) (0) (rn []) (.cons (t := 1) rfl (.cons (t := 3) rfl (.cons (t := 4) rfl (.cons (t := 5) rfl (.cons (t := 7) rfl (.cons (t := 9) rfl (.cons (t := 69) rfl .nil))))))) (.cons (t := 101) rfl (.cons (t := 102) rfl .nil)) rfl ?_ ?_ rfl rfl ?_ ?_
 · exact (SubF.cons rfl (SubF.cons rfl (SubF.cons rfl SubF.nil)))
 · exact SubS.nil
 ·skip
  omega
 intro f hinv
 have hf_ := hinv
 have hsb := sum_b hok f
 have hcb := cnt_b hok f
 refine W.rg ?_
 refine SL.val (O.det (fun _ => G.R.lss rfl rfl) rfl Taken.no) ?_
 refine E.fo (W.seq ?_)
 first | refine W.cond_d rfl (fun hc5 => ?_) (fun hc5 => ?_) | refine W.cond_nd rfl (fun hc5 => ?_) (fun hc5 => ?_) | refine W.cond rfl (fun hc5 => ?_) (fun hc5 => ?_)
 ·skip
  have hpe := part_emb hok f
  have hrel := hpe.1.best_rel hok hpe.2.2
  have hss := (stB_perm hpe.2.2).1
  have hul := partU_len (n := n) (namedL n (partsL (mF (lF ps) rs) (List.range n))) f n
  have hsu2 := sum_b hok (f + 1)
  have hsu3 : sumM n ps rs (f + 1) = sumM n ps rs f + (stB (partU n (namedL n (partsL (mF (lF ps) rs) (List.range n))) f n).length (subP (cI (partU n (namedL n (partsL (mF (lF ps) rs) (List.range n))) f n)) ps) (subR (cI (partU n (namedL n (partsL (mF (lF ps) rs) (List.range n))) f n)) rs)).most := rfl
  have hcu2 := cnt_b hok (f + 1)
  have hcu3 : ((cntM n ps rs f : Nat) : Int) * (((allL (partU n (namedL n (partsL (mF (lF ps) rs) (List.range n))) f n).length (subP (cI (partU n (namedL n (partsL (mF (lF ps) rs) (List.range n))) f n)) ps) (subR (cI (partU n (namedL n (partsL (mF (lF ps) rs) (List.range n))) f n)) rs)).length : Nat) : Int) = ((cntM n ps rs (f + 1) : Nat) : Int) := (Int.natCast_mul _ _).symm
  have h8s : (selfs (partU n (namedL n (partsL (mF (lF ps) rs) (List.range n))) f n).length (atomsL (partU n (namedL n (partsL (mF (lF ps) rs) (List.range n))) f n).length (subR (cI (partU n (namedL n (partsL (mF (lF ps) rs) (List.range n))) f n)) rs))).length ≤ 8 := Nat.le_trans (un_names hok f) h8
  have hls := allL_9 (n := (partU n (namedL n (partsL (mF (lF ps) rs) (List.range n))) f n).length) (ps := subP (cI (partU n (namedL n (partsL (mF (lF ps) rs) (List.range n))) f n)) ps) (rs := subR (cI (partU n (namedL n (partsL (mF (lF ps) rs) (List.range n))) f n)) rs) (by omega)
  refine W.skip (E.to (W.seq (W.block (W.rg (SL.mv rfl rfl (SL.an rfl rfl (E.fo (W.rg (SL.an rfl rfl (E.fo (W.seq (W.rg ?_))))))))))))
  refine SL.val (O.fld_ref (o' := 0) rfl Try.underlying25 rfl (m := 0) (by kernel_rfl) rfl rfl Taken.no) ?_
  refine SL.val (O.ld1 (PtI.ref rfl rfl) rfl Try.underlying3 rfl rfl Taken.no) ?_
  refine SL.mv rfl rfl (E.fo (W.block ?_))
  refine W.adopt 14 104 3 1 (by decide) rfl rfl rfl ?_
  refine W.loopx1 (fun (k : Nat) => [(75, vI (k : Int)), (14, .own 103)]) (fun (k : Nat) => [(103, .data 3 1 ((cI (partU n (namedL n (partsL (mF (lF ps) rs) (List.range n))) f k)).map eI))]) (fun (k : Nat) => k ≤ n) (fun (k : Nat) => n - k) (0) (rn [(103, 104)]) (.cons (t := 1) rfl (.cons (t := 3) rfl (.cons (t := 4) rfl (.cons (t := 5) rfl (.cons (t := 7) rfl (.cons (t := 9) rfl (.cons (t := 11) rfl (.cons (t := 12) rfl (.cons (t := 13) rfl (.cons (t := 69) rfl (.cons (t := 70) rfl (.cons (t := 74) rfl .nil)))))))))))) (.cons (t := 101) rfl (.cons (t := 102) rfl .nil)) rfl ?_ ?_ rfl rfl ?_ ?_
  · exact (SubF.cons rfl (SubF.cons rfl SubF.nil))
  · exact (SubS.cons rfl SubS.nil)
  ·skip
   omega
  intro k hinv
  have hk := hinv
  have hkl := partU_len (n := n) (namedL n (partsL (mF (lF ps) rs) (List.range n))) f k
  refine W.rg ?_
  refine SL.val (O.det (fun _ => G.R.lss rfl rfl) rfl Taken.no) ?_
  refine E.fo (W.seq ?_)
  first | refine W.cond_d rfl (fun hc6 => ?_) (fun hc6 => ?_) | refine W.cond_nd rfl (fun hc6 => ?_) (fun hc6 => ?_) | refine W.cond rfl (fun hc6 => ?_) (fun hc6 => ?_)
  ·skip
   refine W.skip (E.to (W.seq (W.block (W.rg (SL.mv rfl rfl (SL.an rfl rfl (E.fo (W.rg (SL.mv rfl rfl (SL.mv rfl rfl ?_))))))))))
   refine SL.val (O.idx_fz (i := k) rfl rfl (rfl) (row_get (by omega)) Try.underlying32 hi3 hs3 rfl Taken.no) ?_
   refine SL.val (O.ld1 (PtI.ofU (PtU.fz rfl)) rfl Try.underlying3 rfl rfl Taken.no) ?_
   refine SL.mv rfl rfl ?_
   refine SL.val (O.det (fun _ => G.R.eql rfl rfl) rfl Taken.no) ?_
   refine E.fo ?_
   first | refine W.cond_d rfl (fun hc7 => ?_) (fun hc7 => ?_) | refine W.cond_nd rfl (fun hc7 => ?_) (fun hc7 => ?_) | refine W.cond rfl (fun hc7 => ?_) (fun hc7 => ?_)
   ·skip
    refine W.region (SL.mv rfl rfl (SL.mv rfl rfl ?_))
    refine SL.memS (O.buildSlice 105 (rows := [((k : Nat) : Int)].map eI) rfl rfl Try.underlying32 hi3 hz3 hs3 (by decide) rfl (by decide) rfl rfl rfl Taken.no) rfl rfl (S' := (105, .data 3 1 ([((k : Nat) : Int)].map eI)) :: _) rfl ?_
    refine SL.memS (O.app (k' := 106) rfl rfl (SlOf.own rfl rfl) Try.underlying32 hi3 hz3 hs3 rfl rfl (rfl) (by rw [hb3]; (simp only [List.length_map, List.length_singleton]; omega)) (by (simp only [List.length_map, List.length_singleton]; omega)) rfl Taken.no) rfl rfl (S' := (106, _) :: (103, .dead) :: _) rfl ?_
    refine SL.an rfl rfl (SL.nil (E.inn (E.to ?_)))
    refine W.pick (K:=[(1,_),(3,_),(4,_),(5,_),(7,_),(9,_),(11,_),(12,_),(13,_),(14,_),(69,_),(70,_),(74,_),(75,_)]) (Z:=[(101,_),(102,_),(105,_),(106,_)]) ⟨rfl,rfl,rfl,rfl,rfl,rfl,rfl,rfl,rfl,rfl,rfl,rfl,rfl,rfl,trivial⟩ ⟨rfl,rfl,rfl,rfl,trivial⟩ ?_
    refine W.region ?_
    refine SL.val (O.det (fun _ => by first | exact G.R.add64 rfl rfl (by omega) | exact G.R.add rfl rfl) rfl Taken.no) ?_
    refine SL.mv rfl rfl (SL.nil ?_)
    refine E.again ((k + 1)) (rn [(103, 106)]) ?_ ?_ rfl (fixL_spec rfl) ?_ ?_
    · exact (SubF.cons rfl (SubF.cons rfl (SubF.cons rfl (SubF.cons rfl (SubF.cons rfl (SubF.cons rfl (SubF.cons rfl (SubF.cons rfl (SubF.cons rfl (SubF.cons rfl (SubF.cons rfl (SubF.cons rfl (SubF.cons rfl (SubF.cons rfl SubF.nil))))))))))))))
    · exact (SubS.val rfl (by (try dsimp only); first | exact sb_data (by rw [partU_y (show (namedL n (partsL (mF (lF ps) rs) (List.range n)))[k]! = f by omega)]; exact (cI_snoc _ _).symm) | exact sb_data (by rw [partU_n (show ¬ (namedL n (partsL (mF (lF ps) rs) (List.range n)))[k]! = f by omega)])) (SubS.cons rfl (SubS.cons rfl SubS.nil)))
    ·try dsimp only
     omega
    · (try dsimp only); omega
   refine W.skip (E.inn (E.to (W.region ?_)))
   refine SL.val (O.det (fun _ => by first | exact G.R.add64 rfl rfl (by omega) | exact G.R.add rfl rfl) rfl Taken.no) ?_
   refine SL.mv rfl rfl (SL.nil ?_)
   refine E.again ((k + 1)) (rn []) ?_ ?_ rfl (fixL_spec rfl) ?_ ?_
   · exact (SubF.cons rfl (SubF.cons rfl (SubF.cons rfl (SubF.cons rfl (SubF.cons rfl (SubF.cons rfl (SubF.cons rfl (SubF.cons rfl (SubF.cons rfl (SubF.cons rfl (SubF.cons rfl (SubF.cons rfl (SubF.cons rfl (SubF.cons rfl SubF.nil))))))))))))))
   · exact (SubS.val rfl (by (try dsimp only); first | exact sb_data (by rw [partU_y (show (namedL n (partsL (mF (lF ps) rs) (List.range n)))[k]! = f by omega)]; exact (cI_snoc _ _).symm) | exact sb_data (by rw [partU_n (show ¬ (namedL n (partsL (mF (lF ps) rs) (List.range n)))[k]! = f by omega)])) (SubS.cons rfl (SubS.cons rfl SubS.nil)))
   ·try dsimp only
    omega
   · (try dsimp only); omega
  refine W.exit (E.th (E.th (E.hit (E.to (W.seq ?_)))))
  have hkn : k = n := by omega
  rw [hkn]
  refine W.freeze 103 rfl (F' := [(14, _)]) (⟨⟨_, rfl, rfl⟩, trivial⟩) ?_
  refine W.region ?_
  refine SL.val (O.ldN (m := 3) (PtI.ref rfl rfl) (js := [_, _, _]) rfl (Nat.le_of_ble_eq_true rfl) Try.underlying30 rfl (by kernel_rfl) rfl Taken.no) ?_
  refine SL.mv rfl rfl ?_
  refine SL.memS (O.call (rn []) [] rfl rfl rfl (sub_ok (us := cI (partU n (namedL n (partsL (mF (lF ps) rs) (List.range n))) f n)) hok (by omega) (by omega) (by rw [List.length_map]; omega)) (.cons (ArgOk.aggU (.cons (ArgOk.same rfl) (.cons (ArgOk.same rfl) (.cons (ArgOk.same rfl) .nil)))) (.cons (ArgOk.same rfl) .nil)) SubS.nil rfl rfl rfl rfl rfl (.inl rfl) hcallOk28 (r' := .tup [.agg [.u _, .u _, .u _], .u _]) rfl rfl Taken.no) rfl rfl (S' := _) rfl ?_
  refine SL.as (i' := .tup [.agg [vI ((partU n (namedL n (partsL (mF (lF ps) rs) (List.range n))) f n).length : Int), vL 3 ((subP (cI (partU n (namedL n (partsL (mF (lF ps) rs) (List.range n))) f n)) ps).map ePr), vL 3 ((subR (cI (partU n (namedL n (partsL (mF (lF ps) rs) (List.range n))) f n)) rs).map eRu)], vI 0]) 92 rfl (by rw [(sb_y hpe.2.1 ps rs).1, (sb_y hpe.2.1 ps rs).2.1, (sb_y hpe.2.1 ps rs).2.2.1, (sb_y hpe.2.1 ps rs).2.2.2, List.length_map]) ?_
  refine SL.mv rfl rfl ?_
  refine SL.val (O.extract rfl rfl rfl Taken.no) ?_
  refine SL.val (O.extract rfl rfl rfl Taken.no) ?_
  refine SL.memS (O.alloc (z := .agg #[.int .i64 0, .slice none 0 0, .slice none 0 0]) (is := [.u (.sc (.int .i64 0)), .u (.sc (.slice none 0 0)), .u (.sc (.slice none 0 0))]) 107 (by kernel_rfl) rfl rfl rfl Taken.no) rfl rfl (S' := (107, _) :: _) rfl ?_
  refine SL.effS (O.st_ref (m := 3) rfl rfl rfl (js := [_, _, _]) rfl rfl (by kernel_rfl) (by simp) (Nat.le_of_ble_eq_true rfl) rfl (is' := [_, _, _]) rfl Taken.no) (S' := (107, _) :: _) rfl ?_
  refine SL.an rfl rfl (E.fo ?_)
  refine W.pick (K:=[(1,_),(3,_),(4,_),(5,_),(7,_),(9,_),(11,_),(12,_),(14,_),(16,_),(17,_),(69,_),(70,_)]) (Z:=[(101,_),(102,_),(107,_)]) ⟨rfl,rfl,rfl,rfl,rfl,rfl,rfl,rfl,rfl,rfl,rfl,rfl,rfl,trivial⟩ ⟨rfl,rfl,rfl,trivial⟩ ?_
  refine W.rg ?_
  refine SL.val (O.ldN (m := 3) (PtI.ref rfl rfl) (js := [_, _, _]) rfl (Nat.le_of_ble_eq_true rfl) Try.underlying30 rfl (by kernel_rfl) rfl Taken.no) ?_
  refine SL.memS (O.call (rn []) [] rfl rfl rfl (bestC_ok hpe.2.2 h8s) (.cons (ArgOk.aggU (.cons (ArgOk.same rfl) (.cons (ArgOk.same rfl) (.cons (ArgOk.same rfl) .nil)))) .nil) SubS.nil rfl rfl rfl rfl rfl (.inl rfl) hcallOk12 (r' := .tup [.u _, .u _, .u _]) rfl rfl Taken.no) rfl rfl (S' := _) rfl ?_
  refine SL.mv rfl rfl ?_
  refine SL.val (O.extract rfl rfl rfl Taken.no) ?_
  refine SL.val (O.extract rfl rfl rfl Taken.no) ?_
  refine SL.val (O.extract rfl rfl rfl Taken.no) ?_
  refine SL.an rfl rfl (SL.an rfl rfl (SL.an rfl rfl (E.fo (W.rg ?_))))
  refine SL.val (O.ldN (m := 3) (PtI.ref rfl rfl) (js := [_, _, _]) rfl (Nat.le_of_ble_eq_true rfl) Try.underlying30 rfl (by kernel_rfl) rfl Taken.no) ?_
  refine SL.memS (O.call (rn []) [] rfl rfl rfl (countC_ok hpe.2.2 h8s (by omega)) (.cons (ArgOk.aggU (.cons (ArgOk.same rfl) (.cons (ArgOk.same rfl) (.cons (ArgOk.same rfl) .nil)))) .nil) SubS.nil rfl rfl rfl rfl rfl (.inl rfl) hcallOk16 (r' := .tup [.u _, .u _]) rfl rfl Taken.no) rfl rfl (S' := _) rfl ?_
  refine SL.mv rfl rfl ?_
  refine SL.val (O.extract rfl rfl rfl Taken.no) ?_
  refine SL.val (O.extract rfl rfl rfl Taken.no) ?_
  refine SL.an rfl rfl (SL.an rfl rfl (E.fo ?_))
  refine W.pick (K:=[(1,_),(3,_),(4,_),(5,_),(7,_),(9,_),(11,_),(12,_),(14,_),(17,_),(18,_),(19,_),(20,_),(21,_),(22,_),(69,_),(70,_)]) (Z:=[(101,_),(102,_),(107,_)]) ⟨rfl,rfl,rfl,rfl,rfl,rfl,rfl,rfl,rfl,rfl,rfl,rfl,rfl,rfl,rfl,rfl,rfl,trivial⟩ ⟨rfl,rfl,rfl,trivial⟩ ?_
  refine W.seq (W.rg (SL.mv rfl rfl ?_))
  refine SL.val (O.det (fun _ => G.R.mv (G.R.neq rfl rfl) (congrArg Value.bool (decide_eq_false (by decide)))) rfl Taken.no) ?_
  refine SL.mv rfl rfl ?_
  have hg8 : false = false := by decide
  refine SL.val (O.move rfl rfl (Taken.yes rfl rfl hg8)) ?_
  refine SL.val (O.det (fun _ => G.R.mv (G.R.neq rfl rfl) (congrArg Value.bool (decide_eq_false (by decide)))) rfl (Taken.yes rfl rfl hg8)) ?_
  refine SL.val (O.pick_f rfl rfl rfl rfl Taken.no) ?_
  refine SL.mv rfl rfl ?_
  have hg9 : false = false := by decide
  refine SL.val (O.move rfl rfl (Taken.yes rfl rfl hg9)) ?_
  refine SL.val (O.det (fun _ => G.R.mv (G.R.neq rfl rfl) (congrArg Value.bool (decide_eq_false (by decide)))) rfl (Taken.yes rfl rfl hg9)) ?_
  refine SL.val (O.pick_f rfl rfl rfl rfl Taken.no) ?_
  refine SL.mv rfl rfl ?_
  have hg10 : false = false := by decide
  refine SL.val (O.move rfl rfl (Taken.yes rfl rfl hg10)) ?_
  refine SL.val (O.lenE (SlOf.fz rfl (by decide)) (by first | exact List.length_map _ | rfl) Try.underlying32 rfl (Taken.yes rfl rfl hg10)) ?_
  refine SL.val (O.move rfl rfl (Taken.yes rfl rfl hg10)) ?_
  refine SL.val (O.lenE (n := (partU n (namedL n (partsL (mF (lF ps) rs) (List.range n))) f n).length) (SlOf.fz rfl (by decide)) (by rw [List.length_map, List.length_map]) Try.underlying32 rfl (Taken.yes rfl rfl hg10)) ?_
  refine SL.val (O.det (fun _ => G.R.mv (G.R.neq rfl rfl) (congrArg Value.bool (decide_eq_false (by (have := hss.1; omega))))) rfl (Taken.yes rfl rfl hg10)) ?_
  refine SL.val (O.pick_f rfl rfl rfl rfl Taken.no) ?_
  refine E.fo ?_
  refine W.pick (K:=[(1,_),(3,_),(4,_),(5,_),(7,_),(9,_),(11,_),(12,_),(14,_),(18,_),(19,_),(21,_),(69,_),(70,_),(122,_)]) (Z:=[(101,_),(102,_),(107,_)]) ⟨rfl,rfl,rfl,rfl,rfl,rfl,rfl,rfl,rfl,rfl,rfl,rfl,rfl,rfl,rfl,trivial⟩ ⟨rfl,rfl,rfl,trivial⟩ ?_
  refine W.cond_f rfl ?_
  refine W.skip (E.to (W.rg (SL.mv rfl rfl (SL.mv rfl rfl ?_))))
  refine SL.val (O.det (fun _ => by first | exact G.R.add64 rfl rfl (by omega) | exact G.R.add rfl rfl) rfl Taken.no) ?_
  refine SL.mv rfl rfl (SL.mv rfl rfl ?_)
  refine SL.val (O.det (fun _ => G.R.mv (G.R.mul64 rfl rfl (by rw [hcu3]; omega)) (congrArg (Value.int .i64) hcu3)) rfl Taken.no) ?_
  refine SL.an rfl rfl (SL.an rfl rfl (E.fo (W.rg (SL.mv rfl rfl ?_))))
  refine SL.val (O.lenE (n := (partU n (namedL n (partsL (mF (lF ps) rs) (List.range n))) f n).length) (SlOf.fz rfl (by decide)) (by rw [List.length_map, List.length_map]) Try.underlying32 rfl Taken.no) ?_
  refine SL.mv rfl rfl (E.fo ?_)
  refine W.pick (K:=[(1,_),(3,_),(4,_),(5,_),(7,_),(9,_),(11,_),(12,_),(14,_),(18,_),(69,_),(70,_),(129,_),(130,_),(131,_)]) (Z:=[(101,_),(102,_),(107,_)]) ⟨rfl,rfl,rfl,rfl,rfl,rfl,rfl,rfl,rfl,rfl,rfl,rfl,rfl,rfl,rfl,trivial⟩ ⟨rfl,rfl,rfl,trivial⟩ ?_
  refine W.block ?_
  refine W.loopx1 (fun (j : Nat) => [(131, vI (j : Int))]) (fun (j : Nat) => []) (fun (j : Nat) => j ≤ (partU n (namedL n (partsL (mF (lF ps) rs) (List.range n))) f n).length) (fun (j : Nat) => (partU n (namedL n (partsL (mF (lF ps) rs) (List.range n))) f n).length - j) (0) (rn []) (.cons (t := 1) rfl (.cons (t := 3) rfl (.cons (t := 4) rfl (.cons (t := 5) rfl (.cons (t := 7) rfl (.cons (t := 9) rfl (.cons (t := 11) rfl (.cons (t := 12) rfl (.cons (t := 14) rfl (.cons (t := 18) rfl (.cons (t := 69) rfl (.cons (t := 70) rfl (.cons (t := 129) rfl (.cons (t := 130) rfl .nil)))))))))))))) (.cons (t := 101) rfl (.cons (t := 102) rfl (.cons (t := 107) rfl .nil))) rfl ?_ ?_ rfl rfl ?_ ?_
  · exact (SubF.cons rfl SubF.nil)
  · exact SubS.nil
  ·skip
   omega
  intro j hinv
  have hj := hinv
  refine W.rg ?_
  refine SL.val (O.det (fun _ => G.R.lss rfl rfl) rfl Taken.no) ?_
  refine E.fo (W.seq ?_)
  first | refine W.cond_d rfl (fun hc11 => ?_) (fun hc11 => ?_) | refine W.cond_nd rfl (fun hc11 => ?_) (fun hc11 => ?_) | refine W.cond rfl (fun hc11 => ?_) (fun hc11 => ?_)
  ·skip
   have hju := hpe.1.lt j (by omega)
   have hjr := hrel j (by omega)
   have hjs := hss.2 j (by omega)
   have hsl := hss.1
   have hcg : (cI (partU n (namedL n (partsL (mF (lF ps) rs) (List.range n))) f n))[j]! = (((partU n (namedL n (partsL (mF (lF ps) rs) (List.range n))) f n)[j]! : Nat) : Int) := cast_get (by omega)
   have hcg2 : (cI (partU n (namedL n (partsL (mF (lF ps) rs) (List.range n))) f n))[(stB (partU n (namedL n (partsL (mF (lF ps) rs) (List.range n))) f n).length (subP (cI (partU n (namedL n (partsL (mF (lF ps) rs) (List.range n))) f n)) ps) (subR (cI (partU n (namedL n (partsL (mF (lF ps) rs) (List.range n))) f n)) rs)).best[j]!]! = (((partU n (namedL n (partsL (mF (lF ps) rs) (List.range n))) f n)[(stB (partU n (namedL n (partsL (mF (lF ps) rs) (List.range n))) f n).length (subP (cI (partU n (namedL n (partsL (mF (lF ps) rs) (List.range n))) f n)) ps) (subR (cI (partU n (namedL n (partsL (mF (lF ps) rs) (List.range n))) f n)) rs)).best[j]!]! : Nat) : Int) := cast_get (by omega)
   have hcl : (cI (partU n (namedL n (partsL (mF (lF ps) rs) (List.range n))) f n)).length = (partU n (namedL n (partsL (mF (lF ps) rs) (List.range n))) f n).length := List.length_map _
   refine W.skip (E.to (W.seq (W.block (W.rg (SL.mv rfl rfl ?_)))))
   refine SL.val (O.idx_fz (i := j) rfl rfl (rfl) (row_get (by omega)) Try.underlying32 hi3 hs3 rfl Taken.no) ?_
   refine SL.val (O.ld1 (PtI.ofU (PtU.fz rfl)) rfl Try.underlying3 rfl rfl Taken.no) ?_
   refine SL.an rfl rfl (SL.an rfl rfl (E.fo (W.seq ?_)))
   refine W.draw [⟨[], [], [], []⟩, ⟨[], [], [], []⟩, ⟨[], [], [], []⟩, ⟨[], [], [], []⟩, ⟨[], [], [], []⟩, ⟨[], [], [], []⟩, ⟨[], [], [], []⟩, ⟨[], [], [], []⟩, ⟨[], [], [], []⟩, ⟨[], [], [], []⟩, ⟨[], [], [], []⟩, ⟨[], [], [], []⟩] rfl (by kernel_rfl) (by kernel_rfl) rfl rfl ?_
   refine WH.mv rfl rfl rfl (WH.mv rfl rfl rfl ?_)
   refine WH.val (O.idx_fz (i := ((partU n (namedL n (partsL (mF (lF ps) rs) (List.range n))) f n)[j]!)) rfl rfl (by exact hcg) (row_get (by omega)) Try.underlying32 hi3 hs3 rfl Taken.no) rfl rfl ?_
   refine WH.val (O.ld1 (PtI.ofU (PtU.fz rfl)) rfl Try.underlying3 rfl rfl Taken.no) rfl rfl ?_
   refine WH.mv rfl rfl rfl (WH.mv rfl rfl rfl (WH.mv rfl rfl rfl ?_))
   refine WH.val (O.idx_fz (i := j) rfl rfl (rfl) (row_get (by omega)) Try.underlying32 hi3 hs3 rfl Taken.no) rfl rfl ?_
   refine WH.val (O.ld1 (PtI.ofU (PtU.fz rfl)) rfl Try.underlying3 rfl rfl Taken.no) rfl rfl ?_
   refine WH.val (O.idx_fz (i := ((stB (partU n (namedL n (partsL (mF (lF ps) rs) (List.range n))) f n).length (subP (cI (partU n (namedL n (partsL (mF (lF ps) rs) (List.range n))) f n)) ps) (subR (cI (partU n (namedL n (partsL (mF (lF ps) rs) (List.range n))) f n)) rs)).best[j]!)) rfl rfl (rfl) (row_get (by omega)) Try.underlying32 hi3 hs3 rfl Taken.no) rfl rfl ?_
   refine WH.val (O.ld1 (PtI.ofU (PtU.fz rfl)) rfl Try.underlying3 rfl rfl Taken.no) rfl rfl ?_
   refine WH.val (O.det (fun _ => G.R.mv (G.R.neq rfl rfl) (congrArg Value.bool (decide_eq_false (by omega)))) rfl Taken.no) rfl rfl ?_
   refine WH.nil (E.to ?_)
   refine W.pick (K:=[(1,_),(3,_),(4,_),(5,_),(7,_),(9,_),(11,_),(12,_),(14,_),(18,_),(69,_),(70,_),(129,_),(130,_),(131,_),(147,_)]) (Z:=[(101,_),(102,_),(107,_)]) ⟨rfl,rfl,rfl,rfl,rfl,rfl,rfl,rfl,rfl,rfl,rfl,rfl,rfl,rfl,rfl,rfl,trivial⟩ ⟨rfl,rfl,rfl,trivial⟩ ?_
   refine W.cond_f rfl ?_
   refine W.skip (E.inn (E.to (W.region ?_)))
   refine SL.val (O.det (fun _ => by first | exact G.R.add64 rfl rfl (by omega) | exact G.R.add rfl rfl) rfl Taken.no) ?_
   refine SL.mv rfl rfl (SL.nil ?_)
   refine E.again ((j + 1)) (rn []) ?_ ?_ rfl (fixL_spec rfl) ?_ ?_
   · exact (SubF.cons rfl (SubF.cons rfl (SubF.cons rfl (SubF.cons rfl (SubF.cons rfl (SubF.cons rfl (SubF.cons rfl (SubF.cons rfl (SubF.cons rfl (SubF.cons rfl (SubF.cons rfl (SubF.cons rfl (SubF.cons rfl (SubF.cons rfl (SubF.cons rfl SubF.nil)))))))))))))))
   · exact (SubS.cons rfl (SubS.cons rfl (SubS.cons rfl SubS.nil)))
   ·try dsimp only
    omega
   · (try dsimp only); omega
  refine W.exit (E.th (E.th (E.hit (E.inn (E.to (W.region ?_))))))
  refine SL.val (O.det (fun _ => by first | exact G.R.add64 rfl rfl (by omega) | exact G.R.add rfl rfl) rfl Taken.no) ?_
  refine SL.mv rfl rfl (SL.nil ?_)
  refine E.again ((f + 1)) (rn []) ?_ ?_ rfl (fixL_spec rfl) ?_ ?_
  · exact (SubF.cons rfl (SubF.cons rfl (SubF.cons rfl (SubF.cons rfl (SubF.cons rfl (SubF.cons rfl (SubF.cons rfl (SubF.cons rfl (SubF.cons rfl (SubF.cons rfl SubF.nil))))))))))
  · exact (SubS.cons rfl (SubS.cons rfl SubS.nil))
  ·try dsimp only
   omega
  · (try dsimp only); omega
 refine W.exit (E.th (E.th (E.hit (E.to (W.rg ?_)))))
 have hfn : f = n := by omega
 rw [hfn]
 refine SL.mv rfl rfl (SL.mv rfl rfl ?_)
 refine SL.val (O.det (fun _ => G.R.mv (G.R.eql rfl rfl) (congrArg Value.bool (decide_eq_true (by exact sum_all hok)))) rfl Taken.no) ?_
 refine SL.mv rfl rfl ?_
 have hg12 : true = true := by decide
 refine SL.val (O.move rfl rfl (Taken.yes rfl rfl hg12)) ?_
 refine SL.val (O.move rfl rfl (Taken.yes rfl rfl hg12)) ?_
 refine SL.val (O.det (fun _ => G.R.mv (G.R.eql rfl rfl) (congrArg Value.bool (decide_eq_true (by rw [cnt_all hok])))) rfl (Taken.yes rfl rfl hg12)) ?_
 refine SL.val (O.pick_t rfl rfl rfl rfl Taken.no) ?_
 refine SL.an rfl rfl (E.fo (W.ret ?_))
 refine E.fin (rs := [_]) (rn []) (.inl rfl) rfl (.cons (ResOne.tmp rfl) .nil) ?_ ?_ rfl (fixL_spec rfl)
 ·skip
  rfl
 · exact SubS.nil

set_option maxRecDepth 8000 in
set_option maxHeartbeats 3200000 in
theorem optimumParts_n {N : Int} {ps : List Pr} {rs : List Ru} (hv : Con Try.prog 19 [vA [uI N, .sl 3 (ps.map ePr), .sl 3 (rs.map eRu)]] [] (vB false) []) :
    Con Try.prog 7 [vA [uI N, .sl 3 (ps.map ePr), .sl 3 (rs.map eRu)]] [] (vB true) [] := by
 refine Con.enterL (n := 158) Try.func7 rfl rfl rfl (fun τ w ok vs hin => ?_)
 have hl0_1 := hin.lenA (i := 0) (j := 1) rfl rfl
 try rw [List.length_map] at hl0_1
 have hl0_2 := hin.lenA (i := 0) (j := 2) rfl rfl
 try rw [List.length_map] at hl0_2
 clear hin
 refine W.rg ?_
 refine SL.memS (O.box (is := [_, _, _]) 101 rfl rfl (by simp) rfl rfl Taken.no) rfl rfl (S' := (101, _) :: _) rfl ?_
 refine SL.an rfl rfl (E.fo (W.seq (W.rg ?_)))
 refine SL.val (O.callp rfl rfl rfl (awake34_h) .nil hcallOk9 rfl Taken.no) ?_
 refine SL.as (i' := vB true) 25 rfl (by rfl) ?_
 refine SL.val (O.det (fun _ => G.R.mv (G.R.not rfl) rfl) rfl Taken.no) ?_
 refine SL.mv rfl rfl ?_
 have hg1 : false = false := by decide
 refine SL.val (O.ldN (m := 3) (PtI.ref rfl rfl) (js := [_, _, _]) rfl (Nat.le_of_ble_eq_true rfl) Try.underlying25 rfl (by kernel_rfl) rfl (Taken.yes rfl rfl hg1)) ?_
 refine SL.val (O.callp rfl rfl rfl (hv) (.cons (ArgOk.aggU (.cons (ArgOk.same rfl) (.cons (ArgOk.same rfl) (.cons (ArgOk.same rfl) .nil)))) .nil) hcallOk19 rfl (Taken.yes rfl rfl hg1)) ?_
 refine SL.as (i' := vB false) 29 rfl (by rfl) ?_
 refine SL.val (O.det (fun _ => G.R.mv (G.R.not rfl) rfl) rfl (Taken.yes rfl rfl hg1)) ?_
 refine SL.val (O.pick_f rfl rfl rfl rfl Taken.no) ?_
 refine E.fo ?_
 refine W.cond_t rfl ?_
 refine W.rg ?_
 refine SL.val (O.callp rfl rfl rfl (awake34_h) .nil hcallOk9 rfl Taken.no) ?_
 refine SL.as (i' := vB true) 32 rfl (by rfl) ?_
 refine SL.an rfl rfl (E.fo (W.ret (E.thr ?_)))
 refine E.fin (rs := [_]) (rn []) (.inl rfl) rfl (.cons (ResOne.tmp rfl) .nil) ?_ ?_ rfl (fixL_spec rfl)
 ·skip
  rfl
 · exact SubS.nil

theorem optimumParts_h {N : Int} {ps : List Pr} {rs : List Ru} : Con Try.prog 7 [vA [uI N, .sl 3 (ps.map ePr), .sl 3 (rs.map eRu)]] [] (vB true) [] := by
  by_cases h : (Prob.mk N ps rs).ok ∧ ((N ≤ 9 ∨ 200 < N) ∧ ps.length ≤ 40 ∧ (rs.length ≤ 12 ∨ rs.length = 401)) ∧ (selfs N.toNat (atomsL N.toNat rs)).length ≤ 6
  · obtain ⟨hok, hfew, h6⟩ := h
    obtain ⟨n, rfl⟩ : ∃ n : Nat, N = (n : Int) := ⟨N.toNat, Prob.nat hok.1⟩
    exact optimumParts_y hok hfew h6
  · exact optimumParts_n (valid34_h h)

end Go.Proofs.Ytbkbeplddddgeaa
end
