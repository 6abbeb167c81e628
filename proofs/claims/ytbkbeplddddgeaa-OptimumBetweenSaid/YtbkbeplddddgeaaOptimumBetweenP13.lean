/-
  What the proof rests on: part 13 of 13.
-/
import Derived.Test.YtbkbeplddddgeaaOptimumBetweenP12
section
namespace Go.Proofs.Ytbkbeplddddgeaa
open Go Go.RowKit Go.H Go.D33

theorem hcallOk22 : G.callOk Try.prog 22 = true := by kernel_rfl
theorem hcallOk32 : G.callOk Try.prog 32 = true := by kernel_rfl
theorem hcallOk34 : G.callOk Try.prog 34 = true := by kernel_rfl
theorem hcallOk38 : G.callOk Try.prog 38 = true := by kernel_rfl
theorem hcallOk39 : G.callOk Try.prog 39 = true := by kernel_rfl

theorem refPermN_h {n : Nat} {ps : List Pr} {rs : List Ru} {m : List Nat} (hok : (Prob.mk (n : Int) ps rs).ok) : Con Try.prog 20 [vA [uI (n : Int), .sl 3 (ps.map ePr), .sl 3 (rs.map eRu)], vL 1 (m.map eN)] [] (vB (permB n ps rs m)) [] := by
  have h := refPerm_ok (l := m.map fun x : Nat => (x : Int)) hok
  rw [eI_eN] at h
  exact h

set_option maxRecDepth 8000 in
theorem names_h {n : Nat} {ps : List Pr} {rs : List Ru} (hok : (Prob.mk (n : Int) ps rs).ok) :
    Con Try.prog 34 [vA [uI (n : Int), .sl 3 (ps.map ePr), .sl 3 (rs.map eRu)]] [] (vL 1 ((selfs n (atomsL n rs)).map eN)) [] := by
 have hf := hok.1
 have hn2 : (n : Int) ≤ 200 := hf.2.1
 have hal := (atoms_comp hf).len
 obtain ⟨i3, hi3, hz3, hs3, hb3⟩ := hinf3
 refine Con.enterL (n := 29) Try.func34 rfl rfl rfl (fun τ w ok vs hin => ?_)
 have hl0_1 := hin.lenA (i := 0) (j := 1) rfl rfl
 try rw [List.length_map] at hl0_1
 have hl0_2 := hin.lenA (i := 0) (j := 2) rfl rfl
 try rw [List.length_map] at hl0_2
 clear hin
 refine W.rg ?_
 refine SL.memS (O.box (is := [_, _, _]) 101 rfl rfl (by simp) rfl rfl Taken.no) rfl rfl (S' := (101, _) :: _) rfl ?_
 refine SL.an rfl rfl (E.fo (W.rg ?_))
 refine SL.val (O.ldN (m := 3) (PtI.ref rfl rfl) (js := [_, _, _]) rfl (Nat.le_of_ble_eq_true rfl) Try.underlying25 rfl (by kernel_rfl) rfl Taken.no) ?_
 refine SL.memS (O.call (rn []) [] rfl rfl rfl (refAtoms_ok hok) (.cons (ArgOk.aggU (.cons (ArgOk.same rfl) (.cons (ArgOk.same rfl) (.cons (ArgOk.same rfl) .nil)))) .nil) SubS.nil rfl rfl rfl rfl rfl (.inl rfl) hcallOk22 (r' := .tup [.u _, .u _]) rfl rfl Taken.no) rfl rfl (S' := _) rfl ?_
 refine SL.mv rfl rfl ?_
 refine SL.val (O.extract rfl rfl rfl Taken.no) ?_
 refine SL.val (O.extract rfl rfl rfl Taken.no) ?_
 refine SL.an rfl rfl (SL.an rfl rfl (E.fo (W.rg (SL.an rfl rfl (E.fo (W.seq (W.rg (SL.an rfl rfl (E.fo (W.block ?_))))))))))
 refine W.adopt 5 103 3 1 (by decide) rfl rfl rfl ?_
 refine W.loopx1 (fun (i : Nat) => [(6, vI (i : Int)), (5, .own 102)]) (fun (i : Nat) => [(102, .data 3 1 ((selfs i (atomsL n rs)).map eN))]) (fun (i : Nat) => i ≤ n) (fun (i : Nat) => n - i) (0) (rn [(102, 103)]) (.cons (t := 2) rfl (.cons (t := 3) rfl .nil)) (.cons (t := 101) rfl .nil) rfl ?_ ?_ rfl rfl ?_ ?_
 · exact (SubF.cons rfl (SubF.cons rfl SubF.nil))
 · exact (SubS.cons rfl SubS.nil)
 ·skip
  omega
 intro i hinv
 have hi := hinv
 have hsl := selfs_len i (atomsL n rs)
 refine W.seq (W.rg (SL.mv rfl rfl (SL.mv rfl rfl ?_)))
 refine SL.val (O.lenE (SlOf.fz rfl (by decide)) (by first | exact List.length_map _ | rfl) Try.underlying32 rfl Taken.no) ?_
 refine SL.val (O.det (fun _ => G.R.lss rfl rfl) rfl Taken.no) ?_
 refine E.fo ?_
 first | refine W.cond_d rfl (fun hc1 => ?_) (fun hc1 => ?_) | refine W.cond_nd rfl (fun hc1 => ?_) (fun hc1 => ?_) | refine W.cond rfl (fun hc1 => ?_) (fun hc1 => ?_)
 ·skip
  refine W.skip (E.to (W.seq (W.block (W.rg (SL.mv rfl rfl (SL.mv rfl rfl ?_))))))
  refine SL.val (O.idx_fz (i := i) rfl rfl (rfl) (row_get (by omega)) Try.underlying32 hi3 hs3 rfl Taken.no) ?_
  refine SL.val (O.ld1 (PtI.ofU (PtU.fz rfl)) rfl Try.underlying3 rfl rfl Taken.no) ?_
  refine SL.mv rfl rfl ?_
  refine SL.val (O.det (fun _ => G.R.eql rfl rfl) rfl Taken.no) ?_
  refine E.fo ?_
  first | refine W.cond_d rfl (fun hc2 => ?_) (fun hc2 => ?_) | refine W.cond_nd rfl (fun hc2 => ?_) (fun hc2 => ?_) | refine W.cond rfl (fun hc2 => ?_) (fun hc2 => ?_)
  ·skip
   refine W.region (SL.mv rfl rfl (SL.mv rfl rfl ?_))
   refine SL.memS (O.buildSlice 104 (rows := [i].map eN) rfl rfl Try.underlying32 hi3 hz3 hs3 (by decide) rfl (by decide) rfl rfl rfl Taken.no) rfl rfl (S' := (104, .data 3 1 ([i].map eN)) :: _) rfl ?_
   refine SL.memS (O.app (k' := 105) rfl rfl (SlOf.own rfl rfl) Try.underlying32 hi3 hz3 hs3 rfl rfl (by exact app_map) (by rw [hb3]; (simp only [List.length_map, List.length_singleton]; omega)) (by (simp only [List.length_map, List.length_singleton]; omega)) rfl Taken.no) rfl rfl (S' := (105, _) :: (102, .dead) :: _) rfl ?_
   refine SL.an rfl rfl (SL.nil (E.inn (E.to (W.region (SL.mv rfl rfl ?_)))))
   refine SL.val (O.det (fun _ => by first | exact G.R.add64 rfl rfl (by omega) | exact G.R.add rfl rfl) rfl Taken.no) ?_
   refine SL.an rfl rfl (SL.nil ?_)
   refine E.again ((i + 1)) (rn [(102, 105)]) ?_ ?_ rfl (fixL_spec rfl) ?_ ?_
   · exact (SubF.cons rfl (SubF.cons rfl (SubF.cons rfl (SubF.cons rfl SubF.nil))))
   · exact (SubS.val rfl (by (try dsimp only); first | exact sb_data (by rw [selfs_y (by omega)]) | exact sb_data (by rw [selfs_n (by omega)])) (SubS.cons rfl SubS.nil))
   ·try dsimp only
    omega
   · (try dsimp only); omega
  refine W.skip (E.inn (E.to (W.region (SL.mv rfl rfl ?_))))
  refine SL.val (O.det (fun _ => by first | exact G.R.add64 rfl rfl (by omega) | exact G.R.add rfl rfl) rfl Taken.no) ?_
  refine SL.an rfl rfl (SL.nil ?_)
  refine E.again ((i + 1)) (rn []) ?_ ?_ rfl (fixL_spec rfl) ?_ ?_
  · exact (SubF.cons rfl (SubF.cons rfl (SubF.cons rfl (SubF.cons rfl SubF.nil))))
  · exact (SubS.val rfl (by (try dsimp only); first | exact sb_data (by rw [selfs_y (by omega)]) | exact sb_data (by rw [selfs_n (by omega)])) (SubS.cons rfl SubS.nil))
  ·try dsimp only
   omega
  · (try dsimp only); omega
 refine W.exit (E.th (E.th (E.hit (E.to (W.rg (SL.mv rfl rfl (SL.an rfl rfl (E.fo (W.ret ?_)))))))))
 refine E.freeze 102 rfl (F' := [(2, _)]) (⟨⟨_, rfl, rfl⟩, trivial⟩) ?_
 refine E.fin (rs := [_]) (rn []) (.inl rfl) rfl (.cons (ResOne.tmp rfl) .nil) ?_ ?_ rfl (fixL_spec rfl)
 ·skip
  have hkn : i = n := by omega
  rw [hkn]; rfl
 · exact SubS.nil

set_option maxRecDepth 8000 in
set_option maxHeartbeats 1600000 in
theorem refAll_h {n : Nat} {ps : List Pr} {rs : List Ru} (hok : (Prob.mk (n : Int) ps rs).ok) (hn9 : n ≤ 9) :
    Con Try.prog 39 [vA [uI (n : Int), .sl 3 (ps.map ePr), .sl 3 (rs.map eRu)]] [] (vL 1 ((allL n ps rs).map eL1)) [] := by
 have hf := hok.1
 have hn2 : (n : Int) ≤ 200 := hf.2.1
 have hal := (atoms_comp hf).len
 have hle := (atoms_comp hf).le
 obtain ⟨i3, hi3, hz3, hs3, hb3⟩ := hinf3
 obtain ⟨i32, hi32, hz32, hs32, hb32⟩ := hinf32
 refine Con.enterL (n := 103) Try.func39 rfl rfl rfl (fun τ w ok vs hin => ?_)
 have hl0_1 := hin.lenA (i := 0) (j := 1) rfl rfl
 try rw [List.length_map] at hl0_1
 have hl0_2 := hin.lenA (i := 0) (j := 2) rfl rfl
 try rw [List.length_map] at hl0_2
 clear hin
 refine W.rg ?_
 refine SL.memS (O.box (is := [_, _, _]) 101 rfl rfl (by simp) rfl rfl Taken.no) rfl rfl (S' := (101, _) :: _) rfl ?_
 refine SL.an rfl rfl (E.fo (W.rg ?_))
 refine SL.val (O.ldN (m := 3) (PtI.ref rfl rfl) (js := [_, _, _]) rfl (Nat.le_of_ble_eq_true rfl) Try.underlying25 rfl (by kernel_rfl) rfl Taken.no) ?_
 refine SL.memS (O.call (rn []) [] rfl rfl rfl (refAtoms_ok hok) (.cons (ArgOk.aggU (.cons (ArgOk.same rfl) (.cons (ArgOk.same rfl) (.cons (ArgOk.same rfl) .nil)))) .nil) SubS.nil rfl rfl rfl rfl rfl (.inl rfl) hcallOk22 (r' := .tup [.u _, .u _]) rfl rfl Taken.no) rfl rfl (S' := _) rfl ?_
 refine SL.mv rfl rfl ?_
 refine SL.val (O.extract rfl rfl rfl Taken.no) ?_
 refine SL.val (O.extract rfl rfl rfl Taken.no) ?_
 refine SL.an rfl rfl (SL.an rfl rfl (E.fo (W.rg ?_)))
 refine SL.memS (O.buildSlice 102 (rows := ([] : List Nat).map eN) rfl rfl Try.underlying32 hi3 hz3 hs3 (by decide) rfl (by decide) rfl rfl rfl Taken.no) rfl rfl (S' := (102, .data 3 1 (([] : List Nat).map eN)) :: _) rfl ?_
 refine SL.freeze 102 rfl (F' := [(18, _)]) (⟨⟨_, rfl, rfl⟩, trivial⟩) ?_
 refine SL.memS (O.buildSlice 103 (rows := [([] : List Nat)].map eL1) rfl rfl Try.underlying68 hi32 hz32 hs32 (by decide) rfl (by decide) rfl rfl rfl Taken.no) rfl rfl (S' := (103, .data 32 1 ([([] : List Nat)].map eL1)) :: _) rfl ?_
 refine SL.an rfl rfl (E.fo (W.seq (W.rg (SL.an rfl rfl (E.fo (W.block ?_))))))
 refine W.loopx1 (fun (i : Nat) => [(6, vI (i : Int)), (5, .own 104)]) (fun (i : Nat) => [(104, .data 32 1 ((allR (atomsL n rs) i).map eL1))]) (fun (i : Nat) => i ≤ n) (fun (i : Nat) => n - i) (0) (rn [(104, 103)]) (.cons (t := 1) rfl (.cons (t := 2) rfl (.cons (t := 3) rfl .nil))) (.cons (t := 101) rfl .nil) rfl ?_ ?_ rfl rfl ?_ ?_
 · exact (SubF.cons rfl (SubF.cons rfl SubF.nil))
 · exact (SubS.cons rfl SubS.nil)
 ·skip
  omega
 intro i hinv
 have hi := hinv
 have hlb := allR_9 (atomsL n rs) (k := i) (by omega)
 have hrl := allR_len (atomsL n rs) i
 refine W.seq (W.rg (SL.mv rfl rfl ?_))
 refine SL.val (O.fld_ref (o' := 0) rfl Try.underlying25 rfl (m := 0) (by kernel_rfl) rfl rfl Taken.no) ?_
 refine SL.val (O.ld1 (PtI.ref rfl rfl) rfl Try.underlying3 rfl rfl Taken.no) ?_
 refine SL.val (O.det (fun _ => G.R.lss rfl rfl) rfl Taken.no) ?_
 refine E.fo ?_
 first | refine W.cond_d rfl (fun hc1 => ?_) (fun hc1 => ?_) | refine W.cond_nd rfl (fun hc1 => ?_) (fun hc1 => ?_) | refine W.cond rfl (fun hc1 => ?_) (fun hc1 => ?_)
 ·skip
  refine W.skip (E.to (W.seq (W.block (W.rg (SL.an rfl rfl (E.fo (W.seq (W.rg (SL.an rfl rfl (E.fo (W.block ?_)))))))))))
  refine W.adopt 7 106 32 1 (by decide) rfl rfl rfl ?_
  refine W.loopx1 (fun (k : Nat) => [(8, vI (k : Int)), (7, .own 105)]) (fun (k : Nat) => [(105, .data 32 1 ((((allR (atomsL n rs) i).take k).flatMap (stepA (atomsL n rs) i)).map eL1))]) (fun (k : Nat) => k ≤ (allR (atomsL n rs) i).length) (fun (k : Nat) => (allR (atomsL n rs) i).length - k) (0) (rn [(105, 106)]) (.cons (t := 1) rfl (.cons (t := 2) rfl (.cons (t := 3) rfl (.cons (t := 5) rfl (.cons (t := 6) rfl .nil))))) (.cons (t := 101) rfl (.cons (t := 104) rfl .nil)) rfl ?_ ?_ rfl rfl ?_ ?_
  · exact (SubF.cons rfl (SubF.cons rfl SubF.nil))
  · exact (SubS.val rfl (by exact sb_data (by rw [List.take_zero]; rfl)) SubS.nil)
  ·skip
   omega
  intro k hinv
  have hk := hinv
  have hpv := flat_9 (atm := atomsL n rs) (i := i) (k := k) (by omega)
  refine W.seq (W.rg (SL.mv rfl rfl (SL.mv rfl rfl ?_)))
  refine SL.val (O.lenE (SlOf.own rfl rfl) (by first | exact List.length_map _ | rfl) Try.underlying68 rfl Taken.no) ?_
  refine SL.val (O.det (fun _ => G.R.lss rfl rfl) rfl Taken.no) ?_
  refine E.fo ?_
  first | refine W.cond_d rfl (fun hc2 => ?_) (fun hc2 => ?_) | refine W.cond_nd rfl (fun hc2 => ?_) (fun hc2 => ?_) | refine W.cond rfl (fun hc2 => ?_) (fun hc2 => ?_)
  ·skip
   have hkl : k < (allR (atomsL n rs) i).length := by omega
   have hll : ((allR (atomsL n rs) i)[k]!).length = i := hrl _ (mem_at hkl)
   have hai := hle i (by omega)
   refine W.skip (E.to (W.seq (W.block (W.rg (SL.mv rfl rfl (SL.mv rfl rfl ?_))))))
   refine SL.val (O.idx_own (i := k) rfl rfl rfl (rfl) (by rw [List.length_map]; omega) Try.underlying68 hi32 hs32 rfl Taken.no) ?_
   refine SL.val (O.ld1 (PtI.ofU (PtU.el rfl rfl (row_get (by omega)))) rfl Try.underlying32 rfl rfl Taken.no) ?_
   refine SL.an rfl rfl (E.fo (W.seq (W.rg (SL.mv rfl rfl (SL.mv rfl rfl ?_)))))
   refine SL.val (O.idx_fz (i := i) rfl rfl (rfl) (row_get (by omega)) Try.underlying32 hi3 hs3 rfl Taken.no) ?_
   refine SL.val (O.ld1 (PtI.ofU (PtU.fz rfl)) rfl Try.underlying3 rfl rfl Taken.no) ?_
   refine SL.mv rfl rfl ?_
   refine SL.val (O.det (fun _ => G.R.neq rfl rfl) rfl Taken.no) ?_
   refine E.fo ?_
   first | refine W.cond_d rfl (fun hc3 => ?_) (fun hc3 => ?_) | refine W.cond_nd rfl (fun hc3 => ?_) (fun hc3 => ?_) | refine W.cond rfl (fun hc3 => ?_) (fun hc3 => ?_)
   ·skip
    have hAi : ¬ (atomsL n rs)[i]! = i := by omega
    refine W.seq ?_
    refine W.draw [⟨[], [], [], [105]⟩, ⟨[107], [107], [107], []⟩, ⟨[], [], [], []⟩, ⟨[107, 108], [107, 108], [108], []⟩, ⟨[], [], [], []⟩, ⟨[], [], [], []⟩, ⟨[], [], [], []⟩, ⟨[], [], [], []⟩, ⟨[], [], [], []⟩, ⟨[], [], [], []⟩, ⟨[], [], [], []⟩, ⟨[109], [109], [109], []⟩, ⟨[108, 109, 110], [108], [110], []⟩, ⟨[111], [111], [111], []⟩, ⟨[105, 111, 112], [105, 112], [112], []⟩, ⟨[], [], [], [112]⟩] rfl (by kernel_rfl) (by kernel_rfl) rfl rfl ?_
    refine WH.mv rfl rfl rfl ?_
    refine WH.memS (O.buildSlice 107 (rows := ([] : List Nat).map eN) rfl rfl Try.underlying32 hi3 hz3 hs3 (by decide) rfl (by decide) rfl rfl rfl Taken.no) rfl rfl rfl rfl rfl (S' := (107, .data 3 1 (([] : List Nat).map eN)) :: _) rfl ?_
    refine WH.mv rfl rfl rfl ?_
    refine WH.memS (O.app (k' := 108) rfl rfl (SlOf.fz rfl (by decide)) Try.underlying32 hi3 hz3 hs3 rfl rfl (by exact List.nil_append _) (by rw [hb3]; (simp only [List.length_map, List.length_nil]; omega)) (by (simp only [List.length_map, List.length_nil]; omega)) rfl Taken.no) rfl rfl rfl rfl rfl (S' := (108, _) :: (107, .dead) :: _) rfl ?_
    refine WH.mv rfl rfl rfl (WH.mv rfl rfl rfl (WH.mv rfl rfl rfl ?_))
    refine WH.val (O.idx_fz (i := i) rfl rfl (rfl) (row_get (by omega)) Try.underlying32 hi3 hs3 rfl Taken.no) rfl rfl ?_
    refine WH.val (O.ld1 (PtI.ofU (PtU.fz rfl)) rfl Try.underlying3 rfl rfl Taken.no) rfl rfl ?_
    refine WH.val (O.idx_fz (i := (atomsL n rs)[i]!) rfl rfl (rfl) (row_get (by omega)) Try.underlying32 hi3 hs3 rfl Taken.no) rfl rfl ?_
    refine WH.val (O.ld1 (PtI.ofU (PtU.fz rfl)) rfl Try.underlying3 rfl rfl Taken.no) rfl rfl ?_
    refine WH.memS (O.buildSlice 109 (rows := [((allR (atomsL n rs) i)[k]!)[(atomsL n rs)[i]!]!].map eN) rfl rfl Try.underlying32 hi3 hz3 hs3 (by decide) rfl (by decide) rfl rfl rfl Taken.no) rfl rfl rfl rfl rfl (S' := (109, .data 3 1 ([((allR (atomsL n rs) i)[k]!)[(atomsL n rs)[i]!]!].map eN)) :: _) rfl ?_
    refine WH.memS (OpOk.frz2 (O.app (k' := 110) rfl rfl (SlOf.own rfl rfl) Try.underlying32 hi3 hz3 hs3 rfl rfl (by exact app_map) (by rw [hb3]; (simp only [List.length_map, List.length_singleton]; omega)) (by (simp only [List.length_map, List.length_singleton]; omega)) rfl Taken.no)) rfl rfl rfl rfl rfl (S' := (108, .dead) :: _) rfl ?_
    refine WH.memS (O.buildSlice 111 (rows := [(allR (atomsL n rs) i)[k]! ++ [((allR (atomsL n rs) i)[k]!)[(atomsL n rs)[i]!]!]].map eL1) rfl rfl Try.underlying68 hi32 hz32 hs32 (by decide) rfl (by decide) rfl rfl rfl Taken.no) rfl rfl rfl rfl rfl (S' := (111, .data 32 1 ([(allR (atomsL n rs) i)[k]! ++ [((allR (atomsL n rs) i)[k]!)[(atomsL n rs)[i]!]!]].map eL1)) :: _) rfl ?_
    refine WH.memS (O.app (k' := 112) rfl rfl (SlOf.own rfl rfl) Try.underlying68 hi32 hz32 hs32 rfl rfl (by exact app_map) (by rw [hb32]; (simp only [List.length_map, List.length_singleton]; omega)) (by (simp only [List.length_map, List.length_singleton]; omega)) rfl Taken.no) rfl rfl rfl rfl rfl (S' := (112, _) :: (105, .dead) :: _) rfl ?_
    refine WH.val (O.assign rfl rfl Taken.no) rfl rfl ?_
    refine WH.nil (E.to ?_)
    refine W.pick (K:=[(1,_),(2,_),(3,_),(5,_),(6,_),(7,_),(8,_),(9,_)]) (Z:=[(101,_),(104,_),(109,_),(111,_),(112,_)]) ⟨rfl,rfl,rfl,rfl,rfl,rfl,rfl,rfl,trivial⟩ ⟨rfl,rfl,rfl,rfl,rfl,trivial⟩ ?_
    refine W.exit (E.th (E.hit (E.to (W.region (SL.mv rfl rfl ?_)))))
    refine SL.val (O.det (fun _ => by first | exact G.R.add64 rfl rfl (by omega) | exact G.R.add rfl rfl) rfl Taken.no) ?_
    refine SL.an rfl rfl (SL.nil ?_)
    refine E.again ((k + 1)) (rn [(105, 112)]) ?_ ?_ rfl (fixL_spec rfl) ?_ ?_
    · exact (SubF.cons rfl (SubF.cons rfl (SubF.cons rfl (SubF.cons rfl (SubF.cons rfl (SubF.cons rfl (SubF.cons rfl SubF.nil)))))))
    · exact (SubS.val rfl (by (try dsimp only); first | exact sb_data (by rw [flat_s hkl, stepA_n hAi]) | exact sb_data (by rw [flat_s hkl, stepA_y hAi, show c = i + 1 by omega])) (SubS.cons rfl (SubS.cons rfl SubS.nil)))
    ·try dsimp only
     omega
    · (try dsimp only); omega
   have hAi : (atomsL n rs)[i]! = i := by omega
   refine W.skip (E.to (W.rg (SL.an rfl rfl (E.fo (W.block ?_)))))
   refine W.loopx1 (fun (c : Nat) => [(10, vI (c : Int)), (7, .own 113)]) (fun (c : Nat) => [(113, .data 32 1 (((((allR (atomsL n rs) i).take k).flatMap (stepA (atomsL n rs) i)) ++ chQ i (allR (atomsL n rs) i)[k]! c).map eL1))]) (fun (c : Nat) => c ≤ i + 1) (fun (c : Nat) => i + 1 - c) (0) (rn [(113, 105)]) (.cons (t := 1) rfl (.cons (t := 2) rfl (.cons (t := 3) rfl (.cons (t := 5) rfl (.cons (t := 6) rfl (.cons (t := 8) rfl (.cons (t := 9) rfl .nil))))))) (.cons (t := 101) rfl (.cons (t := 104) rfl .nil)) rfl ?_ ?_ rfl rfl ?_ ?_
   · exact (SubF.cons rfl (SubF.cons rfl SubF.nil))
   · exact (SubS.val rfl (by exact sb_data (by show _ = List.map eL1 (_ ++ []); rw [List.append_nil])) SubS.nil)
   ·skip
    omega
   intro c hinv
   have hc := hinv
   have hcl := chQ_le i c (allR (atomsL n rs) i)[k]!
   refine W.seq (W.rg (SL.mv rfl rfl (SL.mv rfl rfl ?_)))
   refine SL.val (O.det (fun _ => G.R.leq rfl rfl) rfl Taken.no) ?_
   refine E.fo ?_
   first | refine W.cond_d rfl (fun hc4 => ?_) (fun hc4 => ?_) | refine W.cond_nd rfl (fun hc4 => ?_) (fun hc4 => ?_) | refine W.cond rfl (fun hc4 => ?_) (fun hc4 => ?_)
   ·skip
    refine W.skip (E.to (W.seq (W.block (W.rg (SL.mv rfl rfl (SL.mv rfl rfl ?_))))))
    refine SL.val (O.det (fun _ => G.R.eql rfl rfl) rfl Taken.no) ?_
    refine SL.mv rfl rfl ?_
    refine SL.case (j := 3) (g := 65) (want := false) rfl rfl (fun hg5 => ?_) (fun hg5 => ?_)
    ·skip
     first | have hg5p := G.gA3 hg5 | have hg5p := G.gA4 hg5 | have hg5p := hg5
     refine SL.val (O.move rfl rfl (Taken.yes rfl rfl hg5)) ?_
     refine SL.val (O.move rfl rfl (Taken.yes rfl rfl hg5)) ?_
     refine SL.val (O.idx_fz (i := c) rfl rfl (rfl) (row_get (by omega)) Try.underlying32 hi3 hs3 rfl (Taken.yes rfl rfl hg5)) ?_
     refine SL.val (O.ld1 (PtI.ofU (PtU.fz rfl)) rfl Try.underlying3 rfl rfl (Taken.yes rfl rfl hg5)) ?_
     refine SL.val (O.move rfl rfl (Taken.yes rfl rfl hg5)) ?_
     refine SL.val (O.det (fun _ => G.R.eql rfl rfl) rfl (Taken.yes rfl rfl hg5)) ?_
     refine SL.val (O.pick_f rfl hg5 rfl rfl Taken.no) ?_
     refine E.fo ?_
     first | refine W.cond_d rfl (fun hc6 => ?_) (fun hc6 => ?_) | refine W.cond_nd rfl (fun hc6 => ?_) (fun hc6 => ?_) | refine W.cond rfl (fun hc6 => ?_) (fun hc6 => ?_)
     ·skip
      have hQ : toQ i (allR (atomsL n rs) i)[k]! c = true := by first | exact decide_eq_true (.inl (by omega)) | exact decide_eq_true (.inr (by omega))
      refine W.region (SL.mv rfl rfl ?_)
      refine SL.memS (O.buildSlice 114 (rows := ([] : List Nat).map eN) rfl rfl Try.underlying32 hi3 hz3 hs3 (by decide) rfl (by decide) rfl rfl rfl Taken.no) rfl rfl (S' := (114, .data 3 1 (([] : List Nat).map eN)) :: _) rfl ?_
      refine SL.mv rfl rfl ?_
      refine SL.memS (O.app (k' := 115) rfl rfl (SlOf.fz rfl (by decide)) Try.underlying32 hi3 hz3 hs3 rfl rfl (by exact List.nil_append _) (by rw [hb3]; (simp only [List.length_map, List.length_nil]; omega)) (by (simp only [List.length_map, List.length_nil]; omega)) rfl Taken.no) rfl rfl (S' := (115, _) :: (114, .dead) :: _) rfl ?_
      refine SL.mv rfl rfl ?_
      refine SL.memS (O.buildSlice 116 (rows := [c].map eN) rfl rfl Try.underlying32 hi3 hz3 hs3 (by decide) rfl (by decide) rfl rfl rfl Taken.no) rfl rfl (S' := (116, .data 3 1 ([c].map eN)) :: _) rfl ?_
      refine SL.memS (O.app (k' := 117) rfl rfl (SlOf.own rfl rfl) Try.underlying32 hi3 hz3 hs3 rfl rfl (by exact app_map) (by rw [hb3]; (simp only [List.length_map, List.length_singleton]; omega)) (by (simp only [List.length_map, List.length_singleton]; omega)) rfl Taken.no) rfl rfl (S' := (117, _) :: (115, .dead) :: _) rfl ?_
      refine SL.freeze 117 rfl (F' := [(79, _)]) (⟨⟨_, rfl, rfl⟩, trivial⟩) ?_
      refine SL.memS (O.buildSlice 118 (rows := [(allR (atomsL n rs) i)[k]! ++ [c]].map eL1) rfl rfl Try.underlying68 hi32 hz32 hs32 (by decide) rfl (by decide) rfl rfl rfl Taken.no) rfl rfl (S' := (118, .data 32 1 ([(allR (atomsL n rs) i)[k]! ++ [c]].map eL1)) :: _) rfl ?_
      refine SL.memS (O.app (k' := 119) rfl rfl (SlOf.own rfl rfl) Try.underlying68 hi32 hz32 hs32 rfl rfl (by exact app_map) (by rw [hb32]; (simp only [List.length_map, List.length_singleton, List.length_append]; omega)) (by (simp only [List.length_map, List.length_singleton, List.length_append]; omega)) rfl Taken.no) rfl rfl (S' := (119, _) :: (113, .dead) :: _) rfl ?_
      refine SL.an rfl rfl (SL.nil (E.inn (E.to ?_)))
      refine W.pick (K:=[(1,_),(2,_),(3,_),(5,_),(6,_),(7,_),(8,_),(9,_),(10,_)]) (Z:=[(101,_),(104,_),(116,_),(118,_),(119,_)]) ⟨rfl,rfl,rfl,rfl,rfl,rfl,rfl,rfl,rfl,trivial⟩ ⟨rfl,rfl,rfl,rfl,rfl,trivial⟩ ?_
      refine W.region (SL.mv rfl rfl ?_)
      refine SL.val (O.det (fun _ => by first | exact G.R.add64 rfl rfl (by omega) | exact G.R.add rfl rfl) rfl Taken.no) ?_
      refine SL.an rfl rfl (SL.nil ?_)
      refine E.again ((c + 1)) (rn [(113, 119)]) ?_ ?_ rfl (fixL_spec rfl) ?_ ?_
      · exact (SubF.cons rfl (SubF.cons rfl (SubF.cons rfl (SubF.cons rfl (SubF.cons rfl (SubF.cons rfl (SubF.cons rfl (SubF.cons rfl (SubF.cons rfl SubF.nil)))))))))
      · exact (SubS.val rfl (by (try dsimp only); first | exact sb_data (by rw [chQ_y hQ, ← List.append_assoc]) | exact sb_data (by rw [chQ_no hQ]) | exact sb_data (by rw [chQ_y (decide_eq_true (.inl (by omega))), ← List.append_assoc])) (SubS.cons rfl (SubS.cons rfl SubS.nil)))
      ·try dsimp only
       omega
      · (try dsimp only); omega
     have hQ : toQ i (allR (atomsL n rs) i)[k]! c = false := decide_eq_false (fun q => by omega)
     refine W.skip (E.inn (E.to (W.region (SL.mv rfl rfl ?_))))
     refine SL.val (O.det (fun _ => by first | exact G.R.add64 rfl rfl (by omega) | exact G.R.add rfl rfl) rfl Taken.no) ?_
     refine SL.an rfl rfl (SL.nil ?_)
     refine E.again ((c + 1)) (rn []) ?_ ?_ rfl (fixL_spec rfl) ?_ ?_
     · exact (SubF.cons rfl (SubF.cons rfl (SubF.cons rfl (SubF.cons rfl (SubF.cons rfl (SubF.cons rfl (SubF.cons rfl (SubF.cons rfl (SubF.cons rfl SubF.nil)))))))))
     · exact (SubS.val rfl (by (try dsimp only); first | exact sb_data (by rw [chQ_y hQ, ← List.append_assoc]) | exact sb_data (by rw [chQ_no hQ]) | exact sb_data (by rw [chQ_y (decide_eq_true (.inl (by omega))), ← List.append_assoc])) (SubS.cons rfl (SubS.cons rfl SubS.nil)))
     ·try dsimp only
      omega
     · (try dsimp only); omega
    first | have hg5p := G.gA7 hg5 | have hg5p := G.gA8 hg5 | have hg5p := hg5
    refine SL.sk rfl rfl rfl hg5 (SL.sk rfl rfl rfl hg5 (SL.sk rfl rfl rfl hg5 (SL.sk rfl rfl rfl hg5 (SL.sk rfl rfl rfl hg5 (SL.sk rfl rfl rfl hg5 ?_)))))
    refine SL.val (O.pick_t rfl (G.ne_f hg5) rfl rfl Taken.no) ?_
    refine E.fo ?_
    refine W.cond_t rfl ?_
    refine W.region (SL.mv rfl rfl ?_)
    refine SL.memS (O.buildSlice 120 (rows := ([] : List Nat).map eN) rfl rfl Try.underlying32 hi3 hz3 hs3 (by decide) rfl (by decide) rfl rfl rfl Taken.no) rfl rfl (S' := (120, .data 3 1 (([] : List Nat).map eN)) :: _) rfl ?_
    refine SL.mv rfl rfl ?_
    refine SL.memS (O.app (k' := 121) rfl rfl (SlOf.fz rfl (by decide)) Try.underlying32 hi3 hz3 hs3 rfl rfl (by exact List.nil_append _) (by rw [hb3]; (simp only [List.length_map, List.length_nil]; omega)) (by (simp only [List.length_map, List.length_nil]; omega)) rfl Taken.no) rfl rfl (S' := (121, _) :: (120, .dead) :: _) rfl ?_
    refine SL.mv rfl rfl ?_
    refine SL.memS (O.buildSlice 122 (rows := [c].map eN) rfl rfl Try.underlying32 hi3 hz3 hs3 (by decide) rfl (by decide) rfl rfl rfl Taken.no) rfl rfl (S' := (122, .data 3 1 ([c].map eN)) :: _) rfl ?_
    refine SL.memS (O.app (k' := 123) rfl rfl (SlOf.own rfl rfl) Try.underlying32 hi3 hz3 hs3 rfl rfl (by exact app_map) (by rw [hb3]; (simp only [List.length_map, List.length_singleton]; omega)) (by (simp only [List.length_map, List.length_singleton]; omega)) rfl Taken.no) rfl rfl (S' := (123, _) :: (121, .dead) :: _) rfl ?_
    refine SL.freeze 123 rfl (F' := [(79, _)]) (⟨⟨_, rfl, rfl⟩, trivial⟩) ?_
    refine SL.memS (O.buildSlice 124 (rows := [(allR (atomsL n rs) i)[k]! ++ [c]].map eL1) rfl rfl Try.underlying68 hi32 hz32 hs32 (by decide) rfl (by decide) rfl rfl rfl Taken.no) rfl rfl (S' := (124, .data 32 1 ([(allR (atomsL n rs) i)[k]! ++ [c]].map eL1)) :: _) rfl ?_
    refine SL.memS (O.app (k' := 125) rfl rfl (SlOf.own rfl rfl) Try.underlying68 hi32 hz32 hs32 rfl rfl (by exact app_map) (by rw [hb32]; (simp only [List.length_map, List.length_singleton, List.length_append]; omega)) (by (simp only [List.length_map, List.length_singleton, List.length_append]; omega)) rfl Taken.no) rfl rfl (S' := (125, _) :: (113, .dead) :: _) rfl ?_
    refine SL.an rfl rfl (SL.nil (E.inn (E.to ?_)))
    refine W.pick (K:=[(1,_),(2,_),(3,_),(5,_),(6,_),(7,_),(8,_),(9,_),(10,_)]) (Z:=[(101,_),(104,_),(122,_),(124,_),(125,_)]) ⟨rfl,rfl,rfl,rfl,rfl,rfl,rfl,rfl,rfl,trivial⟩ ⟨rfl,rfl,rfl,rfl,rfl,trivial⟩ ?_
    refine W.region (SL.mv rfl rfl ?_)
    refine SL.val (O.det (fun _ => by first | exact G.R.add64 rfl rfl (by omega) | exact G.R.add rfl rfl) rfl Taken.no) ?_
    refine SL.an rfl rfl (SL.nil ?_)
    refine E.again ((c + 1)) (rn [(113, 125)]) ?_ ?_ rfl (fixL_spec rfl) ?_ ?_
    · exact (SubF.cons rfl (SubF.cons rfl (SubF.cons rfl (SubF.cons rfl (SubF.cons rfl (SubF.cons rfl (SubF.cons rfl (SubF.cons rfl (SubF.cons rfl SubF.nil)))))))))
    · exact (SubS.val rfl (by (try dsimp only); first | exact sb_data (by rw [chQ_y hQ, ← List.append_assoc]) | exact sb_data (by rw [chQ_no hQ]) | exact sb_data (by rw [chQ_y (decide_eq_true (.inl (by omega))), ← List.append_assoc])) (SubS.cons rfl (SubS.cons rfl SubS.nil)))
    ·try dsimp only
     omega
    · (try dsimp only); omega
   refine W.exit (E.th (E.th (E.hit (E.inn (E.to (W.region (SL.mv rfl rfl ?_)))))))
   refine SL.val (O.det (fun _ => by first | exact G.R.add64 rfl rfl (by omega) | exact G.R.add rfl rfl) rfl Taken.no) ?_
   refine SL.an rfl rfl (SL.nil ?_)
   refine E.again ((k + 1)) (rn [(105, 113)]) ?_ ?_ rfl (fixL_spec rfl) ?_ ?_
   · exact (SubF.cons rfl (SubF.cons rfl (SubF.cons rfl (SubF.cons rfl (SubF.cons rfl (SubF.cons rfl (SubF.cons rfl SubF.nil)))))))
   · exact (SubS.val rfl (by (try dsimp only); first | exact sb_data (by rw [flat_s hkl, stepA_n hAi]) | exact sb_data (by rw [flat_s hkl, stepA_y hAi, show c = i + 1 by omega])) (SubS.cons rfl (SubS.cons rfl SubS.nil)))
   ·try dsimp only
    omega
   · (try dsimp only); omega
  refine W.exit (E.th (E.th (E.hit (E.to (W.region (SL.mv rfl rfl (SL.an rfl rfl (SL.nil (E.inn (E.to (W.region (SL.mv rfl rfl ?_))))))))))))
  refine SL.val (O.det (fun _ => by first | exact G.R.add64 rfl rfl (by omega) | exact G.R.add rfl rfl) rfl Taken.no) ?_
  refine SL.an rfl rfl (SL.nil ?_)
  refine E.again ((i + 1)) (rn [(104, 105)]) ?_ ?_ rfl (fixL_spec rfl) ?_ ?_
  · exact (SubF.cons rfl (SubF.cons rfl (SubF.cons rfl (SubF.cons rfl (SubF.cons rfl SubF.nil)))))
  · exact (SubS.val rfl (by (try dsimp only); exact sb_data (by rw [show k = (allR (atomsL n rs) i).length by omega, List.take_length]; rfl)) (SubS.cons rfl SubS.nil))
  ·try dsimp only
   omega
  · (try dsimp only); omega
 refine W.exit (E.th (E.th (E.hit (E.to (W.rg (SL.an rfl rfl (E.fo (W.seq (W.rg (SL.an rfl rfl (E.fo (W.block ?_))))))))))))
 refine W.adopt 11 127 32 1 (by decide) rfl rfl rfl ?_
 refine W.loopx1 (fun (q : Nat) => [(12, vI (q : Int)), (11, .own 126)]) (fun (q : Nat) => [(126, .data 32 1 ((((allR (atomsL n rs) i).take q).filter (permB n ps rs)).map eL1))]) (fun (q : Nat) => q ≤ (allR (atomsL n rs) i).length) (fun (q : Nat) => (allR (atomsL n rs) i).length - q) (0) (rn [(126, 127)]) (.cons (t := 1) rfl (.cons (t := 2) rfl (.cons (t := 5) rfl .nil))) (.cons (t := 101) rfl (.cons (t := 104) rfl .nil)) rfl ?_ ?_ rfl rfl ?_ ?_
 · exact (SubF.cons rfl (SubF.cons rfl SubF.nil))
 · exact (SubS.val rfl (by exact sb_data (by rw [List.take_zero]; rfl)) SubS.nil)
 ·skip
  omega
 intro q hinv
 have hq := hinv
 have hfl := List.length_filter_le (permB n ps rs) ((allR (atomsL n rs) i).take q)
 rw [List.length_take] at hfl
 refine W.seq (W.rg (SL.mv rfl rfl (SL.mv rfl rfl ?_)))
 refine SL.val (O.lenE (SlOf.own rfl rfl) (by first | exact List.length_map _ | rfl) Try.underlying68 rfl Taken.no) ?_
 refine SL.val (O.det (fun _ => G.R.lss rfl rfl) rfl Taken.no) ?_
 refine E.fo ?_
 first | refine W.cond_d rfl (fun hc7 => ?_) (fun hc7 => ?_) | refine W.cond_nd rfl (fun hc7 => ?_) (fun hc7 => ?_) | refine W.cond rfl (fun hc7 => ?_) (fun hc7 => ?_)
 ·skip
  refine W.skip (E.to (W.seq (W.block (W.seq ?_))))
  refine W.draw [⟨[101], [], [], []⟩, ⟨[], [], [], [104]⟩, ⟨[], [], [], []⟩, ⟨[104], [], [], []⟩, ⟨[104], [], [], []⟩, ⟨[], [], [], []⟩] rfl (by kernel_rfl) (by kernel_rfl) rfl rfl ?_
  refine WH.val (O.ldN (m := 3) (PtI.ref rfl rfl) (js := [_, _, _]) rfl (Nat.le_of_ble_eq_true rfl) Try.underlying25 rfl (by kernel_rfl) rfl Taken.no) rfl rfl ?_
  refine WH.mv rfl rfl rfl (WH.mv rfl rfl rfl ?_)
  refine WH.val (O.idx_own (i := q) rfl rfl rfl (rfl) (by rw [List.length_map]; omega) Try.underlying68 hi32 hs32 rfl Taken.no) rfl rfl ?_
  refine WH.val (O.ld1 (PtI.ofU (PtU.el rfl rfl (row_get (by omega)))) rfl Try.underlying32 rfl rfl Taken.no) rfl rfl ?_
  refine WH.val (O.callp rfl rfl rfl (refPermN_h (m := (allR (atomsL n rs) i)[q]!) hok) (.cons (ArgOk.aggU (.cons (ArgOk.same rfl) (.cons (ArgOk.same rfl) (.cons (ArgOk.same rfl) .nil)))) (.cons (ArgOk.same rfl) .nil)) hcallOk20 rfl Taken.no) rfl rfl ?_
  refine WH.nil (E.to ?_)
  first | refine W.cond_d rfl (fun hc8 => ?_) (fun hc8 => ?_) | refine W.cond_nd rfl (fun hc8 => ?_) (fun hc8 => ?_) | refine W.cond rfl (fun hc8 => ?_) (fun hc8 => ?_)
  ·skip
   have hP : permB n ps rs (allR (atomsL n rs) i)[q]! = true := by first | assumption | exact decide_eq_true (by assumption)
   refine W.region (SL.mv rfl rfl (SL.mv rfl rfl (SL.mv rfl rfl ?_)))
   refine SL.val (O.idx_own (i := q) rfl rfl rfl (rfl) (by rw [List.length_map]; omega) Try.underlying68 hi32 hs32 rfl Taken.no) ?_
   refine SL.val (O.ld1 (PtI.ofU (PtU.el rfl rfl (row_get (by omega)))) rfl Try.underlying32 rfl rfl Taken.no) ?_
   refine SL.memS (O.buildSlice 128 (rows := [(allR (atomsL n rs) i)[q]!].map eL1) rfl rfl Try.underlying68 hi32 hz32 hs32 (by decide) rfl (by decide) rfl rfl rfl Taken.no) rfl rfl (S' := (128, .data 32 1 ([(allR (atomsL n rs) i)[q]!].map eL1)) :: _) rfl ?_
   refine SL.memS (O.app (k' := 129) rfl rfl (SlOf.own rfl rfl) Try.underlying68 hi32 hz32 hs32 rfl rfl (by exact app_map) (by rw [hb32]; (simp only [List.length_map, List.length_singleton]; omega)) (by (simp only [List.length_map, List.length_singleton]; omega)) rfl Taken.no) rfl rfl (S' := (129, _) :: (126, .dead) :: _) rfl ?_
   refine SL.an rfl rfl (SL.nil (E.inn (E.to (W.region (SL.mv rfl rfl ?_)))))
   refine SL.val (O.det (fun _ => by first | exact G.R.add64 rfl rfl (by omega) | exact G.R.add rfl rfl) rfl Taken.no) ?_
   refine SL.an rfl rfl (SL.nil ?_)
   refine E.again ((q + 1)) (rn [(126, 129)]) ?_ ?_ rfl (fixL_spec rfl) ?_ ?_
   · exact (SubF.cons rfl (SubF.cons rfl (SubF.cons rfl (SubF.cons rfl (SubF.cons rfl SubF.nil)))))
   · exact (SubS.val rfl (by (try dsimp only); first | exact sb_data (by rw [filt_s (by omega), if_pos hP]) | exact sb_data (by rw [filt_s (by omega), if_neg (by rw [hP]; decide), List.append_nil])) (SubS.cons rfl (SubS.cons rfl SubS.nil)))
   ·try dsimp only
    omega
   · (try dsimp only); omega
  have hP : permB n ps rs (allR (atomsL n rs) i)[q]! = false := by first | assumption | exact decide_eq_false (by assumption)
  refine W.skip (E.inn (E.to (W.region (SL.mv rfl rfl ?_))))
  refine SL.val (O.det (fun _ => by first | exact G.R.add64 rfl rfl (by omega) | exact G.R.add rfl rfl) rfl Taken.no) ?_
  refine SL.an rfl rfl (SL.nil ?_)
  refine E.again ((q + 1)) (rn []) ?_ ?_ rfl (fixL_spec rfl) ?_ ?_
  · exact (SubF.cons rfl (SubF.cons rfl (SubF.cons rfl (SubF.cons rfl (SubF.cons rfl SubF.nil)))))
  · exact (SubS.val rfl (by (try dsimp only); first | exact sb_data (by rw [filt_s (by omega), if_pos hP]) | exact sb_data (by rw [filt_s (by omega), if_neg (by rw [hP]; decide), List.append_nil])) (SubS.cons rfl (SubS.cons rfl SubS.nil)))
  ·try dsimp only
   omega
  · (try dsimp only); omega
 refine W.exit (E.th (E.th (E.hit (E.to (W.rg (SL.mv rfl rfl (SL.an rfl rfl (E.fo (W.ret ?_)))))))))
 refine E.freeze 126 rfl (F' := [(2, _)]) (⟨⟨_, rfl, rfl⟩, trivial⟩) ?_
 refine E.fin (rs := [_]) (rn []) (.inl rfl) rfl (.cons (ResOne.tmp rfl) .nil) ?_ ?_ rfl (fixL_spec rfl)
 ·skip
  have hin : i = n := by omega
  rw [show q = (allR (atomsL n rs) i).length by omega, List.take_length, hin]; rfl
 · exact SubS.nil

set_option maxRecDepth 8000 in
theorem check34_ok {n : Nat} {ps : List Pr} {rs : List Ru} (hok : (Prob.mk (n : Int) ps rs).ok) (h8 : (selfs n (atomsL n rs)).length ≤ 8) :
    Con Try.prog 38 [vA [uI (n : Int), .sl 3 (ps.map ePr), .sl 3 (rs.map eRu)]] [] (vI 0) [] := by
 refine Con.enterL (n := 13) Try.func38 rfl rfl rfl (fun τ w ok vs hin => ?_)
 have hl0_1 := hin.lenA (i := 0) (j := 1) rfl rfl
 try rw [List.length_map] at hl0_1
 have hl0_2 := hin.lenA (i := 0) (j := 2) rfl rfl
 try rw [List.length_map] at hl0_2
 clear hin
 refine W.rg ?_
 refine SL.memS (O.box (is := [_, _, _]) 101 rfl rfl (by simp) rfl rfl Taken.no) rfl rfl (S' := (101, _) :: _) rfl ?_
 refine SL.an rfl rfl (E.fo (W.seq (W.rg ?_)))
 refine SL.val (O.ldN (m := 3) (PtI.ref rfl rfl) (js := [_, _, _]) rfl (Nat.le_of_ble_eq_true rfl) Try.underlying25 rfl (by kernel_rfl) rfl Taken.no) ?_
 refine SL.val (O.callp rfl rfl rfl (refvalid_h (N := (n : Int)) (ps := ps) (rs := rs)) (.cons (ArgOk.aggU (.cons (ArgOk.same rfl) (.cons (ArgOk.same rfl) (.cons (ArgOk.same rfl) .nil)))) .nil) hcallOk33 rfl Taken.no) ?_
 refine SL.as (i' := vI 0) 5 rfl (by rw [Prob.err_0 hok]) ?_
 refine SL.an rfl rfl (E.fo (W.rg (SL.mv rfl rfl ?_)))
 refine SL.val (O.det (fun _ => G.R.mv (G.R.neq rfl rfl) (congrArg Value.bool (decide_eq_false (by decide)))) rfl Taken.no) ?_
 refine E.fo ?_
 refine W.cond_f rfl ?_
 refine W.skip (E.to (W.seq (W.rg ?_)))
 refine SL.val (O.ldN (m := 3) (PtI.ref rfl rfl) (js := [_, _, _]) rfl (Nat.le_of_ble_eq_true rfl) Try.underlying25 rfl (by kernel_rfl) rfl Taken.no) ?_
 refine SL.val (O.callp rfl rfl rfl (names_h hok) (.cons (ArgOk.aggU (.cons (ArgOk.same rfl) (.cons (ArgOk.same rfl) (.cons (ArgOk.same rfl) .nil)))) .nil) hcallOk34 rfl Taken.no) ?_
 refine SL.val (O.lenE (SlOf.fz rfl (by decide)) (by first | exact List.length_map _ | rfl) Try.underlying32 rfl Taken.no) ?_
 refine SL.val (O.det (fun _ => G.R.mv (G.R.gtr rfl rfl) (congrArg Value.bool (decide_eq_false (by omega)))) rfl Taken.no) ?_
 refine E.fo ?_
 refine W.cond_f rfl ?_
 refine W.skip (E.to (W.rg (SL.an rfl rfl (E.fo (W.ret ?_)))))
 refine E.fin (rs := [_]) (rn []) (.inl rfl) rfl (.cons (ResOne.tmp rfl) .nil) ?_ ?_ rfl (fixL_spec rfl)
 ·skip
  rfl
 · exact SubS.nil

set_option maxRecDepth 8000 in
theorem check34_many {n : Nat} {ps : List Pr} {rs : List Ru} (hok : (Prob.mk (n : Int) ps rs).ok) (h8 : 8 < (selfs n (atomsL n rs)).length) :
    Con Try.prog 38 [vA [uI (n : Int), .sl 3 (ps.map ePr), .sl 3 (rs.map eRu)]] [] (vI 3) [] := by
 refine Con.enterL (n := 13) Try.func38 rfl rfl rfl (fun τ w ok vs hin => ?_)
 have hl0_1 := hin.lenA (i := 0) (j := 1) rfl rfl
 try rw [List.length_map] at hl0_1
 have hl0_2 := hin.lenA (i := 0) (j := 2) rfl rfl
 try rw [List.length_map] at hl0_2
 clear hin
 refine W.rg ?_
 refine SL.memS (O.box (is := [_, _, _]) 101 rfl rfl (by simp) rfl rfl Taken.no) rfl rfl (S' := (101, _) :: _) rfl ?_
 refine SL.an rfl rfl (E.fo (W.seq (W.rg ?_)))
 refine SL.val (O.ldN (m := 3) (PtI.ref rfl rfl) (js := [_, _, _]) rfl (Nat.le_of_ble_eq_true rfl) Try.underlying25 rfl (by kernel_rfl) rfl Taken.no) ?_
 refine SL.val (O.callp rfl rfl rfl (refvalid_h (N := (n : Int)) (ps := ps) (rs := rs)) (.cons (ArgOk.aggU (.cons (ArgOk.same rfl) (.cons (ArgOk.same rfl) (.cons (ArgOk.same rfl) .nil)))) .nil) hcallOk33 rfl Taken.no) ?_
 refine SL.as (i' := vI 0) 5 rfl (by rw [Prob.err_0 hok]) ?_
 refine SL.an rfl rfl (E.fo (W.rg (SL.mv rfl rfl ?_)))
 refine SL.val (O.det (fun _ => G.R.mv (G.R.neq rfl rfl) (congrArg Value.bool (decide_eq_false (by decide)))) rfl Taken.no) ?_
 refine E.fo ?_
 refine W.cond_f rfl ?_
 refine W.skip (E.to (W.seq (W.rg ?_)))
 refine SL.val (O.ldN (m := 3) (PtI.ref rfl rfl) (js := [_, _, _]) rfl (Nat.le_of_ble_eq_true rfl) Try.underlying25 rfl (by kernel_rfl) rfl Taken.no) ?_
 refine SL.val (O.callp rfl rfl rfl (names_h hok) (.cons (ArgOk.aggU (.cons (ArgOk.same rfl) (.cons (ArgOk.same rfl) (.cons (ArgOk.same rfl) .nil)))) .nil) hcallOk34 rfl Taken.no) ?_
 refine SL.val (O.lenE (SlOf.fz rfl (by decide)) (by first | exact List.length_map _ | rfl) Try.underlying32 rfl Taken.no) ?_
 refine SL.val (O.det (fun _ => G.R.mv (G.R.gtr rfl rfl) (congrArg Value.bool (decide_eq_true (by omega)))) rfl Taken.no) ?_
 refine E.fo ?_
 refine W.cond_t rfl ?_
 refine W.rg (SL.an rfl rfl (E.fo (W.ret (E.thr ?_))))
 refine E.fin (rs := [_]) (rn []) (.inl rfl) rfl (.cons (ResOne.tmp rfl) .nil) ?_ ?_ rfl (fixL_spec rfl)
 ·skip
  rfl
 · exact SubS.nil






set_option maxRecDepth 8000 in
theorem refCount_ok {n : Nat} {ps : List Pr} {rs : List Ru} (hok : (Prob.mk (n : Int) ps rs).ok) (h8 : (selfs n (atomsL n rs)).length ≤ 8) (hn9 : n ≤ 9) :
    Con Try.prog 17 [vA [uI (n : Int), .sl 3 (ps.map ePr), .sl 3 (rs.map eRu)]] [] (.tup [vI ((allL n ps rs).length : Int), vI 0]) [] := by
 have hf := hok.1
 refine Con.enterL (n := 13) Try.func17 rfl rfl rfl (fun τ w ok vs hin => ?_)
 have hl0_1 := hin.lenA (i := 0) (j := 1) rfl rfl
 try rw [List.length_map] at hl0_1
 have hl0_2 := hin.lenA (i := 0) (j := 2) rfl rfl
 try rw [List.length_map] at hl0_2
 clear hin
 refine W.rg ?_
 refine SL.memS (O.box (is := [_, _, _]) 101 rfl rfl (by simp) rfl rfl Taken.no) rfl rfl (S' := (101, _) :: _) rfl ?_
 refine SL.an rfl rfl (SL.an rfl rfl (E.fo (W.seq (W.rg ?_))))
 refine SL.val (O.ldN (m := 3) (PtI.ref rfl rfl) (js := [_, _, _]) rfl (Nat.le_of_ble_eq_true rfl) Try.underlying25 rfl (by kernel_rfl) rfl Taken.no) ?_
 refine SL.val (O.callp rfl rfl rfl (check34_ok hok h8) (.cons (ArgOk.aggU (.cons (ArgOk.same rfl) (.cons (ArgOk.same rfl) (.cons (ArgOk.same rfl) .nil)))) .nil) hcallOk38 rfl Taken.no) ?_
 refine SL.an rfl rfl (E.fo (W.rg (SL.mv rfl rfl ?_)))
 refine SL.val (O.det (fun _ => G.R.mv (G.R.neq rfl rfl) (congrArg Value.bool (decide_eq_false (by decide)))) rfl Taken.no) ?_
 refine E.fo ?_
 refine W.cond_f rfl ?_
 refine W.skip (E.to (W.rg ?_))
 refine SL.val (O.ldN (m := 3) (PtI.ref rfl rfl) (js := [_, _, _]) rfl (Nat.le_of_ble_eq_true rfl) Try.underlying25 rfl (by kernel_rfl) rfl Taken.no) ?_
 refine SL.val (O.callp rfl rfl rfl (refAll_h hok hn9) (.cons (ArgOk.aggU (.cons (ArgOk.same rfl) (.cons (ArgOk.same rfl) (.cons (ArgOk.same rfl) .nil)))) .nil) hcallOk39 rfl Taken.no) ?_
 refine SL.val (O.lenE (SlOf.fz rfl (by decide)) (by first | exact List.length_map _ | rfl) Try.underlying68 rfl Taken.no) ?_
 refine SL.an rfl rfl (SL.an rfl rfl (E.fo (W.ret ?_)))
 refine E.fin (rs := [_, _]) (rn []) (.inl rfl) rfl (.cons (ResOne.tmp rfl) (.cons (ResOne.tmp rfl) .nil)) ?_ ?_ rfl (fixL_spec rfl)
 ·skip
  rfl
 · exact SubS.nil

set_option maxRecDepth 8000 in
theorem refCount_many {n : Nat} {ps : List Pr} {rs : List Ru} (hok : (Prob.mk (n : Int) ps rs).ok) (h8 : 8 < (selfs n (atomsL n rs)).length) :
    Con Try.prog 17 [vA [uI (n : Int), .sl 3 (ps.map ePr), .sl 3 (rs.map eRu)]] [] (.tup [vI 0, vI 3]) [] := by
 refine Con.enterL (n := 13) Try.func17 rfl rfl rfl (fun τ w ok vs hin => ?_)
 have hl0_1 := hin.lenA (i := 0) (j := 1) rfl rfl
 try rw [List.length_map] at hl0_1
 have hl0_2 := hin.lenA (i := 0) (j := 2) rfl rfl
 try rw [List.length_map] at hl0_2
 clear hin
 refine W.rg ?_
 refine SL.memS (O.box (is := [_, _, _]) 101 rfl rfl (by simp) rfl rfl Taken.no) rfl rfl (S' := (101, _) :: _) rfl ?_
 refine SL.an rfl rfl (SL.an rfl rfl (E.fo (W.seq (W.rg ?_))))
 refine SL.val (O.ldN (m := 3) (PtI.ref rfl rfl) (js := [_, _, _]) rfl (Nat.le_of_ble_eq_true rfl) Try.underlying25 rfl (by kernel_rfl) rfl Taken.no) ?_
 refine SL.val (O.callp rfl rfl rfl (check34_many hok h8) (.cons (ArgOk.aggU (.cons (ArgOk.same rfl) (.cons (ArgOk.same rfl) (.cons (ArgOk.same rfl) .nil)))) .nil) hcallOk38 rfl Taken.no) ?_
 refine SL.an rfl rfl (E.fo (W.rg (SL.mv rfl rfl ?_)))
 refine SL.val (O.det (fun _ => G.R.mv (G.R.neq rfl rfl) (congrArg Value.bool (decide_eq_true (by decide)))) rfl Taken.no) ?_
 refine E.fo ?_
 refine W.cond_t rfl ?_
 refine W.rg (SL.mv rfl rfl (SL.an rfl rfl (SL.an rfl rfl (E.fo (W.ret (E.thr ?_))))))
 refine E.fin (rs := [_, _]) (rn []) (.inl rfl) rfl (.cons (ResOne.tmp rfl) (.cons (ResOne.tmp rfl) .nil)) ?_ ?_ rfl (fixL_spec rfl)
 ·skip
  rfl
 · exact SubS.nil







set_option maxRecDepth 8000 in
theorem few34_ok {n : Nat} {ps : List Pr} {rs : List Ru} (hok : (Prob.mk (n : Int) ps rs).ok) :
    Con Try.prog 10 [vA [uI (n : Int), .sl 3 (ps.map ePr), .sl 3 (rs.map eRu)]] [] (vB (decide ((((n : Int) ≤ 9 ∨ 200 < (n : Int)) ∧ ps.length ≤ 40 ∧ (rs.length ≤ 12 ∨ rs.length = 401)) ∧ ((selfs n (atomsL n rs)).length ≤ 6 ∨ 8 < (selfs n (atomsL n rs)).length)))) [] := by
 refine Con.enterL (n := 19) Try.func10 rfl rfl rfl (fun τ w ok vs hin => ?_)
 have hl0_1 := hin.lenA (i := 0) (j := 1) rfl rfl
 try rw [List.length_map] at hl0_1
 have hl0_2 := hin.lenA (i := 0) (j := 2) rfl rfl
 try rw [List.length_map] at hl0_2
 clear hin
 refine W.rg ?_
 refine SL.memS (O.box (is := [_, _, _]) 101 rfl rfl (by simp) rfl rfl Taken.no) rfl rfl (S' := (101, _) :: _) rfl ?_
 refine SL.an rfl rfl (E.fo (W.seq (W.rg ?_)))
 refine SL.val (O.ldN (m := 3) (PtI.ref rfl rfl) (js := [_, _, _]) rfl (Nat.le_of_ble_eq_true rfl) Try.underlying25 rfl (by kernel_rfl) rfl Taken.no) ?_
 refine SL.val (O.callp rfl rfl rfl (few_h (N := (n : Int)) (ps := ps) (rs := rs)) (.cons (ArgOk.aggU (.cons (ArgOk.same rfl) (.cons (ArgOk.same rfl) (.cons (ArgOk.same rfl) .nil)))) .nil) hcallOk32 rfl Taken.no) ?_
 refine SL.val (O.det (fun _ => G.R.not rfl) rfl Taken.no) ?_
 refine E.fo ?_
 first | refine W.cond_d rfl (fun hc1 => ?_) (fun hc1 => ?_) | refine W.cond_nd rfl (fun hc1 => ?_) (fun hc1 => ?_) | refine W.cond rfl (fun hc1 => ?_) (fun hc1 => ?_)
 ·skip
  refine W.rg (SL.an rfl rfl (E.fo (W.ret (E.thr ?_))))
  refine E.fin (rs := [_]) (rn []) (.inl rfl) rfl (.cons (ResOne.tmp rfl) .nil) ?_ ?_ rfl (fixL_spec rfl)
  ·skip
   first | exact iv_bool (dec_f (by omega)) | exact iv_bool (dec_t (by omega)) | exact iv_bool (dec_iff (by omega))
  · exact SubS.nil
 refine W.skip (E.to (W.rg (SL.an rfl rfl (E.fo (W.seq (W.rg ?_))))))
 refine SL.val (O.ldN (m := 3) (PtI.ref rfl rfl) (js := [_, _, _]) rfl (Nat.le_of_ble_eq_true rfl) Try.underlying25 rfl (by kernel_rfl) rfl Taken.no) ?_
 refine SL.val (O.callp rfl rfl rfl (refvalid_h (N := (n : Int)) (ps := ps) (rs := rs)) (.cons (ArgOk.aggU (.cons (ArgOk.same rfl) (.cons (ArgOk.same rfl) (.cons (ArgOk.same rfl) .nil)))) .nil) hcallOk33 rfl Taken.no) ?_
 refine SL.as (i' := vI 0) 8 rfl (by rw [Prob.err_0 hok]) ?_
 refine SL.val (O.det (fun _ => G.R.mv (G.R.eql rfl rfl) (congrArg Value.bool (decide_eq_true (by rfl)))) rfl Taken.no) ?_
 refine E.fo ?_
 refine W.cond_t rfl ?_
 refine W.region ?_
 refine SL.val (O.ldN (m := 3) (PtI.ref rfl rfl) (js := [_, _, _]) rfl (Nat.le_of_ble_eq_true rfl) Try.underlying25 rfl (by kernel_rfl) rfl Taken.no) ?_
 refine SL.val (O.callp rfl rfl rfl (names_h hok) (.cons (ArgOk.aggU (.cons (ArgOk.same rfl) (.cons (ArgOk.same rfl) (.cons (ArgOk.same rfl) .nil)))) .nil) hcallOk34 rfl Taken.no) ?_
 refine SL.val (O.lenE (SlOf.fz rfl (by decide)) (by first | exact List.length_map _ | rfl) Try.underlying32 rfl Taken.no) ?_
 refine SL.an rfl rfl (E.fo (W.rg (SL.mv rfl rfl ?_)))
 refine SL.val (O.det (fun _ => G.R.leq rfl rfl) rfl Taken.no) ?_
 refine SL.mv rfl rfl ?_
 refine SL.case (j := 2) (g := 15) (want := false) rfl rfl (fun hg2 => ?_) (fun hg2 => ?_)
 ·skip
  first | have hg2p := G.gA3 hg2 | have hg2p := G.gA4 hg2 | have hg2p := hg2
  refine SL.val (O.move rfl rfl (Taken.yes rfl rfl hg2)) ?_
  refine SL.val (O.det (fun _ => G.R.gtr rfl rfl) rfl (Taken.yes rfl rfl hg2)) ?_
  refine SL.val (O.pick_f rfl hg2 rfl rfl Taken.no) ?_
  refine SL.an rfl rfl (E.fo (W.ret ?_))
  refine E.fin (rs := [_]) (rn []) (.inl rfl) rfl (.cons (ResOne.tmp rfl) .nil) ?_ ?_ rfl (fixL_spec rfl)
  ·skip
   first | exact iv_bool (dec_f (by omega)) | exact iv_bool (dec_t (by omega)) | exact iv_bool (dec_iff (by omega))
  · exact SubS.nil
 first | have hg2p := G.gA7 hg2 | have hg2p := G.gA8 hg2 | have hg2p := hg2
 refine SL.sk rfl rfl rfl hg2 (SL.sk rfl rfl rfl hg2 ?_)
 refine SL.val (O.pick_t rfl (G.ne_f hg2) rfl rfl Taken.no) ?_
 refine SL.an rfl rfl (E.fo (W.ret ?_))
 refine E.fin (rs := [_]) (rn []) (.inl rfl) rfl (.cons (ResOne.tmp rfl) .nil) ?_ ?_ rfl (fixL_spec rfl)
 ·skip
  first | exact iv_bool (dec_f (by omega)) | exact iv_bool (dec_t (by omega)) | exact iv_bool (dec_iff (by omega))
 · exact SubS.nil

set_option maxRecDepth 8000 in
theorem few34_bad {N : Int} {ps : List Pr} {rs : List Ru} (hok : ¬ (Prob.mk N ps rs).ok) :
    Con Try.prog 10 [vA [uI N, .sl 3 (ps.map ePr), .sl 3 (rs.map eRu)]] [] (vB (decide ((N ≤ 9 ∨ 200 < N) ∧ ps.length ≤ 40 ∧ (rs.length ≤ 12 ∨ rs.length = 401)))) [] := by
 have he : (Prob.mk N ps rs).err ≠ 0 := fun q => hok (Prob.err_iff.1 q)
 refine Con.enterL (n := 19) Try.func10 rfl rfl rfl (fun τ w ok vs hin => ?_)
 have hl0_1 := hin.lenA (i := 0) (j := 1) rfl rfl
 try rw [List.length_map] at hl0_1
 have hl0_2 := hin.lenA (i := 0) (j := 2) rfl rfl
 try rw [List.length_map] at hl0_2
 clear hin
 refine W.rg ?_
 refine SL.memS (O.box (is := [_, _, _]) 101 rfl rfl (by simp) rfl rfl Taken.no) rfl rfl (S' := (101, _) :: _) rfl ?_
 refine SL.an rfl rfl (E.fo (W.seq (W.rg ?_)))
 refine SL.val (O.ldN (m := 3) (PtI.ref rfl rfl) (js := [_, _, _]) rfl (Nat.le_of_ble_eq_true rfl) Try.underlying25 rfl (by kernel_rfl) rfl Taken.no) ?_
 refine SL.val (O.callp rfl rfl rfl (few_h (N := N) (ps := ps) (rs := rs)) (.cons (ArgOk.aggU (.cons (ArgOk.same rfl) (.cons (ArgOk.same rfl) (.cons (ArgOk.same rfl) .nil)))) .nil) hcallOk32 rfl Taken.no) ?_
 refine SL.val (O.det (fun _ => G.R.not rfl) rfl Taken.no) ?_
 refine E.fo ?_
 first | refine W.cond_d rfl (fun hc1 => ?_) (fun hc1 => ?_) | refine W.cond_nd rfl (fun hc1 => ?_) (fun hc1 => ?_) | refine W.cond rfl (fun hc1 => ?_) (fun hc1 => ?_)
 ·skip
  refine W.rg (SL.an rfl rfl (E.fo (W.ret (E.thr ?_))))
  refine E.fin (rs := [_]) (rn []) (.inl rfl) rfl (.cons (ResOne.tmp rfl) .nil) ?_ ?_ rfl (fixL_spec rfl)
  ·skip
   first | exact iv_bool (dec_f (by assumption)) | exact iv_bool (dec_t (by assumption)) | exact iv_bool (dec_iff (by omega))
  · exact SubS.nil
 refine W.skip (E.to (W.rg (SL.an rfl rfl (E.fo (W.seq (W.rg ?_))))))
 refine SL.val (O.ldN (m := 3) (PtI.ref rfl rfl) (js := [_, _, _]) rfl (Nat.le_of_ble_eq_true rfl) Try.underlying25 rfl (by kernel_rfl) rfl Taken.no) ?_
 refine SL.val (O.callp rfl rfl rfl (refvalid_h (N := N) (ps := ps) (rs := rs)) (.cons (ArgOk.aggU (.cons (ArgOk.same rfl) (.cons (ArgOk.same rfl) (.cons (ArgOk.same rfl) .nil)))) .nil) hcallOk33 rfl Taken.no) ?_
 refine SL.val (O.det (fun _ => G.R.mv (G.R.eql rfl rfl) (congrArg Value.bool (decide_eq_false (by exact he)))) rfl Taken.no) ?_
 refine E.fo ?_
 refine W.cond_f rfl ?_
 refine W.skip (E.to (W.rg (SL.mv rfl rfl ?_)))
 refine SL.val (O.det (fun _ => G.R.mv (G.R.leq rfl rfl) (congrArg Value.bool (decide_eq_true (by decide)))) rfl Taken.no) ?_
 refine SL.mv rfl rfl ?_
 have hg2 : true ≠ false := by decide
 refine SL.sk rfl rfl rfl hg2 (SL.sk rfl rfl rfl hg2 ?_)
 refine SL.val (O.pick_t rfl rfl rfl rfl Taken.no) ?_
 refine SL.an rfl rfl (E.fo (W.ret ?_))
 refine E.fin (rs := [_]) (rn []) (.inl rfl) rfl (.cons (ResOne.tmp rfl) .nil) ?_ ?_ rfl (fixL_spec rfl)
 ·skip
  first | exact iv_bool (dec_f (by assumption)) | exact iv_bool (dec_t (by assumption)) | exact iv_bool (dec_iff (by omega))
 · exact SubS.nil

end Go.Proofs.Ytbkbeplddddgeaa
end
section
namespace Go.D33
open Go Go.RowKit Go.H
theorem ex_8 : (selfs 3 (atomsL 3 [])).length ≤ 8 := by decide +kernel
theorem ex_b : (stB 3 exP []).best = [0, 0, 2] ∧ (stB 3 exP []).most = 5 := by decide +kernel
theorem ex_bd : bndL [] (atomsL 3 []) exP = 9 := by decide +kernel
theorem ex_c : (allL 3 exP []).length = 4 := by decide +kernel
theorem lexB_irr : ∀ a : List Nat, lexB a a = false
  | [] => rfl
  | x :: a => by rw [lexB, if_pos rfl]; exact lexB_irr a
theorem lexB_trans : ∀ {a b c : List Nat}, lexB a b = true → lexB b c = true → lexB a c = true
  | [], _, _, h, _ => by simp [lexB] at h
  | _ :: _, [], _, h, _ => by simp [lexB] at h
  | _ :: _, _ :: _, [], _, h => by simp [lexB] at h
  | x :: a, y :: b, z :: c, h1, h2 => by
    rw [lexB] at h1 h2 ⊢
    by_cases e1 : x = y
    · rw [if_pos e1] at h1
      by_cases e2 : y = z
      · rw [if_pos e2] at h2; rw [if_pos (e1.trans e2)]; exact lexB_trans h1 h2
      · rw [if_neg e2] at h2; rw [if_neg (by omega), e1]; exact h2
    · rw [if_neg e1] at h1
      have q1 := of_decide_eq_true h1
      by_cases e2 : y = z
      · rw [if_neg (by omega)]; exact decide_eq_true (by omega)
      · rw [if_neg e2] at h2
        have q2 := of_decide_eq_true h2
        rw [if_neg (by omega)]; exact decide_eq_true (by omega)
def GEs (ps : List Pr) (s : BS) (m : List Nat) : Prop := valR m ps ≤ s.most ∧ (valR m ps = s.most → lexB m s.best = false)
def wfS (n : Nat) (ps : List Pr) (s : BS) : Prop := s.any = true ∧ s.best.length = n ∧ s.most = valR s.best ps
theorem bsF_ge {n : Nat} {ps : List Pr} {s : BS} {x : List Nat} (hs : wfS n ps s) (hx : x.length = n) : wfS n ps (bsF ps s x) ∧ (∀ m, GEs ps s m → GEs ps (bsF ps s x) m) ∧ GEs ps (bsF ps s x) x := by
  obtain ⟨h1, h2, h3⟩ := hs
  have el : x.length = s.best.length := by rw [hx, h2]
  unfold bsF
  by_cases hw : bsW ps s x = true
  · rw [if_pos hw]
    unfold bsW at hw
    rw [h1] at hw
    simp only [Bool.not_true, Bool.false_or, Bool.or_eq_true, Bool.and_eq_true, decide_eq_true_eq] at hw
    refine ⟨⟨rfl, hx, rfl⟩, fun m hm => ⟨?_, fun e => ?_⟩, ⟨Int.le_refl _, fun _ => lexB_irr x⟩⟩
    · show valR m ps ≤ valR x ps
      have := hm.1
      rcases hw with q | ⟨q, _⟩ <;> omega
    · have e : valR m ps = valR x ps := e
      show lexB m x = false
      rcases hw with q | ⟨q1, q2⟩
      · have := hm.1; omega
      · have q2 := (cmpL_lex el).1 q2
        cases hl : lexB m x with
        | false => rfl
        | true => have := hm.2 (by omega); rw [lexB_trans hl q2] at this; cases this
  · rw [if_neg hw]
    unfold bsW at hw
    rw [h1] at hw
    simp only [Bool.not_true, Bool.false_or, Bool.or_eq_true, Bool.and_eq_true, decide_eq_true_eq] at hw
    refine ⟨⟨h1, h2, h3⟩, fun _ h => h, ⟨?_, fun e => ?_⟩⟩
    · exact Int.not_lt.1 fun q => hw (.inl q)
    · cases hl : lexB x s.best with
      | false => rfl
      | true => exact absurd (.inr ⟨e, (cmpL_lex el).2 hl⟩) hw
theorem fold_ge {n : Nat} {ps : List Pr} : ∀ {l : List (List Nat)} {s : BS}, (∀ m ∈ l, m.length = n) → wfS n ps s → wfS n ps (l.foldl (bsF ps) s) ∧ (∀ m, GEs ps s m → GEs ps (l.foldl (bsF ps) s) m) ∧ ∀ m ∈ l, GEs ps (l.foldl (bsF ps) s) m
  | [], _, _, h => ⟨h, fun _ q => q, fun _ q => by cases q⟩
  | x :: l, s, hl, h => by
    obtain ⟨a1, a2, a3⟩ := bsF_ge h (hl x (by simp))
    obtain ⟨b1, b2, b3⟩ := fold_ge (l := l) (s := bsF ps s x) (fun m hm => hl m (by simp [hm])) a1
    refine ⟨b1, fun m hm => b2 m (a2 m hm), fun m hm => ?_⟩
    rcases List.mem_cons.1 hm with q | q
    · subst q; exact b2 m a3
    · exact b3 m q
section
variable {n : Nat} {ps : List Pr} {rs : List Ru}
theorem stB_spec (hok : (Prob.mk (n : Int) ps rs).ok) : (stB n ps rs).best ∈ allL n ps rs ∧ (stB n ps rs).most = valR (stB n ps rs).best ps ∧ ∀ m ∈ allL n ps rs, GEs ps (stB n ps rs) m := by
  have hf := hok.1
  have h0 : 0 < (allL n ps rs).length := List.length_pos_iff.2 (allL_ne hok)
  have hm := stK_mem (n := n) (ps := ps) (rs := rs) h0 h0
  rw [stK_n] at hm
  have hall : ∀ m ∈ allL n ps rs, m.length = n := fun m q => allL_len hf q
  unfold stB at hm ⊢
  refine ⟨hm, ?_⟩
  clear hm
  cases e : allL n ps rs with
  | nil => rw [e] at h0; simp at h0
  | cons x l =>
    have hx : x.length = n := hall x (by rw [e]; simp)
    obtain ⟨b1, b2, b3⟩ := fold_ge (ps := ps) (l := l) (s := ⟨true, valR x ps, x⟩) (fun m q => hall m (by rw [e]; simp [q])) ⟨rfl, hx, rfl⟩
    refine ⟨b1.2.2, fun m q => ?_⟩
    rcases List.mem_cons.1 q with z | z
    · subst z; exact b2 m ⟨Int.le_refl _, fun _ => lexB_irr m⟩
    · exact b3 m z
theorem stB_perm (hok : (Prob.mk (n : Int) ps rs).ok) : isP n (stB n ps rs).best ∧ permR n ps rs (stB n ps rs).best := (mem_allL hok.1).1 (stB_spec hok).1
theorem stB_ge (hok : (Prob.mk (n : Int) ps rs).ok) {m : List Nat} (h1 : isP n m) (h2 : permR n ps rs m) : GEs ps (stB n ps rs) m := (stB_spec hok).2.2 m ((mem_allL hok.1).2 ⟨h1, h2⟩)
theorem foldB_le {m atm : List Nat} : ∀ {l : List Pr} {a b : Int}, a ≤ b → (∀ x ∈ l, (if m[x.a.toNat]! = m[x.b.toNat]! then x.w else 0) ≤ if atm[x.a.toNat]! = atm[x.b.toNat]! ∨ (x.w > 0 ∧ barB rs atm atm[x.a.toNat]! atm[x.b.toNat]! = false) then x.w else 0) → l.foldl (addV m) a ≤ l.foldl (bndA rs atm) b
  | [], _, _, h, _ => h
  | x :: l, a, b, h, hl => by
    refine foldB_le (l := l) (a := addV m a x) (b := bndA rs atm b x) ?_ fun y hy => hl y (by simp [hy])
    have := hl x (by simp)
    unfold addV bndA
    split at this <;> split at this <;> rename_i p q
    · rw [if_pos p, if_pos q]; omega
    · rw [if_pos p, if_neg q]; omega
    · rw [if_neg p, if_pos q]; omega
    · rw [if_neg p, if_neg q]; exact h
theorem bnd_ge (hf : (Prob.mk (n : Int) ps rs).formed) {m : List Nat} (hp : permR n ps rs m) : valR m ps ≤ bndL rs (atomsL n rs) ps := by
  unfold valR bndL
  refine foldB_le (Int.le_refl 0) fun x hx => ?_
  have hr := pr_in hf hx
  unfold prOk at hr
  have ha : m[x.a.toNat]! = m[(atomsL n rs)[x.a.toNat]!]! := hp.2.1 _ (by omega)
  have hb : m[x.b.toNat]! = m[(atomsL n rs)[x.b.toNat]!]! := hp.2.1 _ (by omega)
  by_cases e : (atomsL n rs)[x.a.toNat]! = (atomsL n rs)[x.b.toNat]!
  · rw [if_pos (by rw [ha, hb, e]), if_pos (.inl e)]; exact Int.le_refl _
  · by_cases q : m[x.a.toNat]! = m[x.b.toNat]!
    · have hbar : barB rs (atomsL n rs) (atomsL n rs)[x.a.toNat]! (atomsL n rs)[x.b.toNat]! = false := by
        rw [barB_eq]
        refine List.any_eq_false.2 fun y hy hc => ?_
        have hc := of_decide_eq_true hc
        have hy2 := ru_in hf hy
        unfold ruOk at hy2
        have ya : m[y.a.toNat]! = m[(atomsL n rs)[y.a.toNat]!]! := hp.2.1 _ (by omega)
        have yb : m[y.b.toNat]! = m[(atomsL n rs)[y.b.toNat]!]! := hp.2.1 _ (by omega)
        have hcl : clash (barL rs) m = true := by
          unfold clash
          refine List.any_eq_true.2 ⟨y, List.mem_filter.2 ⟨hy, decide_eq_true hc.1⟩, decide_eq_true ?_⟩
          rcases hc.2 with ⟨z1, z2⟩ | ⟨z1, z2⟩
          · rw [ya, yb, z1, z2, ← ha, ← hb]; exact q
          · rw [ya, yb, z1, z2, ← ha, ← hb]; exact q.symm
        rw [hp.1] at hcl; cases hcl
      rw [if_pos q]
      by_cases w : x.w > 0
      · rw [if_pos (.inr ⟨w, hbar⟩)]; exact Int.le_refl _
      · rw [if_neg (by rintro (z | z); exact e z; exact w z.1)]; omega
    · rw [if_neg q]
      split
      · rename_i z
        rcases z with z | z
        · exact absurd z e
        · omega
      · exact Int.le_refl _
theorem stB_next (hok : (Prob.mk (n : Int) ps rs).ok) : (nextR n ps rs (stB n ps rs).best).2 = 0 := by
  obtain ⟨h1, h2⟩ := stB_perm hok
  refine Classical.byContradiction fun h => ?_
  obtain ⟨q1, q2, q3, _⟩ := next_step hok.1 h1 h2 h
  have := (stB_ge hok q1 q2).1
  have e := (stB_spec hok).2.1
  have := (next_spec n ps rs (stB n ps rs).best).1
  omega
end
end Go.D33
end
section
namespace Go.Proofs.Ytbkbeplddddgeaa
open Go Go.RowKit Go.H Go.D33

theorem hcallOk9 : G.callOk Try.prog 9 = true := by kernel_rfl
theorem hcallOk10 : G.callOk Try.prog 10 = true := by kernel_rfl
theorem hcallOk11 : G.callOk Try.prog 11 = true := by kernel_rfl
theorem hcallOk14 : G.callOk Try.prog 14 = true := by kernel_rfl
theorem hcallOk16 : G.callOk Try.prog 16 = true := by kernel_rfl
theorem hcallOk17 : G.callOk Try.prog 17 = true := by kernel_rfl

set_option maxRecDepth 8000 in
set_option maxHeartbeats 1600000 in
theorem awake34_h  :
    Con Try.prog 9 [] [] (vB true) [] := by
 obtain ⟨i3, hi3, hz3, hs3, hb3⟩ := hinf3
 obtain ⟨i61, hi61, hz61, hs61, hb61⟩ := hinf61
 refine Con.enterL (n := 57) Try.func9 rfl rfl rfl (fun τ w ok vs hin => ?_)
 clear hin
 refine W.rg (SL.an rfl rfl (E.fo (W.rg ?_)))
 refine SL.val (O.build (res := [_, _, _]) (z := .agg #[.int .i64 0, .int .i64 0, .int .i64 0]) (places := [(0, 1), (1, 1), (2, 1)]) rfl rfl Try.underlying61 (by kernel_rfl) (fun _ => by kernel_rfl) rfl rfl Taken.no) ?_
 refine SL.val (O.build (res := [_, _, _]) (z := .agg #[.int .i64 0, .int .i64 0, .int .i64 0]) (places := [(0, 1), (1, 1), (2, 1)]) rfl rfl Try.underlying61 (by kernel_rfl) (fun _ => by kernel_rfl) rfl rfl Taken.no) ?_
 refine SL.val (O.build (res := [_, _, _]) (z := .agg #[.int .i64 0, .int .i64 0, .int .i64 0]) (places := [(0, 1), (1, 1), (2, 1)]) rfl rfl Try.underlying61 (by kernel_rfl) (fun _ => by kernel_rfl) rfl rfl Taken.no) ?_
 refine SL.memS (O.buildSlice 101 (rows := exP.map ePr) rfl rfl Try.underlying28 hi61 hz61 hs61 (by decide) rfl (by decide) rfl rfl rfl Taken.no) rfl rfl (S' := (101, .data 61 3 (exP.map ePr)) :: _) rfl ?_
 refine SL.freeze 101 rfl (F' := [(12, _)]) (⟨⟨_, rfl, rfl⟩, trivial⟩) ?_
 refine SL.val (O.build (res := [_, _, _]) (z := .agg #[.int .i64 0, .slice none 0 0, .slice none 0 0]) (places := [(0, 1), (1, 1), (2, 1)]) rfl rfl Try.underlying30 (by kernel_rfl) (fun _ => by kernel_rfl) rfl rfl Taken.no) ?_
 refine SL.memS (O.alloc (z := .agg #[.int .i64 0, .slice none 0 0, .slice none 0 0]) (is := [.u (.sc (.int .i64 0)), .u (.sc (.slice none 0 0)), .u (.sc (.slice none 0 0))]) 102 (by kernel_rfl) rfl rfl rfl Taken.no) rfl rfl (S' := (102, _) :: _) rfl ?_
 refine SL.effS (O.st_ref (m := 3) rfl rfl rfl (js := [_, _, _]) rfl rfl (by kernel_rfl) (by simp) (Nat.le_of_ble_eq_true rfl) rfl (is' := [_, _, _]) rfl Taken.no) (S' := (102, _) :: _) rfl ?_
 refine E.fo (W.rg ?_)
 refine SL.val (O.ldN (m := 3) (PtI.ref rfl rfl) (js := [_, _, _]) rfl (Nat.le_of_ble_eq_true rfl) Try.underlying30 rfl (by kernel_rfl) rfl Taken.no) ?_
 refine SL.memS (O.call (rn []) [] rfl rfl rfl (bestC_ok ex_ok ex_8) (.cons (ArgOk.aggU (.cons (ArgOk.same rfl) (.cons (ArgOk.same rfl) (.cons ArgOk.nil .nil)))) .nil) SubS.nil rfl rfl rfl rfl rfl (.inl rfl) hcallOk12 (r' := .tup [.u _, .u _, .u _]) rfl rfl Taken.no) rfl rfl (S' := _) rfl ?_
 refine SL.as (i' := .tup [vL 1 (([0, 0, 2] : List Nat).map eN), vI 5, vI 0]) 16 rfl (by rw [ex_b.1, ex_b.2]) ?_
 refine SL.mv rfl rfl ?_
 refine SL.val (O.extract rfl rfl rfl Taken.no) ?_
 refine SL.val (O.extract rfl rfl rfl Taken.no) ?_
 refine SL.val (O.extract rfl rfl rfl Taken.no) ?_
 refine SL.an rfl rfl (SL.an rfl rfl (SL.an rfl rfl (E.fo (W.rg ?_))))
 refine SL.val (O.ldN (m := 3) (PtI.ref rfl rfl) (js := [_, _, _]) rfl (Nat.le_of_ble_eq_true rfl) Try.underlying30 rfl (by kernel_rfl) rfl Taken.no) ?_
 refine SL.memS (O.call (rn []) [] rfl rfl rfl (boundC_ok ex_ok (by decide)) (.cons (ArgOk.aggU (.cons (ArgOk.same rfl) (.cons (ArgOk.same rfl) (.cons ArgOk.nil .nil)))) .nil) SubS.nil rfl rfl rfl rfl rfl (.inl rfl) hcallOk14 (r' := .tup [.u _, .u _]) rfl rfl Taken.no) rfl rfl (S' := _) rfl ?_
 refine SL.as (i' := .tup [vI 9, vI 0]) 22 rfl (by rw [ex_bd]) ?_
 refine SL.mv rfl rfl ?_
 refine SL.val (O.extract rfl rfl rfl Taken.no) ?_
 refine SL.val (O.extract rfl rfl rfl Taken.no) ?_
 refine SL.an rfl rfl (SL.an rfl rfl (E.fo ?_))
 refine W.pick (K:=[(0,_),(1,_),(2,_),(3,_),(4,_),(5,_),(6,_)]) (Z:=[(102,_)]) ⟨rfl,rfl,rfl,rfl,rfl,rfl,rfl,trivial⟩ ⟨rfl,trivial⟩ ?_
 refine W.rg ?_
 refine SL.val (O.ldN (m := 3) (PtI.ref rfl rfl) (js := [_, _, _]) rfl (Nat.le_of_ble_eq_true rfl) Try.underlying30 rfl (by kernel_rfl) rfl Taken.no) ?_
 refine SL.memS (O.call (rn []) [] rfl rfl rfl (countC_ok ex_ok ex_8 (by rw [ex_c]; decide)) (.cons (ArgOk.aggU (.cons (ArgOk.same rfl) (.cons (ArgOk.same rfl) (.cons ArgOk.nil .nil)))) .nil) SubS.nil rfl rfl rfl rfl rfl (.inl rfl) hcallOk16 (r' := .tup [.u _, .u _]) rfl rfl Taken.no) rfl rfl (S' := _) rfl ?_
 refine SL.as (i' := .tup [vI 4, vI 0]) 27 rfl (by rw [ex_c]; rfl) ?_
 refine SL.mv rfl rfl ?_
 refine SL.val (O.extract rfl rfl rfl Taken.no) ?_
 refine SL.val (O.extract rfl rfl rfl Taken.no) ?_
 refine SL.an rfl rfl (SL.an rfl rfl (E.fo (W.rg (SL.mv rfl rfl ?_))))
 refine SL.val (O.det (fun _ => G.R.mv (G.R.eql rfl rfl) (congrArg Value.bool (decide_eq_true (by rfl)))) rfl Taken.no) ?_
 refine SL.mv rfl rfl ?_
 have hg1 : true = true := by decide
 refine SL.val (O.move rfl rfl (Taken.yes rfl rfl hg1)) ?_
 refine SL.val (O.det (fun _ => G.R.mv (G.R.eql rfl rfl) (congrArg Value.bool (decide_eq_true (by rfl)))) rfl (Taken.yes rfl rfl hg1)) ?_
 refine SL.val (O.pick_t rfl rfl rfl rfl Taken.no) ?_
 refine SL.mv rfl rfl ?_
 have hg2 : true = true := by decide
 refine SL.val (O.move rfl rfl (Taken.yes rfl rfl hg2)) ?_
 refine SL.val (O.det (fun _ => G.R.mv (G.R.eql rfl rfl) (congrArg Value.bool (decide_eq_true (by rfl)))) rfl (Taken.yes rfl rfl hg2)) ?_
 refine SL.val (O.pick_t rfl rfl rfl rfl Taken.no) ?_
 refine SL.mv rfl rfl ?_
 have hg3 : true = true := by decide
 refine SL.val (O.move rfl rfl (Taken.yes rfl rfl hg3)) ?_
 refine SL.val (O.det (fun _ => G.R.mv (G.R.eql rfl rfl) (congrArg Value.bool (decide_eq_true (by rfl)))) rfl (Taken.yes rfl rfl hg3)) ?_
 refine SL.val (O.pick_t rfl rfl rfl rfl Taken.no) ?_
 refine SL.mv rfl rfl ?_
 have hg4 : true = true := by decide
 refine SL.val (O.move rfl rfl (Taken.yes rfl rfl hg4)) ?_
 refine SL.val (O.det (fun _ => G.R.mv (G.R.eql rfl rfl) (congrArg Value.bool (decide_eq_true (by rfl)))) rfl (Taken.yes rfl rfl hg4)) ?_
 refine SL.val (O.pick_t rfl rfl rfl rfl Taken.no) ?_
 refine SL.mv rfl rfl ?_
 have hg5 : true = true := by decide
 refine SL.val (O.move rfl rfl (Taken.yes rfl rfl hg5)) ?_
 refine SL.val (O.det (fun _ => G.R.mv (G.R.eql rfl rfl) (congrArg Value.bool (decide_eq_true (by rfl)))) rfl (Taken.yes rfl rfl hg5)) ?_
 refine SL.val (O.pick_t rfl rfl rfl rfl Taken.no) ?_
 refine SL.mv rfl rfl ?_
 have hg6 : true = true := by decide
 refine SL.val (O.move rfl rfl (Taken.yes rfl rfl hg6)) ?_
 refine SL.memS (O.buildSlice 103 (rows := ([0, 0, 2] : List Nat).map eN) rfl rfl Try.underlying32 hi3 hz3 hs3 (by decide) rfl (by decide) rfl rfl rfl (Taken.yes rfl rfl hg6)) rfl rfl (S' := (103, .data 3 1 (([0, 0, 2] : List Nat).map eN)) :: _) rfl ?_
 refine SL.memS (O.call (rn []) [103] rfl rfl rfl (same_h (a := [0, 0, 2]) (b := [0, 0, 2])) (.cons (ArgOk.same rfl) (.cons (ArgOk.own rfl rfl) .nil)) SubS.nil rfl rfl rfl rfl rfl (.inr ⟨rfl, fun x hx => by simp at hx⟩) hcallOk18 (r' := .u _) rfl rfl (Taken.yes rfl rfl hg6)) rfl rfl (S' := _) rfl ?_
 refine SL.as (i' := vB true) 55 rfl (by exact iv_bool (dec_t rfl)) ?_
 refine SL.val (O.pick_t rfl rfl rfl rfl Taken.no) ?_
 refine SL.an rfl rfl (E.fo ?_)
 refine W.pick (K:=[(0,_)]) (Z:=[(102,_),(103,_)]) ⟨rfl,trivial⟩ ⟨rfl,rfl,trivial⟩ ?_
 refine W.ret ?_
 refine E.fin (rs := [_]) (rn []) (.inl rfl) rfl (.cons (ResOne.tmp rfl) .nil) ?_ ?_ rfl (fixL_spec rfl)
 ·skip
  rfl
 · exact SubS.nil











set_option maxRecDepth 8000 in
theorem valid34_y {n : Nat} {ps : List Pr} {rs : List Ru} (hok : (Prob.mk (n : Int) ps rs).ok) (hfew : ((n : Int) ≤ 9 ∨ 200 < (n : Int)) ∧ ps.length ≤ 40 ∧ (rs.length ≤ 12 ∨ rs.length = 401)) (h6 : (selfs n (atomsL n rs)).length ≤ 6) :
    Con Try.prog 19 [vA [uI (n : Int), .sl 3 (ps.map ePr), .sl 3 (rs.map eRu)]] [] (vB true) [] := by
 have hf := hok.1
 have hn2 : (n : Int) ≤ 200 := hf.2.1
 have hr4 : rs.length ≤ 400 := hf.2.2.1
 have hn9 : n ≤ 9 := by omega
 have h8 : (selfs n (atomsL n rs)).length ≤ 8 := by omega
 have hnm : (selfs n (atomsL n rs)).length ≤ 6 ∨ 8 < (selfs n (atomsL n rs)).length := by omega
 have hlb := allL_9 (ps := ps) (rs := rs) hn9
 refine Con.enterL (n := 20) Try.func19 rfl rfl rfl (fun τ w ok vs hin => ?_)
 have hl0_1 := hin.lenA (i := 0) (j := 1) rfl rfl
 try rw [List.length_map] at hl0_1
 have hl0_2 := hin.lenA (i := 0) (j := 2) rfl rfl
 try rw [List.length_map] at hl0_2
 clear hin
 refine W.rg ?_
 refine SL.memS (O.box (is := [_, _, _]) 101 rfl rfl (by simp) rfl rfl Taken.no) rfl rfl (S' := (101, _) :: _) rfl ?_
 refine SL.an rfl rfl (E.fo (W.seq (W.rg ?_)))
 refine SL.val (O.ldN (m := 3) (PtI.ref rfl rfl) (js := [_, _, _]) rfl (Nat.le_of_ble_eq_true rfl) Try.underlying25 rfl (by kernel_rfl) rfl Taken.no) ?_
 refine SL.val (O.callp rfl rfl rfl (few34_ok hok) (.cons (ArgOk.aggU (.cons (ArgOk.same rfl) (.cons (ArgOk.same rfl) (.cons (ArgOk.same rfl) .nil)))) .nil) hcallOk10 rfl Taken.no) ?_
 refine SL.as (i' := vB true) 6 rfl (by exact iv_bool (dec_t ⟨hfew, hnm⟩)) ?_
 refine SL.val (O.det (fun _ => G.R.mv (G.R.not rfl) rfl) rfl Taken.no) ?_
 refine SL.mv rfl rfl ?_
 have hg1 : false = false := by decide
 refine SL.val (O.ldN (m := 3) (PtI.ref rfl rfl) (js := [_, _, _]) rfl (Nat.le_of_ble_eq_true rfl) Try.underlying25 rfl (by kernel_rfl) rfl (Taken.yes rfl rfl hg1)) ?_
 refine SL.val (O.callp rfl rfl rfl (refvalid_h (N := (n : Int)) (ps := ps) (rs := rs)) (.cons (ArgOk.aggU (.cons (ArgOk.same rfl) (.cons (ArgOk.same rfl) (.cons (ArgOk.same rfl) .nil)))) .nil) hcallOk33 rfl (Taken.yes rfl rfl hg1)) ?_
 refine SL.as (i' := vI 0) 10 rfl (by rw [Prob.err_0 hok]) ?_
 refine SL.val (O.det (fun _ => G.R.mv (G.R.neq rfl rfl) (congrArg Value.bool (decide_eq_false (by decide)))) rfl (Taken.yes rfl rfl hg1)) ?_
 refine SL.val (O.pick_f rfl rfl rfl rfl Taken.no) ?_
 refine E.fo ?_
 refine W.cond_f rfl ?_
 refine W.skip (E.to (W.rg ?_))
 refine SL.val (O.ldN (m := 3) (PtI.ref rfl rfl) (js := [_, _, _]) rfl (Nat.le_of_ble_eq_true rfl) Try.underlying25 rfl (by kernel_rfl) rfl Taken.no) ?_
 refine SL.memS (O.call (rn []) [] rfl rfl rfl (refCount_ok hok h8 hn9) (.cons (ArgOk.aggU (.cons (ArgOk.same rfl) (.cons (ArgOk.same rfl) (.cons (ArgOk.same rfl) .nil)))) .nil) SubS.nil rfl rfl rfl rfl rfl (.inl rfl) hcallOk17 (r' := .tup [.u _, .u _]) rfl rfl Taken.no) rfl rfl (S' := _) rfl ?_
 refine SL.mv rfl rfl ?_
 refine SL.val (O.extract rfl rfl rfl Taken.no) ?_
 refine SL.val (O.extract rfl rfl rfl Taken.no) ?_
 refine SL.an rfl rfl (SL.an rfl rfl (E.fo (W.rg (SL.mv rfl rfl ?_))))
 refine SL.val (O.det (fun _ => G.R.mv (G.R.eql rfl rfl) (congrArg Value.bool (decide_eq_true (by rfl)))) rfl Taken.no) ?_
 refine SL.an rfl rfl (E.fo (W.ret ?_))
 refine E.fin (rs := [_]) (rn []) (.inl rfl) rfl (.cons (ResOne.tmp rfl) .nil) ?_ ?_ rfl (fixL_spec rfl)
 ·skip
  rfl
 · exact SubS.nil

set_option maxRecDepth 8000 in
theorem valid34_m {n : Nat} {ps : List Pr} {rs : List Ru} (hok : (Prob.mk (n : Int) ps rs).ok) (hfew : ((n : Int) ≤ 9 ∨ 200 < (n : Int)) ∧ ps.length ≤ 40 ∧ (rs.length ≤ 12 ∨ rs.length = 401)) (h8 : 8 < (selfs n (atomsL n rs)).length) :
    Con Try.prog 19 [vA [uI (n : Int), .sl 3 (ps.map ePr), .sl 3 (rs.map eRu)]] [] (vB false) [] := by
 have hf := hok.1
 have hn2 : (n : Int) ≤ 200 := hf.2.1
 have hr4 : rs.length ≤ 400 := hf.2.2.1
 have hn9 : n ≤ 9 := by omega
 have hnm : (selfs n (atomsL n rs)).length ≤ 6 ∨ 8 < (selfs n (atomsL n rs)).length := by omega
 refine Con.enterL (n := 20) Try.func19 rfl rfl rfl (fun τ w ok vs hin => ?_)
 have hl0_1 := hin.lenA (i := 0) (j := 1) rfl rfl
 try rw [List.length_map] at hl0_1
 have hl0_2 := hin.lenA (i := 0) (j := 2) rfl rfl
 try rw [List.length_map] at hl0_2
 clear hin
 refine W.rg ?_
 refine SL.memS (O.box (is := [_, _, _]) 101 rfl rfl (by simp) rfl rfl Taken.no) rfl rfl (S' := (101, _) :: _) rfl ?_
 refine SL.an rfl rfl (E.fo (W.seq (W.rg ?_)))
 refine SL.val (O.ldN (m := 3) (PtI.ref rfl rfl) (js := [_, _, _]) rfl (Nat.le_of_ble_eq_true rfl) Try.underlying25 rfl (by kernel_rfl) rfl Taken.no) ?_
 refine SL.val (O.callp rfl rfl rfl (few34_ok hok) (.cons (ArgOk.aggU (.cons (ArgOk.same rfl) (.cons (ArgOk.same rfl) (.cons (ArgOk.same rfl) .nil)))) .nil) hcallOk10 rfl Taken.no) ?_
 refine SL.as (i' := vB true) 6 rfl (by exact iv_bool (dec_t ⟨hfew, hnm⟩)) ?_
 refine SL.val (O.det (fun _ => G.R.mv (G.R.not rfl) rfl) rfl Taken.no) ?_
 refine SL.mv rfl rfl ?_
 have hg1 : false = false := by decide
 refine SL.val (O.ldN (m := 3) (PtI.ref rfl rfl) (js := [_, _, _]) rfl (Nat.le_of_ble_eq_true rfl) Try.underlying25 rfl (by kernel_rfl) rfl (Taken.yes rfl rfl hg1)) ?_
 refine SL.val (O.callp rfl rfl rfl (refvalid_h (N := (n : Int)) (ps := ps) (rs := rs)) (.cons (ArgOk.aggU (.cons (ArgOk.same rfl) (.cons (ArgOk.same rfl) (.cons (ArgOk.same rfl) .nil)))) .nil) hcallOk33 rfl (Taken.yes rfl rfl hg1)) ?_
 refine SL.as (i' := vI 0) 10 rfl (by rw [Prob.err_0 hok]) ?_
 refine SL.val (O.det (fun _ => G.R.mv (G.R.neq rfl rfl) (congrArg Value.bool (decide_eq_false (by decide)))) rfl (Taken.yes rfl rfl hg1)) ?_
 refine SL.val (O.pick_f rfl rfl rfl rfl Taken.no) ?_
 refine E.fo ?_
 refine W.cond_f rfl ?_
 refine W.skip (E.to (W.rg ?_))
 refine SL.val (O.ldN (m := 3) (PtI.ref rfl rfl) (js := [_, _, _]) rfl (Nat.le_of_ble_eq_true rfl) Try.underlying25 rfl (by kernel_rfl) rfl Taken.no) ?_
 refine SL.memS (O.call (rn []) [] rfl rfl rfl (refCount_many hok h8) (.cons (ArgOk.aggU (.cons (ArgOk.same rfl) (.cons (ArgOk.same rfl) (.cons (ArgOk.same rfl) .nil)))) .nil) SubS.nil rfl rfl rfl rfl rfl (.inl rfl) hcallOk17 (r' := .tup [.u _, .u _]) rfl rfl Taken.no) rfl rfl (S' := _) rfl ?_
 refine SL.mv rfl rfl ?_
 refine SL.val (O.extract rfl rfl rfl Taken.no) ?_
 refine SL.val (O.extract rfl rfl rfl Taken.no) ?_
 refine SL.an rfl rfl (SL.an rfl rfl (E.fo (W.rg (SL.mv rfl rfl ?_))))
 refine SL.val (O.det (fun _ => G.R.mv (G.R.eql rfl rfl) (congrArg Value.bool (decide_eq_false (by decide)))) rfl Taken.no) ?_
 refine SL.an rfl rfl (E.fo (W.ret ?_))
 refine E.fin (rs := [_]) (rn []) (.inl rfl) rfl (.cons (ResOne.tmp rfl) .nil) ?_ ?_ rfl (fixL_spec rfl)
 ·skip
  rfl
 · exact SubS.nil

set_option maxRecDepth 8000 in
theorem valid34_b {N : Int} {ps : List Pr} {rs : List Ru} (hok : ¬ (Prob.mk N ps rs).ok) (hfew : (N ≤ 9 ∨ 200 < N) ∧ ps.length ≤ 40 ∧ (rs.length ≤ 12 ∨ rs.length = 401)) :
    Con Try.prog 19 [vA [uI N, .sl 3 (ps.map ePr), .sl 3 (rs.map eRu)]] [] (vB false) [] := by
 have he : (Prob.mk N ps rs).err ≠ 0 := fun q => hok (Prob.err_iff.1 q)
 refine Con.enterL (n := 20) Try.func19 rfl rfl rfl (fun τ w ok vs hin => ?_)
 have hl0_1 := hin.lenA (i := 0) (j := 1) rfl rfl
 try rw [List.length_map] at hl0_1
 have hl0_2 := hin.lenA (i := 0) (j := 2) rfl rfl
 try rw [List.length_map] at hl0_2
 clear hin
 refine W.rg ?_
 refine SL.memS (O.box (is := [_, _, _]) 101 rfl rfl (by simp) rfl rfl Taken.no) rfl rfl (S' := (101, _) :: _) rfl ?_
 refine SL.an rfl rfl (E.fo (W.seq (W.rg ?_)))
 refine SL.val (O.ldN (m := 3) (PtI.ref rfl rfl) (js := [_, _, _]) rfl (Nat.le_of_ble_eq_true rfl) Try.underlying25 rfl (by kernel_rfl) rfl Taken.no) ?_
 refine SL.val (O.callp rfl rfl rfl (few34_bad hok) (.cons (ArgOk.aggU (.cons (ArgOk.same rfl) (.cons (ArgOk.same rfl) (.cons (ArgOk.same rfl) .nil)))) .nil) hcallOk10 rfl Taken.no) ?_
 refine SL.as (i' := vB true) 6 rfl (by exact iv_bool (dec_t hfew)) ?_
 refine SL.val (O.det (fun _ => G.R.mv (G.R.not rfl) rfl) rfl Taken.no) ?_
 refine SL.mv rfl rfl ?_
 have hg1 : false = false := by decide
 refine SL.val (O.ldN (m := 3) (PtI.ref rfl rfl) (js := [_, _, _]) rfl (Nat.le_of_ble_eq_true rfl) Try.underlying25 rfl (by kernel_rfl) rfl (Taken.yes rfl rfl hg1)) ?_
 refine SL.val (O.callp rfl rfl rfl (refvalid_h (N := N) (ps := ps) (rs := rs)) (.cons (ArgOk.aggU (.cons (ArgOk.same rfl) (.cons (ArgOk.same rfl) (.cons (ArgOk.same rfl) .nil)))) .nil) hcallOk33 rfl (Taken.yes rfl rfl hg1)) ?_
 refine SL.val (O.det (fun _ => G.R.mv (G.R.neq rfl rfl) (congrArg Value.bool (decide_eq_true (by exact he)))) rfl (Taken.yes rfl rfl hg1)) ?_
 refine SL.val (O.pick_f rfl rfl rfl rfl Taken.no) ?_
 refine E.fo ?_
 refine W.cond_t rfl ?_
 refine W.rg (SL.an rfl rfl (E.fo (W.ret (E.thr ?_))))
 refine E.fin (rs := [_]) (rn []) (.inl rfl) rfl (.cons (ResOne.tmp rfl) .nil) ?_ ?_ rfl (fixL_spec rfl)
 ·skip
  rfl
 · exact SubS.nil

set_option maxRecDepth 8000 in
theorem valid34_n {N : Int} {ps : List Pr} {rs : List Ru} (hv : Con Try.prog 10 [vA [uI N, .sl 3 (ps.map ePr), .sl 3 (rs.map eRu)]] [] (vB false) []) :
    Con Try.prog 19 [vA [uI N, .sl 3 (ps.map ePr), .sl 3 (rs.map eRu)]] [] (vB false) [] := by
 refine Con.enterL (n := 20) Try.func19 rfl rfl rfl (fun τ w ok vs hin => ?_)
 have hl0_1 := hin.lenA (i := 0) (j := 1) rfl rfl
 try rw [List.length_map] at hl0_1
 have hl0_2 := hin.lenA (i := 0) (j := 2) rfl rfl
 try rw [List.length_map] at hl0_2
 clear hin
 refine W.rg ?_
 refine SL.memS (O.box (is := [_, _, _]) 101 rfl rfl (by simp) rfl rfl Taken.no) rfl rfl (S' := (101, _) :: _) rfl ?_
 refine SL.an rfl rfl (E.fo (W.seq (W.rg ?_)))
 refine SL.val (O.ldN (m := 3) (PtI.ref rfl rfl) (js := [_, _, _]) rfl (Nat.le_of_ble_eq_true rfl) Try.underlying25 rfl (by kernel_rfl) rfl Taken.no) ?_
 refine SL.val (O.callp rfl rfl rfl (hv) (.cons (ArgOk.aggU (.cons (ArgOk.same rfl) (.cons (ArgOk.same rfl) (.cons (ArgOk.same rfl) .nil)))) .nil) hcallOk10 rfl Taken.no) ?_
 refine SL.as (i' := vB false) 6 rfl (by rfl) ?_
 refine SL.val (O.det (fun _ => G.R.mv (G.R.not rfl) rfl) rfl Taken.no) ?_
 refine SL.mv rfl rfl ?_
 have hg1 : true ≠ false := by decide
 refine SL.sk rfl rfl rfl hg1 (SL.sk rfl rfl rfl hg1 (SL.sk rfl rfl rfl hg1 ?_))
 refine SL.val (O.pick_t rfl rfl rfl rfl Taken.no) ?_
 refine E.fo ?_
 refine W.cond_t rfl ?_
 refine W.rg (SL.an rfl rfl (E.fo (W.ret (E.thr ?_))))
 refine E.fin (rs := [_]) (rn []) (.inl rfl) rfl (.cons (ResOne.tmp rfl) .nil) ?_ ?_ rfl (fixL_spec rfl)
 ·skip
  rfl
 · exact SubS.nil

theorem valid34_h {N : Int} {ps : List Pr} {rs : List Ru} (h : ¬ ((Prob.mk N ps rs).ok ∧ ((N ≤ 9 ∨ 200 < N) ∧ ps.length ≤ 40 ∧ (rs.length ≤ 12 ∨ rs.length = 401)) ∧ (selfs N.toNat (atomsL N.toNat rs)).length ≤ 6)) : Con Try.prog 19 [vA [uI N, .sl 3 (ps.map ePr), .sl 3 (rs.map eRu)]] [] (vB false) [] := by
  by_cases hok : (Prob.mk N ps rs).ok
  · obtain ⟨n, rfl⟩ : ∃ n : Nat, N = (n : Int) := ⟨N.toNat, Prob.nat hok.1⟩
    by_cases hfew : ((n : Int) ≤ 9 ∨ 200 < (n : Int)) ∧ ps.length ≤ 40 ∧ (rs.length ≤ 12 ∨ rs.length = 401)
    · by_cases h8 : 8 < (selfs n (atomsL n rs)).length
      · exact valid34_m hok hfew h8
      · refine valid34_n ?_
        have h2 := few34_ok hok
        rwa [decide_eq_false (fun q => h ⟨hok, hfew, by show (selfs n (atomsL n rs)).length ≤ 6; omega⟩)] at h2
    · refine valid34_n ?_
      have h := few34_ok hok
      rwa [decide_eq_false (fun q => hfew q.1)] at h
  · by_cases hfew : (N ≤ 9 ∨ 200 < N) ∧ ps.length ≤ 40 ∧ (rs.length ≤ 12 ∨ rs.length = 401)
    · exact valid34_b hok hfew
    · refine valid34_n ?_
      have h := few34_bad hok
      rwa [decide_eq_false hfew] at h

end Go.Proofs.Ytbkbeplddddgeaa
end
section
namespace Go.Proofs.Ytbkbeplddddgeaa
open Go Go.RowKit Go.H Go.D33

theorem hcallOk19 : G.callOk Try.prog 19 = true := by kernel_rfl
theorem hcallOk29 : G.callOk Try.prog 29 = true := by kernel_rfl
theorem hcallOk31 : G.callOk Try.prog 31 = true := by kernel_rfl

theorem nextN_h {n : Nat} {ps : List Pr} {rs : List Ru} {m : List Nat} (hok : (Prob.mk (n : Int) ps rs).ok) (hm : isP n m) (hp : permR n ps rs m) : Con Try.prog 31 [vA [uI (n : Int), .sl 3 (ps.map ePr), .sl 3 (rs.map eRu)], vL 1 (m.map eN)] [] (.tup [.agg [vB (nextR n ps rs m).1.u, vI (nextR n ps rs m).1.f, vI (nextR n ps rs m).1.t], vI (nextR n ps rs m).2, vI 0]) [] := by
  have h := nextC_ok (l := m.map fun x : Nat => (x : Int)) hok
  have e := nx_yes (permS_cast.2 ⟨hm, hp⟩)
  rw [eI_eN, e.1, e.2] at h
  exact h




set_option maxRecDepth 8000 in
set_option maxHeartbeats 3200000 in
theorem optimumBetween_y {n : Nat} {ps : List Pr} {rs : List Ru} (hok : (Prob.mk (n : Int) ps rs).ok) (hfew : ((n : Int) ≤ 9 ∨ 200 < (n : Int)) ∧ ps.length ≤ 40 ∧ (rs.length ≤ 12 ∨ rs.length = 401)) (h6 : (selfs n (atomsL n rs)).length ≤ 6) :
    Con Try.prog 8 [vA [uI (n : Int), .sl 3 (ps.map ePr), .sl 3 (rs.map eRu)]] [] (vB true) [] := by
 have hf := hok.1
 have hn2 : (n : Int) ≤ 200 := hf.2.1
 have hr4 : rs.length ≤ 400 := hf.2.2.1
 have hn9 : n ≤ 9 := by omega
 have h8 : (selfs n (atomsL n rs)).length ≤ 8 := by omega
 have hnm : (selfs n (atomsL n rs)).length ≤ 6 ∨ 8 < (selfs n (atomsL n rs)).length := by omega
 have hlb := allL_9 (ps := ps) (rs := rs) hn9
 have hso := solveR_spec hok
 have hs1 := (stB_ge hok hso.1 hso.2.1).1
 have hb1 := bnd_ge hf (stB_perm hok).2
 have hb2 := (stB_spec hok).2.1
 refine Con.enterL (n := 87) Try.func8 rfl rfl rfl (fun τ w ok vs hin => ?_)
 have hl0_1 := hin.lenA (i := 0) (j := 1) rfl rfl
 try rw [List.length_map] at hl0_1
 have hl0_2 := hin.lenA (i := 0) (j := 2) rfl rfl
 try rw [List.length_map] at hl0_2
 clear hin
 refine W.rg ?_
 refine SL.memS (O.box (is := [_, _, _]) 101 rfl rfl (by simp) rfl rfl Taken.no) rfl rfl (S' := (101, _) :: _) rfl ?_
 refine SL.an rfl rfl (E.fo (W.seq (W.rg ?_)))
 refine SL.val (O.callp rfl rfl rfl (awake34_h) .nil hcallOk9 rfl Taken.no) ?_
 refine SL.as (i' := vB true) 16 rfl (by rfl) ?_
 refine SL.val (O.det (fun _ => G.R.mv (G.R.not rfl) rfl) rfl Taken.no) ?_
 refine SL.mv rfl rfl ?_
 have hg1 : false = false := by decide
 refine SL.val (O.ldN (m := 3) (PtI.ref rfl rfl) (js := [_, _, _]) rfl (Nat.le_of_ble_eq_true rfl) Try.underlying25 rfl (by kernel_rfl) rfl (Taken.yes rfl rfl hg1)) ?_
 refine SL.val (O.callp rfl rfl rfl (valid34_y hok hfew h6) (.cons (ArgOk.aggU (.cons (ArgOk.same rfl) (.cons (ArgOk.same rfl) (.cons (ArgOk.same rfl) .nil)))) .nil) hcallOk19 rfl (Taken.yes rfl rfl hg1)) ?_
 refine SL.as (i' := vB true) 20 rfl (by rfl) ?_
 refine SL.val (O.det (fun _ => G.R.mv (G.R.not rfl) rfl) rfl (Taken.yes rfl rfl hg1)) ?_
 refine SL.val (O.pick_f rfl rfl rfl rfl Taken.no) ?_
 refine E.fo ?_
 refine W.cond_f rfl ?_
 refine W.skip (E.to (W.rg ?_))
 refine SL.val (O.ldN (m := 3) (PtI.ref rfl rfl) (js := [_, _, _]) rfl (Nat.le_of_ble_eq_true rfl) Try.underlying25 rfl (by kernel_rfl) rfl Taken.no) ?_
 refine SL.memS (O.call (rn []) [] rfl rfl rfl (own_h (by omega) (by omega)) (.cons (ArgOk.aggU (.cons (ArgOk.same rfl) (.cons (ArgOk.same rfl) (.cons (ArgOk.same rfl) .nil)))) .nil) SubS.nil rfl rfl rfl rfl rfl (.inl rfl) hcallOk11 (r' := .agg [.u _, .u _, .u _]) rfl rfl Taken.no) rfl rfl (S' := _) rfl ?_
 refine SL.memS (O.alloc (z := .agg #[.int .i64 0, .slice none 0 0, .slice none 0 0]) (is := [.u (.sc (.int .i64 0)), .u (.sc (.slice none 0 0)), .u (.sc (.slice none 0 0))]) 102 (by kernel_rfl) rfl rfl rfl Taken.no) rfl rfl (S' := (102, _) :: _) rfl ?_
 refine SL.effS (O.st_ref (m := 3) rfl rfl rfl (js := [_, _, _]) rfl rfl (by kernel_rfl) (by simp) (Nat.le_of_ble_eq_true rfl) rfl (is' := [_, _, _]) rfl Taken.no) (S' := (102, _) :: _) rfl ?_
 refine E.fo (W.rg ?_)
 refine SL.val (O.ldN (m := 3) (PtI.ref rfl rfl) (js := [_, _, _]) rfl (Nat.le_of_ble_eq_true rfl) Try.underlying30 rfl (by kernel_rfl) rfl Taken.no) ?_
 refine SL.memS (O.call (rn []) [] rfl rfl rfl (solveC_ok hok) (.cons (ArgOk.aggU (.cons (ArgOk.same rfl) (.cons (ArgOk.same rfl) (.cons (ArgOk.same rfl) .nil)))) .nil) SubS.nil rfl rfl rfl rfl rfl (.inl rfl) hcallOk29 (r' := .tup [.u _, .u _]) rfl rfl Taken.no) rfl rfl (S' := _) rfl ?_
 refine SL.mv rfl rfl ?_
 refine SL.val (O.extract rfl rfl rfl Taken.no) ?_
 refine SL.val (O.extract rfl rfl rfl Taken.no) ?_
 refine SL.an rfl rfl (SL.an rfl rfl (E.fo (W.rg ?_)))
 refine SL.val (O.ldN (m := 3) (PtI.ref rfl rfl) (js := [_, _, _]) rfl (Nat.le_of_ble_eq_true rfl) Try.underlying30 rfl (by kernel_rfl) rfl Taken.no) ?_
 refine SL.mv rfl rfl ?_
 refine SL.memS (O.call (rn []) [] rfl rfl rfl (valN_h (m := (solveR n ps rs)) hok hso.1) (.cons (ArgOk.aggU (.cons (ArgOk.same rfl) (.cons (ArgOk.same rfl) (.cons (ArgOk.same rfl) .nil)))) (.cons (ArgOk.same rfl) .nil)) SubS.nil rfl rfl rfl rfl rfl (.inl rfl) hcallOk30 (r' := .tup [.u _, .u _]) rfl rfl Taken.no) rfl rfl (S' := _) rfl ?_
 refine SL.mv rfl rfl ?_
 refine SL.val (O.extract rfl rfl rfl Taken.no) ?_
 refine SL.val (O.extract rfl rfl rfl Taken.no) ?_
 refine SL.an rfl rfl (SL.an rfl rfl (E.fo ?_))
 refine W.pick (K:=[(2,_),(3,_),(5,_),(6,_),(7,_)]) (Z:=[(101,_),(102,_)]) ⟨rfl,rfl,rfl,rfl,rfl,trivial⟩ ⟨rfl,rfl,trivial⟩ ?_
 refine W.rg ?_
 refine SL.val (O.ldN (m := 3) (PtI.ref rfl rfl) (js := [_, _, _]) rfl (Nat.le_of_ble_eq_true rfl) Try.underlying30 rfl (by kernel_rfl) rfl Taken.no) ?_
 refine SL.memS (O.call (rn []) [] rfl rfl rfl (bestC_ok hok h8) (.cons (ArgOk.aggU (.cons (ArgOk.same rfl) (.cons (ArgOk.same rfl) (.cons (ArgOk.same rfl) .nil)))) .nil) SubS.nil rfl rfl rfl rfl rfl (.inl rfl) hcallOk12 (r' := .tup [.u _, .u _, .u _]) rfl rfl Taken.no) rfl rfl (S' := _) rfl ?_
 refine SL.mv rfl rfl ?_
 refine SL.val (O.extract rfl rfl rfl Taken.no) ?_
 refine SL.val (O.extract rfl rfl rfl Taken.no) ?_
 refine SL.val (O.extract rfl rfl rfl Taken.no) ?_
 refine SL.an rfl rfl (SL.an rfl rfl (SL.an rfl rfl (E.fo (W.rg ?_))))
 refine SL.val (O.ldN (m := 3) (PtI.ref rfl rfl) (js := [_, _, _]) rfl (Nat.le_of_ble_eq_true rfl) Try.underlying30 rfl (by kernel_rfl) rfl Taken.no) ?_
 refine SL.memS (O.call (rn []) [] rfl rfl rfl (boundC_ok hok (by omega)) (.cons (ArgOk.aggU (.cons (ArgOk.same rfl) (.cons (ArgOk.same rfl) (.cons (ArgOk.same rfl) .nil)))) .nil) SubS.nil rfl rfl rfl rfl rfl (.inl rfl) hcallOk14 (r' := .tup [.u _, .u _]) rfl rfl Taken.no) rfl rfl (S' := _) rfl ?_
 refine SL.mv rfl rfl ?_
 refine SL.val (O.extract rfl rfl rfl Taken.no) ?_
 refine SL.val (O.extract rfl rfl rfl Taken.no) ?_
 refine SL.an rfl rfl (SL.an rfl rfl (E.fo (W.rg ?_)))
 refine SL.val (O.ldN (m := 3) (PtI.ref rfl rfl) (js := [_, _, _]) rfl (Nat.le_of_ble_eq_true rfl) Try.underlying30 rfl (by kernel_rfl) rfl Taken.no) ?_
 refine SL.mv rfl rfl ?_
 refine SL.memS (O.call (rn []) [] rfl rfl rfl (nextN_h (m := (stB n ps rs).best) hok (stB_perm hok).1 (stB_perm hok).2) (.cons (ArgOk.aggU (.cons (ArgOk.same rfl) (.cons (ArgOk.same rfl) (.cons (ArgOk.same rfl) .nil)))) (.cons (ArgOk.same rfl) .nil)) SubS.nil rfl rfl rfl rfl rfl (.inl rfl) hcallOk31 (r' := .tup [.agg [.u _, .u _, .u _], .u _, .u _]) rfl rfl Taken.no) rfl rfl (S' := _) rfl ?_
 refine SL.mv rfl rfl ?_
 refine SL.val (O.extract rfl rfl rfl Taken.no) ?_
 refine SL.val (O.extract rfl rfl rfl Taken.no) ?_
 refine SL.val (O.extract rfl rfl rfl Taken.no) ?_
 refine SL.memS (O.alloc (z := .agg #[.bool false, .int .i64 0, .int .i64 0]) (is := [.u (.sc (.bool false)), .u (.sc (.int .i64 0)), .u (.sc (.int .i64 0))]) 103 (by kernel_rfl) rfl rfl rfl Taken.no) rfl rfl (S' := (103, _) :: _) rfl ?_
 refine SL.effS (O.st_ref (m := 3) rfl rfl rfl (js := [_, _, _]) rfl rfl (by kernel_rfl) (by simp) (Nat.le_of_ble_eq_true rfl) rfl (is' := [_, _, _]) rfl Taken.no) (S' := (103, _) :: _) rfl ?_
 refine SL.an rfl rfl (SL.an rfl rfl (E.fo ?_))
 refine W.pick (K:=[(2,_),(5,_),(6,_),(7,_),(9,_),(10,_),(11,_),(12,_),(14,_),(15,_)]) (Z:=[(101,_),(102,_),(103,_)]) ⟨rfl,rfl,rfl,rfl,rfl,rfl,rfl,rfl,rfl,rfl,trivial⟩ ⟨rfl,rfl,rfl,trivial⟩ ?_
 refine W.rg (SL.mv rfl rfl ?_)
 refine SL.val (O.det (fun _ => G.R.mv (G.R.eql rfl rfl) (congrArg Value.bool (decide_eq_true (by rfl)))) rfl Taken.no) ?_
 refine SL.mv rfl rfl ?_
 have hg2 : true = true := by decide
 refine SL.val (O.move rfl rfl (Taken.yes rfl rfl hg2)) ?_
 refine SL.val (O.det (fun _ => G.R.mv (G.R.eql rfl rfl) (congrArg Value.bool (decide_eq_true (by rfl)))) rfl (Taken.yes rfl rfl hg2)) ?_
 refine SL.val (O.pick_t rfl rfl rfl rfl Taken.no) ?_
 refine SL.mv rfl rfl ?_
 have hg3 : true = true := by decide
 refine SL.val (O.move rfl rfl (Taken.yes rfl rfl hg3)) ?_
 refine SL.val (O.det (fun _ => G.R.mv (G.R.eql rfl rfl) (congrArg Value.bool (decide_eq_true (by rfl)))) rfl (Taken.yes rfl rfl hg3)) ?_
 refine SL.val (O.pick_t rfl rfl rfl rfl Taken.no) ?_
 refine SL.mv rfl rfl ?_
 have hg4 : true = true := by decide
 refine SL.val (O.move rfl rfl (Taken.yes rfl rfl hg4)) ?_
 refine SL.val (O.det (fun _ => G.R.mv (G.R.eql rfl rfl) (congrArg Value.bool (decide_eq_true (by rfl)))) rfl (Taken.yes rfl rfl hg4)) ?_
 refine SL.val (O.pick_t rfl rfl rfl rfl Taken.no) ?_
 refine SL.mv rfl rfl ?_
 have hg5 : true = true := by decide
 refine SL.val (O.move rfl rfl (Taken.yes rfl rfl hg5)) ?_
 refine SL.val (O.det (fun _ => G.R.mv (G.R.eql rfl rfl) (congrArg Value.bool (decide_eq_true (by rfl)))) rfl (Taken.yes rfl rfl hg5)) ?_
 refine SL.val (O.pick_t rfl rfl rfl rfl Taken.no) ?_
 refine SL.mv rfl rfl ?_
 have hg6 : true = true := by decide
 refine SL.val (O.move rfl rfl (Taken.yes rfl rfl hg6)) ?_
 refine SL.val (O.move rfl rfl (Taken.yes rfl rfl hg6)) ?_
 refine SL.val (O.det (fun _ => G.R.mv (G.R.leq rfl rfl) (congrArg Value.bool (decide_eq_true (by omega)))) rfl (Taken.yes rfl rfl hg6)) ?_
 refine SL.val (O.pick_t rfl rfl rfl rfl Taken.no) ?_
 refine SL.mv rfl rfl ?_
 have hg7 : true = true := by decide
 refine SL.val (O.move rfl rfl (Taken.yes rfl rfl hg7)) ?_
 refine SL.val (O.move rfl rfl (Taken.yes rfl rfl hg7)) ?_
 refine SL.val (O.det (fun _ => G.R.mv (G.R.leq rfl rfl) (congrArg Value.bool (decide_eq_true (by omega)))) rfl (Taken.yes rfl rfl hg7)) ?_
 refine SL.val (O.pick_t rfl rfl rfl rfl Taken.no) ?_
 refine SL.mv rfl rfl ?_
 have hg8 : true = true := by decide
 refine SL.val (O.move rfl rfl (Taken.yes rfl rfl hg8)) ?_
 refine SL.val (O.det (fun _ => G.R.mv (G.R.eql rfl rfl) (congrArg Value.bool (decide_eq_true (by exact stB_next hok)))) rfl (Taken.yes rfl rfl hg8)) ?_
 refine SL.val (O.pick_t rfl rfl rfl rfl Taken.no) ?_
 refine SL.an rfl rfl (E.fo ?_)
 refine W.pick (K:=[(2,_)]) (Z:=[(101,_),(102,_),(103,_)]) ⟨rfl,trivial⟩ ⟨rfl,rfl,rfl,trivial⟩ ?_
 refine W.ret ?_
 refine E.fin (rs := [_]) (rn []) (.inl rfl) rfl (.cons (ResOne.tmp rfl) .nil) ?_ ?_ rfl (fixL_spec rfl)
 ·skip
  rfl
 · exact SubS.nil

set_option maxRecDepth 8000 in
set_option maxHeartbeats 3200000 in
theorem optimumBetween_n {N : Int} {ps : List Pr} {rs : List Ru} (hv : Con Try.prog 19 [vA [uI N, .sl 3 (ps.map ePr), .sl 3 (rs.map eRu)]] [] (vB false) []) :
    Con Try.prog 8 [vA [uI N, .sl 3 (ps.map ePr), .sl 3 (rs.map eRu)]] [] (vB true) [] := by
 refine Con.enterL (n := 87) Try.func8 rfl rfl rfl (fun τ w ok vs hin => ?_)
 have hl0_1 := hin.lenA (i := 0) (j := 1) rfl rfl
 try rw [List.length_map] at hl0_1
 have hl0_2 := hin.lenA (i := 0) (j := 2) rfl rfl
 try rw [List.length_map] at hl0_2
 clear hin
 refine W.rg ?_
 refine SL.memS (O.box (is := [_, _, _]) 101 rfl rfl (by simp) rfl rfl Taken.no) rfl rfl (S' := (101, _) :: _) rfl ?_
 refine SL.an rfl rfl (E.fo (W.seq (W.rg ?_)))
 refine SL.val (O.callp rfl rfl rfl (awake34_h) .nil hcallOk9 rfl Taken.no) ?_
 refine SL.as (i' := vB true) 16 rfl (by rfl) ?_
 refine SL.val (O.det (fun _ => G.R.mv (G.R.not rfl) rfl) rfl Taken.no) ?_
 refine SL.mv rfl rfl ?_
 have hg1 : false = false := by decide
 refine SL.val (O.ldN (m := 3) (PtI.ref rfl rfl) (js := [_, _, _]) rfl (Nat.le_of_ble_eq_true rfl) Try.underlying25 rfl (by kernel_rfl) rfl (Taken.yes rfl rfl hg1)) ?_
 refine SL.val (O.callp rfl rfl rfl (hv) (.cons (ArgOk.aggU (.cons (ArgOk.same rfl) (.cons (ArgOk.same rfl) (.cons (ArgOk.same rfl) .nil)))) .nil) hcallOk19 rfl (Taken.yes rfl rfl hg1)) ?_
 refine SL.as (i' := vB false) 20 rfl (by rfl) ?_
 refine SL.val (O.det (fun _ => G.R.mv (G.R.not rfl) rfl) rfl (Taken.yes rfl rfl hg1)) ?_
 refine SL.val (O.pick_f rfl rfl rfl rfl Taken.no) ?_
 refine E.fo ?_
 refine W.cond_t rfl ?_
 refine W.rg ?_
 refine SL.val (O.callp rfl rfl rfl (awake34_h) .nil hcallOk9 rfl Taken.no) ?_
 refine SL.as (i' := vB true) 23 rfl (by rfl) ?_
 refine SL.an rfl rfl (E.fo (W.ret (E.thr ?_)))
 refine E.fin (rs := [_]) (rn []) (.inl rfl) rfl (.cons (ResOne.tmp rfl) .nil) ?_ ?_ rfl (fixL_spec rfl)
 ·skip
  rfl
 · exact SubS.nil

theorem optimumBetween_h {N : Int} {ps : List Pr} {rs : List Ru} : Con Try.prog 8 [vA [uI N, .sl 3 (ps.map ePr), .sl 3 (rs.map eRu)]] [] (vB true) [] := by
  by_cases h : (Prob.mk N ps rs).ok ∧ ((N ≤ 9 ∨ 200 < N) ∧ ps.length ≤ 40 ∧ (rs.length ≤ 12 ∨ rs.length = 401)) ∧ (selfs N.toNat (atomsL N.toNat rs)).length ≤ 6
  · obtain ⟨hok, hfew, h6⟩ := h
    obtain ⟨n, rfl⟩ : ∃ n : Nat, N = (n : Int) := ⟨N.toNat, Prob.nat hok.1⟩
    exact optimumBetween_y hok hfew h6
  · exact optimumBetween_n (valid34_h h)





end Go.Proofs.Ytbkbeplddddgeaa
end
