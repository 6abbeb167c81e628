/-
  What the proof rests on: part 12 of 12.
-/
import Derived.Test.YtppamigboeaefaaClusterStepsP11
section
namespace Go.Proofs.Ytppamigboeaefaa
open Go Go.RowKit Go.H Go.D33

theorem hcallOk40 : G.callOk Try.prog 40 = true := by kernel_rfl

set_option maxRecDepth 8000 in
/-- bookplate/cluster.Apply. -/
theorem applyC_ok {n : Nat} {ps : List Pr} {rs : List Ru} {l : List Int} {u : Bool} {f t : Int} (hok : (Prob.mk (n : Int) ps rs).ok) :
    Con Try.prog 26 [vA [uI (n : Int), .sl 3 (ps.map ePr), .sl 3 (rs.map eRu)], vL 1 (l.map eI), vA [uB u, uI f, uI t]] [] (.tup [vL 1 ((apL n ps rs l ⟨u, f, t⟩).map eN), vI (apV n ps rs l ⟨u, f, t⟩), vI (apE n ps rs l ⟨u, f, t⟩)]) [] := by
 have hf := hok.1
 have hn2 : (n : Int) ≤ 200 := hf.2.1
 refine Con.enterL (n := 40) Try.func26 rfl rfl rfl (fun τ w ok vs hin => ?_)
 have hl0_1 := hin.lenA (i := 0) (j := 1) rfl rfl
 try rw [List.length_map] at hl0_1
 have hl0_2 := hin.lenA (i := 0) (j := 2) rfl rfl
 try rw [List.length_map] at hl0_2
 have hl1 := hin.len (i := 1) rfl
 try rw [List.length_map] at hl1
 clear hin
 refine W.rg ?_
 refine SL.memS (O.box (is := [_, _, _]) 101 rfl rfl (by simp) rfl rfl Taken.no) rfl rfl (S' := (101, _) :: _) rfl ?_
 refine SL.memS (O.box (is := [_, _, _]) 102 rfl rfl (by simp) rfl rfl Taken.no) rfl rfl (S' := (102, _) :: _) rfl ?_
 refine SL.an rfl rfl (SL.an rfl rfl (SL.an rfl rfl (E.fo (W.rg ?_))))
 refine SL.val (O.ldN (m := 3) (PtI.ref rfl rfl) (js := [_, _, _]) rfl (Nat.le_of_ble_eq_true rfl) Try.underlying32 rfl (by kernel_rfl) rfl Taken.no) ?_
 refine SL.memS (O.call (rn []) [] rfl rfl rfl (check_ok hok) (.cons (ArgOk.aggU (.cons (ArgOk.same rfl) (.cons (ArgOk.same rfl) (.cons (ArgOk.same rfl) .nil)))) .nil) SubS.nil rfl rfl rfl rfl rfl (.inl rfl) hcallOk38 (r' := .tup [.u _, .u _]) rfl rfl Taken.no) rfl rfl (S' := _) rfl ?_
 refine SL.mv rfl rfl ?_
 refine SL.val (O.extract rfl rfl rfl Taken.no) ?_
 refine SL.val (O.extract rfl rfl rfl Taken.no) ?_
 refine SL.an rfl rfl (SL.an rfl rfl (E.fo (W.seq (W.block (W.rg (SL.mv rfl rfl ?_))))))
 refine SL.val (O.det (fun _ => G.R.mv (G.R.neq rfl rfl) (congrArg Value.bool (decide_eq_false (by decide)))) rfl Taken.no) ?_
 refine SL.an rfl rfl (E.fo ?_)
 refine W.cond_f rfl ?_
 refine W.rg (SL.mv rfl rfl (SL.mv rfl rfl ?_))
 refine SL.val (O.callp rfl rfl rfl (permitted_h (l := l) (by omega) (atm_ok n rs) (bar_rng hf)) (.cons (ArgOk.same rfl) (.cons (ArgOk.same rfl) .nil)) hcallOk49 rfl Taken.no) ?_
 refine SL.val (O.det (fun _ => G.R.not rfl) rfl Taken.no) ?_
 refine SL.an rfl rfl (E.fo ?_)
 first | refine W.cond_d rfl (fun hc1 => ?_) (fun hc1 => ?_) | refine W.cond_nd rfl (fun hc1 => ?_) (fun hc1 => ?_) | refine W.cond rfl (fun hc1 => ?_) (fun hc1 => ?_)
 ·skip
  refine W.rg (SL.an rfl rfl (SL.an rfl rfl (SL.an rfl rfl (E.fo ?_))))
  refine W.pick (K:=[(1,_),(5,_),(6,_),(7,_),(8,_),(9,_)]) (Z:=[(101,_),(102,_)]) ⟨rfl,rfl,rfl,rfl,rfl,rfl,trivial⟩ ⟨rfl,rfl,trivial⟩ ?_
  refine W.ret ?_
  refine E.inr ?_
  refine E.thr ?_
  refine E.nilsl 6 1 rfl ?_
  refine E.fin (rs := [_, _, _]) (rn []) (.inl rfl) rfl (.cons (ResOne.tmp rfl) (.cons (ResOne.tmp rfl) (.cons (ResOne.tmp rfl) .nil))) ?_ ?_ rfl (fixL_spec rfl)
  ·skip
   have hnp : ¬ permS n ps rs l := fun q => by have q2 := (permIS hf).2 q; simp_all
   rw [(ap_np hnp _).1, (ap_np hnp _).2.1, (ap_np hnp _).2.2]; rfl
  · exact SubS.nil
 ·skip
  have hpm : permI n (mF (lF ps) rs) (barL rs) (namedL n (partsL (mu rs) (List.range n))) l := by first | assumption | simp_all
  have hps := (permIS hf).1 hpm
  obtain ⟨m, rfl⟩ := cast_of fun i hi => (hps.1.2 i hi).1
  obtain ⟨hQ, hpr⟩ := permS_cast.1 hps
  rw [eI_eN]
  have hml := hQ.1
  have hal := atm_ok n rs
  have hae := ap_eq hf hQ hpr ⟨u, f, t⟩
  refine W.skip (E.inn (E.to (W.rg (SL.mv rfl rfl (SL.mv rfl rfl ?_)))))
  refine SL.val (O.ldN (m := 3) (PtI.ref rfl rfl) (js := [_, _, _]) rfl (Nat.le_of_ble_eq_true rfl) Try.underlying55 rfl (by kernel_rfl) rfl Taken.no) ?_
  refine SL.memS (O.call (rn []) [] rfl rfl rfl (apply_h (u := u) (f := f) (t := t) (by omega) (w_b hf) (atm_ok n rs) (bar_rng hf) hml) (.cons (ArgOk.same rfl) (.cons (ArgOk.same rfl) (.cons (ArgOk.aggU (.cons (ArgOk.same rfl) (.cons (ArgOk.same rfl) (.cons (ArgOk.same rfl) .nil)))) .nil))) SubS.nil rfl rfl rfl rfl rfl (.inl rfl) hcallOk50 (r' := .tup [.u _, .u _, .u _]) rfl rfl Taken.no) rfl rfl (S' := _) rfl ?_
  refine SL.mv rfl rfl ?_
  refine SL.val (O.extract rfl rfl rfl Taken.no) ?_
  refine SL.val (O.extract rfl rfl rfl Taken.no) ?_
  refine SL.val (O.extract rfl rfl rfl Taken.no) ?_
  refine SL.an rfl rfl (SL.an rfl rfl (SL.an rfl rfl (E.fo ?_)))
  refine W.pick (K:=[(6,_),(7,_),(8,_),(11,_),(12,_),(13,_)]) (Z:=[(101,_),(102,_)]) ⟨rfl,rfl,rfl,rfl,rfl,rfl,trivial⟩ ⟨rfl,rfl,trivial⟩ ?_
  refine W.seq (W.rg (SL.mv rfl rfl ?_))
  refine SL.val (O.det (fun _ => G.R.not rfl) rfl Taken.no) ?_
  refine E.fo ?_
  first | refine W.cond_d rfl (fun hc2 => ?_) (fun hc2 => ?_) | refine W.cond_nd rfl (fun hc2 => ?_) (fun hc2 => ?_) | refine W.cond rfl (fun hc2 => ?_) (fun hc2 => ?_)
  ·skip
   refine W.rg (SL.an rfl rfl (SL.an rfl rfl (SL.an rfl rfl (E.fo (W.ret (E.thr ?_))))))
   refine E.nilsl 6 1 rfl ?_
   refine E.fin (rs := [_, _, _]) (rn []) (.inl rfl) rfl (.cons (ResOne.tmp rfl) (.cons (ResOne.tmp rfl) (.cons (ResOne.tmp rfl) .nil))) ?_ ?_ rfl (fixL_spec rfl)
   ·skip
    have hno : ¬ posR n (barL rs) (atomsL n rs) m ⟨u, f, t⟩ := fun q => by have q2 := hae.1.2 q; simp_all
    rw [(ap_no hps hno).1, (ap_no hps hno).2.1, (ap_no hps hno).2.2]; rfl
   · exact SubS.nil
  ·skip
   refine W.skip (E.to (W.rg (SL.mv rfl rfl (SL.mv rfl rfl (SL.an rfl rfl (SL.an rfl rfl (SL.an rfl rfl (E.fo (W.ret ?_)))))))))
   refine E.fin (rs := [_, _, _]) (rn []) (.inl rfl) rfl (.cons (ResOne.tmp rfl) (.cons (ResOne.tmp rfl) (.cons (ResOne.tmp rfl) .nil))) ?_ ?_ rfl (fixL_spec rfl)
   ·skip
    have hpf : posF n (barL rs) (namedL n (partsL (mu rs) (List.range n))) m ⟨u, f, t⟩ := by first | assumption | simp_all
    have hyes := hae.1.1 hpf
    rw [(ap_yes hps hyes).1, (ap_yes hps hyes).2.1, (ap_yes hps hyes).2.2, apN_y hpf, apG_y hpf, (hae.2 hyes).1, (hae.2 hyes).2, eI_eN]; rfl
   · exact SubS.nil

set_option maxRecDepth 8000 in
/-- bookplate/cluster.Apply. -/
theorem applyC_bad {N : Int} {ps : List Pr} {rs : List Ru} {l : List Int} {u : Bool} {f t : Int} (hok : ¬ (Prob.mk N ps rs).ok) :
    Con Try.prog 26 [vA [uI N, .sl 3 (ps.map ePr), .sl 3 (rs.map eRu)], vL 1 (l.map eI), vA [uB u, uI f, uI t]] [] (.tup [vL 1 ([] : List (List UV)), vI 0, vI (Prob.mk N ps rs).err]) [] := by
 have he : (Prob.mk N ps rs).err ≠ 0 := fun q => hok (Prob.err_iff.1 q)
 refine Con.enterL (n := 40) Try.func26 rfl rfl rfl (fun τ w ok vs hin => ?_)
 have hl0_1 := hin.lenA (i := 0) (j := 1) rfl rfl
 try rw [List.length_map] at hl0_1
 have hl0_2 := hin.lenA (i := 0) (j := 2) rfl rfl
 try rw [List.length_map] at hl0_2
 have hl1 := hin.len (i := 1) rfl
 try rw [List.length_map] at hl1
 clear hin
 refine W.rg ?_
 refine SL.memS (O.box (is := [_, _, _]) 101 rfl rfl (by simp) rfl rfl Taken.no) rfl rfl (S' := (101, _) :: _) rfl ?_
 refine SL.memS (O.box (is := [_, _, _]) 102 rfl rfl (by simp) rfl rfl Taken.no) rfl rfl (S' := (102, _) :: _) rfl ?_
 refine SL.an rfl rfl (SL.an rfl rfl (SL.an rfl rfl (E.fo (W.rg ?_))))
 refine SL.val (O.ldN (m := 3) (PtI.ref rfl rfl) (js := [_, _, _]) rfl (Nat.le_of_ble_eq_true rfl) Try.underlying32 rfl (by kernel_rfl) rfl Taken.no) ?_
 refine SL.memS (O.call (rn []) [] rfl rfl rfl (check_bad hok) (.cons (ArgOk.aggU (.cons (ArgOk.same rfl) (.cons (ArgOk.same rfl) (.cons (ArgOk.same rfl) .nil)))) .nil) SubS.nil rfl rfl rfl rfl rfl (.inl rfl) hcallOk38 (r' := .tup [.u _, .u _]) rfl rfl Taken.no) rfl rfl (S' := _) rfl ?_
 refine SL.mv rfl rfl ?_
 refine SL.val (O.extract rfl rfl rfl Taken.no) ?_
 refine SL.val (O.extract rfl rfl rfl Taken.no) ?_
 refine SL.an rfl rfl (SL.an rfl rfl (E.fo (W.seq (W.block (W.rg (SL.mv rfl rfl ?_))))))
 refine SL.val (O.det (fun _ => G.R.mv (G.R.neq rfl rfl) (congrArg Value.bool (decide_eq_true (by exact he)))) rfl Taken.no) ?_
 refine SL.an rfl rfl (E.fo ?_)
 refine W.cond_t rfl ?_
 refine W.rg (SL.mv rfl rfl (SL.an rfl rfl (SL.an rfl rfl (SL.an rfl rfl (E.fo (W.ret ?_))))))
 refine E.inr ?_
 refine E.thr ?_
 refine E.nilsl 6 1 rfl ?_
 refine E.fin (rs := [_, _, _]) (rn []) (.inl rfl) rfl (.cons (ResOne.tmp rfl) (.cons (ResOne.tmp rfl) (.cons (ResOne.tmp rfl) .nil))) ?_ ?_ rfl (fixL_spec rfl)
 ·skip
  rfl
 · exact SubS.nil

set_option maxRecDepth 8000 in
/-- bookplate/cluster.Next. -/
theorem nextC_ok {n : Nat} {ps : List Pr} {rs : List Ru} {l : List Int} (hok : (Prob.mk (n : Int) ps rs).ok) :
    Con Try.prog 28 [vA [uI (n : Int), .sl 3 (ps.map ePr), .sl 3 (rs.map eRu)], vL 1 (l.map eI)] [] (.tup [.agg [vB (nxI n ps rs l).1.u, vI (nxI n ps rs l).1.f, vI (nxI n ps rs l).1.t], vI (nxI n ps rs l).2, vI (nxE n ps rs l)]) [] := by
 have hf := hok.1
 have hn2 : (n : Int) ≤ 200 := hf.2.1
 refine Con.enterL (n := 37) Try.func28 rfl rfl rfl (fun τ w ok vs hin => ?_)
 have hl0_1 := hin.lenA (i := 0) (j := 1) rfl rfl
 try rw [List.length_map] at hl0_1
 have hl0_2 := hin.lenA (i := 0) (j := 2) rfl rfl
 try rw [List.length_map] at hl0_2
 have hl1 := hin.len (i := 1) rfl
 try rw [List.length_map] at hl1
 clear hin
 refine W.rg ?_
 refine SL.memS (O.box (is := [_, _, _]) 101 rfl rfl (by simp) rfl rfl Taken.no) rfl rfl (S' := (101, _) :: _) rfl ?_
 refine SL.memS (O.alloc (z := .agg #[.bool false, .int .i64 0, .int .i64 0]) (is := [.u (.sc (.bool false)), .u (.sc (.int .i64 0)), .u (.sc (.int .i64 0))]) 102 (by kernel_rfl) rfl rfl rfl Taken.no) rfl rfl (S' := (102, _) :: _) rfl ?_
 refine SL.an rfl rfl (SL.an rfl rfl (E.fo (W.rg ?_)))
 refine SL.val (O.ldN (m := 3) (PtI.ref rfl rfl) (js := [_, _, _]) rfl (Nat.le_of_ble_eq_true rfl) Try.underlying32 rfl (by kernel_rfl) rfl Taken.no) ?_
 refine SL.memS (O.call (rn []) [] rfl rfl rfl (check_ok hok) (.cons (ArgOk.aggU (.cons (ArgOk.same rfl) (.cons (ArgOk.same rfl) (.cons (ArgOk.same rfl) .nil)))) .nil) SubS.nil rfl rfl rfl rfl rfl (.inl rfl) hcallOk38 (r' := .tup [.u _, .u _]) rfl rfl Taken.no) rfl rfl (S' := _) rfl ?_
 refine SL.mv rfl rfl ?_
 refine SL.val (O.extract rfl rfl rfl Taken.no) ?_
 refine SL.val (O.extract rfl rfl rfl Taken.no) ?_
 refine SL.an rfl rfl (SL.an rfl rfl (E.fo (W.seq (W.block (W.rg (SL.mv rfl rfl ?_))))))
 refine SL.val (O.det (fun _ => G.R.mv (G.R.neq rfl rfl) (congrArg Value.bool (decide_eq_false (by decide)))) rfl Taken.no) ?_
 refine SL.an rfl rfl (E.fo ?_)
 refine W.cond_f rfl ?_
 refine W.rg (SL.mv rfl rfl (SL.mv rfl rfl ?_))
 refine SL.val (O.callp rfl rfl rfl (permitted_h (l := l) (by omega) (atm_ok n rs) (bar_rng hf)) (.cons (ArgOk.same rfl) (.cons (ArgOk.same rfl) .nil)) hcallOk49 rfl Taken.no) ?_
 refine SL.val (O.det (fun _ => G.R.not rfl) rfl Taken.no) ?_
 refine SL.an rfl rfl (E.fo ?_)
 first | refine W.cond_d rfl (fun hc1 => ?_) (fun hc1 => ?_) | refine W.cond_nd rfl (fun hc1 => ?_) (fun hc1 => ?_) | refine W.cond rfl (fun hc1 => ?_) (fun hc1 => ?_)
 ·skip
  refine W.rg ?_
  refine SL.val (O.build (res := [_, _, _]) (z := .agg #[.bool false, .int .i64 0, .int .i64 0]) (places := [(0, 1), (1, 1), (2, 1)]) rfl rfl Try.underlying55 (by kernel_rfl) (fun _ => by kernel_rfl) rfl rfl Taken.no) ?_
  refine SL.effS (O.st_ref (m := 3) rfl rfl rfl (js := [_, _, _]) rfl rfl (by kernel_rfl) (by simp) (Nat.le_of_ble_eq_true rfl) rfl (is' := [_, _, _]) rfl Taken.no) (S' := (102, _) :: _) rfl ?_
  refine SL.an rfl rfl (SL.an rfl rfl (E.fo (W.ret ?_)))
  refine E.inr ?_
  refine E.thr ?_
  refine E.fin (rs := [_, _, _]) (rn []) (.inl rfl) rfl (.cons (ResOne.cellN (m := 3) (PtI.ref rfl rfl) (js := [_, _, _]) rfl (Nat.le_of_ble_eq_true rfl) Try.underlying55 rfl (by kernel_rfl)) (.cons (ResOne.tmp rfl) (.cons (ResOne.tmp rfl) .nil))) ?_ ?_ rfl (fixL_spec rfl)
  ·skip
   have hnp : ¬ permS n ps rs l := fun q => by have q2 := (permIS hf).2 q; simp_all
   rw [(nx_no hnp).1, (nx_no hnp).2]; rfl
  · exact SubS.nil
 ·skip
  have hpm : permI n (mF (lF ps) rs) (barL rs) (namedL n (partsL (mu rs) (List.range n))) l := by first | assumption | simp_all
  have hps := (permIS hf).1 hpm
  obtain ⟨m, rfl⟩ := cast_of fun i hi => (hps.1.2 i hi).1
  obtain ⟨hQ, hpr⟩ := permS_cast.1 hps
  rw [eI_eN]
  have hml := hQ.1
  have hal := atm_ok n rs
  have hna := next_all hf hQ hpr
  refine W.skip (E.inn (E.to (W.rg (SL.mv rfl rfl (SL.mv rfl rfl ?_)))))
  refine SL.memS (O.call (rn []) [] rfl rfl rfl (next_h (m := m) (by omega) (w_b hf) (atm_ok n rs) (bar_rng hf) hml) (.cons (ArgOk.same rfl) (.cons (ArgOk.same rfl) .nil)) SubS.nil rfl rfl rfl rfl rfl (.inl rfl) hcallOk40 (r' := .tup [.agg [.u _, .u _, .u _], .u _, .u _]) rfl rfl Taken.no) rfl rfl (S' := _) rfl ?_
  refine SL.mv rfl rfl ?_
  refine SL.val (O.extract rfl rfl rfl Taken.no) ?_
  refine SL.val (O.extract rfl rfl rfl Taken.no) ?_
  refine SL.val (O.extract rfl rfl rfl Taken.no) ?_
  refine SL.memS (O.alloc (z := .agg #[.bool false, .int .i64 0, .int .i64 0]) (is := [.u (.sc (.bool false)), .u (.sc (.int .i64 0)), .u (.sc (.int .i64 0))]) 103 (by kernel_rfl) rfl rfl rfl Taken.no) rfl rfl (S' := (103, _) :: _) rfl ?_
  refine SL.effS (O.st_ref (m := 3) rfl rfl rfl (js := [_, _, _]) rfl rfl (by kernel_rfl) (by simp) (Nat.le_of_ble_eq_true rfl) rfl (is' := [_, _, _]) rfl Taken.no) (S' := (103, _) :: _) rfl ?_
  refine SL.an rfl rfl (SL.an rfl rfl (E.fo ?_))
  refine W.pick (K:=[(4,_),(5,_),(6,_),(9,_),(10,_)]) (Z:=[(101,_),(102,_),(103,_)]) ⟨rfl,rfl,rfl,rfl,rfl,trivial⟩ ⟨rfl,rfl,rfl,trivial⟩ ?_
  refine W.rg ?_
  refine SL.val (O.ldN (m := 3) (PtI.ref rfl rfl) (js := [_, _, _]) rfl (Nat.le_of_ble_eq_true rfl) Try.underlying55 rfl (by kernel_rfl) rfl Taken.no) ?_
  refine SL.mv rfl rfl ?_
  refine SL.effS (O.st_ref (m := 3) rfl rfl rfl (js := [_, _, _]) rfl rfl (by kernel_rfl) (by simp) (Nat.le_of_ble_eq_true rfl) rfl (is' := [_, _, _]) rfl Taken.no) (S' := (102, _) :: _) rfl ?_
  refine SL.an rfl rfl (SL.an rfl rfl (E.fo (W.ret ?_)))
  refine E.fin (rs := [_, _, _]) (rn []) (.inl rfl) rfl (.cons (ResOne.cellN (m := 3) (PtI.ref rfl rfl) (js := [_, _, _]) rfl (Nat.le_of_ble_eq_true rfl) Try.underlying55 rfl (by kernel_rfl)) (.cons (ResOne.tmp rfl) (.cons (ResOne.tmp rfl) .nil))) ?_ ?_ rfl (fixL_spec rfl)
  ·skip
   first | (rw [(nx_yes hps).1, (nx_yes hps).2, hna]; rfl) | rfl
  · exact SubS.nil

set_option maxRecDepth 8000 in
/-- bookplate/cluster.Next. -/
theorem nextC_bad {N : Int} {ps : List Pr} {rs : List Ru} {l : List Int} (hok : ¬ (Prob.mk N ps rs).ok) :
    Con Try.prog 28 [vA [uI N, .sl 3 (ps.map ePr), .sl 3 (rs.map eRu)], vL 1 (l.map eI)] [] (.tup [.agg [vB false, vI 0, vI 0], vI 0, vI (Prob.mk N ps rs).err]) [] := by
 have he : (Prob.mk N ps rs).err ≠ 0 := fun q => hok (Prob.err_iff.1 q)
 refine Con.enterL (n := 37) Try.func28 rfl rfl rfl (fun τ w ok vs hin => ?_)
 have hl0_1 := hin.lenA (i := 0) (j := 1) rfl rfl
 try rw [List.length_map] at hl0_1
 have hl0_2 := hin.lenA (i := 0) (j := 2) rfl rfl
 try rw [List.length_map] at hl0_2
 have hl1 := hin.len (i := 1) rfl
 try rw [List.length_map] at hl1
 clear hin
 refine W.rg ?_
 refine SL.memS (O.box (is := [_, _, _]) 101 rfl rfl (by simp) rfl rfl Taken.no) rfl rfl (S' := (101, _) :: _) rfl ?_
 refine SL.memS (O.alloc (z := .agg #[.bool false, .int .i64 0, .int .i64 0]) (is := [.u (.sc (.bool false)), .u (.sc (.int .i64 0)), .u (.sc (.int .i64 0))]) 102 (by kernel_rfl) rfl rfl rfl Taken.no) rfl rfl (S' := (102, _) :: _) rfl ?_
 refine SL.an rfl rfl (SL.an rfl rfl (E.fo (W.rg ?_)))
 refine SL.val (O.ldN (m := 3) (PtI.ref rfl rfl) (js := [_, _, _]) rfl (Nat.le_of_ble_eq_true rfl) Try.underlying32 rfl (by kernel_rfl) rfl Taken.no) ?_
 refine SL.memS (O.call (rn []) [] rfl rfl rfl (check_bad hok) (.cons (ArgOk.aggU (.cons (ArgOk.same rfl) (.cons (ArgOk.same rfl) (.cons (ArgOk.same rfl) .nil)))) .nil) SubS.nil rfl rfl rfl rfl rfl (.inl rfl) hcallOk38 (r' := .tup [.u _, .u _]) rfl rfl Taken.no) rfl rfl (S' := _) rfl ?_
 refine SL.mv rfl rfl ?_
 refine SL.val (O.extract rfl rfl rfl Taken.no) ?_
 refine SL.val (O.extract rfl rfl rfl Taken.no) ?_
 refine SL.an rfl rfl (SL.an rfl rfl (E.fo (W.seq (W.block (W.rg (SL.mv rfl rfl ?_))))))
 refine SL.val (O.det (fun _ => G.R.mv (G.R.neq rfl rfl) (congrArg Value.bool (decide_eq_true (by exact he)))) rfl Taken.no) ?_
 refine SL.an rfl rfl (E.fo ?_)
 refine W.cond_t rfl ?_
 refine W.rg ?_
 refine SL.val (O.build (res := [_, _, _]) (z := .agg #[.bool false, .int .i64 0, .int .i64 0]) (places := [(0, 1), (1, 1), (2, 1)]) rfl rfl Try.underlying55 (by kernel_rfl) (fun _ => by kernel_rfl) rfl rfl Taken.no) ?_
 refine SL.mv rfl rfl ?_
 refine SL.effS (O.st_ref (m := 3) rfl rfl rfl (js := [_, _, _]) rfl rfl (by kernel_rfl) (by simp) (Nat.le_of_ble_eq_true rfl) rfl (is' := [_, _, _]) rfl Taken.no) (S' := (102, _) :: _) rfl ?_
 refine SL.an rfl rfl (SL.an rfl rfl (E.fo (W.ret ?_)))
 refine E.inr ?_
 refine E.thr ?_
 refine E.fin (rs := [_, _, _]) (rn []) (.inl rfl) rfl (.cons (ResOne.cellN (m := 3) (PtI.ref rfl rfl) (js := [_, _, _]) rfl (Nat.le_of_ble_eq_true rfl) Try.underlying55 rfl (by kernel_rfl)) (.cons (ResOne.tmp rfl) (.cons (ResOne.tmp rfl) .nil))) ?_ ?_ rfl (fixL_spec rfl)
 ·skip
  rfl
 · exact SubS.nil

set_option maxRecDepth 8000 in
/-- bookplate/cluster.Solve. -/
theorem solveC_ok {n : Nat} {ps : List Pr} {rs : List Ru} (hok : (Prob.mk (n : Int) ps rs).ok) :
    Con Try.prog 15 [vA [uI (n : Int), .sl 3 (ps.map ePr), .sl 3 (rs.map eRu)]] [] (.tup [vL 1 ((solveR n ps rs).map eN), vI 0]) [] := by
 have hf := hok.1
 have hn2 : (n : Int) ≤ 200 := hf.2.1
 refine Con.enterL (n := 34) Try.func15 rfl rfl rfl (fun τ w ok vs hin => ?_)
 have hl0_1 := hin.lenA (i := 0) (j := 1) rfl rfl
 try rw [List.length_map] at hl0_1
 have hl0_2 := hin.lenA (i := 0) (j := 2) rfl rfl
 try rw [List.length_map] at hl0_2
 clear hin
 refine W.rg ?_
 refine SL.memS (O.box (is := [_, _, _]) 101 rfl rfl (by simp) rfl rfl Taken.no) rfl rfl (S' := (101, _) :: _) rfl ?_
 refine SL.an rfl rfl (SL.an rfl rfl (E.fo (W.rg ?_)))
 refine SL.val (O.ldN (m := 3) (PtI.ref rfl rfl) (js := [_, _, _]) rfl (Nat.le_of_ble_eq_true rfl) Try.underlying32 rfl (by kernel_rfl) rfl Taken.no) ?_
 refine SL.memS (O.call (rn []) [] rfl rfl rfl (check_ok hok) (.cons (ArgOk.aggU (.cons (ArgOk.same rfl) (.cons (ArgOk.same rfl) (.cons (ArgOk.same rfl) .nil)))) .nil) SubS.nil rfl rfl rfl rfl rfl (.inl rfl) hcallOk38 (r' := .tup [.u _, .u _]) rfl rfl Taken.no) rfl rfl (S' := _) rfl ?_
 refine SL.mv rfl rfl ?_
 refine SL.val (O.extract rfl rfl rfl Taken.no) ?_
 refine SL.val (O.extract rfl rfl rfl Taken.no) ?_
 refine SL.an rfl rfl (SL.an rfl rfl (E.fo (W.seq (W.rg (SL.mv rfl rfl ?_)))))
 refine SL.val (O.det (fun _ => G.R.mv (G.R.neq rfl rfl) (congrArg Value.bool (decide_eq_false (by decide)))) rfl Taken.no) ?_
 refine E.fo ?_
 refine W.cond_f rfl ?_
 refine W.skip (E.to (W.rg (SL.mv rfl rfl ?_)))
 refine SL.val (O.nilCheck rfl rfl rfl Taken.no) ?_
 refine SL.val (O.fld_fz rfl Try.underlying78 rfl (m := 0) (by kernel_rfl) rfl rfl Taken.no) ?_
 refine SL.val (O.ld1 (PtI.ofU (PtU.fz rfl)) rfl Try.underlying39 rfl rfl Taken.no) ?_
 refine SL.val (O.callp rfl rfl rfl (Con.fz (clone_h (rows := (namedL n (partsL (mu rs) (List.range n))).map eN) (by rw [List.length_map, (atm_ok n rs).1]; omega)) rfl rfl) (.cons (ArgOk.same rfl) .nil) hcallOk39 rfl Taken.no) ?_
 refine SL.an rfl rfl (E.fo (W.block ?_))
 refine W.loopx1 (fun (m : List Nat) => [(6, vL 1 (m.map eN))]) (fun (m : List Nat) => []) (fun (m : List Nat) => isP n m ∧ permR n ps rs m ∧ solveN n ps rs (muS ps m + 1) m = solveR n ps rs) (fun (m : List Nat) => muS ps m) (atomsL n rs) (rn []) (.cons (t := 4) rfl .nil) (.cons (t := 101) rfl .nil) rfl ?_ ?_ rfl rfl ?_ ?_
 · exact (SubF.val rfl (by exact iv_sl (by rw [atoms_eq hf])) SubF.nil)
 · exact SubS.nil
 ·skip
  exact ⟨(atoms_perm hok).1, (atoms_perm hok).2, rfl⟩
 intro m hinv
 obtain ⟨hQ, hpr, hsv⟩ := hinv
 have hml := hQ.1
 have hna := next_all hf hQ hpr
 have hne := out_eq hf hQ hpr
 refine W.block (W.rg (SL.mv rfl rfl (SL.mv rfl rfl ?_)))
 refine SL.memS (O.call (rn []) [] rfl rfl rfl (next_h (m := m) (by omega) (w_b hf) (atm_ok n rs) (bar_rng hf) hml) (.cons (ArgOk.same rfl) (.cons (ArgOk.same rfl) .nil)) SubS.nil rfl rfl rfl rfl rfl (.inl rfl) hcallOk40 (r' := .tup [.agg [.u _, .u _, .u _], .u _, .u _]) rfl rfl Taken.no) rfl rfl (S' := _) rfl ?_
 refine SL.mv rfl rfl ?_
 refine SL.val (O.extract rfl rfl rfl Taken.no) ?_
 refine SL.val (O.extract rfl rfl rfl Taken.no) ?_
 refine SL.val (O.extract rfl rfl rfl Taken.no) ?_
 refine SL.memS (O.alloc (z := .agg #[.bool false, .int .i64 0, .int .i64 0]) (is := [.u (.sc (.bool false)), .u (.sc (.int .i64 0)), .u (.sc (.int .i64 0))]) 102 (by kernel_rfl) rfl rfl rfl Taken.no) rfl rfl (S' := (102, _) :: _) rfl ?_
 refine SL.effS (O.st_ref (m := 3) rfl rfl rfl (js := [_, _, _]) rfl rfl (by kernel_rfl) (by simp) (Nat.le_of_ble_eq_true rfl) rfl (is' := [_, _, _]) rfl Taken.no) (S' := (102, _) :: _) rfl ?_
 refine SL.an rfl rfl (SL.an rfl rfl (E.fo (W.seq (W.rg (SL.mv rfl rfl ?_)))))
 refine SL.val (O.det (fun _ => G.R.eql rfl rfl) rfl Taken.no) ?_
 refine E.fo ?_
 first | refine W.cond_d rfl (fun hc1 => ?_) (fun hc1 => ?_) | refine W.cond_nd rfl (fun hc1 => ?_) (fun hc1 => ?_) | refine W.cond rfl (fun hc1 => ?_) (fun hc1 => ?_)
 ·skip
  refine W.rg (SL.mv rfl rfl (SL.an rfl rfl (SL.an rfl rfl (E.fo (W.ret (E.thr ?_))))))
  refine E.inr ?_
  refine E.thr ?_
  refine E.inr ?_
  refine E.fin (rs := [_, _]) (rn []) (.inl rfl) rfl (.cons (ResOne.tmp rfl) (.cons (ResOne.tmp rfl) .nil)) ?_ ?_ rfl (fixL_spec rfl)
  ·skip
   have hz : (nextR n ps rs m).2 = 0 := by rw [← hna]; assumption
   rw [← hsv, solve_end hz]; rfl
  · exact SubS.nil
 ·skip
  have hnz : ¬ (nextR n ps rs m).2 = 0 := by rw [← hna]; assumption
  refine W.skip (E.to (W.region (SL.mv rfl rfl (SL.an rfl rfl (SL.nil (E.inn ?_))))))
  refine E.again ((outR n ps rs m)) (rn []) ?_ ?_ rfl (fixL_spec rfl) ?_ ?_
  · exact (SubF.val rfl (by (try dsimp only); exact iv_sl (by rw [hna, hne, eI_eN])) (SubF.cons rfl SubF.nil))
  · exact (SubS.cons rfl SubS.nil)
  ·try dsimp only
   have hns := next_step hf hQ hpr hnz
   have hor : outR n ps rs m = resR n ps rs m (nextR n ps rs m).1 := if_neg hnz
   exact ⟨by rw [hor]; exact hns.1, by rw [hor]; exact hns.2.1, by rw [hor, solve_step hf hQ hpr hnz]; exact hsv⟩
  · (try dsimp only); (have hns := next_step hf hQ hpr hnz; have hor : outR n ps rs m = resR n ps rs m (nextR n ps rs m).1 := if_neg hnz; rw [hor]; exact hns.2.2.2)


end Go.Proofs.Ytppamigboeaefaa
end
section
namespace Go.D33
open Go Go.RowKit Go.H
/-! ### Problems of some units -/
def atF (us : List Int) (x : Int) : Int := idxF (fun y => decide (y = x)) us
def pl (us : List Int) : Nat → List (Int × Int)
  | 0 => []
  | k + 1 => mset (pl us k) us[k]! k
def ascU (us : List Int) : Prop := ∀ i, i < us.length → 0 < i → us[i - 1]! < us[i]!
instance (us : List Int) : Decidable (ascU us) := by unfold ascU; infer_instance
def rngU (N : Int) (us : List Int) : Prop := ∀ i, i < us.length → 0 ≤ us[i]! ∧ us[i]! < N
instance (N : Int) (us : List Int) : Decidable (rngU N us) := by unfold rngU; infer_instance
def okU (N : Int) (us : List Int) : Prop := ascU us ∧ rngU N us
instance (N : Int) (us : List Int) : Decidable (okU N us) := by unfold okU; infer_instance
def subE (N : Int) (us : List Int) : Int := if ¬ ascU us then 19 else if ¬ rngU N us then 2 else 0
def subPr (us : List Int) (x : Pr) : Option Pr := if 0 ≤ atF us x.a ∧ 0 ≤ atF us x.b then some ⟨atF us x.a, atF us x.b, x.w⟩ else none
def subRu (us : List Int) (x : Ru) : Option Ru := if 0 ≤ atF us x.a ∧ 0 ≤ atF us x.b then some ⟨x.k, atF us x.a, atF us x.b⟩ else none
def subP (us : List Int) (ps : List Pr) : List Pr := ps.filterMap (subPr us)
def subR (us : List Int) (rs : List Ru) : List Ru := rs.filterMap (subRu us)
theorem asc_ltU {us : List Int} (h : ascU us) : ∀ {i j : Nat}, i < j → j < us.length → us[i]! < us[j]! := by
  intro i j hij hj
  induction j with
  | zero => omega
  | succ j ih =>
    have h1 := h (j + 1) hj (by omega)
    rw [Nat.add_sub_cancel] at h1
    rcases Nat.lt_succ_iff_lt_or_eq.1 hij with q | q
    · have := ih q (by omega); omega
    · rw [q]; exact h1
def sbN (N : Int) (us : List Int) : Int := if okU N us then us.length else 0
def sbP (N : Int) (us : List Int) (ps : List Pr) : List Pr := if okU N us then subP us ps else []
def sbR (N : Int) (us : List Int) (rs : List Ru) : List Ru := if okU N us then subR us rs else []
/-! ### Names of labels -/
def nmK (l : List Nat) (i j : Nat) : Nat := if (List.range i).any (fun k => decide (j ≤ k ∧ l[k]! = l[i]!)) = true then l.idxOf l[i]! else i
theorem nmK_i (l : List Nat) (i : Nat) : nmK l i i = i := by
  rw [nmK, if_neg]
  rw [Bool.not_eq_true, List.any_eq_false]
  intro k hk e
  have := List.mem_range.1 hk
  have := (of_decide_eq_true e).1
  omega
theorem nmK_y {l : List Nat} {i j : Nat} (h : j < i) (e : l[j]! = l[i]!) : nmK l i j = l.idxOf l[i]! := if_pos (List.any_eq_true.2 ⟨j, List.mem_range.2 h, decide_eq_true ⟨Nat.le_refl _, e⟩⟩)
theorem nmK_n {l : List Nat} {i j : Nat} (e : ¬ l[j]! = l[i]!) : nmK l i j = nmK l i (j + 1) := by
  unfold nmK
  have : (List.range i).any (fun k => decide (j ≤ k ∧ l[k]! = l[i]!)) = (List.range i).any (fun k => decide (j + 1 ≤ k ∧ l[k]! = l[i]!)) := by
    congr 1
    funext k
    exact dec_iff ⟨fun q => ⟨by have h1 := q.1; have h2 : k ≠ j := fun z => e (z ▸ q.2); omega, q.2⟩, fun q => ⟨by omega, q.2⟩⟩
  rw [this]
theorem idx_min {l : List Nat} {i : Nat} (h : i < l.length) : l.idxOf l[i]! ≤ i ∧ l[l.idxOf l[i]!]! = l[i]! := by
  have hlt : l.idxOf l[i]! < l.length := List.idxOf_lt_length_of_mem (mem_at h)
  refine ⟨?_, by rw [getElem!_pos l _ hlt, List.getElem_idxOf hlt]⟩
  rcases Nat.lt_or_ge i (l.idxOf l[i]!) with q | q
  · have := List.not_of_lt_findIdx (p := fun x => x == l[i]!) (xs := l) (i := i) q
    have e : (l[i] == l[i]!) = true := by rw [getElem!_pos l i h]; exact beq_self_eq_true _
    have t2 : (l[i] == l[i]!) = false := this
    rw [e] at t2; cases t2
  · exact q
theorem nmK_0 {l : List Nat} {i : Nat} (h : i < l.length) : nmK l i 0 = l.idxOf l[i]! := by
  obtain ⟨h1, h2⟩ := idx_min h
  unfold nmK
  split
  · rfl
  · rename_i q
    rw [Bool.not_eq_true, List.any_eq_false] at q
    rcases Nat.lt_or_ge (l.idxOf l[i]!) i with z | z
    · exact absurd (decide_eq_true ⟨Nat.zero_le _, h2⟩) (q _ (List.mem_range.2 z))
    · omega
theorem nmL_get {l : List Nat} {i : Nat} (h : i < l.length) : (nmL l)[i]! = l.idxOf l[i]! := by rw [nmL, get_map (by rw [List.length_range]; exact h), range_get h]
theorem nmL_len (l : List Nat) : (nmL l).length = l.length := by rw [nmL, List.length_map, List.length_range]
def nmX (l : List Nat) (i : Nat) : List Nat := (nmL l).take i ++ List.replicate (l.length - i) 0
theorem nmX_len {l : List Nat} {i : Nat} (h : i ≤ l.length) : (nmX l i).length = l.length := by
  rw [nmX, List.length_append, List.length_take, List.length_replicate, nmL_len]; omega
theorem nmX_s {l : List Nat} {i : Nat} (h : i < l.length) : nmX l (i + 1) = (nmX l i).set i (l.idxOf l[i]!) := by
  have hl : ((nmL l).take i).length = i := by rw [List.length_take, nmL_len]; omega
  unfold nmX
  rw [snocP (by rw [nmL_len]; exact h), nmL_get h, List.set_append_right _ _ (by omega), hl, Nat.sub_self, show l.length - i = (l.length - (i + 1)) + 1 by omega, List.replicate_succ, List.set_cons_zero]
  simp
theorem nmX_get {l : List Nat} {i k c : Nat} (h : k < i) (hi : i ≤ l.length) : ((nmX l i).set i c)[k]! = (nmL l)[k]! := by
  rw [set_get (by rw [nmX_len hi]; omega), if_neg (by omega)]
  unfold nmX
  rw [getElem!_pos _ _ (by rw [List.length_append, List.length_take, List.length_replicate, nmL_len]; omega), List.getElem_append_left (by rw [List.length_take, nmL_len]; omega), List.getElem_take, getElem!_pos _ _ (by rw [nmL_len]; omega)]
/-! ### Labels behind a move, place by place -/
def mvK (n k : Nat) (atm m : List Nat) (s : Stp) : List Nat := (List.range n).map fun i => if i < k ∧ atm[i]! = s.f.toNat then (if s.t < 0 then n else s.t.toNat) else m[i]!
theorem mvK_len {n k : Nat} {atm m : List Nat} {s : Stp} : (mvK n k atm m s).length = n := by rw [mvK, List.length_map, List.length_range]
theorem mvK_0 {n : Nat} {atm m : List Nat} {s : Stp} (hm : m.length = n) : mvK n 0 atm m s = m := by
  apply ext_g (by rw [mvK_len, hm])
  intro i hi
  rw [mvK_len] at hi
  rw [mvK, get_map (by rw [List.length_range]; exact hi), range_get hi, if_neg (fun q => by omega)]
theorem mvK_n {n : Nat} {atm m : List Nat} {s : Stp} : mvK n n atm m s = mvL n atm m s := by
  unfold mvK mvL
  apply List.map_congr_left
  intro i hi
  have := List.mem_range.1 hi
  by_cases e : atm[i]! = s.f.toNat
  · rw [if_pos ⟨this, e⟩, if_pos e]
  · rw [if_neg (fun q => e q.2), if_neg e]
theorem mvK_get {n k i : Nat} {atm m : List Nat} {s : Stp} (hi : i < n) : (mvK n k atm m s)[i]! = if i < k ∧ atm[i]! = s.f.toNat then (if s.t < 0 then n else s.t.toNat) else m[i]! := by
  rw [mvK, get_map (by rw [List.length_range]; exact hi), range_get hi]
theorem mvK_y {n k : Nat} {atm m : List Nat} {s : Stp} (_ : k < n) (e : atm[k]! = s.f.toNat) : mvK n (k + 1) atm m s = (mvK n k atm m s).set k (if s.t < 0 then n else s.t.toNat) := by
  apply ext_g (by rw [List.length_set, mvK_len, mvK_len])
  intro i hi
  rw [mvK_len] at hi
  rw [set_get (by rw [mvK_len]; exact hi), mvK_get hi, mvK_get hi]
  by_cases q : k = i
  · subst q
    rw [if_pos ⟨by omega, e⟩, if_pos rfl]
  · rw [if_neg q]
    by_cases z : i < k ∧ atm[i]! = s.f.toNat
    · rw [if_pos z, if_pos ⟨by omega, z.2⟩]
    · rw [if_neg z, if_neg (fun w => z ⟨by omega, w.2⟩)]
theorem mvK_no {n k : Nat} {atm m : List Nat} {s : Stp} (_ : k < n) (e : ¬ atm[k]! = s.f.toNat) : mvK n (k + 1) atm m s = mvK n k atm m s := by
  unfold mvK
  apply List.map_congr_left
  intro i hi
  by_cases z : i < k ∧ atm[i]! = s.f.toNat
  · rw [if_pos z, if_pos ⟨by omega, z.2⟩]
  · rw [if_neg z, if_neg (fun w => z ⟨by have h1 := w.1; have h2 : i ≠ k := fun q => e (q ▸ w.2); omega, w.2⟩)]
theorem oth_s (k : Nat) (atm m : List Nat) (f : Nat) : othR (k + 1) atm m f = (othR k atm m f || decide (m[k]! = m[f]! ∧ ¬ atm[k]! = f)) := by
  rw [othR, List.range_succ, List.any_append]; simp [othR]
def apRL (n : Nat) (ps : List Pr) (rs : List Ru) (m : List Nat) (s : Stp) : List Nat := if posR n (barL rs) (atomsL n rs) m s then resR n ps rs m s else []
def apRV (n : Nat) (ps : List Pr) (rs : List Ru) (m : List Nat) (s : Stp) : Int := if posR n (barL rs) (atomsL n rs) m s then gnR n ps rs m s else 0
theorem apR_y {n : Nat} {ps : List Pr} {rs : List Ru} {m : List Nat} {s : Stp} (h : posR n (barL rs) (atomsL n rs) m s) : apRL n ps rs m s = resR n ps rs m s ∧ apRV n ps rs m s = gnR n ps rs m s := ⟨if_pos h, if_pos h⟩
theorem apR_n {n : Nat} {ps : List Pr} {rs : List Ru} {m : List Nat} {s : Stp} (h : ¬ posR n (barL rs) (atomsL n rs) m s) : apRL n ps rs m s = [] ∧ apRV n ps rs m s = 0 := ⟨if_neg h, if_neg h⟩
theorem preR_iff {n : Nat} {atm m : List Nat} {u : Bool} {f t : Int} : preR n atm m ⟨u, f, t⟩ ↔ (0 ≤ f ∧ f < (n : Int) ∧ t < (n : Int) ∧ -1 ≤ t ∧ (t < 0 → u = false)) ∧ (0 ≤ t → m[t.toNat]! = t.toNat) ∧
  (u = true → m[f.toNat]! = f.toNat ∧ f < t) ∧ (u = false → atm[f.toNat]! = f.toNat ∧ (0 ≤ t → m[f.toNat]! ≠ t.toNat) ∧ (t < 0 → othR n atm m f.toNat = true)) := Iff.rfl
theorem labL_len {n : Nat} {atm m : List Nat} {s : Stp} (hm : m.length = n) : (labL n atm m s).length = n := by
  unfold labL
  split
  · rw [join_len, hm]
  · rw [nmL_len, mvL, List.length_map, List.length_range]
end Go.D33
end
section
namespace Go.Proofs.Ytppamigboeaefaa
open Go Go.RowKit Go.H Go.D33





end Go.Proofs.Ytppamigboeaefaa
end
section
namespace Go.Proofs.Ytppamigboeaefaa
open Go Go.RowKit Go.H Go.D33

theorem hcallOk65 : G.callOk Try.prog 65 = true := by kernel_rfl


set_option maxRecDepth 8000 in
/-- bookplate/bookplateref33.named. -/
theorem refnamed_h {l : List Nat} (hl : l.length ≤ 1000) :
    Con Try.prog 65 [vL 1 (l.map eN)] [] (.own 0) [(0, .data 3 1 ((nmL l).map eN))] := by
 obtain ⟨i3, hi3, hz3, hs3, hb3⟩ := hinf3
 refine Con.enterL (n := 42) Try.func65 rfl rfl rfl (fun τ w ok vs hin => ?_)
 have hl0 := hin.len (i := 0) rfl
 try rw [List.length_map] at hl0
 clear hin
 refine W.rg (SL.an rfl rfl (E.fo (W.rg (SL.mv rfl rfl ?_))))
 refine SL.val (O.lenE (SlOf.fz rfl (by decide)) (by first | exact List.length_map _ | rfl) Try.underlying39 rfl Taken.no) ?_
 refine SL.memS (O.make (m := l.length) (kk := 101) rfl rfl (by rfl) (by rfl) Try.underlying39 hi3 hz3 hs3 rfl rfl (by decide) rfl (by rw [hb3]; omega) (by omega) rfl Taken.no) rfl rfl (S' := (101, _) :: _) rfl ?_
 refine SL.an rfl rfl (E.fo (W.seq (W.rg (SL.an rfl rfl (E.fo (W.block ?_))))))
 refine W.loopx1 (fun (i : Nat) => [(4, vI (i : Int)), (3, .own 102)]) (fun (i : Nat) => [(102, .data 3 1 ((nmX l i).map eN))]) (fun (i : Nat) => i ≤ l.length) (fun (i : Nat) => l.length - i) (0) (rn [(102, 101)]) (.cons (t := 0) rfl (.cons (t := 2) rfl .nil)) .nil rfl ?_ ?_ rfl rfl ?_ ?_
 · exact (SubF.cons rfl (SubF.cons rfl SubF.nil))
 · exact (SubS.val rfl (by exact sb_data (by show _ = List.map eN (List.replicate l.length 0); rw [List.map_replicate]; rfl)) SubS.nil)
 ·skip
  omega
 intro i hinv
 have hi := hinv
 have hxl := nmX_len hi
 refine W.seq (W.rg (SL.mv rfl rfl (SL.mv rfl rfl ?_)))
 refine SL.val (O.lenE (SlOf.fz rfl (by decide)) (by first | exact List.length_map _ | rfl) Try.underlying39 rfl Taken.no) ?_
 refine SL.val (O.det (fun _ => G.R.lss rfl rfl) rfl Taken.no) ?_
 refine E.fo ?_
 first | refine W.cond_d rfl (fun hc1 => ?_) (fun hc1 => ?_) | refine W.cond_nd rfl (fun hc1 => ?_) (fun hc1 => ?_) | refine W.cond rfl (fun hc1 => ?_) (fun hc1 => ?_)
 ·skip
  refine W.skip (E.to (W.seq (W.block (W.rg (SL.mv rfl rfl (SL.mv rfl rfl (SL.mv rfl rfl ?_)))))))
  refine SL.val (O.idx_own (i := i) rfl rfl rfl (rfl) (by rw [List.length_map]; omega) Try.underlying39 hi3 hs3 rfl Taken.no) ?_
  refine SL.effS (O.st_els (m := 1) rfl rfl rfl (us := [_]) rfl rfl (by kernel_rfl) (by simp) (row_get (by omega)) (by exact Nat.le_of_ble_eq_true rfl) rfl rfl (rows' := ((nmX l i).set i i).map eN) (by exact set_map rfl) Taken.no) (S' := (102, _) :: _) rfl ?_
  refine E.fo (W.rg (SL.mv rfl rfl ?_))
  refine SL.val (O.det (fun _ => by first | exact G.R.sub64 rfl rfl (by omega) | exact G.R.sub rfl rfl) rfl Taken.no) ?_
  refine SL.an rfl rfl (E.fo (W.block ?_))
  refine W.loopx1 (fun (j : Nat) => [(5, vI ((j : Int) - 1)), (3, .own 103)]) (fun (j : Nat) => [(103, .data 3 1 (((nmX l i).set i (nmK l i j)).map eN))]) (fun (j : Nat) => j ≤ i) (fun (j : Nat) => j) (i) (rn [(103, 102)]) (.cons (t := 0) rfl (.cons (t := 2) rfl (.cons (t := 4) rfl .nil))) .nil rfl ?_ ?_ rfl rfl ?_ ?_
  · exact (SubF.cons rfl (SubF.cons rfl SubF.nil))
  · exact (SubS.val rfl (by exact sb_data (by rw [nmK_i])) SubS.nil)
  ·skip
   omega
  intro j hinv
  have hj := hinv
  have hxs : ((nmX l i).set i (nmK l i j)).length = l.length := by rw [List.length_set]; exact hxl
  refine W.seq (W.rg (SL.mv rfl rfl ?_))
  refine SL.val (O.det (fun _ => G.R.geq rfl rfl) rfl Taken.no) ?_
  refine E.fo ?_
  first | refine W.cond_d rfl (fun hc2 => ?_) (fun hc2 => ?_) | refine W.cond_nd rfl (fun hc2 => ?_) (fun hc2 => ?_) | refine W.cond rfl (fun hc2 => ?_) (fun hc2 => ?_)
  ·skip
   refine W.skip (E.to (W.seq (W.block (W.seq ?_))))
   refine W.draw [⟨[], [], [], []⟩, ⟨[], [], [], []⟩, ⟨[], [], [], []⟩, ⟨[], [], [], []⟩, ⟨[], [], [], []⟩, ⟨[], [], [], []⟩, ⟨[], [], [], []⟩, ⟨[], [], [], []⟩, ⟨[], [], [], []⟩] rfl (by kernel_rfl) (by kernel_rfl) rfl rfl ?_
   refine WH.mv rfl rfl rfl (WH.mv rfl rfl rfl ?_)
   refine WH.val (O.idx_fz (i := (j - 1)) rfl rfl (by omega) (row_get (by omega)) Try.underlying39 hi3 hs3 rfl Taken.no) rfl rfl ?_
   refine WH.val (O.ld1 (PtI.ofU (PtU.fz rfl)) rfl Try.underlying3 rfl rfl Taken.no) rfl rfl ?_
   refine WH.mv rfl rfl rfl (WH.mv rfl rfl rfl ?_)
   refine WH.val (O.idx_fz (i := i) rfl rfl (rfl) (row_get (by omega)) Try.underlying39 hi3 hs3 rfl Taken.no) rfl rfl ?_
   refine WH.val (O.ld1 (PtI.ofU (PtU.fz rfl)) rfl Try.underlying3 rfl rfl Taken.no) rfl rfl ?_
   refine WH.val (O.det (fun _ => G.R.eql rfl rfl) rfl Taken.no) rfl rfl ?_
   refine WH.nil (E.to ?_)
   first | refine W.cond_d rfl (fun hc3 => ?_) (fun hc3 => ?_) | refine W.cond_nd rfl (fun hc3 => ?_) (fun hc3 => ?_) | refine W.cond rfl (fun hc3 => ?_) (fun hc3 => ?_)
   ·skip
    have hE : l[j - 1]! = l[i]! := by omega
    refine W.region (SL.mv rfl rfl (SL.mv rfl rfl (SL.mv rfl rfl (SL.mv rfl rfl ?_))))
    refine SL.val (O.idx_own (i := (j - 1)) rfl rfl rfl (by omega) (by rw [List.length_map]; omega) Try.underlying39 hi3 hs3 rfl Taken.no) ?_
    refine SL.val (O.ld1 (PtI.ofU (PtU.el rfl rfl (row_get (by omega)))) rfl Try.underlying3 rfl rfl Taken.no) ?_
    refine SL.val (O.idx_own (i := i) rfl rfl rfl (rfl) (by rw [List.length_map]; omega) Try.underlying39 hi3 hs3 rfl Taken.no) ?_
    refine SL.effS (O.st_els (m := 1) rfl rfl rfl (us := [_]) rfl rfl (by kernel_rfl) (by simp) (row_get (by omega)) (by exact Nat.le_of_ble_eq_true rfl) rfl rfl (rows' := (((nmX l i).set i (nmK l i j)).set i (((nmX l i).set i (nmK l i j))[j - 1]!)).map eN) (by exact set_map rfl) Taken.no) (S' := (103, _) :: _) rfl ?_
    refine SL.nil (E.inn (E.to (W.region (SL.mv rfl rfl ?_))))
    refine SL.val (O.det (fun _ => by first | exact G.R.sub64 rfl rfl (by omega) | exact G.R.sub rfl rfl) rfl Taken.no) ?_
    refine SL.an rfl rfl (SL.nil ?_)
    refine E.again ((j - 1)) (rn []) ?_ ?_ rfl (fixL_spec rfl) ?_ ?_
    · exact (SubF.val rfl (by (try dsimp only); exact iv_int (by omega)) (SubF.cons rfl (SubF.cons rfl (SubF.cons rfl (SubF.cons rfl SubF.nil)))))
    · exact (SubS.val rfl (by (try dsimp only); first | exact sb_data (by rw [List.set_set, nmX_get (by omega) (by omega), nmL_get (by omega), hE, nmK_y (by omega) hE]) | exact sb_data (by rw [nmK_n hE, Nat.sub_add_cancel (by omega)])) SubS.nil)
    ·try dsimp only
     omega
    · (try dsimp only); omega
   ·skip
    have hE : ¬ l[j - 1]! = l[i]! := by omega
    refine W.skip (E.inn (E.to (W.region (SL.mv rfl rfl ?_))))
    refine SL.val (O.det (fun _ => by first | exact G.R.sub64 rfl rfl (by omega) | exact G.R.sub rfl rfl) rfl Taken.no) ?_
    refine SL.an rfl rfl (SL.nil ?_)
    refine E.again ((j - 1)) (rn []) ?_ ?_ rfl (fixL_spec rfl) ?_ ?_
    · exact (SubF.val rfl (by (try dsimp only); exact iv_int (by omega)) (SubF.cons rfl (SubF.cons rfl (SubF.cons rfl (SubF.cons rfl SubF.nil)))))
    · exact (SubS.val rfl (by (try dsimp only); first | exact sb_data (by rw [List.set_set, nmX_get (by omega) (by omega), nmL_get (by omega), hE, nmK_y (by omega) hE]) | exact sb_data (by rw [nmK_n hE, Nat.sub_add_cancel (by omega)])) SubS.nil)
    ·try dsimp only
     omega
    · (try dsimp only); omega
  ·skip
   refine W.exit (E.th (E.th (E.hit (E.inn (E.to (W.region (SL.mv rfl rfl ?_)))))))
   refine SL.val (O.det (fun _ => by first | exact G.R.add64 rfl rfl (by omega) | exact G.R.add rfl rfl) rfl Taken.no) ?_
   refine SL.an rfl rfl (SL.nil ?_)
   refine E.again ((i + 1)) (rn [(102, 103)]) ?_ ?_ rfl (fixL_spec rfl) ?_ ?_
   · exact (SubF.cons rfl (SubF.cons rfl (SubF.cons rfl (SubF.cons rfl SubF.nil))))
   · exact (SubS.val rfl (by (try dsimp only); exact sb_data (by rw [nmX_s (by omega), show j = 0 by omega, nmK_0 (by omega)])) SubS.nil)
   ·try dsimp only
    omega
   · (try dsimp only); omega
 ·skip
  refine W.exit (E.th (E.th (E.hit (E.to (W.rg (SL.mv rfl rfl (SL.an rfl rfl (E.fo (W.ret ?_)))))))))
  refine E.fin (rs := [_]) (rn [(0, 102)]) (.inl rfl) rfl (.cons (ResOne.tmp rfl) .nil) ?_ ?_ rfl (fixL_spec rfl)
  ·skip
   rfl
  · exact (SubS.val rfl (by exact sb_data (by rw [nmX, show i = l.length by omega, Nat.sub_self, ← nmL_len l, List.take_length]; simp)) SubS.nil)

theorem set2 {l : List Nat} {k n : Nat} {a : List UV} : ((l.map eN).set k a).set k [uI (n : Int)] = (l.set k n).map eN := by
  rw [List.set_set]
  exact (List.map_set (f := eN) (l := l) (i := k) (a := n)).symm

set_option maxRecDepth 8000 in
set_option maxHeartbeats 6400000 in
/-- bookplate/bookplateref33.apply. -/
theorem refapply_h {n : Nat} {ps : List Pr} {rs : List Ru} {m : List Nat} {u : Bool} {f t : Int} (hf : (Prob.mk (n : Int) ps rs).formed) (hml : m.length = n) (hpl : ps.length ≤ 1000000) :
    Con Try.prog 51 [vA [uI (n : Int), .sl 3 (ps.map ePr), .sl 3 (rs.map eRu)], vL 1 (m.map eN), vA [uB u, uI f, uI t]] [] (.tup [vL 1 ((apRL n ps rs m ⟨u, f, t⟩).map eN), vI (apRV n ps rs m ⟨u, f, t⟩), vB (decide (posR n (barL rs) (atomsL n rs) m ⟨u, f, t⟩))]) [] := by
 have hn2 : (n : Int) ≤ 200 := hf.2.1
 have hr4 : rs.length ≤ 400 := hf.2.2.1
 have hal : (atomsL n rs).length = n := by rw [atomsL, joins_len, List.length_range]
 obtain ⟨i3, hi3, hz3, hs3, hb3⟩ := hinf3
 refine Con.enterL (n := 179) Try.func51 rfl rfl rfl (fun τ w ok vs hin => ?_)
 have hl0_1 := hin.lenA (i := 0) (j := 1) rfl rfl
 try rw [List.length_map] at hl0_1
 have hl0_2 := hin.lenA (i := 0) (j := 2) rfl rfl
 try rw [List.length_map] at hl0_2
 have hl1 := hin.len (i := 1) rfl
 try rw [List.length_map] at hl1
 clear hin
 refine W.rg ?_
 refine SL.memS (O.box (is := [_, _, _]) 101 rfl rfl (by simp) rfl rfl Taken.no) rfl rfl (S' := (101, _) :: _) rfl ?_
 refine SL.memS (O.box (is := [_, _, _]) 102 rfl rfl (by simp) rfl rfl Taken.no) rfl rfl (S' := (102, _) :: _) rfl ?_
 refine SL.an rfl rfl (SL.an rfl rfl (SL.an rfl rfl (E.fo (W.seq (W.seq ?_)))))
 refine W.draw [⟨[], [], [], [102]⟩, ⟨[102], [], [], []⟩, ⟨[], [], [], []⟩, ⟨[], [], [], []⟩, ⟨[], [], [], [102]⟩, ⟨[102], [], [], []⟩, ⟨[], [], [], [101]⟩, ⟨[101], [], [], []⟩, ⟨[], [], [], []⟩, ⟨[], [], [], []⟩, ⟨[], [], [], []⟩, ⟨[], [], [], [102]⟩, ⟨[102], [], [], []⟩, ⟨[], [], [], []⟩, ⟨[], [], [], []⟩, ⟨[], [], [], []⟩, ⟨[], [], [], [102]⟩, ⟨[102], [], [], []⟩, ⟨[], [], [], [101]⟩, ⟨[101], [], [], []⟩, ⟨[], [], [], []⟩, ⟨[], [], [], []⟩, ⟨[], [], [], []⟩, ⟨[], [], [], [102]⟩, ⟨[102], [], [], []⟩, ⟨[], [], [], []⟩, ⟨[], [], [], []⟩, ⟨[], [], [], [102]⟩, ⟨[102], [], [], []⟩, ⟨[], [], [], []⟩, ⟨[], [], [], []⟩, ⟨[], [], [], []⟩, ⟨[], [], [], [102]⟩, ⟨[102], [], [], []⟩, ⟨[], [], [], []⟩, ⟨[], [], [], []⟩, ⟨[], [], [], []⟩, ⟨[], [], [], [102]⟩, ⟨[102], [], [], []⟩, ⟨[], [], [], []⟩, ⟨[], [], [], []⟩, ⟨[], [], [], [102]⟩, ⟨[102], [], [], []⟩, ⟨[], [], [], []⟩, ⟨[], [], [], []⟩, ⟨[], [], [], []⟩] rfl (by kernel_rfl) (by kernel_rfl) rfl rfl ?_
 refine WH.val (O.fld_ref (o' := 1) rfl Try.underlying57 rfl (m := 0) (by kernel_rfl) rfl rfl Taken.no) rfl rfl ?_
 refine WH.val (O.ld1 (PtI.ref rfl rfl) rfl Try.underlying3 rfl rfl Taken.no) rfl rfl ?_
 refine WH.val (O.det (fun _ => G.R.lss rfl rfl) rfl Taken.no) rfl rfl ?_
 refine WH.mv rfl rfl rfl ?_
 refine WH.case (j := 3) (g := 16) (want := false) rfl rfl (fun hg1 => ?_) (fun hg1 => ?_)
 ·skip
  first | have hg1p := G.gA3 hg1 | have hg1p := G.gA4 hg1 | have hg1p := hg1
  refine WH.val (O.fld_ref (o' := 1) rfl Try.underlying57 rfl (m := 0) (by kernel_rfl) rfl rfl (Taken.yes rfl rfl hg1)) rfl rfl ?_
  refine WH.val (O.ld1 (PtI.ref rfl rfl) rfl Try.underlying3 rfl rfl (Taken.yes rfl rfl hg1)) rfl rfl ?_
  refine WH.val (O.fld_ref (o' := 0) rfl Try.underlying25 rfl (m := 0) (by kernel_rfl) rfl rfl (Taken.yes rfl rfl hg1)) rfl rfl ?_
  refine WH.val (O.ld1 (PtI.ref rfl rfl) rfl Try.underlying3 rfl rfl (Taken.yes rfl rfl hg1)) rfl rfl ?_
  refine WH.val (O.det (fun _ => G.R.geq rfl rfl) rfl (Taken.yes rfl rfl hg1)) rfl rfl ?_
  refine WH.val (O.pick_f rfl hg1 rfl rfl Taken.no) rfl rfl ?_
  refine WH.mv rfl rfl rfl ?_
  refine WH.case (j := 10) (g := 23) (want := false) rfl rfl (fun hg2 => ?_) (fun hg2 => ?_)
  ·skip
   first | have hg2p := G.gA3 hg2 | have hg2p := G.gA4 hg2 | have hg2p := hg2
   refine WH.val (O.fld_ref (o' := 2) rfl Try.underlying57 rfl (m := 0) (by kernel_rfl) rfl rfl (Taken.yes rfl rfl hg2)) rfl rfl ?_
   refine WH.val (O.ld1 (PtI.ref rfl rfl) rfl Try.underlying3 rfl rfl (Taken.yes rfl rfl hg2)) rfl rfl ?_
   refine WH.val (O.det (fun _ => G.R.lss rfl rfl) rfl (Taken.yes rfl rfl hg2)) rfl rfl ?_
   refine WH.val (O.pick_f rfl hg2 rfl rfl Taken.no) rfl rfl ?_
   refine WH.mv rfl rfl rfl ?_
   refine WH.case (j := 15) (g := 28) (want := false) rfl rfl (fun hg3 => ?_) (fun hg3 => ?_)
   ·skip
    first | have hg3p := G.gA3 hg3 | have hg3p := G.gA4 hg3 | have hg3p := hg3
    refine WH.val (O.fld_ref (o' := 2) rfl Try.underlying57 rfl (m := 0) (by kernel_rfl) rfl rfl (Taken.yes rfl rfl hg3)) rfl rfl ?_
    refine WH.val (O.ld1 (PtI.ref rfl rfl) rfl Try.underlying3 rfl rfl (Taken.yes rfl rfl hg3)) rfl rfl ?_
    refine WH.val (O.fld_ref (o' := 0) rfl Try.underlying25 rfl (m := 0) (by kernel_rfl) rfl rfl (Taken.yes rfl rfl hg3)) rfl rfl ?_
    refine WH.val (O.ld1 (PtI.ref rfl rfl) rfl Try.underlying3 rfl rfl (Taken.yes rfl rfl hg3)) rfl rfl ?_
    refine WH.val (O.det (fun _ => G.R.geq rfl rfl) rfl (Taken.yes rfl rfl hg3)) rfl rfl ?_
    refine WH.val (O.pick_f rfl hg3 rfl rfl Taken.no) rfl rfl ?_
    refine WH.mv rfl rfl rfl ?_
    refine WH.case (j := 22) (g := 35) (want := false) rfl rfl (fun hg4 => ?_) (fun hg4 => ?_)
    ·skip
     first | have hg4p := G.gA3 hg4 | have hg4p := G.gA4 hg4 | have hg4p := hg4
     refine WH.val (O.fld_ref (o' := 2) rfl Try.underlying57 rfl (m := 0) (by kernel_rfl) rfl rfl (Taken.yes rfl rfl hg4)) rfl rfl ?_
     refine WH.val (O.ld1 (PtI.ref rfl rfl) rfl Try.underlying3 rfl rfl (Taken.yes rfl rfl hg4)) rfl rfl ?_
     refine WH.val (O.det (fun _ => G.R.eql rfl rfl) rfl (Taken.yes rfl rfl hg4)) rfl rfl ?_
     refine WH.val (O.move rfl rfl (Taken.yes rfl rfl hg4)) rfl rfl ?_
     refine WH.case (j := 26) (g := 39) (want := true) rfl rfl (fun hg5 => ?_) (fun hg5 => ?_)
     ·skip
      first | have hg5p := G.gA1 hg5 | have hg5p := G.gA2 hg5 | have hg5p := hg5
      refine WH.val (O.fld_ref (o' := 0) rfl Try.underlying57 rfl (m := 0) (by kernel_rfl) rfl rfl (Taken.yes rfl rfl hg5)) rfl rfl ?_
      refine WH.val (O.ld1 (PtI.ref rfl rfl) rfl Try.underlying4 rfl rfl (Taken.yes rfl rfl hg5)) rfl rfl ?_
      refine WH.val (O.pick_t rfl hg5 rfl rfl (Taken.yes rfl rfl hg4)) rfl rfl ?_
      refine WH.val (O.pick_f rfl hg4 rfl rfl Taken.no) rfl rfl ?_
      refine WH.mv rfl rfl rfl ?_
      refine WH.case (j := 31) (g := 44) (want := false) rfl rfl (fun hg6 => ?_) (fun hg6 => ?_)
      ·skip
       first | have hg6p := G.gA3 hg6 | have hg6p := G.gA4 hg6 | have hg6p := hg6
       refine WH.val (O.fld_ref (o' := 2) rfl Try.underlying57 rfl (m := 0) (by kernel_rfl) rfl rfl (Taken.yes rfl rfl hg6)) rfl rfl ?_
       refine WH.val (O.ld1 (PtI.ref rfl rfl) rfl Try.underlying3 rfl rfl (Taken.yes rfl rfl hg6)) rfl rfl ?_
       refine WH.val (O.det (fun _ => G.R.mv (G.R.geq rfl rfl) (congrArg Value.bool (decide_eq_false (by omega)))) rfl (Taken.yes rfl rfl hg6)) rfl rfl ?_
       refine WH.val (O.move rfl rfl (Taken.yes rfl rfl hg6)) rfl rfl ?_
       have hg7 : false ≠ true := by decide
       refine WH.sk rfl rfl rfl hg7 (WH.sk rfl rfl rfl hg7 (WH.sk rfl rfl rfl hg7 (WH.sk rfl rfl rfl hg7 (WH.sk rfl rfl rfl hg7 (WH.sk rfl rfl rfl hg7 (WH.sk rfl rfl rfl hg7 (WH.sk rfl rfl rfl hg7 ?_)))))))
       refine WH.val (O.pick_f rfl rfl rfl rfl (Taken.yes rfl rfl hg6)) rfl rfl ?_
       refine WH.val (O.pick_f rfl hg6 rfl rfl Taken.no) rfl rfl ?_
       refine WH.nil (E.to ?_)
       refine W.pick (K:=[(1,_),(3,_),(5,_),(6,_),(7,_),(8,_),(58,_)]) (Z:=[(101,_),(102,_)]) ⟨rfl,rfl,rfl,rfl,rfl,rfl,rfl,trivial⟩ ⟨rfl,rfl,trivial⟩ ?_
       refine W.cond_f rfl ?_
       refine W.skip (E.to (W.rg ?_))
       obtain rfl : t = -1 := by omega
       obtain rfl : u = false := by simp_all
       obtain ⟨f, rfl⟩ : ∃ k : Nat, f = (k : Int) := ⟨f.toNat, by omega⟩
       refine SL.val (O.ldN (m := 3) (PtI.ref rfl rfl) (js := [_, _, _]) rfl (Nat.le_of_ble_eq_true rfl) Try.underlying25 rfl (by kernel_rfl) rfl Taken.no) ?_
       obtain ⟨s, hs⟩ : ∃ s : Stp, s = ⟨false, (f : Int), -1⟩ := ⟨_, rfl⟩
       have hfe : s.f.toNat = f := by rw [hs]; rfl
       have hue : s.u = false := by rw [hs]
       have hte : (if s.t < 0 then n else s.t.toNat) = n := by rw [hs]; exact if_pos (by show (-1 : Int) < 0; decide)
       refine SL.memS (O.call (rn [(0, 103)]) [] rfl rfl rfl (refatoms_h hf) (.cons (ArgOk.aggU (.cons (ArgOk.same rfl) (.cons (ArgOk.same rfl) (.cons (ArgOk.same rfl) .nil)))) .nil) SubS.nil rfl rfl rfl rfl rfl (.inl rfl) hcallOk37 (r' := .own 103) rfl rfl Taken.no) rfl rfl (S' := (103, .data _ _ _) :: _) rfl ?_
       refine SL.an rfl rfl (E.fo (W.rg ?_))
       refine SL.memS (O.buildSlice 104 (rows := ([] : List Nat).map eN) rfl rfl Try.underlying39 hi3 hz3 hs3 (by decide) rfl (by decide) rfl rfl rfl Taken.no) rfl rfl (S' := (104, .data 3 1 (([] : List Nat).map eN)) :: _) rfl ?_
       refine SL.mv rfl rfl ?_
       refine SL.memS (O.app (k' := 105) rfl rfl (SlOf.fz rfl (by decide)) Try.underlying39 hi3 hz3 hs3 rfl rfl (by exact List.nil_append _) (by rw [hb3]; (simp only [List.length_map, List.length_nil]; omega)) (by (simp only [List.length_map, List.length_nil]; omega)) rfl Taken.no) rfl rfl (S' := (105, _) :: (104, .dead) :: _) rfl ?_
       refine SL.an rfl rfl (E.fo (W.seq (W.rg ?_)))
       refine SL.val (O.fld_ref (o' := 0) rfl Try.underlying57 rfl (m := 0) (by kernel_rfl) rfl rfl Taken.no) ?_
       refine SL.val (O.ld1 (PtI.ref rfl rfl) rfl Try.underlying4 rfl rfl Taken.no) ?_
       refine E.fo ?_
       refine W.cond_f rfl ?_
       refine W.rg (SL.an rfl rfl (E.fo (W.seq (W.rg (SL.an rfl rfl (E.fo (W.block ?_)))))))
       refine W.loopx1 (fun (k : Nat) => [(12, vI (k : Int)), (11, vB (othR k (atomsL n rs) m f)), (10, .own 106)]) (fun (k : Nat) => [(106, .data 3 1 ((mvK n k (atomsL n rs) m s).map eN))]) (fun (k : Nat) => k ≤ n) (fun (k : Nat) => n - k) (0) (rn [(106, 105)]) (.cons (t := 1) rfl (.cons (t := 3) rfl (.cons (t := 5) rfl (.cons (t := 6) rfl (.cons (t := 7) rfl (.cons (t := 8) rfl (.cons (t := 9) rfl .nil))))))) (.cons (t := 101) rfl (.cons (t := 102) rfl (.cons (t := 103) rfl .nil))) rfl ?_ ?_ rfl rfl ?_ ?_
       · exact (SubF.cons rfl (SubF.cons rfl (SubF.cons rfl SubF.nil)))
       · exact (SubS.val rfl (by exact sb_data (by rw [mvK_0 hml])) SubS.nil)
       ·skip
        omega
       intro k hinv
       have hk := hinv
       have hmkl : (mvK n k (atomsL n rs) m s).length = n := mvK_len
       refine W.seq (W.rg (SL.mv rfl rfl ?_))
       refine SL.val (O.fld_ref (o' := 0) rfl Try.underlying25 rfl (m := 0) (by kernel_rfl) rfl rfl Taken.no) ?_
       refine SL.val (O.ld1 (PtI.ref rfl rfl) rfl Try.underlying3 rfl rfl Taken.no) ?_
       refine SL.val (O.det (fun _ => G.R.lss rfl rfl) rfl Taken.no) ?_
       refine E.fo ?_
       first | refine W.cond_d rfl (fun hc8 => ?_) (fun hc8 => ?_) | refine W.cond_nd rfl (fun hc8 => ?_) (fun hc8 => ?_) | refine W.cond rfl (fun hc8 => ?_) (fun hc8 => ?_)
       ·skip
        refine W.skip (E.to (W.seq (W.block (W.seq ?_))))
        refine W.draw [⟨[], [], [], []⟩, ⟨[], [], [], []⟩, ⟨[], [], [], []⟩, ⟨[], [], [], []⟩, ⟨[], [], [], []⟩, ⟨[], [], [], []⟩, ⟨[], [], [], []⟩, ⟨[], [], [], [102]⟩, ⟨[102], [], [], []⟩, ⟨[], [], [], []⟩, ⟨[], [], [], []⟩, ⟨[], [], [], []⟩, ⟨[], [], [], []⟩, ⟨[], [], [], [103]⟩, ⟨[], [], [], []⟩, ⟨[103], [], [], []⟩, ⟨[103], [], [], []⟩, ⟨[], [], [], [102]⟩, ⟨[102], [], [], []⟩, ⟨[], [], [], []⟩, ⟨[], [], [], []⟩, ⟨[], [], [], []⟩, ⟨[], [], [], []⟩] rfl (by kernel_rfl) (by kernel_rfl) rfl rfl ?_
        refine WH.mv rfl rfl rfl (WH.mv rfl rfl rfl ?_)
        refine WH.case (j := 1) (g := 94) (want := false) rfl rfl (fun hg9 => ?_) (fun hg9 => ?_)
        ·skip
         first | have hg9p := G.gA3 hg9 | have hg9p := G.gA4 hg9 | have hg9p := hg9
         refine WH.val (O.move rfl rfl (Taken.yes rfl rfl hg9)) rfl rfl ?_
         refine WH.val (O.move rfl rfl (Taken.yes rfl rfl hg9)) rfl rfl ?_
         refine WH.val (O.idx_fz (i := k) rfl rfl (rfl) (row_get (by omega)) Try.underlying39 hi3 hs3 rfl (Taken.yes rfl rfl hg9)) rfl rfl ?_
         refine WH.val (O.ld1 (PtI.ofU (PtU.fz rfl)) rfl Try.underlying3 rfl rfl (Taken.yes rfl rfl hg9)) rfl rfl ?_
         refine WH.val (O.move rfl rfl (Taken.yes rfl rfl hg9)) rfl rfl ?_
         refine WH.val (O.fld_ref (o' := 1) rfl Try.underlying57 rfl (m := 0) (by kernel_rfl) rfl rfl (Taken.yes rfl rfl hg9)) rfl rfl ?_
         refine WH.val (O.ld1 (PtI.ref rfl rfl) rfl Try.underlying3 rfl rfl (Taken.yes rfl rfl hg9)) rfl rfl ?_
         refine WH.val (O.idx_fz (i := f) rfl rfl (rfl) (row_get (by omega)) Try.underlying39 hi3 hs3 rfl (Taken.yes rfl rfl hg9)) rfl rfl ?_
         refine WH.val (O.ld1 (PtI.ofU (PtU.fz rfl)) rfl Try.underlying3 rfl rfl (Taken.yes rfl rfl hg9)) rfl rfl ?_
         refine WH.val (O.det (fun _ => G.R.eql rfl rfl) rfl (Taken.yes rfl rfl hg9)) rfl rfl ?_
         refine WH.val (O.move rfl rfl (Taken.yes rfl rfl hg9)) rfl rfl ?_
         refine WH.case (j := 12) (g := 105) (want := true) rfl rfl (fun hg10 => ?_) (fun hg10 => ?_)
         ·skip
          first | have hg10p := G.gA1 hg10 | have hg10p := G.gA2 hg10 | have hg10p := hg10
          refine WH.val (O.move rfl rfl (Taken.yes rfl rfl hg10)) rfl rfl ?_
          refine WH.val (O.move rfl rfl (Taken.yes rfl rfl hg10)) rfl rfl ?_
          refine WH.val (O.idx_own (i := k) rfl rfl rfl (rfl) (by rw [List.length_map]; omega) Try.underlying39 hi3 hs3 rfl (Taken.yes rfl rfl hg10)) rfl rfl ?_
          refine WH.val (O.ld1 (PtI.ofU (PtU.el rfl rfl (row_get (by omega)))) rfl Try.underlying3 rfl rfl (Taken.yes rfl rfl hg10)) rfl rfl ?_
          refine WH.val (O.fld_ref (o' := 1) rfl Try.underlying57 rfl (m := 0) (by kernel_rfl) rfl rfl (Taken.yes rfl rfl hg10)) rfl rfl ?_
          refine WH.val (O.ld1 (PtI.ref rfl rfl) rfl Try.underlying3 rfl rfl (Taken.yes rfl rfl hg10)) rfl rfl ?_
          refine WH.val (O.det (fun _ => G.R.neq rfl rfl) rfl (Taken.yes rfl rfl hg10)) rfl rfl ?_
          refine WH.val (O.pick_t rfl hg10 rfl rfl (Taken.yes rfl rfl hg9)) rfl rfl ?_
          refine WH.val (O.pick_f rfl hg9 rfl rfl Taken.no) rfl rfl ?_
          refine WH.val (O.assign rfl rfl Taken.no) rfl rfl ?_
          refine WH.nil (E.to ?_)
          refine W.pick (K:=[(1,_),(3,_),(5,_),(6,_),(7,_),(8,_),(9,_),(10,_),(11,_),(12,_)]) (Z:=[(101,_),(102,_),(103,_),(106,_)]) ⟨rfl,rfl,rfl,rfl,rfl,rfl,rfl,rfl,rfl,rfl,trivial⟩ ⟨rfl,rfl,rfl,rfl,trivial⟩ ?_
          refine W.seq ?_
          refine W.draw [⟨[], [], [], [103]⟩, ⟨[], [], [], []⟩, ⟨[103], [], [], []⟩, ⟨[103], [], [], []⟩, ⟨[], [], [], [102]⟩, ⟨[102], [], [], []⟩, ⟨[], [], [], []⟩] rfl (by kernel_rfl) (by kernel_rfl) rfl rfl ?_
          refine WH.mv rfl rfl rfl (WH.mv rfl rfl rfl ?_)
          refine WH.val (O.idx_own (i := k) rfl rfl rfl (rfl) (by rw [List.length_map]; omega) Try.underlying39 hi3 hs3 rfl Taken.no) rfl rfl ?_
          refine WH.val (O.ld1 (PtI.ofU (PtU.el rfl rfl (row_get (by omega)))) rfl Try.underlying3 rfl rfl Taken.no) rfl rfl ?_
          refine WH.val (O.fld_ref (o' := 1) rfl Try.underlying57 rfl (m := 0) (by kernel_rfl) rfl rfl Taken.no) rfl rfl ?_
          refine WH.val (O.ld1 (PtI.ref rfl rfl) rfl Try.underlying3 rfl rfl Taken.no) rfl rfl ?_
          refine WH.val (O.det (fun _ => G.R.eql rfl rfl) rfl Taken.no) rfl rfl ?_
          refine WH.nil (E.to ?_)
          first | refine W.cond_d rfl (fun hc11 => ?_) (fun hc11 => ?_) | refine W.cond_nd rfl (fun hc11 => ?_) (fun hc11 => ?_) | refine W.cond rfl (fun hc11 => ?_) (fun hc11 => ?_)
          ·skip
           refine W.rg (SL.mv rfl rfl (SL.mv rfl rfl ?_))
           refine SL.val (O.fld_ref (o' := 2) rfl Try.underlying57 rfl (m := 0) (by kernel_rfl) rfl rfl Taken.no) ?_
           refine SL.val (O.ld1 (PtI.ref rfl rfl) rfl Try.underlying3 rfl rfl Taken.no) ?_
           refine SL.val (O.idx_own (i := k) rfl rfl rfl (rfl) (by rw [List.length_map]; omega) Try.underlying39 hi3 hs3 rfl Taken.no) ?_
           refine SL.effS (O.st_els (m := 1) rfl rfl rfl (us := [_]) rfl rfl (by kernel_rfl) (by simp) (row_get (by omega)) (by exact Nat.le_of_ble_eq_true rfl) rfl rfl (rows' := ((mvK n k (atomsL n rs) m s).map eN).set k [uI (-1)]) (by rfl) Taken.no) (S' := (106, _) :: _) rfl ?_
           refine E.fo (W.rg ?_)
           refine SL.val (O.fld_ref (o' := 2) rfl Try.underlying57 rfl (m := 0) (by kernel_rfl) rfl rfl Taken.no) ?_
           refine SL.val (O.ld1 (PtI.ref rfl rfl) rfl Try.underlying3 rfl rfl Taken.no) ?_
           refine SL.val (O.det (fun _ => G.R.mv (G.R.eql rfl rfl) (congrArg Value.bool (decide_eq_true (by rfl)))) rfl Taken.no) ?_
           refine E.fo ?_
           refine W.pick (K:=[(1,_),(3,_),(5,_),(6,_),(7,_),(8,_),(9,_),(10,_),(11,_),(12,_),(129,_)]) (Z:=[(101,_),(102,_),(103,_),(106,_)]) ⟨rfl,rfl,rfl,rfl,rfl,rfl,rfl,rfl,rfl,rfl,rfl,trivial⟩ ⟨rfl,rfl,rfl,rfl,trivial⟩ ?_
           refine W.cond_t rfl ?_
           refine W.region (SL.mv rfl rfl (SL.mv rfl rfl ?_))
           refine SL.val (O.fld_ref (o' := 0) rfl Try.underlying25 rfl (m := 0) (by kernel_rfl) rfl rfl Taken.no) ?_
           refine SL.val (O.ld1 (PtI.ref rfl rfl) rfl Try.underlying3 rfl rfl Taken.no) ?_
           refine SL.val (O.idx_own (i := k) rfl rfl rfl (rfl) (by rw [List.length_set, List.length_map]; omega) Try.underlying39 hi3 hs3 rfl Taken.no) ?_
           refine SL.effS (O.st_els (m := 1) rfl rfl rfl (us := [_]) rfl rfl (by kernel_rfl) (by simp) (by rw [List.getElem?_set_self (by rw [List.length_map]; omega)]) (by exact Nat.le_of_ble_eq_true rfl) rfl rfl (rows' := (((mvK n k (atomsL n rs) m s).map eN).set k [uI (-1)]).set k [uI (n : Int)]) (by rfl) Taken.no) (S' := (106, _) :: _) rfl ?_
           refine SL.nil (E.inn (E.to (W.region (SL.mv rfl rfl ?_))))
           refine SL.val (O.det (fun _ => by first | exact G.R.add64 rfl rfl (by omega) | exact G.R.add rfl rfl) rfl Taken.no) ?_
           refine SL.an rfl rfl (SL.nil ?_)
           refine E.again ((k + 1)) (rn []) ?_ ?_ rfl (fixL_spec rfl) ?_ ?_
           · exact (SubF.cons rfl (SubF.val rfl (by (try dsimp only); exact iv_bool (by rw [oth_s]; (first | (simp_all; done) | (simp_all <;> omega)))) (SubF.cons rfl (SubF.cons rfl (SubF.cons rfl (SubF.cons rfl (SubF.cons rfl (SubF.cons rfl (SubF.cons rfl (SubF.cons rfl SubF.nil))))))))))
           · exact (SubS.val rfl (by (try dsimp only); first | exact sb_data (by rw [mvK_no (by omega) (by rw [hfe]; omega)]) | exact sb_data (by rw [mvK_y (by omega) (by rw [hfe]; omega), hte]; exact set2) | exact sb_data (by rw [mvK_y (by omega) (by rw [hfe]; omega), hte])) (SubS.cons rfl (SubS.cons rfl (SubS.cons rfl SubS.nil))))
           ·try dsimp only
            omega
           · (try dsimp only); omega
          ·skip
           refine W.skip (E.inn (E.to (W.region (SL.mv rfl rfl ?_))))
           refine SL.val (O.det (fun _ => by first | exact G.R.add64 rfl rfl (by omega) | exact G.R.add rfl rfl) rfl Taken.no) ?_
           refine SL.an rfl rfl (SL.nil ?_)
           refine E.again ((k + 1)) (rn []) ?_ ?_ rfl (fixL_spec rfl) ?_ ?_
           · exact (SubF.cons rfl (SubF.val rfl (by (try dsimp only); exact iv_bool (by rw [oth_s]; (first | (simp_all; done) | (simp_all <;> omega)))) (SubF.cons rfl (SubF.cons rfl (SubF.cons rfl (SubF.cons rfl (SubF.cons rfl (SubF.cons rfl (SubF.cons rfl (SubF.cons rfl SubF.nil))))))))))
           · exact (SubS.val rfl (by (try dsimp only); first | exact sb_data (by rw [mvK_no (by omega) (by rw [hfe]; omega)]) | exact sb_data (by rw [mvK_y (by omega) (by rw [hfe]; omega), hte]; exact set2) | exact sb_data (by rw [mvK_y (by omega) (by rw [hfe]; omega), hte])) (SubS.cons rfl (SubS.cons rfl (SubS.cons rfl SubS.nil))))
           ·try dsimp only
            omega
           · (try dsimp only); omega
         ·skip
          first | have hg10p := G.gA5 hg10 | have hg10p := G.gA6 hg10 | have hg10p := hg10
          refine WH.sk rfl rfl rfl hg10 (WH.sk rfl rfl rfl hg10 (WH.sk rfl rfl rfl hg10 (WH.sk rfl rfl rfl hg10 (WH.sk rfl rfl rfl hg10 (WH.sk rfl rfl rfl hg10 (WH.sk rfl rfl rfl hg10 ?_))))))
          refine WH.val (O.pick_f rfl (G.ne_t hg10) rfl rfl (Taken.yes rfl rfl hg9)) rfl rfl ?_
          refine WH.val (O.pick_f rfl hg9 rfl rfl Taken.no) rfl rfl ?_
          refine WH.val (O.assign rfl rfl Taken.no) rfl rfl ?_
          refine WH.nil (E.to ?_)
          refine W.pick (K:=[(1,_),(3,_),(5,_),(6,_),(7,_),(8,_),(9,_),(10,_),(11,_),(12,_)]) (Z:=[(101,_),(102,_),(103,_),(106,_)]) ⟨rfl,rfl,rfl,rfl,rfl,rfl,rfl,rfl,rfl,rfl,trivial⟩ ⟨rfl,rfl,rfl,rfl,trivial⟩ ?_
          refine W.seq ?_
          refine W.draw [⟨[], [], [], [103]⟩, ⟨[], [], [], []⟩, ⟨[103], [], [], []⟩, ⟨[103], [], [], []⟩, ⟨[], [], [], [102]⟩, ⟨[102], [], [], []⟩, ⟨[], [], [], []⟩] rfl (by kernel_rfl) (by kernel_rfl) rfl rfl ?_
          refine WH.mv rfl rfl rfl (WH.mv rfl rfl rfl ?_)
          refine WH.val (O.idx_own (i := k) rfl rfl rfl (rfl) (by rw [List.length_map]; omega) Try.underlying39 hi3 hs3 rfl Taken.no) rfl rfl ?_
          refine WH.val (O.ld1 (PtI.ofU (PtU.el rfl rfl (row_get (by omega)))) rfl Try.underlying3 rfl rfl Taken.no) rfl rfl ?_
          refine WH.val (O.fld_ref (o' := 1) rfl Try.underlying57 rfl (m := 0) (by kernel_rfl) rfl rfl Taken.no) rfl rfl ?_
          refine WH.val (O.ld1 (PtI.ref rfl rfl) rfl Try.underlying3 rfl rfl Taken.no) rfl rfl ?_
          refine WH.val (O.det (fun _ => G.R.eql rfl rfl) rfl Taken.no) rfl rfl ?_
          refine WH.nil (E.to ?_)
          first | refine W.cond_d rfl (fun hc12 => ?_) (fun hc12 => ?_) | refine W.cond_nd rfl (fun hc12 => ?_) (fun hc12 => ?_) | refine W.cond rfl (fun hc12 => ?_) (fun hc12 => ?_)
          ·skip
           refine W.rg (SL.mv rfl rfl (SL.mv rfl rfl ?_))
           refine SL.val (O.fld_ref (o' := 2) rfl Try.underlying57 rfl (m := 0) (by kernel_rfl) rfl rfl Taken.no) ?_
           refine SL.val (O.ld1 (PtI.ref rfl rfl) rfl Try.underlying3 rfl rfl Taken.no) ?_
           refine SL.val (O.idx_own (i := k) rfl rfl rfl (rfl) (by rw [List.length_map]; omega) Try.underlying39 hi3 hs3 rfl Taken.no) ?_
           refine SL.effS (O.st_els (m := 1) rfl rfl rfl (us := [_]) rfl rfl (by kernel_rfl) (by simp) (row_get (by omega)) (by exact Nat.le_of_ble_eq_true rfl) rfl rfl (rows' := ((mvK n k (atomsL n rs) m s).map eN).set k [uI (-1)]) (by rfl) Taken.no) (S' := (106, _) :: _) rfl ?_
           refine E.fo (W.rg ?_)
           refine SL.val (O.fld_ref (o' := 2) rfl Try.underlying57 rfl (m := 0) (by kernel_rfl) rfl rfl Taken.no) ?_
           refine SL.val (O.ld1 (PtI.ref rfl rfl) rfl Try.underlying3 rfl rfl Taken.no) ?_
           refine SL.val (O.det (fun _ => G.R.mv (G.R.eql rfl rfl) (congrArg Value.bool (decide_eq_true (by rfl)))) rfl Taken.no) ?_
           refine E.fo ?_
           refine W.pick (K:=[(1,_),(3,_),(5,_),(6,_),(7,_),(8,_),(9,_),(10,_),(11,_),(12,_),(129,_)]) (Z:=[(101,_),(102,_),(103,_),(106,_)]) ⟨rfl,rfl,rfl,rfl,rfl,rfl,rfl,rfl,rfl,rfl,rfl,trivial⟩ ⟨rfl,rfl,rfl,rfl,trivial⟩ ?_
           refine W.cond_t rfl ?_
           refine W.region (SL.mv rfl rfl (SL.mv rfl rfl ?_))
           refine SL.val (O.fld_ref (o' := 0) rfl Try.underlying25 rfl (m := 0) (by kernel_rfl) rfl rfl Taken.no) ?_
           refine SL.val (O.ld1 (PtI.ref rfl rfl) rfl Try.underlying3 rfl rfl Taken.no) ?_
           refine SL.val (O.idx_own (i := k) rfl rfl rfl (rfl) (by rw [List.length_set, List.length_map]; omega) Try.underlying39 hi3 hs3 rfl Taken.no) ?_
           refine SL.effS (O.st_els (m := 1) rfl rfl rfl (us := [_]) rfl rfl (by kernel_rfl) (by simp) (by rw [List.getElem?_set_self (by rw [List.length_map]; omega)]) (by exact Nat.le_of_ble_eq_true rfl) rfl rfl (rows' := (((mvK n k (atomsL n rs) m s).map eN).set k [uI (-1)]).set k [uI (n : Int)]) (by rfl) Taken.no) (S' := (106, _) :: _) rfl ?_
           refine SL.nil (E.inn (E.to (W.region (SL.mv rfl rfl ?_))))
           refine SL.val (O.det (fun _ => by first | exact G.R.add64 rfl rfl (by omega) | exact G.R.add rfl rfl) rfl Taken.no) ?_
           refine SL.an rfl rfl (SL.nil ?_)
           refine E.again ((k + 1)) (rn []) ?_ ?_ rfl (fixL_spec rfl) ?_ ?_
           · exact (SubF.cons rfl (SubF.val rfl (by (try dsimp only); exact iv_bool (by rw [oth_s]; (first | (simp_all; done) | (simp_all <;> omega)))) (SubF.cons rfl (SubF.cons rfl (SubF.cons rfl (SubF.cons rfl (SubF.cons rfl (SubF.cons rfl (SubF.cons rfl (SubF.cons rfl SubF.nil))))))))))
           · exact (SubS.val rfl (by (try dsimp only); first | exact sb_data (by rw [mvK_no (by omega) (by rw [hfe]; omega)]) | exact sb_data (by rw [mvK_y (by omega) (by rw [hfe]; omega), hte]; exact set2) | exact sb_data (by rw [mvK_y (by omega) (by rw [hfe]; omega), hte])) (SubS.cons rfl (SubS.cons rfl (SubS.cons rfl SubS.nil))))
           ·try dsimp only
            omega
           · (try dsimp only); omega
          ·skip
           refine W.skip (E.inn (E.to (W.region (SL.mv rfl rfl ?_))))
           refine SL.val (O.det (fun _ => by first | exact G.R.add64 rfl rfl (by omega) | exact G.R.add rfl rfl) rfl Taken.no) ?_
           refine SL.an rfl rfl (SL.nil ?_)
           refine E.again ((k + 1)) (rn []) ?_ ?_ rfl (fixL_spec rfl) ?_ ?_
           · exact (SubF.cons rfl (SubF.val rfl (by (try dsimp only); exact iv_bool (by rw [oth_s]; (first | (simp_all; done) | (simp_all <;> omega)))) (SubF.cons rfl (SubF.cons rfl (SubF.cons rfl (SubF.cons rfl (SubF.cons rfl (SubF.cons rfl (SubF.cons rfl (SubF.cons rfl SubF.nil))))))))))
           · exact (SubS.val rfl (by (try dsimp only); first | exact sb_data (by rw [mvK_no (by omega) (by rw [hfe]; omega)]) | exact sb_data (by rw [mvK_y (by omega) (by rw [hfe]; omega), hte]; exact set2) | exact sb_data (by rw [mvK_y (by omega) (by rw [hfe]; omega), hte])) (SubS.cons rfl (SubS.cons rfl (SubS.cons rfl SubS.nil))))
           ·try dsimp only
            omega
           · (try dsimp only); omega
        ·skip
         first | have hg9p := G.gA7 hg9 | have hg9p := G.gA8 hg9 | have hg9p := hg9
         refine WH.sk rfl rfl rfl hg9 (WH.sk rfl rfl rfl hg9 (WH.sk rfl rfl rfl hg9 (WH.sk rfl rfl rfl hg9 (WH.sk rfl rfl rfl hg9 (WH.sk rfl rfl rfl hg9 (WH.sk rfl rfl rfl hg9 (WH.sk rfl rfl rfl hg9 (WH.sk rfl rfl rfl hg9 (WH.sk rfl rfl rfl hg9 (WH.sk rfl rfl rfl hg9 ?_))))))))))
         refine WH.skip (OpOk.not2 rfl rfl rfl) ?_
         refine WH.skip (OpOk.not2 rfl rfl rfl) ?_
         refine WH.skip (OpOk.not2 rfl rfl rfl) ?_
         refine WH.skip (OpOk.not2 rfl rfl rfl) ?_
         refine WH.skip (OpOk.not2 rfl rfl rfl) ?_
         refine WH.skip (OpOk.not2 rfl rfl rfl) ?_
         refine WH.skip (OpOk.not2 rfl rfl rfl) ?_
         refine WH.sk rfl rfl rfl hg9 ?_
         refine WH.val (O.pick_t rfl (G.ne_f hg9) rfl rfl Taken.no) rfl rfl ?_
         refine WH.val (O.assign rfl rfl Taken.no) rfl rfl ?_
         refine WH.nil (E.to ?_)
         refine W.pick (K:=[(1,_),(3,_),(5,_),(6,_),(7,_),(8,_),(9,_),(10,_),(11,_),(12,_)]) (Z:=[(101,_),(102,_),(103,_),(106,_)]) ⟨rfl,rfl,rfl,rfl,rfl,rfl,rfl,rfl,rfl,rfl,trivial⟩ ⟨rfl,rfl,rfl,rfl,trivial⟩ ?_
         refine W.seq ?_
         refine W.draw [⟨[], [], [], [103]⟩, ⟨[], [], [], []⟩, ⟨[103], [], [], []⟩, ⟨[103], [], [], []⟩, ⟨[], [], [], [102]⟩, ⟨[102], [], [], []⟩, ⟨[], [], [], []⟩] rfl (by kernel_rfl) (by kernel_rfl) rfl rfl ?_
         refine WH.mv rfl rfl rfl (WH.mv rfl rfl rfl ?_)
         refine WH.val (O.idx_own (i := k) rfl rfl rfl (rfl) (by rw [List.length_map]; omega) Try.underlying39 hi3 hs3 rfl Taken.no) rfl rfl ?_
         refine WH.val (O.ld1 (PtI.ofU (PtU.el rfl rfl (row_get (by omega)))) rfl Try.underlying3 rfl rfl Taken.no) rfl rfl ?_
         refine WH.val (O.fld_ref (o' := 1) rfl Try.underlying57 rfl (m := 0) (by kernel_rfl) rfl rfl Taken.no) rfl rfl ?_
         refine WH.val (O.ld1 (PtI.ref rfl rfl) rfl Try.underlying3 rfl rfl Taken.no) rfl rfl ?_
         refine WH.val (O.det (fun _ => G.R.eql rfl rfl) rfl Taken.no) rfl rfl ?_
         refine WH.nil (E.to ?_)
         first | refine W.cond_d rfl (fun hc13 => ?_) (fun hc13 => ?_) | refine W.cond_nd rfl (fun hc13 => ?_) (fun hc13 => ?_) | refine W.cond rfl (fun hc13 => ?_) (fun hc13 => ?_)
         ·skip
          refine W.rg (SL.mv rfl rfl (SL.mv rfl rfl ?_))
          refine SL.val (O.fld_ref (o' := 2) rfl Try.underlying57 rfl (m := 0) (by kernel_rfl) rfl rfl Taken.no) ?_
          refine SL.val (O.ld1 (PtI.ref rfl rfl) rfl Try.underlying3 rfl rfl Taken.no) ?_
          refine SL.val (O.idx_own (i := k) rfl rfl rfl (rfl) (by rw [List.length_map]; omega) Try.underlying39 hi3 hs3 rfl Taken.no) ?_
          refine SL.effS (O.st_els (m := 1) rfl rfl rfl (us := [_]) rfl rfl (by kernel_rfl) (by simp) (row_get (by omega)) (by exact Nat.le_of_ble_eq_true rfl) rfl rfl (rows' := ((mvK n k (atomsL n rs) m s).map eN).set k [uI (-1)]) (by rfl) Taken.no) (S' := (106, _) :: _) rfl ?_
          refine E.fo (W.rg ?_)
          refine SL.val (O.fld_ref (o' := 2) rfl Try.underlying57 rfl (m := 0) (by kernel_rfl) rfl rfl Taken.no) ?_
          refine SL.val (O.ld1 (PtI.ref rfl rfl) rfl Try.underlying3 rfl rfl Taken.no) ?_
          refine SL.val (O.det (fun _ => G.R.mv (G.R.eql rfl rfl) (congrArg Value.bool (decide_eq_true (by rfl)))) rfl Taken.no) ?_
          refine E.fo ?_
          refine W.pick (K:=[(1,_),(3,_),(5,_),(6,_),(7,_),(8,_),(9,_),(10,_),(11,_),(12,_),(129,_)]) (Z:=[(101,_),(102,_),(103,_),(106,_)]) ⟨rfl,rfl,rfl,rfl,rfl,rfl,rfl,rfl,rfl,rfl,rfl,trivial⟩ ⟨rfl,rfl,rfl,rfl,trivial⟩ ?_
          refine W.cond_t rfl ?_
          refine W.region (SL.mv rfl rfl (SL.mv rfl rfl ?_))
          refine SL.val (O.fld_ref (o' := 0) rfl Try.underlying25 rfl (m := 0) (by kernel_rfl) rfl rfl Taken.no) ?_
          refine SL.val (O.ld1 (PtI.ref rfl rfl) rfl Try.underlying3 rfl rfl Taken.no) ?_
          refine SL.val (O.idx_own (i := k) rfl rfl rfl (rfl) (by rw [List.length_set, List.length_map]; omega) Try.underlying39 hi3 hs3 rfl Taken.no) ?_
          refine SL.effS (O.st_els (m := 1) rfl rfl rfl (us := [_]) rfl rfl (by kernel_rfl) (by simp) (by rw [List.getElem?_set_self (by rw [List.length_map]; omega)]) (by exact Nat.le_of_ble_eq_true rfl) rfl rfl (rows' := (((mvK n k (atomsL n rs) m s).map eN).set k [uI (-1)]).set k [uI (n : Int)]) (by rfl) Taken.no) (S' := (106, _) :: _) rfl ?_
          refine SL.nil (E.inn (E.to (W.region (SL.mv rfl rfl ?_))))
          refine SL.val (O.det (fun _ => by first | exact G.R.add64 rfl rfl (by omega) | exact G.R.add rfl rfl) rfl Taken.no) ?_
          refine SL.an rfl rfl (SL.nil ?_)
          refine E.again ((k + 1)) (rn []) ?_ ?_ rfl (fixL_spec rfl) ?_ ?_
          · exact (SubF.cons rfl (SubF.val rfl (by (try dsimp only); exact iv_bool (by rw [oth_s]; (first | (simp_all; done) | (simp_all <;> omega)))) (SubF.cons rfl (SubF.cons rfl (SubF.cons rfl (SubF.cons rfl (SubF.cons rfl (SubF.cons rfl (SubF.cons rfl (SubF.cons rfl SubF.nil))))))))))
          · exact (SubS.val rfl (by (try dsimp only); first | exact sb_data (by rw [mvK_no (by omega) (by rw [hfe]; omega)]) | exact sb_data (by rw [mvK_y (by omega) (by rw [hfe]; omega), hte]; exact set2) | exact sb_data (by rw [mvK_y (by omega) (by rw [hfe]; omega), hte])) (SubS.cons rfl (SubS.cons rfl (SubS.cons rfl SubS.nil))))
          ·try dsimp only
           omega
          · (try dsimp only); omega
         ·skip
          refine W.skip (E.inn (E.to (W.region (SL.mv rfl rfl ?_))))
          refine SL.val (O.det (fun _ => by first | exact G.R.add64 rfl rfl (by omega) | exact G.R.add rfl rfl) rfl Taken.no) ?_
          refine SL.an rfl rfl (SL.nil ?_)
          refine E.again ((k + 1)) (rn []) ?_ ?_ rfl (fixL_spec rfl) ?_ ?_
          · exact (SubF.cons rfl (SubF.val rfl (by (try dsimp only); exact iv_bool (by rw [oth_s]; (first | (simp_all; done) | (simp_all <;> omega)))) (SubF.cons rfl (SubF.cons rfl (SubF.cons rfl (SubF.cons rfl (SubF.cons rfl (SubF.cons rfl (SubF.cons rfl (SubF.cons rfl SubF.nil))))))))))
          · exact (SubS.val rfl (by (try dsimp only); first | exact sb_data (by rw [mvK_no (by omega) (by rw [hfe]; omega)]) | exact sb_data (by rw [mvK_y (by omega) (by rw [hfe]; omega), hte]; exact set2) | exact sb_data (by rw [mvK_y (by omega) (by rw [hfe]; omega), hte])) (SubS.cons rfl (SubS.cons rfl (SubS.cons rfl SubS.nil))))
          ·try dsimp only
           omega
          · (try dsimp only); omega
       ·skip
        refine W.exit (E.th (E.th (E.hit (E.to (W.seq (W.seq ?_))))))
        refine W.draw [⟨[], [], [], [103]⟩, ⟨[], [], [], [102]⟩, ⟨[102], [], [], []⟩, ⟨[103], [], [], []⟩, ⟨[103], [], [], []⟩, ⟨[], [], [], [102]⟩, ⟨[102], [], [], []⟩, ⟨[], [], [], []⟩, ⟨[], [], [], []⟩, ⟨[], [], [], [102]⟩, ⟨[102], [], [], []⟩, ⟨[], [], [], []⟩, ⟨[], [], [], [102]⟩, ⟨[102], [], [], []⟩, ⟨[], [], [], []⟩, ⟨[], [], [], []⟩, ⟨[], [], [], []⟩, ⟨[], [], [], []⟩, ⟨[], [], [], []⟩, ⟨[], [], [], [102]⟩, ⟨[102], [], [], []⟩, ⟨[], [], [], []⟩, ⟨[], [], [], []⟩, ⟨[], [], [], []⟩, ⟨[], [], [], []⟩, ⟨[], [], [], []⟩, ⟨[], [], [], []⟩] rfl (by kernel_rfl) (by kernel_rfl) rfl rfl ?_
        have hkn : k = n := by omega
        rw [hkn, mvK_n]
        refine WH.mv rfl rfl rfl ?_
        refine WH.val (O.fld_ref (o' := 1) rfl Try.underlying57 rfl (m := 0) (by kernel_rfl) rfl rfl Taken.no) rfl rfl ?_
        refine WH.val (O.ld1 (PtI.ref rfl rfl) rfl Try.underlying3 rfl rfl Taken.no) rfl rfl ?_
        refine WH.val (O.idx_own (i := f) rfl rfl rfl (rfl) (by rw [List.length_map]; omega) Try.underlying39 hi3 hs3 rfl Taken.no) rfl rfl ?_
        refine WH.val (O.ld1 (PtI.ofU (PtU.el rfl rfl (row_get (by omega)))) rfl Try.underlying3 rfl rfl Taken.no) rfl rfl ?_
        refine WH.val (O.fld_ref (o' := 1) rfl Try.underlying57 rfl (m := 0) (by kernel_rfl) rfl rfl Taken.no) rfl rfl ?_
        refine WH.val (O.ld1 (PtI.ref rfl rfl) rfl Try.underlying3 rfl rfl Taken.no) rfl rfl ?_
        refine WH.val (O.det (fun _ => G.R.neq rfl rfl) rfl Taken.no) rfl rfl ?_
        refine WH.mv rfl rfl rfl ?_
        refine WH.case (j := 8) (g := 143) (want := false) rfl rfl (fun hg14 => ?_) (fun hg14 => ?_)
        ·skip
         first | have hg14p := G.gA3 hg14 | have hg14p := G.gA4 hg14 | have hg14p := hg14
         refine WH.val (O.fld_ref (o' := 2) rfl Try.underlying57 rfl (m := 0) (by kernel_rfl) rfl rfl (Taken.yes rfl rfl hg14)) rfl rfl ?_
         refine WH.val (O.ld1 (PtI.ref rfl rfl) rfl Try.underlying3 rfl rfl (Taken.yes rfl rfl hg14)) rfl rfl ?_
         refine WH.val (O.move rfl rfl (Taken.yes rfl rfl hg14)) rfl rfl ?_
         refine WH.val (O.fld_ref (o' := 1) rfl Try.underlying57 rfl (m := 0) (by kernel_rfl) rfl rfl (Taken.yes rfl rfl hg14)) rfl rfl ?_
         refine WH.val (O.ld1 (PtI.ref rfl rfl) rfl Try.underlying3 rfl rfl (Taken.yes rfl rfl hg14)) rfl rfl ?_
         refine WH.val (O.idx_fz (i := f) rfl rfl (rfl) (row_get (by omega)) Try.underlying39 hi3 hs3 rfl (Taken.yes rfl rfl hg14)) rfl rfl ?_
         refine WH.val (O.ld1 (PtI.ofU (PtU.fz rfl)) rfl Try.underlying3 rfl rfl (Taken.yes rfl rfl hg14)) rfl rfl ?_
         refine WH.val (O.det (fun _ => G.R.mv (G.R.eql rfl rfl) (congrArg Value.bool (decide_eq_false (by omega)))) rfl (Taken.yes rfl rfl hg14)) rfl rfl ?_
         refine WH.val (O.pick_f rfl hg14 rfl rfl Taken.no) rfl rfl ?_
         refine WH.mv rfl rfl rfl ?_
         have hg15 : false = false := by decide
         refine WH.val (O.fld_ref (o' := 2) rfl Try.underlying57 rfl (m := 0) (by kernel_rfl) rfl rfl (Taken.yes rfl rfl hg15)) rfl rfl ?_
         refine WH.val (O.ld1 (PtI.ref rfl rfl) rfl Try.underlying3 rfl rfl (Taken.yes rfl rfl hg15)) rfl rfl ?_
         refine WH.val (O.det (fun _ => G.R.mv (G.R.eql rfl rfl) (congrArg Value.bool (decide_eq_true (by rfl)))) rfl (Taken.yes rfl rfl hg15)) rfl rfl ?_
         refine WH.val (O.move rfl rfl (Taken.yes rfl rfl hg15)) rfl rfl ?_
         have hg16 : true = true := by decide
         refine WH.val (O.move rfl rfl (Taken.yes rfl rfl hg16)) rfl rfl ?_
         refine WH.val (O.det (fun _ => G.R.not rfl) rfl (Taken.yes rfl rfl hg16)) rfl rfl ?_
         refine WH.val (O.pick_t rfl rfl rfl rfl (Taken.yes rfl rfl hg15)) rfl rfl ?_
         refine WH.val (O.pick_f rfl rfl rfl rfl Taken.no) rfl rfl ?_
         refine WH.nil (E.to ?_)
         refine W.pick (K:=[(1,_),(3,_),(6,_),(7,_),(8,_),(10,_),(161,_)]) (Z:=[(101,_),(102,_),(103,_),(106,_)]) ⟨rfl,rfl,rfl,rfl,rfl,rfl,rfl,trivial⟩ ⟨rfl,rfl,rfl,rfl,trivial⟩ ?_
         first | refine W.cond_d rfl (fun hc17 => ?_) (fun hc17 => ?_) | refine W.cond_nd rfl (fun hc17 => ?_) (fun hc17 => ?_) | refine W.cond rfl (fun hc17 => ?_) (fun hc17 => ?_)
         ·skip
          refine W.rg (SL.an rfl rfl (SL.an rfl rfl (SL.an rfl rfl (E.fo (W.ret (E.thr (E.thr ?_)))))))
          refine E.nilsl 6 1 rfl ?_
          refine E.fin (rs := [_, _, _]) (rn []) (.inl rfl) rfl (.cons (ResOne.tmp rfl) (.cons (ResOne.tmp rfl) (.cons (ResOne.tmp rfl) .nil))) ?_ ?_ rfl (fixL_spec rfl)
          ·skip
           subst hs
           first | ((have hno : ¬ posR n (barL rs) (atomsL n rs) m ⟨false, (f : Int), (t : Int)⟩ := fun q => by ((obtain ⟨⟨q1, q2, q3, q4, q5⟩, q6, q7, q8⟩ := preR_iff.1 q.1); (try simp only [Int.toNat_natCast] at q6 q7 q8); (first | (have q8 := (q8 (by trivial)).1; omega) | (have q8 := (q8 (by trivial)).2.1 (by omega); omega) | (have q8 := (q8 (by trivial)).2.2 (by omega); simp_all)))); rw [(apR_n hno).1, (apR_n hno).2, dec_f hno]; rfl) | ((have hno : ¬ posR n (barL rs) (atomsL n rs) m ⟨false, (f : Int), -1⟩ := fun q => by ((obtain ⟨⟨q1, q2, q3, q4, q5⟩, q6, q7, q8⟩ := preR_iff.1 q.1); (try simp only [Int.toNat_natCast] at q6 q7 q8); (first | (have q8 := (q8 (by trivial)).1; omega) | (have q8 := (q8 (by trivial)).2.1 (by omega); omega) | (have q8 := (q8 (by trivial)).2.2 (by omega); simp_all)))); rw [(apR_n hno).1, (apR_n hno).2, dec_f hno]; rfl)
          · exact SubS.nil
         ·skip
          refine W.skip (E.to (W.region (SL.mv rfl rfl ?_)))
          refine SL.memS (O.call (rn [(0, 107)]) [106] rfl rfl rfl (refnamed_h (l := mvL n (atomsL n rs) m s) (by rw [mvL, List.length_map, List.length_range]; omega)) (.cons (ArgOk.own rfl rfl) .nil) SubS.nil rfl rfl rfl rfl rfl (.inr ⟨rfl, fun x hx => by rw [List.mem_singleton] at hx; subst hx; exact flat_N _⟩) hcallOk65 (r' := .own 107) rfl rfl Taken.no) rfl rfl (S' := (107, .data _ _ _) :: _) rfl ?_
          refine SL.an rfl rfl (E.fo (W.seq (W.rg ?_)))
          have hX : nmL (mvL n (atomsL n rs) m s) = (labL n (atomsL n rs) m s) := by rw [labL, if_neg (by rw [hue]; decide)]
          have hpre : preR n (atomsL n rs) m s := by rw [hs]; exact preR_iff.2 ⟨⟨by omega, by omega, by omega, by omega, fun _ => rfl⟩, fun h => by exfalso; omega, fun h => (by cases h), fun _ => ⟨by show (atomsL n rs)[f]! = f; omega, fun h => by exfalso; omega, fun _ => by show othR n (atomsL n rs) m f = true; simp_all⟩⟩
          rw [hX]
          have hll : (labL n (atomsL n rs) m s).length = n := labL_len hml
          refine SL.val (O.ldN (m := 3) (PtI.ref rfl rfl) (js := [_, _, _]) rfl (Nat.le_of_ble_eq_true rfl) Try.underlying25 rfl (by kernel_rfl) rfl Taken.no) ?_
          refine SL.mv rfl rfl ?_
          refine SL.memS (O.call (rn []) [107] rfl rfl rfl (refapart_h hf (m := (labL n (atomsL n rs) m s)) hll) (.cons (ArgOk.aggU (.cons (ArgOk.same rfl) (.cons (ArgOk.same rfl) (.cons (ArgOk.same rfl) .nil)))) (.cons (ArgOk.own rfl rfl) .nil)) SubS.nil rfl rfl rfl rfl rfl (.inr ⟨rfl, fun x hx => by simp at hx⟩) hcallOk36 (r' := .u _) rfl rfl Taken.no) rfl rfl (S' := _) rfl ?_
          refine SL.val (O.det (fun _ => G.R.not rfl) rfl Taken.no) ?_
          refine E.fo ?_
          first | refine W.cond_d rfl (fun hc18 => ?_) (fun hc18 => ?_) | refine W.cond_nd rfl (fun hc18 => ?_) (fun hc18 => ?_) | refine W.cond rfl (fun hc18 => ?_) (fun hc18 => ?_)
          ·skip
           refine W.rg (SL.an rfl rfl (SL.an rfl rfl (SL.an rfl rfl (E.fo (W.ret (E.thr ?_))))))
           refine E.nilsl 6 1 rfl ?_
           refine E.fin (rs := [_, _, _]) (rn []) (.inl rfl) rfl (.cons (ResOne.tmp rfl) (.cons (ResOne.tmp rfl) (.cons (ResOne.tmp rfl) .nil))) ?_ ?_ rfl (fixL_spec rfl)
           ·skip
            have hno : ¬ posR n (barL rs) (atomsL n rs) m s := fun q => by have q2 := q.2; simp_all
            rw [← hs, (apR_n hno).1, (apR_n hno).2, dec_f hno]; rfl
           · exact SubS.nil
          ·skip
           refine W.skip (E.to (W.rg ?_))
           refine SL.val (O.ldN (m := 3) (PtI.ref rfl rfl) (js := [_, _, _]) rfl (Nat.le_of_ble_eq_true rfl) Try.underlying25 rfl (by kernel_rfl) rfl Taken.no) ?_
           refine SL.mv rfl rfl ?_
           refine SL.memS (O.call (rn [(0, 108)]) [107] rfl rfl rfl (refconn_h hf (m := (labL n (atomsL n rs) m s)) hll) (.cons (ArgOk.aggU (.cons (ArgOk.same rfl) (.cons (ArgOk.same rfl) (.cons (ArgOk.same rfl) .nil)))) (.cons (ArgOk.own rfl rfl) .nil)) SubS.nil rfl rfl rfl rfl rfl (.inr ⟨rfl, fun x hx => by rw [List.mem_singleton] at hx; subst hx; exact flat_N _⟩) hcallOk43 (r' := .own 108) rfl rfl Taken.no) rfl rfl (S' := (108, .data _ _ _) :: _) rfl ?_
           refine SL.an rfl rfl (E.fo (W.seq ?_))
           refine W.freeze 108 rfl (F' := [(10, _)]) (⟨⟨_, rfl, rfl⟩, trivial⟩) ?_
           refine W.draw [⟨[], [], [], []⟩, ⟨[101], [], [], []⟩, ⟨[], [], [], []⟩, ⟨[], [], [], []⟩, ⟨[101], [], [], []⟩, ⟨[], [], [], []⟩, ⟨[], [], [], []⟩, ⟨[], [], [], []⟩, ⟨[], [], [], []⟩, ⟨[], [], [], []⟩, ⟨[], [], [], []⟩] rfl (by kernel_rfl) (by kernel_rfl) rfl rfl ?_
           refine WH.mv rfl rfl rfl ?_
           refine WH.val (O.ldN (m := 3) (PtI.ref rfl rfl) (js := [_, _, _]) rfl (Nat.le_of_ble_eq_true rfl) Try.underlying25 rfl (by kernel_rfl) rfl Taken.no) rfl rfl ?_
           refine WH.mv rfl rfl rfl ?_
           refine WH.val (O.callp rfl rfl rfl (refvalue_h hf (m := resR n ps rs m s) (res_comp hf m s).len hpl) (.cons (ArgOk.aggU (.cons (ArgOk.same rfl) (.cons (ArgOk.same rfl) (.cons (ArgOk.same rfl) .nil)))) (.cons (ArgOk.same rfl) .nil)) hcallOk48 rfl Taken.no) rfl rfl ?_
           refine WH.val (O.ldN (m := 3) (PtI.ref rfl rfl) (js := [_, _, _]) rfl (Nat.le_of_ble_eq_true rfl) Try.underlying25 rfl (by kernel_rfl) rfl Taken.no) rfl rfl ?_
           refine WH.mv rfl rfl rfl ?_
           refine WH.val (O.callp rfl rfl rfl (refvalue_h hf (m := m) hml hpl) (.cons (ArgOk.aggU (.cons (ArgOk.same rfl) (.cons (ArgOk.same rfl) (.cons (ArgOk.same rfl) .nil)))) (.cons (ArgOk.same rfl) .nil)) hcallOk48 rfl Taken.no) rfl rfl ?_
           have hv1 := valR_le hf (resR n ps rs m s)
           have hv2 := valR_le hf m
           refine WH.val (O.det (fun _ => by first | exact G.R.sub64 rfl rfl (by omega) | exact G.R.sub rfl rfl) rfl Taken.no) rfl rfl ?_
           refine WH.val (O.assign rfl rfl Taken.no) rfl rfl ?_
           refine WH.val (O.assign rfl rfl Taken.no) rfl rfl ?_
           refine WH.val (O.assign rfl rfl Taken.no) rfl rfl ?_
           refine WH.nil (E.to ?_)
           refine W.pick (K:=[(6,_),(7,_),(8,_)]) (Z:=[(101,_),(102,_),(103,_),(106,_),(107,_)]) ⟨rfl,rfl,rfl,trivial⟩ ⟨rfl,rfl,rfl,rfl,rfl,trivial⟩ ?_
           refine W.ret ?_
           refine E.fin (rs := [_, _, _]) (rn []) (.inl rfl) rfl (.cons (ResOne.tmp rfl) (.cons (ResOne.tmp rfl) (.cons (ResOne.tmp rfl) .nil))) ?_ ?_ rfl (fixL_spec rfl)
           ·skip
            have hyes : posR n (barL rs) (atomsL n rs) m s := ⟨hpre, by simp_all⟩
            rw [← hs, (apR_y hyes).1, (apR_y hyes).2, dec_t hyes]; rfl
           · exact SubS.nil
        ·skip
         first | have hg14p := G.gA7 hg14 | have hg14p := G.gA8 hg14 | have hg14p := hg14
         refine WH.sk rfl rfl rfl hg14 (WH.sk rfl rfl rfl hg14 (WH.sk rfl rfl rfl hg14 (WH.sk rfl rfl rfl hg14 (WH.sk rfl rfl rfl hg14 (WH.sk rfl rfl rfl hg14 (WH.sk rfl rfl rfl hg14 (WH.sk rfl rfl rfl hg14 ?_)))))))
         refine WH.val (O.pick_t rfl (G.ne_f hg14) rfl rfl Taken.no) rfl rfl ?_
         refine WH.mv rfl rfl rfl ?_
         have hg19 : true ≠ false := by decide
         refine WH.sk rfl rfl rfl hg19 (WH.sk rfl rfl rfl hg19 (WH.sk rfl rfl rfl hg19 (WH.sk rfl rfl rfl hg19 ?_)))
         refine WH.skip (OpOk.not2 rfl rfl rfl) ?_
         refine WH.skip (OpOk.not2 rfl rfl rfl) ?_
         refine WH.sk rfl rfl rfl hg19 ?_
         refine WH.val (O.pick_t rfl rfl rfl rfl Taken.no) rfl rfl ?_
         refine WH.nil (E.to ?_)
         refine W.pick (K:=[(1,_),(3,_),(6,_),(7,_),(8,_),(10,_),(161,_)]) (Z:=[(101,_),(102,_),(103,_),(106,_)]) ⟨rfl,rfl,rfl,rfl,rfl,rfl,rfl,trivial⟩ ⟨rfl,rfl,rfl,rfl,trivial⟩ ?_
         refine W.cond_t rfl ?_
         refine W.rg (SL.an rfl rfl (SL.an rfl rfl (SL.an rfl rfl (E.fo (W.ret (E.thr (E.thr ?_)))))))
         refine E.nilsl 6 1 rfl ?_
         refine E.fin (rs := [_, _, _]) (rn []) (.inl rfl) rfl (.cons (ResOne.tmp rfl) (.cons (ResOne.tmp rfl) (.cons (ResOne.tmp rfl) .nil))) ?_ ?_ rfl (fixL_spec rfl)
         ·skip
          subst hs
          first | ((have hno : ¬ posR n (barL rs) (atomsL n rs) m ⟨false, (f : Int), (t : Int)⟩ := fun q => by ((obtain ⟨⟨q1, q2, q3, q4, q5⟩, q6, q7, q8⟩ := preR_iff.1 q.1); (try simp only [Int.toNat_natCast] at q6 q7 q8); (first | (have q8 := (q8 (by trivial)).1; omega) | (have q8 := (q8 (by trivial)).2.1 (by omega); omega) | (have q8 := (q8 (by trivial)).2.2 (by omega); simp_all)))); rw [(apR_n hno).1, (apR_n hno).2, dec_f hno]; rfl) | ((have hno : ¬ posR n (barL rs) (atomsL n rs) m ⟨false, (f : Int), -1⟩ := fun q => by ((obtain ⟨⟨q1, q2, q3, q4, q5⟩, q6, q7, q8⟩ := preR_iff.1 q.1); (try simp only [Int.toNat_natCast] at q6 q7 q8); (first | (have q8 := (q8 (by trivial)).1; omega) | (have q8 := (q8 (by trivial)).2.1 (by omega); omega) | (have q8 := (q8 (by trivial)).2.2 (by omega); simp_all)))); rw [(apR_n hno).1, (apR_n hno).2, dec_f hno]; rfl)
         · exact SubS.nil
      ·skip
       first | have hg6p := G.gA7 hg6 | have hg6p := G.gA8 hg6 | have hg6p := hg6
       refine WH.sk rfl rfl rfl hg6 (WH.sk rfl rfl rfl hg6 (WH.sk rfl rfl rfl hg6 (WH.sk rfl rfl rfl hg6 ?_)))
       refine WH.skip (OpOk.not2 rfl rfl rfl) ?_
       refine WH.skip (OpOk.not2 rfl rfl rfl) ?_
       refine WH.skip (OpOk.not2 rfl rfl rfl) ?_
       refine WH.skip (OpOk.not2 rfl rfl rfl) ?_
       refine WH.skip (OpOk.not2 rfl rfl rfl) ?_
       refine WH.skip (OpOk.not2 rfl rfl rfl) ?_
       refine WH.skip (OpOk.not2 rfl rfl rfl) ?_
       refine WH.skip (OpOk.not2 rfl rfl rfl) ?_
       refine WH.sk rfl rfl rfl hg6 ?_
       refine WH.val (O.pick_t rfl (G.ne_f hg6) rfl rfl Taken.no) rfl rfl ?_
       refine WH.nil (E.to ?_)
       refine W.pick (K:=[(1,_),(3,_),(5,_),(6,_),(7,_),(8,_),(58,_)]) (Z:=[(101,_),(102,_)]) ⟨rfl,rfl,rfl,rfl,rfl,rfl,rfl,trivial⟩ ⟨rfl,rfl,trivial⟩ ?_
       refine W.cond_t rfl ?_
       refine W.rg (SL.an rfl rfl (SL.an rfl rfl (SL.an rfl rfl (E.fo (W.ret (E.thr ?_))))))
       refine E.nilsl 6 1 rfl ?_
       refine E.fin (rs := [_, _, _]) (rn []) (.inl rfl) rfl (.cons (ResOne.tmp rfl) (.cons (ResOne.tmp rfl) (.cons (ResOne.tmp rfl) .nil))) ?_ ?_ rfl (fixL_spec rfl)
       ·skip
        first | ((have hno : ¬ posR n (barL rs) (atomsL n rs) m ⟨u, f, t⟩ := fun q => by ((obtain ⟨⟨q1, q2, q3, q4, q5⟩, q6, q7, q8⟩ := preR_iff.1 q.1); (try simp only [Int.toNat_natCast] at q6 q7 q8); (first | omega | (have q5 := q5 (by omega); simp_all) | (have q6 := q6 (by omega); omega)))); rw [(apR_n hno).1, (apR_n hno).2, dec_f hno]; rfl)
       · exact SubS.nil
     ·skip
      first | have hg5p := G.gA5 hg5 | have hg5p := G.gA6 hg5 | have hg5p := hg5
      refine WH.sk rfl rfl rfl hg5 (WH.sk rfl rfl rfl hg5 ?_)
      refine WH.val (O.pick_f rfl (G.ne_t hg5) rfl rfl (Taken.yes rfl rfl hg4)) rfl rfl ?_
      refine WH.val (O.pick_f rfl hg4 rfl rfl Taken.no) rfl rfl ?_
      refine WH.mv rfl rfl rfl ?_
      have hg20 : false = false := by decide
      refine WH.val (O.fld_ref (o' := 2) rfl Try.underlying57 rfl (m := 0) (by kernel_rfl) rfl rfl (Taken.yes rfl rfl hg20)) rfl rfl ?_
      refine WH.val (O.ld1 (PtI.ref rfl rfl) rfl Try.underlying3 rfl rfl (Taken.yes rfl rfl hg20)) rfl rfl ?_
      refine WH.val (O.det (fun _ => G.R.mv (G.R.geq rfl rfl) (congrArg Value.bool (decide_eq_true (by omega)))) rfl (Taken.yes rfl rfl hg20)) rfl rfl ?_
      refine WH.val (O.move rfl rfl (Taken.yes rfl rfl hg20)) rfl rfl ?_
      have hg21 : true = true := by decide
      refine WH.val (O.move rfl rfl (Taken.yes rfl rfl hg21)) rfl rfl ?_
      refine WH.val (O.fld_ref (o' := 2) rfl Try.underlying57 rfl (m := 0) (by kernel_rfl) rfl rfl (Taken.yes rfl rfl hg21)) rfl rfl ?_
      refine WH.val (O.ld1 (PtI.ref rfl rfl) rfl Try.underlying3 rfl rfl (Taken.yes rfl rfl hg21)) rfl rfl ?_
      refine WH.val (O.idx_fz (i := t.toNat) rfl rfl (by omega) (row_get (by omega)) Try.underlying39 hi3 hs3 rfl (Taken.yes rfl rfl hg21)) rfl rfl ?_
      refine WH.val (O.ld1 (PtI.ofU (PtU.fz rfl)) rfl Try.underlying3 rfl rfl (Taken.yes rfl rfl hg21)) rfl rfl ?_
      refine WH.val (O.fld_ref (o' := 2) rfl Try.underlying57 rfl (m := 0) (by kernel_rfl) rfl rfl (Taken.yes rfl rfl hg21)) rfl rfl ?_
      refine WH.val (O.ld1 (PtI.ref rfl rfl) rfl Try.underlying3 rfl rfl (Taken.yes rfl rfl hg21)) rfl rfl ?_
      refine WH.val (O.det (fun _ => G.R.neq rfl rfl) rfl (Taken.yes rfl rfl hg21)) rfl rfl ?_
      refine WH.val (O.pick_t rfl rfl rfl rfl (Taken.yes rfl rfl hg20)) rfl rfl ?_
      refine WH.val (O.pick_f rfl rfl rfl rfl Taken.no) rfl rfl ?_
      refine WH.nil (E.to ?_)
      refine W.pick (K:=[(1,_),(3,_),(5,_),(6,_),(7,_),(8,_),(58,_)]) (Z:=[(101,_),(102,_)]) ⟨rfl,rfl,rfl,rfl,rfl,rfl,rfl,trivial⟩ ⟨rfl,rfl,trivial⟩ ?_
      first | refine W.cond_d rfl (fun hc22 => ?_) (fun hc22 => ?_) | refine W.cond_nd rfl (fun hc22 => ?_) (fun hc22 => ?_) | refine W.cond rfl (fun hc22 => ?_) (fun hc22 => ?_)
      ·skip
       refine W.rg (SL.an rfl rfl (SL.an rfl rfl (SL.an rfl rfl (E.fo (W.ret (E.thr ?_))))))
       refine E.nilsl 6 1 rfl ?_
       refine E.fin (rs := [_, _, _]) (rn []) (.inl rfl) rfl (.cons (ResOne.tmp rfl) (.cons (ResOne.tmp rfl) (.cons (ResOne.tmp rfl) .nil))) ?_ ?_ rfl (fixL_spec rfl)
       ·skip
        first | ((have hno : ¬ posR n (barL rs) (atomsL n rs) m ⟨u, f, t⟩ := fun q => by ((obtain ⟨⟨q1, q2, q3, q4, q5⟩, q6, q7, q8⟩ := preR_iff.1 q.1); (try simp only [Int.toNat_natCast] at q6 q7 q8); (first | omega | (have q5 := q5 (by omega); simp_all) | (have q6 := q6 (by omega); omega)))); rw [(apR_n hno).1, (apR_n hno).2, dec_f hno]; rfl)
       · exact SubS.nil
      ·skip
       refine W.skip (E.to (W.rg ?_))
       obtain ⟨t, rfl⟩ : ∃ k : Nat, t = (k : Int) := ⟨t.toNat, by omega⟩
       have hmt : m[t]! = t := by first | omega | (simp only [Int.toNat_natCast] at *; omega)
       obtain ⟨f, rfl⟩ : ∃ k : Nat, f = (k : Int) := ⟨f.toNat, by omega⟩
       refine SL.val (O.ldN (m := 3) (PtI.ref rfl rfl) (js := [_, _, _]) rfl (Nat.le_of_ble_eq_true rfl) Try.underlying25 rfl (by kernel_rfl) rfl Taken.no) ?_
       refine SL.memS (O.call (rn [(0, 109)]) [] rfl rfl rfl (refatoms_h hf) (.cons (ArgOk.aggU (.cons (ArgOk.same rfl) (.cons (ArgOk.same rfl) (.cons (ArgOk.same rfl) .nil)))) .nil) SubS.nil rfl rfl rfl rfl rfl (.inl rfl) hcallOk37 (r' := .own 109) rfl rfl Taken.no) rfl rfl (S' := (109, .data _ _ _) :: _) rfl ?_
       refine SL.an rfl rfl (E.fo (W.rg ?_))
       refine SL.memS (O.buildSlice 110 (rows := ([] : List Nat).map eN) rfl rfl Try.underlying39 hi3 hz3 hs3 (by decide) rfl (by decide) rfl rfl rfl Taken.no) rfl rfl (S' := (110, .data 3 1 (([] : List Nat).map eN)) :: _) rfl ?_
       refine SL.mv rfl rfl ?_
       refine SL.memS (O.app (k' := 111) rfl rfl (SlOf.fz rfl (by decide)) Try.underlying39 hi3 hz3 hs3 rfl rfl (by exact List.nil_append _) (by rw [hb3]; (simp only [List.length_map, List.length_nil]; omega)) (by (simp only [List.length_map, List.length_nil]; omega)) rfl Taken.no) rfl rfl (S' := (111, _) :: (110, .dead) :: _) rfl ?_
       refine SL.an rfl rfl (E.fo (W.seq (W.rg ?_)))
       refine SL.val (O.fld_ref (o' := 0) rfl Try.underlying57 rfl (m := 0) (by kernel_rfl) rfl rfl Taken.no) ?_
       refine SL.val (O.ld1 (PtI.ref rfl rfl) rfl Try.underlying4 rfl rfl Taken.no) ?_
       refine E.fo ?_
       first | refine W.cond_d rfl (fun hc23 => ?_) (fun hc23 => ?_) | refine W.cond_nd rfl (fun hc23 => ?_) (fun hc23 => ?_) | refine W.cond rfl (fun hc23 => ?_) (fun hc23 => ?_)
       ·skip
        obtain rfl : u = true := by simp_all
        refine W.seq (W.seq ?_)
        refine W.draw [⟨[], [], [], []⟩, ⟨[], [], [], [102]⟩, ⟨[102], [], [], []⟩, ⟨[], [], [], []⟩, ⟨[], [], [], []⟩, ⟨[], [], [], [102]⟩, ⟨[102], [], [], []⟩, ⟨[], [], [], []⟩, ⟨[], [], [], []⟩, ⟨[], [], [], [102]⟩, ⟨[102], [], [], []⟩, ⟨[], [], [], [102]⟩, ⟨[102], [], [], []⟩, ⟨[], [], [], []⟩, ⟨[], [], [], []⟩] rfl (by kernel_rfl) (by kernel_rfl) rfl rfl ?_
        refine WH.mv rfl rfl rfl ?_
        refine WH.val (O.fld_ref (o' := 1) rfl Try.underlying57 rfl (m := 0) (by kernel_rfl) rfl rfl Taken.no) rfl rfl ?_
        refine WH.val (O.ld1 (PtI.ref rfl rfl) rfl Try.underlying3 rfl rfl Taken.no) rfl rfl ?_
        refine WH.val (O.idx_fz (i := f) rfl rfl (rfl) (row_get (by omega)) Try.underlying39 hi3 hs3 rfl Taken.no) rfl rfl ?_
        refine WH.val (O.ld1 (PtI.ofU (PtU.fz rfl)) rfl Try.underlying3 rfl rfl Taken.no) rfl rfl ?_
        refine WH.val (O.fld_ref (o' := 1) rfl Try.underlying57 rfl (m := 0) (by kernel_rfl) rfl rfl Taken.no) rfl rfl ?_
        refine WH.val (O.ld1 (PtI.ref rfl rfl) rfl Try.underlying3 rfl rfl Taken.no) rfl rfl ?_
        refine WH.val (O.det (fun _ => G.R.neq rfl rfl) rfl Taken.no) rfl rfl ?_
        refine WH.mv rfl rfl rfl ?_
        refine WH.case (j := 8) (g := 74) (want := false) rfl rfl (fun hg24 => ?_) (fun hg24 => ?_)
        ·skip
         first | have hg24p := G.gA3 hg24 | have hg24p := G.gA4 hg24 | have hg24p := hg24
         refine WH.val (O.fld_ref (o' := 1) rfl Try.underlying57 rfl (m := 0) (by kernel_rfl) rfl rfl (Taken.yes rfl rfl hg24)) rfl rfl ?_
         refine WH.val (O.ld1 (PtI.ref rfl rfl) rfl Try.underlying3 rfl rfl (Taken.yes rfl rfl hg24)) rfl rfl ?_
         refine WH.val (O.fld_ref (o' := 2) rfl Try.underlying57 rfl (m := 0) (by kernel_rfl) rfl rfl (Taken.yes rfl rfl hg24)) rfl rfl ?_
         refine WH.val (O.ld1 (PtI.ref rfl rfl) rfl Try.underlying3 rfl rfl (Taken.yes rfl rfl hg24)) rfl rfl ?_
         refine WH.val (O.det (fun _ => G.R.geq rfl rfl) rfl (Taken.yes rfl rfl hg24)) rfl rfl ?_
         refine WH.val (O.pick_f rfl hg24 rfl rfl Taken.no) rfl rfl ?_
         refine WH.nil (E.to ?_)
         refine W.pick (K:=[(1,_),(3,_),(5,_),(6,_),(7,_),(8,_),(10,_),(80,_)]) (Z:=[(101,_),(102,_),(109,_),(111,_)]) ⟨rfl,rfl,rfl,rfl,rfl,rfl,rfl,rfl,trivial⟩ ⟨rfl,rfl,rfl,rfl,trivial⟩ ?_
         first | refine W.cond_d rfl (fun hc25 => ?_) (fun hc25 => ?_) | refine W.cond_nd rfl (fun hc25 => ?_) (fun hc25 => ?_) | refine W.cond rfl (fun hc25 => ?_) (fun hc25 => ?_)
         ·skip
          refine W.rg (SL.an rfl rfl (SL.an rfl rfl (SL.an rfl rfl (E.fo (W.ret (E.thr (E.thr ?_)))))))
          refine E.nilsl 6 1 rfl ?_
          refine E.fin (rs := [_, _, _]) (rn []) (.inl rfl) rfl (.cons (ResOne.tmp rfl) (.cons (ResOne.tmp rfl) (.cons (ResOne.tmp rfl) .nil))) ?_ ?_ rfl (fixL_spec rfl)
          ·skip
           first | ((have hno : ¬ posR n (barL rs) (atomsL n rs) m ⟨true, (f : Int), (t : Int)⟩ := fun q => by ((obtain ⟨⟨q1, q2, q3, q4, q5⟩, q6, q7, q8⟩ := preR_iff.1 q.1); (try simp only [Int.toNat_natCast] at q6 q7 q8); (have q7 := q7 (by trivial); omega))); rw [(apR_n hno).1, (apR_n hno).2, dec_f hno]; rfl)
          · exact SubS.nil
         ·skip
          refine W.skip (E.to (W.region (SL.mv rfl rfl ?_)))
          refine SL.val (O.fld_ref (o' := 1) rfl Try.underlying57 rfl (m := 0) (by kernel_rfl) rfl rfl Taken.no) ?_
          refine SL.val (O.ld1 (PtI.ref rfl rfl) rfl Try.underlying3 rfl rfl Taken.no) ?_
          refine SL.val (O.fld_ref (o' := 2) rfl Try.underlying57 rfl (m := 0) (by kernel_rfl) rfl rfl Taken.no) ?_
          refine SL.val (O.ld1 (PtI.ref rfl rfl) rfl Try.underlying3 rfl rfl Taken.no) ?_
          refine SL.memS (O.call (rn [(0, 111)]) [] rfl rfl rfl (join_h (l := m) (f : Int) (t : Int) (by omega) (by omega) (by omega)) (.cons (ArgOk.same rfl) (.cons (ArgOk.same rfl) (.cons (ArgOk.same rfl) .nil))) (SubS.cons rfl SubS.nil) rfl rfl rfl rfl rfl (.inl rfl) hcallOk57 (r' := .tup []) rfl rfl Taken.no) rfl rfl (S' := (111, .data _ _ _) :: _) rfl ?_
          refine E.fo (W.seq (W.rg ?_))
          obtain ⟨s, hs⟩ : ∃ s : Stp, s = ⟨true, (f : Int), (t : Int)⟩ := ⟨_, rfl⟩
          have hX : joinL m f t = (labL n (atomsL n rs) m s) := by rw [hs]; rfl
          have hpre : preR n (atomsL n rs) m s := by rw [hs]; exact preR_iff.2 ⟨⟨by omega, by omega, by omega, by omega, fun h => by exfalso; omega⟩, fun _ => by show m[t]! = t; omega, fun _ => ⟨by show m[f]! = f; omega, by omega⟩, fun h => (by cases h)⟩
          rw [show joinL m ((f : Int)).toNat ((t : Int)).toNat = joinL m f t from rfl, hX]
          have hll : (labL n (atomsL n rs) m s).length = n := labL_len hml
          refine SL.val (O.ldN (m := 3) (PtI.ref rfl rfl) (js := [_, _, _]) rfl (Nat.le_of_ble_eq_true rfl) Try.underlying25 rfl (by kernel_rfl) rfl Taken.no) ?_
          refine SL.mv rfl rfl ?_
          refine SL.memS (O.call (rn []) [111] rfl rfl rfl (refapart_h hf (m := (labL n (atomsL n rs) m s)) hll) (.cons (ArgOk.aggU (.cons (ArgOk.same rfl) (.cons (ArgOk.same rfl) (.cons (ArgOk.same rfl) .nil)))) (.cons (ArgOk.own rfl rfl) .nil)) SubS.nil rfl rfl rfl rfl rfl (.inr ⟨rfl, fun x hx => by simp at hx⟩) hcallOk36 (r' := .u _) rfl rfl Taken.no) rfl rfl (S' := _) rfl ?_
          refine SL.val (O.det (fun _ => G.R.not rfl) rfl Taken.no) ?_
          refine E.fo ?_
          first | refine W.cond_d rfl (fun hc26 => ?_) (fun hc26 => ?_) | refine W.cond_nd rfl (fun hc26 => ?_) (fun hc26 => ?_) | refine W.cond rfl (fun hc26 => ?_) (fun hc26 => ?_)
          ·skip
           refine W.rg (SL.an rfl rfl (SL.an rfl rfl (SL.an rfl rfl (E.fo (W.ret (E.thr ?_))))))
           refine E.nilsl 6 1 rfl ?_
           refine E.fin (rs := [_, _, _]) (rn []) (.inl rfl) rfl (.cons (ResOne.tmp rfl) (.cons (ResOne.tmp rfl) (.cons (ResOne.tmp rfl) .nil))) ?_ ?_ rfl (fixL_spec rfl)
           ·skip
            have hno : ¬ posR n (barL rs) (atomsL n rs) m s := fun q => by have q2 := q.2; simp_all
            rw [← hs, (apR_n hno).1, (apR_n hno).2, dec_f hno]; rfl
           · exact SubS.nil
          ·skip
           refine W.skip (E.to (W.rg ?_))
           refine SL.val (O.ldN (m := 3) (PtI.ref rfl rfl) (js := [_, _, _]) rfl (Nat.le_of_ble_eq_true rfl) Try.underlying25 rfl (by kernel_rfl) rfl Taken.no) ?_
           refine SL.mv rfl rfl ?_
           refine SL.memS (O.call (rn [(0, 112)]) [111] rfl rfl rfl (refconn_h hf (m := (labL n (atomsL n rs) m s)) hll) (.cons (ArgOk.aggU (.cons (ArgOk.same rfl) (.cons (ArgOk.same rfl) (.cons (ArgOk.same rfl) .nil)))) (.cons (ArgOk.own rfl rfl) .nil)) SubS.nil rfl rfl rfl rfl rfl (.inr ⟨rfl, fun x hx => by rw [List.mem_singleton] at hx; subst hx; exact flat_N _⟩) hcallOk43 (r' := .own 112) rfl rfl Taken.no) rfl rfl (S' := (112, .data _ _ _) :: _) rfl ?_
           refine SL.an rfl rfl (E.fo (W.seq ?_))
           refine W.freeze 112 rfl (F' := [(10, _)]) (⟨⟨_, rfl, rfl⟩, trivial⟩) ?_
           refine W.draw [⟨[], [], [], []⟩, ⟨[101], [], [], []⟩, ⟨[], [], [], []⟩, ⟨[], [], [], []⟩, ⟨[101], [], [], []⟩, ⟨[], [], [], []⟩, ⟨[], [], [], []⟩, ⟨[], [], [], []⟩, ⟨[], [], [], []⟩, ⟨[], [], [], []⟩, ⟨[], [], [], []⟩] rfl (by kernel_rfl) (by kernel_rfl) rfl rfl ?_
           refine WH.mv rfl rfl rfl ?_
           refine WH.val (O.ldN (m := 3) (PtI.ref rfl rfl) (js := [_, _, _]) rfl (Nat.le_of_ble_eq_true rfl) Try.underlying25 rfl (by kernel_rfl) rfl Taken.no) rfl rfl ?_
           refine WH.mv rfl rfl rfl ?_
           refine WH.val (O.callp rfl rfl rfl (refvalue_h hf (m := resR n ps rs m s) (res_comp hf m s).len hpl) (.cons (ArgOk.aggU (.cons (ArgOk.same rfl) (.cons (ArgOk.same rfl) (.cons (ArgOk.same rfl) .nil)))) (.cons (ArgOk.same rfl) .nil)) hcallOk48 rfl Taken.no) rfl rfl ?_
           refine WH.val (O.ldN (m := 3) (PtI.ref rfl rfl) (js := [_, _, _]) rfl (Nat.le_of_ble_eq_true rfl) Try.underlying25 rfl (by kernel_rfl) rfl Taken.no) rfl rfl ?_
           refine WH.mv rfl rfl rfl ?_
           refine WH.val (O.callp rfl rfl rfl (refvalue_h hf (m := m) hml hpl) (.cons (ArgOk.aggU (.cons (ArgOk.same rfl) (.cons (ArgOk.same rfl) (.cons (ArgOk.same rfl) .nil)))) (.cons (ArgOk.same rfl) .nil)) hcallOk48 rfl Taken.no) rfl rfl ?_
           have hv1 := valR_le hf (resR n ps rs m s)
           have hv2 := valR_le hf m
           refine WH.val (O.det (fun _ => by first | exact G.R.sub64 rfl rfl (by omega) | exact G.R.sub rfl rfl) rfl Taken.no) rfl rfl ?_
           refine WH.val (O.assign rfl rfl Taken.no) rfl rfl ?_
           refine WH.val (O.assign rfl rfl Taken.no) rfl rfl ?_
           refine WH.val (O.assign rfl rfl Taken.no) rfl rfl ?_
           refine WH.nil (E.to ?_)
           refine W.pick (K:=[(6,_),(7,_),(8,_)]) (Z:=[(101,_),(102,_),(109,_),(111,_)]) ⟨rfl,rfl,rfl,trivial⟩ ⟨rfl,rfl,rfl,rfl,trivial⟩ ?_
           refine W.ret ?_
           refine E.fin (rs := [_, _, _]) (rn []) (.inl rfl) rfl (.cons (ResOne.tmp rfl) (.cons (ResOne.tmp rfl) (.cons (ResOne.tmp rfl) .nil))) ?_ ?_ rfl (fixL_spec rfl)
           ·skip
            have hyes : posR n (barL rs) (atomsL n rs) m s := ⟨hpre, by simp_all⟩
            rw [← hs, (apR_y hyes).1, (apR_y hyes).2, dec_t hyes]; rfl
           · exact SubS.nil
        ·skip
         first | have hg24p := G.gA7 hg24 | have hg24p := G.gA8 hg24 | have hg24p := hg24
         refine WH.sk rfl rfl rfl hg24 (WH.sk rfl rfl rfl hg24 (WH.sk rfl rfl rfl hg24 (WH.sk rfl rfl rfl hg24 (WH.sk rfl rfl rfl hg24 ?_))))
         refine WH.val (O.pick_t rfl (G.ne_f hg24) rfl rfl Taken.no) rfl rfl ?_
         refine WH.nil (E.to ?_)
         refine W.pick (K:=[(1,_),(3,_),(5,_),(6,_),(7,_),(8,_),(10,_),(80,_)]) (Z:=[(101,_),(102,_),(109,_),(111,_)]) ⟨rfl,rfl,rfl,rfl,rfl,rfl,rfl,rfl,trivial⟩ ⟨rfl,rfl,rfl,rfl,trivial⟩ ?_
         refine W.cond_t rfl ?_
         refine W.rg (SL.an rfl rfl (SL.an rfl rfl (SL.an rfl rfl (E.fo (W.ret (E.thr (E.thr ?_)))))))
         refine E.nilsl 6 1 rfl ?_
         refine E.fin (rs := [_, _, _]) (rn []) (.inl rfl) rfl (.cons (ResOne.tmp rfl) (.cons (ResOne.tmp rfl) (.cons (ResOne.tmp rfl) .nil))) ?_ ?_ rfl (fixL_spec rfl)
         ·skip
          first | ((have hno : ¬ posR n (barL rs) (atomsL n rs) m ⟨true, (f : Int), (t : Int)⟩ := fun q => by ((obtain ⟨⟨q1, q2, q3, q4, q5⟩, q6, q7, q8⟩ := preR_iff.1 q.1); (try simp only [Int.toNat_natCast] at q6 q7 q8); (have q7 := q7 (by trivial); omega))); rw [(apR_n hno).1, (apR_n hno).2, dec_f hno]; rfl)
         · exact SubS.nil
       ·skip
        obtain rfl : u = false := by simp_all
        obtain ⟨s, hs⟩ : ∃ s : Stp, s = ⟨false, (f : Int), (t : Int)⟩ := ⟨_, rfl⟩
        have hfe : s.f.toNat = f := by rw [hs]; rfl
        have hue : s.u = false := by rw [hs]
        have hte : (if s.t < 0 then n else s.t.toNat) = t := by rw [hs]; exact if_neg (by show ¬ ((t : Int) < 0); omega)
        refine W.rg (SL.an rfl rfl (E.fo (W.seq (W.rg (SL.an rfl rfl (E.fo (W.block ?_)))))))
        refine W.loopx1 (fun (k : Nat) => [(12, vI (k : Int)), (11, vB (othR k (atomsL n rs) m f)), (10, .own 113)]) (fun (k : Nat) => [(113, .data 3 1 ((mvK n k (atomsL n rs) m s).map eN))]) (fun (k : Nat) => k ≤ n) (fun (k : Nat) => n - k) (0) (rn [(113, 111)]) (.cons (t := 1) rfl (.cons (t := 3) rfl (.cons (t := 5) rfl (.cons (t := 6) rfl (.cons (t := 7) rfl (.cons (t := 8) rfl (.cons (t := 9) rfl .nil))))))) (.cons (t := 101) rfl (.cons (t := 102) rfl (.cons (t := 109) rfl .nil))) rfl ?_ ?_ rfl rfl ?_ ?_
        · exact (SubF.cons rfl (SubF.cons rfl (SubF.cons rfl SubF.nil)))
        · exact (SubS.val rfl (by exact sb_data (by rw [mvK_0 hml])) SubS.nil)
        ·skip
         omega
        intro k hinv
        have hk := hinv
        have hmkl : (mvK n k (atomsL n rs) m s).length = n := mvK_len
        refine W.seq (W.rg (SL.mv rfl rfl ?_))
        refine SL.val (O.fld_ref (o' := 0) rfl Try.underlying25 rfl (m := 0) (by kernel_rfl) rfl rfl Taken.no) ?_
        refine SL.val (O.ld1 (PtI.ref rfl rfl) rfl Try.underlying3 rfl rfl Taken.no) ?_
        refine SL.val (O.det (fun _ => G.R.lss rfl rfl) rfl Taken.no) ?_
        refine E.fo ?_
        first | refine W.cond_d rfl (fun hc27 => ?_) (fun hc27 => ?_) | refine W.cond_nd rfl (fun hc27 => ?_) (fun hc27 => ?_) | refine W.cond rfl (fun hc27 => ?_) (fun hc27 => ?_)
        ·skip
         refine W.skip (E.to (W.seq (W.block (W.seq ?_))))
         refine W.draw [⟨[], [], [], []⟩, ⟨[], [], [], []⟩, ⟨[], [], [], []⟩, ⟨[], [], [], []⟩, ⟨[], [], [], []⟩, ⟨[], [], [], []⟩, ⟨[], [], [], []⟩, ⟨[], [], [], [102]⟩, ⟨[102], [], [], []⟩, ⟨[], [], [], []⟩, ⟨[], [], [], []⟩, ⟨[], [], [], []⟩, ⟨[], [], [], []⟩, ⟨[], [], [], [109]⟩, ⟨[], [], [], []⟩, ⟨[109], [], [], []⟩, ⟨[109], [], [], []⟩, ⟨[], [], [], [102]⟩, ⟨[102], [], [], []⟩, ⟨[], [], [], []⟩, ⟨[], [], [], []⟩, ⟨[], [], [], []⟩, ⟨[], [], [], []⟩] rfl (by kernel_rfl) (by kernel_rfl) rfl rfl ?_
         refine WH.mv rfl rfl rfl (WH.mv rfl rfl rfl ?_)
         refine WH.case (j := 1) (g := 94) (want := false) rfl rfl (fun hg28 => ?_) (fun hg28 => ?_)
         ·skip
          first | have hg28p := G.gA3 hg28 | have hg28p := G.gA4 hg28 | have hg28p := hg28
          refine WH.val (O.move rfl rfl (Taken.yes rfl rfl hg28)) rfl rfl ?_
          refine WH.val (O.move rfl rfl (Taken.yes rfl rfl hg28)) rfl rfl ?_
          refine WH.val (O.idx_fz (i := k) rfl rfl (rfl) (row_get (by omega)) Try.underlying39 hi3 hs3 rfl (Taken.yes rfl rfl hg28)) rfl rfl ?_
          refine WH.val (O.ld1 (PtI.ofU (PtU.fz rfl)) rfl Try.underlying3 rfl rfl (Taken.yes rfl rfl hg28)) rfl rfl ?_
          refine WH.val (O.move rfl rfl (Taken.yes rfl rfl hg28)) rfl rfl ?_
          refine WH.val (O.fld_ref (o' := 1) rfl Try.underlying57 rfl (m := 0) (by kernel_rfl) rfl rfl (Taken.yes rfl rfl hg28)) rfl rfl ?_
          refine WH.val (O.ld1 (PtI.ref rfl rfl) rfl Try.underlying3 rfl rfl (Taken.yes rfl rfl hg28)) rfl rfl ?_
          refine WH.val (O.idx_fz (i := f) rfl rfl (rfl) (row_get (by omega)) Try.underlying39 hi3 hs3 rfl (Taken.yes rfl rfl hg28)) rfl rfl ?_
          refine WH.val (O.ld1 (PtI.ofU (PtU.fz rfl)) rfl Try.underlying3 rfl rfl (Taken.yes rfl rfl hg28)) rfl rfl ?_
          refine WH.val (O.det (fun _ => G.R.eql rfl rfl) rfl (Taken.yes rfl rfl hg28)) rfl rfl ?_
          refine WH.val (O.move rfl rfl (Taken.yes rfl rfl hg28)) rfl rfl ?_
          refine WH.case (j := 12) (g := 105) (want := true) rfl rfl (fun hg29 => ?_) (fun hg29 => ?_)
          ·skip
           first | have hg29p := G.gA1 hg29 | have hg29p := G.gA2 hg29 | have hg29p := hg29
           refine WH.val (O.move rfl rfl (Taken.yes rfl rfl hg29)) rfl rfl ?_
           refine WH.val (O.move rfl rfl (Taken.yes rfl rfl hg29)) rfl rfl ?_
           refine WH.val (O.idx_own (i := k) rfl rfl rfl (rfl) (by rw [List.length_map]; omega) Try.underlying39 hi3 hs3 rfl (Taken.yes rfl rfl hg29)) rfl rfl ?_
           refine WH.val (O.ld1 (PtI.ofU (PtU.el rfl rfl (row_get (by omega)))) rfl Try.underlying3 rfl rfl (Taken.yes rfl rfl hg29)) rfl rfl ?_
           refine WH.val (O.fld_ref (o' := 1) rfl Try.underlying57 rfl (m := 0) (by kernel_rfl) rfl rfl (Taken.yes rfl rfl hg29)) rfl rfl ?_
           refine WH.val (O.ld1 (PtI.ref rfl rfl) rfl Try.underlying3 rfl rfl (Taken.yes rfl rfl hg29)) rfl rfl ?_
           refine WH.val (O.det (fun _ => G.R.neq rfl rfl) rfl (Taken.yes rfl rfl hg29)) rfl rfl ?_
           refine WH.val (O.pick_t rfl hg29 rfl rfl (Taken.yes rfl rfl hg28)) rfl rfl ?_
           refine WH.val (O.pick_f rfl hg28 rfl rfl Taken.no) rfl rfl ?_
           refine WH.val (O.assign rfl rfl Taken.no) rfl rfl ?_
           refine WH.nil (E.to ?_)
           refine W.pick (K:=[(1,_),(3,_),(5,_),(6,_),(7,_),(8,_),(9,_),(10,_),(11,_),(12,_)]) (Z:=[(101,_),(102,_),(109,_),(113,_)]) ⟨rfl,rfl,rfl,rfl,rfl,rfl,rfl,rfl,rfl,rfl,trivial⟩ ⟨rfl,rfl,rfl,rfl,trivial⟩ ?_
           refine W.seq ?_
           refine W.draw [⟨[], [], [], [109]⟩, ⟨[], [], [], []⟩, ⟨[109], [], [], []⟩, ⟨[109], [], [], []⟩, ⟨[], [], [], [102]⟩, ⟨[102], [], [], []⟩, ⟨[], [], [], []⟩] rfl (by kernel_rfl) (by kernel_rfl) rfl rfl ?_
           refine WH.mv rfl rfl rfl (WH.mv rfl rfl rfl ?_)
           refine WH.val (O.idx_own (i := k) rfl rfl rfl (rfl) (by rw [List.length_map]; omega) Try.underlying39 hi3 hs3 rfl Taken.no) rfl rfl ?_
           refine WH.val (O.ld1 (PtI.ofU (PtU.el rfl rfl (row_get (by omega)))) rfl Try.underlying3 rfl rfl Taken.no) rfl rfl ?_
           refine WH.val (O.fld_ref (o' := 1) rfl Try.underlying57 rfl (m := 0) (by kernel_rfl) rfl rfl Taken.no) rfl rfl ?_
           refine WH.val (O.ld1 (PtI.ref rfl rfl) rfl Try.underlying3 rfl rfl Taken.no) rfl rfl ?_
           refine WH.val (O.det (fun _ => G.R.eql rfl rfl) rfl Taken.no) rfl rfl ?_
           refine WH.nil (E.to ?_)
           first | refine W.cond_d rfl (fun hc30 => ?_) (fun hc30 => ?_) | refine W.cond_nd rfl (fun hc30 => ?_) (fun hc30 => ?_) | refine W.cond rfl (fun hc30 => ?_) (fun hc30 => ?_)
           ·skip
            refine W.rg (SL.mv rfl rfl (SL.mv rfl rfl ?_))
            refine SL.val (O.fld_ref (o' := 2) rfl Try.underlying57 rfl (m := 0) (by kernel_rfl) rfl rfl Taken.no) ?_
            refine SL.val (O.ld1 (PtI.ref rfl rfl) rfl Try.underlying3 rfl rfl Taken.no) ?_
            refine SL.val (O.idx_own (i := k) rfl rfl rfl (rfl) (by rw [List.length_map]; omega) Try.underlying39 hi3 hs3 rfl Taken.no) ?_
            refine SL.effS (O.st_els (m := 1) rfl rfl rfl (us := [_]) rfl rfl (by kernel_rfl) (by simp) (row_get (by omega)) (by exact Nat.le_of_ble_eq_true rfl) rfl rfl (rows' := ((mvK n k (atomsL n rs) m s).set k t).map eN) (by exact set_map rfl) Taken.no) (S' := (113, _) :: _) rfl ?_
            refine E.fo (W.rg ?_)
            refine SL.val (O.fld_ref (o' := 2) rfl Try.underlying57 rfl (m := 0) (by kernel_rfl) rfl rfl Taken.no) ?_
            refine SL.val (O.ld1 (PtI.ref rfl rfl) rfl Try.underlying3 rfl rfl Taken.no) ?_
            refine SL.val (O.det (fun _ => G.R.mv (G.R.eql rfl rfl) (congrArg Value.bool (decide_eq_false (by omega)))) rfl Taken.no) ?_
            refine E.fo ?_
            refine W.pick (K:=[(1,_),(3,_),(5,_),(6,_),(7,_),(8,_),(9,_),(10,_),(11,_),(12,_),(129,_)]) (Z:=[(101,_),(102,_),(109,_),(113,_)]) ⟨rfl,rfl,rfl,rfl,rfl,rfl,rfl,rfl,rfl,rfl,rfl,trivial⟩ ⟨rfl,rfl,rfl,rfl,trivial⟩ ?_
            refine W.cond_f rfl ?_
            refine W.skip (E.inn (E.to (W.region (SL.mv rfl rfl ?_))))
            refine SL.val (O.det (fun _ => by first | exact G.R.add64 rfl rfl (by omega) | exact G.R.add rfl rfl) rfl Taken.no) ?_
            refine SL.an rfl rfl (SL.nil ?_)
            refine E.again ((k + 1)) (rn []) ?_ ?_ rfl (fixL_spec rfl) ?_ ?_
            · exact (SubF.cons rfl (SubF.val rfl (by (try dsimp only); exact iv_bool (by rw [oth_s]; (first | (simp_all; done) | (simp_all <;> omega)))) (SubF.cons rfl (SubF.cons rfl (SubF.cons rfl (SubF.cons rfl (SubF.cons rfl (SubF.cons rfl (SubF.cons rfl (SubF.cons rfl SubF.nil))))))))))
            · exact (SubS.val rfl (by (try dsimp only); first | exact sb_data (by rw [mvK_no (by omega) (by rw [hfe]; omega)]) | exact sb_data (by rw [mvK_y (by omega) (by rw [hfe]; omega), hte]; exact set2) | exact sb_data (by rw [mvK_y (by omega) (by rw [hfe]; omega), hte])) (SubS.cons rfl (SubS.cons rfl (SubS.cons rfl SubS.nil))))
            ·try dsimp only
             omega
            · (try dsimp only); omega
           ·skip
            refine W.skip (E.inn (E.to (W.region (SL.mv rfl rfl ?_))))
            refine SL.val (O.det (fun _ => by first | exact G.R.add64 rfl rfl (by omega) | exact G.R.add rfl rfl) rfl Taken.no) ?_
            refine SL.an rfl rfl (SL.nil ?_)
            refine E.again ((k + 1)) (rn []) ?_ ?_ rfl (fixL_spec rfl) ?_ ?_
            · exact (SubF.cons rfl (SubF.val rfl (by (try dsimp only); exact iv_bool (by rw [oth_s]; (first | (simp_all; done) | (simp_all <;> omega)))) (SubF.cons rfl (SubF.cons rfl (SubF.cons rfl (SubF.cons rfl (SubF.cons rfl (SubF.cons rfl (SubF.cons rfl (SubF.cons rfl SubF.nil))))))))))
            · exact (SubS.val rfl (by (try dsimp only); first | exact sb_data (by rw [mvK_no (by omega) (by rw [hfe]; omega)]) | exact sb_data (by rw [mvK_y (by omega) (by rw [hfe]; omega), hte]; exact set2) | exact sb_data (by rw [mvK_y (by omega) (by rw [hfe]; omega), hte])) (SubS.cons rfl (SubS.cons rfl (SubS.cons rfl SubS.nil))))
            ·try dsimp only
             omega
            · (try dsimp only); omega
          ·skip
           first | have hg29p := G.gA5 hg29 | have hg29p := G.gA6 hg29 | have hg29p := hg29
           refine WH.sk rfl rfl rfl hg29 (WH.sk rfl rfl rfl hg29 (WH.sk rfl rfl rfl hg29 (WH.sk rfl rfl rfl hg29 (WH.sk rfl rfl rfl hg29 (WH.sk rfl rfl rfl hg29 (WH.sk rfl rfl rfl hg29 ?_))))))
           refine WH.val (O.pick_f rfl (G.ne_t hg29) rfl rfl (Taken.yes rfl rfl hg28)) rfl rfl ?_
           refine WH.val (O.pick_f rfl hg28 rfl rfl Taken.no) rfl rfl ?_
           refine WH.val (O.assign rfl rfl Taken.no) rfl rfl ?_
           refine WH.nil (E.to ?_)
           refine W.pick (K:=[(1,_),(3,_),(5,_),(6,_),(7,_),(8,_),(9,_),(10,_),(11,_),(12,_)]) (Z:=[(101,_),(102,_),(109,_),(113,_)]) ⟨rfl,rfl,rfl,rfl,rfl,rfl,rfl,rfl,rfl,rfl,trivial⟩ ⟨rfl,rfl,rfl,rfl,trivial⟩ ?_
           refine W.seq ?_
           refine W.draw [⟨[], [], [], [109]⟩, ⟨[], [], [], []⟩, ⟨[109], [], [], []⟩, ⟨[109], [], [], []⟩, ⟨[], [], [], [102]⟩, ⟨[102], [], [], []⟩, ⟨[], [], [], []⟩] rfl (by kernel_rfl) (by kernel_rfl) rfl rfl ?_
           refine WH.mv rfl rfl rfl (WH.mv rfl rfl rfl ?_)
           refine WH.val (O.idx_own (i := k) rfl rfl rfl (rfl) (by rw [List.length_map]; omega) Try.underlying39 hi3 hs3 rfl Taken.no) rfl rfl ?_
           refine WH.val (O.ld1 (PtI.ofU (PtU.el rfl rfl (row_get (by omega)))) rfl Try.underlying3 rfl rfl Taken.no) rfl rfl ?_
           refine WH.val (O.fld_ref (o' := 1) rfl Try.underlying57 rfl (m := 0) (by kernel_rfl) rfl rfl Taken.no) rfl rfl ?_
           refine WH.val (O.ld1 (PtI.ref rfl rfl) rfl Try.underlying3 rfl rfl Taken.no) rfl rfl ?_
           refine WH.val (O.det (fun _ => G.R.eql rfl rfl) rfl Taken.no) rfl rfl ?_
           refine WH.nil (E.to ?_)
           first | refine W.cond_d rfl (fun hc31 => ?_) (fun hc31 => ?_) | refine W.cond_nd rfl (fun hc31 => ?_) (fun hc31 => ?_) | refine W.cond rfl (fun hc31 => ?_) (fun hc31 => ?_)
           ·skip
            refine W.rg (SL.mv rfl rfl (SL.mv rfl rfl ?_))
            refine SL.val (O.fld_ref (o' := 2) rfl Try.underlying57 rfl (m := 0) (by kernel_rfl) rfl rfl Taken.no) ?_
            refine SL.val (O.ld1 (PtI.ref rfl rfl) rfl Try.underlying3 rfl rfl Taken.no) ?_
            refine SL.val (O.idx_own (i := k) rfl rfl rfl (rfl) (by rw [List.length_map]; omega) Try.underlying39 hi3 hs3 rfl Taken.no) ?_
            refine SL.effS (O.st_els (m := 1) rfl rfl rfl (us := [_]) rfl rfl (by kernel_rfl) (by simp) (row_get (by omega)) (by exact Nat.le_of_ble_eq_true rfl) rfl rfl (rows' := ((mvK n k (atomsL n rs) m s).set k t).map eN) (by exact set_map rfl) Taken.no) (S' := (113, _) :: _) rfl ?_
            refine E.fo (W.rg ?_)
            refine SL.val (O.fld_ref (o' := 2) rfl Try.underlying57 rfl (m := 0) (by kernel_rfl) rfl rfl Taken.no) ?_
            refine SL.val (O.ld1 (PtI.ref rfl rfl) rfl Try.underlying3 rfl rfl Taken.no) ?_
            refine SL.val (O.det (fun _ => G.R.mv (G.R.eql rfl rfl) (congrArg Value.bool (decide_eq_false (by omega)))) rfl Taken.no) ?_
            refine E.fo ?_
            refine W.pick (K:=[(1,_),(3,_),(5,_),(6,_),(7,_),(8,_),(9,_),(10,_),(11,_),(12,_),(129,_)]) (Z:=[(101,_),(102,_),(109,_),(113,_)]) ⟨rfl,rfl,rfl,rfl,rfl,rfl,rfl,rfl,rfl,rfl,rfl,trivial⟩ ⟨rfl,rfl,rfl,rfl,trivial⟩ ?_
            refine W.cond_f rfl ?_
            refine W.skip (E.inn (E.to (W.region (SL.mv rfl rfl ?_))))
            refine SL.val (O.det (fun _ => by first | exact G.R.add64 rfl rfl (by omega) | exact G.R.add rfl rfl) rfl Taken.no) ?_
            refine SL.an rfl rfl (SL.nil ?_)
            refine E.again ((k + 1)) (rn []) ?_ ?_ rfl (fixL_spec rfl) ?_ ?_
            · exact (SubF.cons rfl (SubF.val rfl (by (try dsimp only); exact iv_bool (by rw [oth_s]; (first | (simp_all; done) | (simp_all <;> omega)))) (SubF.cons rfl (SubF.cons rfl (SubF.cons rfl (SubF.cons rfl (SubF.cons rfl (SubF.cons rfl (SubF.cons rfl (SubF.cons rfl SubF.nil))))))))))
            · exact (SubS.val rfl (by (try dsimp only); first | exact sb_data (by rw [mvK_no (by omega) (by rw [hfe]; omega)]) | exact sb_data (by rw [mvK_y (by omega) (by rw [hfe]; omega), hte]; exact set2) | exact sb_data (by rw [mvK_y (by omega) (by rw [hfe]; omega), hte])) (SubS.cons rfl (SubS.cons rfl (SubS.cons rfl SubS.nil))))
            ·try dsimp only
             omega
            · (try dsimp only); omega
           ·skip
            refine W.skip (E.inn (E.to (W.region (SL.mv rfl rfl ?_))))
            refine SL.val (O.det (fun _ => by first | exact G.R.add64 rfl rfl (by omega) | exact G.R.add rfl rfl) rfl Taken.no) ?_
            refine SL.an rfl rfl (SL.nil ?_)
            refine E.again ((k + 1)) (rn []) ?_ ?_ rfl (fixL_spec rfl) ?_ ?_
            · exact (SubF.cons rfl (SubF.val rfl (by (try dsimp only); exact iv_bool (by rw [oth_s]; (first | (simp_all; done) | (simp_all <;> omega)))) (SubF.cons rfl (SubF.cons rfl (SubF.cons rfl (SubF.cons rfl (SubF.cons rfl (SubF.cons rfl (SubF.cons rfl (SubF.cons rfl SubF.nil))))))))))
            · exact (SubS.val rfl (by (try dsimp only); first | exact sb_data (by rw [mvK_no (by omega) (by rw [hfe]; omega)]) | exact sb_data (by rw [mvK_y (by omega) (by rw [hfe]; omega), hte]; exact set2) | exact sb_data (by rw [mvK_y (by omega) (by rw [hfe]; omega), hte])) (SubS.cons rfl (SubS.cons rfl (SubS.cons rfl SubS.nil))))
            ·try dsimp only
             omega
            · (try dsimp only); omega
         ·skip
          first | have hg28p := G.gA7 hg28 | have hg28p := G.gA8 hg28 | have hg28p := hg28
          refine WH.sk rfl rfl rfl hg28 (WH.sk rfl rfl rfl hg28 (WH.sk rfl rfl rfl hg28 (WH.sk rfl rfl rfl hg28 (WH.sk rfl rfl rfl hg28 (WH.sk rfl rfl rfl hg28 (WH.sk rfl rfl rfl hg28 (WH.sk rfl rfl rfl hg28 (WH.sk rfl rfl rfl hg28 (WH.sk rfl rfl rfl hg28 (WH.sk rfl rfl rfl hg28 ?_))))))))))
          refine WH.skip (OpOk.not2 rfl rfl rfl) ?_
          refine WH.skip (OpOk.not2 rfl rfl rfl) ?_
          refine WH.skip (OpOk.not2 rfl rfl rfl) ?_
          refine WH.skip (OpOk.not2 rfl rfl rfl) ?_
          refine WH.skip (OpOk.not2 rfl rfl rfl) ?_
          refine WH.skip (OpOk.not2 rfl rfl rfl) ?_
          refine WH.skip (OpOk.not2 rfl rfl rfl) ?_
          refine WH.sk rfl rfl rfl hg28 ?_
          refine WH.val (O.pick_t rfl (G.ne_f hg28) rfl rfl Taken.no) rfl rfl ?_
          refine WH.val (O.assign rfl rfl Taken.no) rfl rfl ?_
          refine WH.nil (E.to ?_)
          refine W.pick (K:=[(1,_),(3,_),(5,_),(6,_),(7,_),(8,_),(9,_),(10,_),(11,_),(12,_)]) (Z:=[(101,_),(102,_),(109,_),(113,_)]) ⟨rfl,rfl,rfl,rfl,rfl,rfl,rfl,rfl,rfl,rfl,trivial⟩ ⟨rfl,rfl,rfl,rfl,trivial⟩ ?_
          refine W.seq ?_
          refine W.draw [⟨[], [], [], [109]⟩, ⟨[], [], [], []⟩, ⟨[109], [], [], []⟩, ⟨[109], [], [], []⟩, ⟨[], [], [], [102]⟩, ⟨[102], [], [], []⟩, ⟨[], [], [], []⟩] rfl (by kernel_rfl) (by kernel_rfl) rfl rfl ?_
          refine WH.mv rfl rfl rfl (WH.mv rfl rfl rfl ?_)
          refine WH.val (O.idx_own (i := k) rfl rfl rfl (rfl) (by rw [List.length_map]; omega) Try.underlying39 hi3 hs3 rfl Taken.no) rfl rfl ?_
          refine WH.val (O.ld1 (PtI.ofU (PtU.el rfl rfl (row_get (by omega)))) rfl Try.underlying3 rfl rfl Taken.no) rfl rfl ?_
          refine WH.val (O.fld_ref (o' := 1) rfl Try.underlying57 rfl (m := 0) (by kernel_rfl) rfl rfl Taken.no) rfl rfl ?_
          refine WH.val (O.ld1 (PtI.ref rfl rfl) rfl Try.underlying3 rfl rfl Taken.no) rfl rfl ?_
          refine WH.val (O.det (fun _ => G.R.eql rfl rfl) rfl Taken.no) rfl rfl ?_
          refine WH.nil (E.to ?_)
          first | refine W.cond_d rfl (fun hc32 => ?_) (fun hc32 => ?_) | refine W.cond_nd rfl (fun hc32 => ?_) (fun hc32 => ?_) | refine W.cond rfl (fun hc32 => ?_) (fun hc32 => ?_)
          ·skip
           refine W.rg (SL.mv rfl rfl (SL.mv rfl rfl ?_))
           refine SL.val (O.fld_ref (o' := 2) rfl Try.underlying57 rfl (m := 0) (by kernel_rfl) rfl rfl Taken.no) ?_
           refine SL.val (O.ld1 (PtI.ref rfl rfl) rfl Try.underlying3 rfl rfl Taken.no) ?_
           refine SL.val (O.idx_own (i := k) rfl rfl rfl (rfl) (by rw [List.length_map]; omega) Try.underlying39 hi3 hs3 rfl Taken.no) ?_
           refine SL.effS (O.st_els (m := 1) rfl rfl rfl (us := [_]) rfl rfl (by kernel_rfl) (by simp) (row_get (by omega)) (by exact Nat.le_of_ble_eq_true rfl) rfl rfl (rows' := ((mvK n k (atomsL n rs) m s).set k t).map eN) (by exact set_map rfl) Taken.no) (S' := (113, _) :: _) rfl ?_
           refine E.fo (W.rg ?_)
           refine SL.val (O.fld_ref (o' := 2) rfl Try.underlying57 rfl (m := 0) (by kernel_rfl) rfl rfl Taken.no) ?_
           refine SL.val (O.ld1 (PtI.ref rfl rfl) rfl Try.underlying3 rfl rfl Taken.no) ?_
           refine SL.val (O.det (fun _ => G.R.mv (G.R.eql rfl rfl) (congrArg Value.bool (decide_eq_false (by omega)))) rfl Taken.no) ?_
           refine E.fo ?_
           refine W.pick (K:=[(1,_),(3,_),(5,_),(6,_),(7,_),(8,_),(9,_),(10,_),(11,_),(12,_),(129,_)]) (Z:=[(101,_),(102,_),(109,_),(113,_)]) ⟨rfl,rfl,rfl,rfl,rfl,rfl,rfl,rfl,rfl,rfl,rfl,trivial⟩ ⟨rfl,rfl,rfl,rfl,trivial⟩ ?_
           refine W.cond_f rfl ?_
           refine W.skip (E.inn (E.to (W.region (SL.mv rfl rfl ?_))))
           refine SL.val (O.det (fun _ => by first | exact G.R.add64 rfl rfl (by omega) | exact G.R.add rfl rfl) rfl Taken.no) ?_
           refine SL.an rfl rfl (SL.nil ?_)
           refine E.again ((k + 1)) (rn []) ?_ ?_ rfl (fixL_spec rfl) ?_ ?_
           · exact (SubF.cons rfl (SubF.val rfl (by (try dsimp only); exact iv_bool (by rw [oth_s]; (first | (simp_all; done) | (simp_all <;> omega)))) (SubF.cons rfl (SubF.cons rfl (SubF.cons rfl (SubF.cons rfl (SubF.cons rfl (SubF.cons rfl (SubF.cons rfl (SubF.cons rfl SubF.nil))))))))))
           · exact (SubS.val rfl (by (try dsimp only); first | exact sb_data (by rw [mvK_no (by omega) (by rw [hfe]; omega)]) | exact sb_data (by rw [mvK_y (by omega) (by rw [hfe]; omega), hte]; exact set2) | exact sb_data (by rw [mvK_y (by omega) (by rw [hfe]; omega), hte])) (SubS.cons rfl (SubS.cons rfl (SubS.cons rfl SubS.nil))))
           ·try dsimp only
            omega
           · (try dsimp only); omega
          ·skip
           refine W.skip (E.inn (E.to (W.region (SL.mv rfl rfl ?_))))
           refine SL.val (O.det (fun _ => by first | exact G.R.add64 rfl rfl (by omega) | exact G.R.add rfl rfl) rfl Taken.no) ?_
           refine SL.an rfl rfl (SL.nil ?_)
           refine E.again ((k + 1)) (rn []) ?_ ?_ rfl (fixL_spec rfl) ?_ ?_
           · exact (SubF.cons rfl (SubF.val rfl (by (try dsimp only); exact iv_bool (by rw [oth_s]; (first | (simp_all; done) | (simp_all <;> omega)))) (SubF.cons rfl (SubF.cons rfl (SubF.cons rfl (SubF.cons rfl (SubF.cons rfl (SubF.cons rfl (SubF.cons rfl (SubF.cons rfl SubF.nil))))))))))
           · exact (SubS.val rfl (by (try dsimp only); first | exact sb_data (by rw [mvK_no (by omega) (by rw [hfe]; omega)]) | exact sb_data (by rw [mvK_y (by omega) (by rw [hfe]; omega), hte]; exact set2) | exact sb_data (by rw [mvK_y (by omega) (by rw [hfe]; omega), hte])) (SubS.cons rfl (SubS.cons rfl (SubS.cons rfl SubS.nil))))
           ·try dsimp only
            omega
           · (try dsimp only); omega
        ·skip
         refine W.exit (E.th (E.th (E.hit (E.to (W.seq (W.seq ?_))))))
         refine W.draw [⟨[], [], [], [109]⟩, ⟨[], [], [], [102]⟩, ⟨[102], [], [], []⟩, ⟨[109], [], [], []⟩, ⟨[109], [], [], []⟩, ⟨[], [], [], [102]⟩, ⟨[102], [], [], []⟩, ⟨[], [], [], []⟩, ⟨[], [], [], []⟩, ⟨[], [], [], [102]⟩, ⟨[102], [], [], []⟩, ⟨[], [], [], []⟩, ⟨[], [], [], [102]⟩, ⟨[102], [], [], []⟩, ⟨[], [], [], []⟩, ⟨[], [], [], []⟩, ⟨[], [], [], []⟩, ⟨[], [], [], []⟩, ⟨[], [], [], []⟩, ⟨[], [], [], [102]⟩, ⟨[102], [], [], []⟩, ⟨[], [], [], []⟩, ⟨[], [], [], []⟩, ⟨[], [], [], []⟩, ⟨[], [], [], []⟩, ⟨[], [], [], []⟩, ⟨[], [], [], []⟩] rfl (by kernel_rfl) (by kernel_rfl) rfl rfl ?_
         have hkn : k = n := by omega
         rw [hkn, mvK_n]
         refine WH.mv rfl rfl rfl ?_
         refine WH.val (O.fld_ref (o' := 1) rfl Try.underlying57 rfl (m := 0) (by kernel_rfl) rfl rfl Taken.no) rfl rfl ?_
         refine WH.val (O.ld1 (PtI.ref rfl rfl) rfl Try.underlying3 rfl rfl Taken.no) rfl rfl ?_
         refine WH.val (O.idx_own (i := f) rfl rfl rfl (rfl) (by rw [List.length_map]; omega) Try.underlying39 hi3 hs3 rfl Taken.no) rfl rfl ?_
         refine WH.val (O.ld1 (PtI.ofU (PtU.el rfl rfl (row_get (by omega)))) rfl Try.underlying3 rfl rfl Taken.no) rfl rfl ?_
         refine WH.val (O.fld_ref (o' := 1) rfl Try.underlying57 rfl (m := 0) (by kernel_rfl) rfl rfl Taken.no) rfl rfl ?_
         refine WH.val (O.ld1 (PtI.ref rfl rfl) rfl Try.underlying3 rfl rfl Taken.no) rfl rfl ?_
         refine WH.val (O.det (fun _ => G.R.neq rfl rfl) rfl Taken.no) rfl rfl ?_
         refine WH.mv rfl rfl rfl ?_
         refine WH.case (j := 8) (g := 143) (want := false) rfl rfl (fun hg33 => ?_) (fun hg33 => ?_)
         ·skip
          first | have hg33p := G.gA3 hg33 | have hg33p := G.gA4 hg33 | have hg33p := hg33
          refine WH.val (O.fld_ref (o' := 2) rfl Try.underlying57 rfl (m := 0) (by kernel_rfl) rfl rfl (Taken.yes rfl rfl hg33)) rfl rfl ?_
          refine WH.val (O.ld1 (PtI.ref rfl rfl) rfl Try.underlying3 rfl rfl (Taken.yes rfl rfl hg33)) rfl rfl ?_
          refine WH.val (O.move rfl rfl (Taken.yes rfl rfl hg33)) rfl rfl ?_
          refine WH.val (O.fld_ref (o' := 1) rfl Try.underlying57 rfl (m := 0) (by kernel_rfl) rfl rfl (Taken.yes rfl rfl hg33)) rfl rfl ?_
          refine WH.val (O.ld1 (PtI.ref rfl rfl) rfl Try.underlying3 rfl rfl (Taken.yes rfl rfl hg33)) rfl rfl ?_
          refine WH.val (O.idx_fz (i := f) rfl rfl (rfl) (row_get (by omega)) Try.underlying39 hi3 hs3 rfl (Taken.yes rfl rfl hg33)) rfl rfl ?_
          refine WH.val (O.ld1 (PtI.ofU (PtU.fz rfl)) rfl Try.underlying3 rfl rfl (Taken.yes rfl rfl hg33)) rfl rfl ?_
          refine WH.val (O.det (fun _ => G.R.eql rfl rfl) rfl (Taken.yes rfl rfl hg33)) rfl rfl ?_
          refine WH.val (O.pick_f rfl hg33 rfl rfl Taken.no) rfl rfl ?_
          refine WH.mv rfl rfl rfl ?_
          refine WH.case (j := 18) (g := 153) (want := false) rfl rfl (fun hg34 => ?_) (fun hg34 => ?_)
          ·skip
           first | have hg34p := G.gA3 hg34 | have hg34p := G.gA4 hg34 | have hg34p := hg34
           refine WH.val (O.fld_ref (o' := 2) rfl Try.underlying57 rfl (m := 0) (by kernel_rfl) rfl rfl (Taken.yes rfl rfl hg34)) rfl rfl ?_
           refine WH.val (O.ld1 (PtI.ref rfl rfl) rfl Try.underlying3 rfl rfl (Taken.yes rfl rfl hg34)) rfl rfl ?_
           refine WH.val (O.det (fun _ => G.R.mv (G.R.eql rfl rfl) (congrArg Value.bool (decide_eq_false (by omega)))) rfl (Taken.yes rfl rfl hg34)) rfl rfl ?_
           refine WH.val (O.move rfl rfl (Taken.yes rfl rfl hg34)) rfl rfl ?_
           have hg35 : false ≠ true := by decide
           refine WH.sk rfl rfl rfl hg35 (WH.sk rfl rfl rfl hg35 ?_)
           refine WH.val (O.pick_f rfl rfl rfl rfl (Taken.yes rfl rfl hg34)) rfl rfl ?_
           refine WH.val (O.pick_f rfl hg34 rfl rfl Taken.no) rfl rfl ?_
           refine WH.nil (E.to ?_)
           refine W.pick (K:=[(1,_),(3,_),(6,_),(7,_),(8,_),(10,_),(161,_)]) (Z:=[(101,_),(102,_),(109,_),(113,_)]) ⟨rfl,rfl,rfl,rfl,rfl,rfl,rfl,trivial⟩ ⟨rfl,rfl,rfl,rfl,trivial⟩ ?_
           refine W.cond_f rfl ?_
           refine W.skip (E.to (W.region (SL.mv rfl rfl ?_)))
           refine SL.memS (O.call (rn [(0, 114)]) [113] rfl rfl rfl (refnamed_h (l := mvL n (atomsL n rs) m s) (by rw [mvL, List.length_map, List.length_range]; omega)) (.cons (ArgOk.own rfl rfl) .nil) SubS.nil rfl rfl rfl rfl rfl (.inr ⟨rfl, fun x hx => by rw [List.mem_singleton] at hx; subst hx; exact flat_N _⟩) hcallOk65 (r' := .own 114) rfl rfl Taken.no) rfl rfl (S' := (114, .data _ _ _) :: _) rfl ?_
           refine SL.an rfl rfl (E.fo (W.seq (W.rg ?_)))
           have hX : nmL (mvL n (atomsL n rs) m s) = (labL n (atomsL n rs) m s) := by rw [labL, if_neg (by rw [hue]; decide)]
           have hpre : preR n (atomsL n rs) m s := by rw [hs]; exact preR_iff.2 ⟨⟨by omega, by omega, by omega, by omega, fun _ => rfl⟩, fun _ => by show m[t]! = t; omega, fun h => (by cases h), fun _ => ⟨by show (atomsL n rs)[f]! = f; omega, fun _ => by show m[f]! ≠ t; omega, fun h => by exfalso; omega⟩⟩
           rw [hX]
           have hll : (labL n (atomsL n rs) m s).length = n := labL_len hml
           refine SL.val (O.ldN (m := 3) (PtI.ref rfl rfl) (js := [_, _, _]) rfl (Nat.le_of_ble_eq_true rfl) Try.underlying25 rfl (by kernel_rfl) rfl Taken.no) ?_
           refine SL.mv rfl rfl ?_
           refine SL.memS (O.call (rn []) [114] rfl rfl rfl (refapart_h hf (m := (labL n (atomsL n rs) m s)) hll) (.cons (ArgOk.aggU (.cons (ArgOk.same rfl) (.cons (ArgOk.same rfl) (.cons (ArgOk.same rfl) .nil)))) (.cons (ArgOk.own rfl rfl) .nil)) SubS.nil rfl rfl rfl rfl rfl (.inr ⟨rfl, fun x hx => by simp at hx⟩) hcallOk36 (r' := .u _) rfl rfl Taken.no) rfl rfl (S' := _) rfl ?_
           refine SL.val (O.det (fun _ => G.R.not rfl) rfl Taken.no) ?_
           refine E.fo ?_
           first | refine W.cond_d rfl (fun hc36 => ?_) (fun hc36 => ?_) | refine W.cond_nd rfl (fun hc36 => ?_) (fun hc36 => ?_) | refine W.cond rfl (fun hc36 => ?_) (fun hc36 => ?_)
           ·skip
            refine W.rg (SL.an rfl rfl (SL.an rfl rfl (SL.an rfl rfl (E.fo (W.ret (E.thr ?_))))))
            refine E.nilsl 6 1 rfl ?_
            refine E.fin (rs := [_, _, _]) (rn []) (.inl rfl) rfl (.cons (ResOne.tmp rfl) (.cons (ResOne.tmp rfl) (.cons (ResOne.tmp rfl) .nil))) ?_ ?_ rfl (fixL_spec rfl)
            ·skip
             have hno : ¬ posR n (barL rs) (atomsL n rs) m s := fun q => by have q2 := q.2; simp_all
             rw [← hs, (apR_n hno).1, (apR_n hno).2, dec_f hno]; rfl
            · exact SubS.nil
           ·skip
            refine W.skip (E.to (W.rg ?_))
            refine SL.val (O.ldN (m := 3) (PtI.ref rfl rfl) (js := [_, _, _]) rfl (Nat.le_of_ble_eq_true rfl) Try.underlying25 rfl (by kernel_rfl) rfl Taken.no) ?_
            refine SL.mv rfl rfl ?_
            refine SL.memS (O.call (rn [(0, 115)]) [114] rfl rfl rfl (refconn_h hf (m := (labL n (atomsL n rs) m s)) hll) (.cons (ArgOk.aggU (.cons (ArgOk.same rfl) (.cons (ArgOk.same rfl) (.cons (ArgOk.same rfl) .nil)))) (.cons (ArgOk.own rfl rfl) .nil)) SubS.nil rfl rfl rfl rfl rfl (.inr ⟨rfl, fun x hx => by rw [List.mem_singleton] at hx; subst hx; exact flat_N _⟩) hcallOk43 (r' := .own 115) rfl rfl Taken.no) rfl rfl (S' := (115, .data _ _ _) :: _) rfl ?_
            refine SL.an rfl rfl (E.fo (W.seq ?_))
            refine W.freeze 115 rfl (F' := [(10, _)]) (⟨⟨_, rfl, rfl⟩, trivial⟩) ?_
            refine W.draw [⟨[], [], [], []⟩, ⟨[101], [], [], []⟩, ⟨[], [], [], []⟩, ⟨[], [], [], []⟩, ⟨[101], [], [], []⟩, ⟨[], [], [], []⟩, ⟨[], [], [], []⟩, ⟨[], [], [], []⟩, ⟨[], [], [], []⟩, ⟨[], [], [], []⟩, ⟨[], [], [], []⟩] rfl (by kernel_rfl) (by kernel_rfl) rfl rfl ?_
            refine WH.mv rfl rfl rfl ?_
            refine WH.val (O.ldN (m := 3) (PtI.ref rfl rfl) (js := [_, _, _]) rfl (Nat.le_of_ble_eq_true rfl) Try.underlying25 rfl (by kernel_rfl) rfl Taken.no) rfl rfl ?_
            refine WH.mv rfl rfl rfl ?_
            refine WH.val (O.callp rfl rfl rfl (refvalue_h hf (m := resR n ps rs m s) (res_comp hf m s).len hpl) (.cons (ArgOk.aggU (.cons (ArgOk.same rfl) (.cons (ArgOk.same rfl) (.cons (ArgOk.same rfl) .nil)))) (.cons (ArgOk.same rfl) .nil)) hcallOk48 rfl Taken.no) rfl rfl ?_
            refine WH.val (O.ldN (m := 3) (PtI.ref rfl rfl) (js := [_, _, _]) rfl (Nat.le_of_ble_eq_true rfl) Try.underlying25 rfl (by kernel_rfl) rfl Taken.no) rfl rfl ?_
            refine WH.mv rfl rfl rfl ?_
            refine WH.val (O.callp rfl rfl rfl (refvalue_h hf (m := m) hml hpl) (.cons (ArgOk.aggU (.cons (ArgOk.same rfl) (.cons (ArgOk.same rfl) (.cons (ArgOk.same rfl) .nil)))) (.cons (ArgOk.same rfl) .nil)) hcallOk48 rfl Taken.no) rfl rfl ?_
            have hv1 := valR_le hf (resR n ps rs m s)
            have hv2 := valR_le hf m
            refine WH.val (O.det (fun _ => by first | exact G.R.sub64 rfl rfl (by omega) | exact G.R.sub rfl rfl) rfl Taken.no) rfl rfl ?_
            refine WH.val (O.assign rfl rfl Taken.no) rfl rfl ?_
            refine WH.val (O.assign rfl rfl Taken.no) rfl rfl ?_
            refine WH.val (O.assign rfl rfl Taken.no) rfl rfl ?_
            refine WH.nil (E.to ?_)
            refine W.pick (K:=[(6,_),(7,_),(8,_)]) (Z:=[(101,_),(102,_),(109,_),(113,_),(114,_)]) ⟨rfl,rfl,rfl,trivial⟩ ⟨rfl,rfl,rfl,rfl,rfl,trivial⟩ ?_
            refine W.ret ?_
            refine E.fin (rs := [_, _, _]) (rn []) (.inl rfl) rfl (.cons (ResOne.tmp rfl) (.cons (ResOne.tmp rfl) (.cons (ResOne.tmp rfl) .nil))) ?_ ?_ rfl (fixL_spec rfl)
            ·skip
             have hyes : posR n (barL rs) (atomsL n rs) m s := ⟨hpre, by simp_all⟩
             rw [← hs, (apR_y hyes).1, (apR_y hyes).2, dec_t hyes]; rfl
            · exact SubS.nil
          ·skip
           first | have hg34p := G.gA7 hg34 | have hg34p := G.gA8 hg34 | have hg34p := hg34
           refine WH.sk rfl rfl rfl hg34 (WH.sk rfl rfl rfl hg34 (WH.sk rfl rfl rfl hg34 (WH.sk rfl rfl rfl hg34 ?_)))
           refine WH.skip (OpOk.not2 rfl rfl rfl) ?_
           refine WH.skip (OpOk.not2 rfl rfl rfl) ?_
           refine WH.sk rfl rfl rfl hg34 ?_
           refine WH.val (O.pick_t rfl (G.ne_f hg34) rfl rfl Taken.no) rfl rfl ?_
           refine WH.nil (E.to ?_)
           refine W.pick (K:=[(1,_),(3,_),(6,_),(7,_),(8,_),(10,_),(161,_)]) (Z:=[(101,_),(102,_),(109,_),(113,_)]) ⟨rfl,rfl,rfl,rfl,rfl,rfl,rfl,trivial⟩ ⟨rfl,rfl,rfl,rfl,trivial⟩ ?_
           refine W.cond_t rfl ?_
           refine W.rg (SL.an rfl rfl (SL.an rfl rfl (SL.an rfl rfl (E.fo (W.ret (E.thr (E.thr ?_)))))))
           refine E.nilsl 6 1 rfl ?_
           refine E.fin (rs := [_, _, _]) (rn []) (.inl rfl) rfl (.cons (ResOne.tmp rfl) (.cons (ResOne.tmp rfl) (.cons (ResOne.tmp rfl) .nil))) ?_ ?_ rfl (fixL_spec rfl)
           ·skip
            subst hs
            first | ((have hno : ¬ posR n (barL rs) (atomsL n rs) m ⟨false, (f : Int), (t : Int)⟩ := fun q => by ((obtain ⟨⟨q1, q2, q3, q4, q5⟩, q6, q7, q8⟩ := preR_iff.1 q.1); (try simp only [Int.toNat_natCast] at q6 q7 q8); (first | (have q8 := (q8 (by trivial)).1; omega) | (have q8 := (q8 (by trivial)).2.1 (by omega); omega) | (have q8 := (q8 (by trivial)).2.2 (by omega); simp_all)))); rw [(apR_n hno).1, (apR_n hno).2, dec_f hno]; rfl) | ((have hno : ¬ posR n (barL rs) (atomsL n rs) m ⟨false, (f : Int), -1⟩ := fun q => by ((obtain ⟨⟨q1, q2, q3, q4, q5⟩, q6, q7, q8⟩ := preR_iff.1 q.1); (try simp only [Int.toNat_natCast] at q6 q7 q8); (first | (have q8 := (q8 (by trivial)).1; omega) | (have q8 := (q8 (by trivial)).2.1 (by omega); omega) | (have q8 := (q8 (by trivial)).2.2 (by omega); simp_all)))); rw [(apR_n hno).1, (apR_n hno).2, dec_f hno]; rfl)
           · exact SubS.nil
         ·skip
          first | have hg33p := G.gA7 hg33 | have hg33p := G.gA8 hg33 | have hg33p := hg33
          refine WH.sk rfl rfl rfl hg33 (WH.sk rfl rfl rfl hg33 (WH.sk rfl rfl rfl hg33 (WH.sk rfl rfl rfl hg33 (WH.sk rfl rfl rfl hg33 (WH.sk rfl rfl rfl hg33 (WH.sk rfl rfl rfl hg33 (WH.sk rfl rfl rfl hg33 ?_)))))))
          refine WH.val (O.pick_t rfl (G.ne_f hg33) rfl rfl Taken.no) rfl rfl ?_
          refine WH.mv rfl rfl rfl ?_
          have hg37 : true ≠ false := by decide
          refine WH.sk rfl rfl rfl hg37 (WH.sk rfl rfl rfl hg37 (WH.sk rfl rfl rfl hg37 (WH.sk rfl rfl rfl hg37 ?_)))
          refine WH.skip (OpOk.not2 rfl rfl rfl) ?_
          refine WH.skip (OpOk.not2 rfl rfl rfl) ?_
          refine WH.sk rfl rfl rfl hg37 ?_
          refine WH.val (O.pick_t rfl rfl rfl rfl Taken.no) rfl rfl ?_
          refine WH.nil (E.to ?_)
          refine W.pick (K:=[(1,_),(3,_),(6,_),(7,_),(8,_),(10,_),(161,_)]) (Z:=[(101,_),(102,_),(109,_),(113,_)]) ⟨rfl,rfl,rfl,rfl,rfl,rfl,rfl,trivial⟩ ⟨rfl,rfl,rfl,rfl,trivial⟩ ?_
          refine W.cond_t rfl ?_
          refine W.rg (SL.an rfl rfl (SL.an rfl rfl (SL.an rfl rfl (E.fo (W.ret (E.thr (E.thr ?_)))))))
          refine E.nilsl 6 1 rfl ?_
          refine E.fin (rs := [_, _, _]) (rn []) (.inl rfl) rfl (.cons (ResOne.tmp rfl) (.cons (ResOne.tmp rfl) (.cons (ResOne.tmp rfl) .nil))) ?_ ?_ rfl (fixL_spec rfl)
          ·skip
           subst hs
           first | ((have hno : ¬ posR n (barL rs) (atomsL n rs) m ⟨false, (f : Int), (t : Int)⟩ := fun q => by ((obtain ⟨⟨q1, q2, q3, q4, q5⟩, q6, q7, q8⟩ := preR_iff.1 q.1); (try simp only [Int.toNat_natCast] at q6 q7 q8); (first | (have q8 := (q8 (by trivial)).1; omega) | (have q8 := (q8 (by trivial)).2.1 (by omega); omega) | (have q8 := (q8 (by trivial)).2.2 (by omega); simp_all)))); rw [(apR_n hno).1, (apR_n hno).2, dec_f hno]; rfl) | ((have hno : ¬ posR n (barL rs) (atomsL n rs) m ⟨false, (f : Int), -1⟩ := fun q => by ((obtain ⟨⟨q1, q2, q3, q4, q5⟩, q6, q7, q8⟩ := preR_iff.1 q.1); (try simp only [Int.toNat_natCast] at q6 q7 q8); (first | (have q8 := (q8 (by trivial)).1; omega) | (have q8 := (q8 (by trivial)).2.1 (by omega); omega) | (have q8 := (q8 (by trivial)).2.2 (by omega); simp_all)))); rw [(apR_n hno).1, (apR_n hno).2, dec_f hno]; rfl)
          · exact SubS.nil
    ·skip
     first | have hg4p := G.gA7 hg4 | have hg4p := G.gA8 hg4 | have hg4p := hg4
     refine WH.sk rfl rfl rfl hg4 (WH.sk rfl rfl rfl hg4 (WH.sk rfl rfl rfl hg4 (WH.sk rfl rfl rfl hg4 ?_)))
     refine WH.skip (OpOk.not2 rfl rfl rfl) ?_
     refine WH.skip (OpOk.not2 rfl rfl rfl) ?_
     refine WH.sk rfl rfl rfl hg4 ?_
     refine WH.val (O.pick_t rfl (G.ne_f hg4) rfl rfl Taken.no) rfl rfl ?_
     refine WH.mv rfl rfl rfl ?_
     have hg38 : true ≠ false := by decide
     refine WH.sk rfl rfl rfl hg38 (WH.sk rfl rfl rfl hg38 (WH.sk rfl rfl rfl hg38 (WH.sk rfl rfl rfl hg38 ?_)))
     refine WH.skip (OpOk.not2 rfl rfl rfl) ?_
     refine WH.skip (OpOk.not2 rfl rfl rfl) ?_
     refine WH.skip (OpOk.not2 rfl rfl rfl) ?_
     refine WH.skip (OpOk.not2 rfl rfl rfl) ?_
     refine WH.skip (OpOk.not2 rfl rfl rfl) ?_
     refine WH.skip (OpOk.not2 rfl rfl rfl) ?_
     refine WH.skip (OpOk.not2 rfl rfl rfl) ?_
     refine WH.skip (OpOk.not2 rfl rfl rfl) ?_
     refine WH.sk rfl rfl rfl hg38 ?_
     refine WH.val (O.pick_t rfl rfl rfl rfl Taken.no) rfl rfl ?_
     refine WH.nil (E.to ?_)
     refine W.pick (K:=[(1,_),(3,_),(5,_),(6,_),(7,_),(8,_),(58,_)]) (Z:=[(101,_),(102,_)]) ⟨rfl,rfl,rfl,rfl,rfl,rfl,rfl,trivial⟩ ⟨rfl,rfl,trivial⟩ ?_
     refine W.cond_t rfl ?_
     refine W.rg (SL.an rfl rfl (SL.an rfl rfl (SL.an rfl rfl (E.fo (W.ret (E.thr ?_))))))
     refine E.nilsl 6 1 rfl ?_
     refine E.fin (rs := [_, _, _]) (rn []) (.inl rfl) rfl (.cons (ResOne.tmp rfl) (.cons (ResOne.tmp rfl) (.cons (ResOne.tmp rfl) .nil))) ?_ ?_ rfl (fixL_spec rfl)
     ·skip
      first | ((have hno : ¬ posR n (barL rs) (atomsL n rs) m ⟨u, f, t⟩ := fun q => by ((obtain ⟨⟨q1, q2, q3, q4, q5⟩, q6, q7, q8⟩ := preR_iff.1 q.1); (try simp only [Int.toNat_natCast] at q6 q7 q8); (first | omega | (have q5 := q5 (by omega); simp_all) | (have q6 := q6 (by omega); omega)))); rw [(apR_n hno).1, (apR_n hno).2, dec_f hno]; rfl)
     · exact SubS.nil
   ·skip
    first | have hg3p := G.gA7 hg3 | have hg3p := G.gA8 hg3 | have hg3p := hg3
    refine WH.sk rfl rfl rfl hg3 (WH.sk rfl rfl rfl hg3 (WH.sk rfl rfl rfl hg3 (WH.sk rfl rfl rfl hg3 (WH.sk rfl rfl rfl hg3 ?_))))
    refine WH.val (O.pick_t rfl (G.ne_f hg3) rfl rfl Taken.no) rfl rfl ?_
    refine WH.mv rfl rfl rfl ?_
    have hg39 : true ≠ false := by decide
    refine WH.sk rfl rfl rfl hg39 (WH.sk rfl rfl rfl hg39 (WH.sk rfl rfl rfl hg39 (WH.sk rfl rfl rfl hg39 ?_)))
    refine WH.skip (OpOk.not2 rfl rfl rfl) ?_
    refine WH.skip (OpOk.not2 rfl rfl rfl) ?_
    refine WH.sk rfl rfl rfl hg39 ?_
    refine WH.val (O.pick_t rfl rfl rfl rfl Taken.no) rfl rfl ?_
    refine WH.mv rfl rfl rfl ?_
    have hg40 : true ≠ false := by decide
    refine WH.sk rfl rfl rfl hg40 (WH.sk rfl rfl rfl hg40 (WH.sk rfl rfl rfl hg40 (WH.sk rfl rfl rfl hg40 ?_)))
    refine WH.skip (OpOk.not2 rfl rfl rfl) ?_
    refine WH.skip (OpOk.not2 rfl rfl rfl) ?_
    refine WH.skip (OpOk.not2 rfl rfl rfl) ?_
    refine WH.skip (OpOk.not2 rfl rfl rfl) ?_
    refine WH.skip (OpOk.not2 rfl rfl rfl) ?_
    refine WH.skip (OpOk.not2 rfl rfl rfl) ?_
    refine WH.skip (OpOk.not2 rfl rfl rfl) ?_
    refine WH.skip (OpOk.not2 rfl rfl rfl) ?_
    refine WH.sk rfl rfl rfl hg40 ?_
    refine WH.val (O.pick_t rfl rfl rfl rfl Taken.no) rfl rfl ?_
    refine WH.nil (E.to ?_)
    refine W.pick (K:=[(1,_),(3,_),(5,_),(6,_),(7,_),(8,_),(58,_)]) (Z:=[(101,_),(102,_)]) ⟨rfl,rfl,rfl,rfl,rfl,rfl,rfl,trivial⟩ ⟨rfl,rfl,trivial⟩ ?_
    refine W.cond_t rfl ?_
    refine W.rg (SL.an rfl rfl (SL.an rfl rfl (SL.an rfl rfl (E.fo (W.ret (E.thr ?_))))))
    refine E.nilsl 6 1 rfl ?_
    refine E.fin (rs := [_, _, _]) (rn []) (.inl rfl) rfl (.cons (ResOne.tmp rfl) (.cons (ResOne.tmp rfl) (.cons (ResOne.tmp rfl) .nil))) ?_ ?_ rfl (fixL_spec rfl)
    ·skip
     first | ((have hno : ¬ posR n (barL rs) (atomsL n rs) m ⟨u, f, t⟩ := fun q => by ((obtain ⟨⟨q1, q2, q3, q4, q5⟩, q6, q7, q8⟩ := preR_iff.1 q.1); (try simp only [Int.toNat_natCast] at q6 q7 q8); (first | omega | (have q5 := q5 (by omega); simp_all) | (have q6 := q6 (by omega); omega)))); rw [(apR_n hno).1, (apR_n hno).2, dec_f hno]; rfl)
    · exact SubS.nil
  ·skip
   first | have hg2p := G.gA7 hg2 | have hg2p := G.gA8 hg2 | have hg2p := hg2
   refine WH.sk rfl rfl rfl hg2 (WH.sk rfl rfl rfl hg2 (WH.sk rfl rfl rfl hg2 ?_))
   refine WH.val (O.pick_t rfl (G.ne_f hg2) rfl rfl Taken.no) rfl rfl ?_
   refine WH.mv rfl rfl rfl ?_
   have hg41 : true ≠ false := by decide
   refine WH.sk rfl rfl rfl hg41 (WH.sk rfl rfl rfl hg41 (WH.sk rfl rfl rfl hg41 (WH.sk rfl rfl rfl hg41 (WH.sk rfl rfl rfl hg41 ?_))))
   refine WH.val (O.pick_t rfl rfl rfl rfl Taken.no) rfl rfl ?_
   refine WH.mv rfl rfl rfl ?_
   have hg42 : true ≠ false := by decide
   refine WH.sk rfl rfl rfl hg42 (WH.sk rfl rfl rfl hg42 (WH.sk rfl rfl rfl hg42 (WH.sk rfl rfl rfl hg42 ?_)))
   refine WH.skip (OpOk.not2 rfl rfl rfl) ?_
   refine WH.skip (OpOk.not2 rfl rfl rfl) ?_
   refine WH.sk rfl rfl rfl hg42 ?_
   refine WH.val (O.pick_t rfl rfl rfl rfl Taken.no) rfl rfl ?_
   refine WH.mv rfl rfl rfl ?_
   have hg43 : true ≠ false := by decide
   refine WH.sk rfl rfl rfl hg43 (WH.sk rfl rfl rfl hg43 (WH.sk rfl rfl rfl hg43 (WH.sk rfl rfl rfl hg43 ?_)))
   refine WH.skip (OpOk.not2 rfl rfl rfl) ?_
   refine WH.skip (OpOk.not2 rfl rfl rfl) ?_
   refine WH.skip (OpOk.not2 rfl rfl rfl) ?_
   refine WH.skip (OpOk.not2 rfl rfl rfl) ?_
   refine WH.skip (OpOk.not2 rfl rfl rfl) ?_
   refine WH.skip (OpOk.not2 rfl rfl rfl) ?_
   refine WH.skip (OpOk.not2 rfl rfl rfl) ?_
   refine WH.skip (OpOk.not2 rfl rfl rfl) ?_
   refine WH.sk rfl rfl rfl hg43 ?_
   refine WH.val (O.pick_t rfl rfl rfl rfl Taken.no) rfl rfl ?_
   refine WH.nil (E.to ?_)
   refine W.pick (K:=[(1,_),(3,_),(5,_),(6,_),(7,_),(8,_),(58,_)]) (Z:=[(101,_),(102,_)]) ⟨rfl,rfl,rfl,rfl,rfl,rfl,rfl,trivial⟩ ⟨rfl,rfl,trivial⟩ ?_
   refine W.cond_t rfl ?_
   refine W.rg (SL.an rfl rfl (SL.an rfl rfl (SL.an rfl rfl (E.fo (W.ret (E.thr ?_))))))
   refine E.nilsl 6 1 rfl ?_
   refine E.fin (rs := [_, _, _]) (rn []) (.inl rfl) rfl (.cons (ResOne.tmp rfl) (.cons (ResOne.tmp rfl) (.cons (ResOne.tmp rfl) .nil))) ?_ ?_ rfl (fixL_spec rfl)
   ·skip
    first | ((have hno : ¬ posR n (barL rs) (atomsL n rs) m ⟨u, f, t⟩ := fun q => by ((obtain ⟨⟨q1, q2, q3, q4, q5⟩, q6, q7, q8⟩ := preR_iff.1 q.1); (try simp only [Int.toNat_natCast] at q6 q7 q8); (first | omega | (have q5 := q5 (by omega); simp_all) | (have q6 := q6 (by omega); omega)))); rw [(apR_n hno).1, (apR_n hno).2, dec_f hno]; rfl)
   · exact SubS.nil
 ·skip
  first | have hg1p := G.gA7 hg1 | have hg1p := G.gA8 hg1 | have hg1p := hg1
  refine WH.sk rfl rfl rfl hg1 (WH.sk rfl rfl rfl hg1 (WH.sk rfl rfl rfl hg1 (WH.sk rfl rfl rfl hg1 (WH.sk rfl rfl rfl hg1 ?_))))
  refine WH.val (O.pick_t rfl (G.ne_f hg1) rfl rfl Taken.no) rfl rfl ?_
  refine WH.mv rfl rfl rfl ?_
  have hg44 : true ≠ false := by decide
  refine WH.sk rfl rfl rfl hg44 (WH.sk rfl rfl rfl hg44 (WH.sk rfl rfl rfl hg44 ?_))
  refine WH.val (O.pick_t rfl rfl rfl rfl Taken.no) rfl rfl ?_
  refine WH.mv rfl rfl rfl ?_
  have hg45 : true ≠ false := by decide
  refine WH.sk rfl rfl rfl hg45 (WH.sk rfl rfl rfl hg45 (WH.sk rfl rfl rfl hg45 (WH.sk rfl rfl rfl hg45 (WH.sk rfl rfl rfl hg45 ?_))))
  refine WH.val (O.pick_t rfl rfl rfl rfl Taken.no) rfl rfl ?_
  refine WH.mv rfl rfl rfl ?_
  have hg46 : true ≠ false := by decide
  refine WH.sk rfl rfl rfl hg46 (WH.sk rfl rfl rfl hg46 (WH.sk rfl rfl rfl hg46 (WH.sk rfl rfl rfl hg46 ?_)))
  refine WH.skip (OpOk.not2 rfl rfl rfl) ?_
  refine WH.skip (OpOk.not2 rfl rfl rfl) ?_
  refine WH.sk rfl rfl rfl hg46 ?_
  refine WH.val (O.pick_t rfl rfl rfl rfl Taken.no) rfl rfl ?_
  refine WH.mv rfl rfl rfl ?_
  have hg47 : true ≠ false := by decide
  refine WH.sk rfl rfl rfl hg47 (WH.sk rfl rfl rfl hg47 (WH.sk rfl rfl rfl hg47 (WH.sk rfl rfl rfl hg47 ?_)))
  refine WH.skip (OpOk.not2 rfl rfl rfl) ?_
  refine WH.skip (OpOk.not2 rfl rfl rfl) ?_
  refine WH.skip (OpOk.not2 rfl rfl rfl) ?_
  refine WH.skip (OpOk.not2 rfl rfl rfl) ?_
  refine WH.skip (OpOk.not2 rfl rfl rfl) ?_
  refine WH.skip (OpOk.not2 rfl rfl rfl) ?_
  refine WH.skip (OpOk.not2 rfl rfl rfl) ?_
  refine WH.skip (OpOk.not2 rfl rfl rfl) ?_
  refine WH.sk rfl rfl rfl hg47 ?_
  refine WH.val (O.pick_t rfl rfl rfl rfl Taken.no) rfl rfl ?_
  refine WH.nil (E.to ?_)
  refine W.pick (K:=[(1,_),(3,_),(5,_),(6,_),(7,_),(8,_),(58,_)]) (Z:=[(101,_),(102,_)]) ⟨rfl,rfl,rfl,rfl,rfl,rfl,rfl,trivial⟩ ⟨rfl,rfl,trivial⟩ ?_
  refine W.cond_t rfl ?_
  refine W.rg (SL.an rfl rfl (SL.an rfl rfl (SL.an rfl rfl (E.fo (W.ret (E.thr ?_))))))
  refine E.nilsl 6 1 rfl ?_
  refine E.fin (rs := [_, _, _]) (rn []) (.inl rfl) rfl (.cons (ResOne.tmp rfl) (.cons (ResOne.tmp rfl) (.cons (ResOne.tmp rfl) .nil))) ?_ ?_ rfl (fixL_spec rfl)
  ·skip
   first | ((have hno : ¬ posR n (barL rs) (atomsL n rs) m ⟨u, f, t⟩ := fun q => by ((obtain ⟨⟨q1, q2, q3, q4, q5⟩, q6, q7, q8⟩ := preR_iff.1 q.1); (try simp only [Int.toNat_natCast] at q6 q7 q8); (first | omega | (have q5 := q5 (by omega); simp_all) | (have q6 := q6 (by omega); omega)))); rw [(apR_n hno).1, (apR_n hno).2, dec_f hno]; rfl)
  · exact SubS.nil

end Go.Proofs.Ytppamigboeaefaa
end
section
namespace Go.Proofs.Ytppamigboeaefaa
open Go Go.RowKit Go.H Go.D33

theorem hcallOk25 : G.callOk Try.prog 25 = true := by kernel_rfl
theorem hcallOk51 : G.callOk Try.prog 51 = true := by kernel_rfl
theorem hcallOk52 : G.callOk Try.prog 52 = true := by kernel_rfl

set_option maxRecDepth 8000 in
set_option maxHeartbeats 3200000 in
/-- bookplate/bookplateref33.next. -/
theorem refnext_h {n : Nat} {ps : List Pr} {rs : List Ru} {m : List Nat} (hf : (Prob.mk (n : Int) ps rs).formed) (hml : m.length = n) (hpl : ps.length ≤ 1000000) :
    Con Try.prog 52 [vA [uI (n : Int), .sl 3 (ps.map ePr), .sl 3 (rs.map eRu)], vL 1 (m.map eN)] [] (.tup [.agg [vB (nextR n ps rs m).1.u, vI (nextR n ps rs m).1.f, vI (nextR n ps rs m).1.t], vI (nextR n ps rs m).2]) [] := by
 have hn2 : (n : Int) ≤ 200 := hf.2.1
 have hr4 : rs.length ≤ 400 := hf.2.2.1
 refine Con.enterL (n := 55) Try.func52 rfl rfl rfl (fun τ w ok vs hin => ?_)
 have hl0_1 := hin.lenA (i := 0) (j := 1) rfl rfl
 try rw [List.length_map] at hl0_1
 have hl0_2 := hin.lenA (i := 0) (j := 2) rfl rfl
 try rw [List.length_map] at hl0_2
 have hl1 := hin.len (i := 1) rfl
 try rw [List.length_map] at hl1
 clear hin
 refine W.rg ?_
 refine SL.memS (O.box (is := [_, _, _]) 101 rfl rfl (by simp) rfl rfl Taken.no) rfl rfl (S' := (101, _) :: _) rfl ?_
 refine SL.memS (O.alloc (z := .agg #[.bool false, .int .i64 0, .int .i64 0]) (is := [.u (.sc (.bool false)), .u (.sc (.int .i64 0)), .u (.sc (.int .i64 0))]) 102 (by kernel_rfl) rfl rfl rfl Taken.no) rfl rfl (S' := (102, _) :: _) rfl ?_
 refine SL.an rfl rfl (E.fo (W.rg ?_))
 refine SL.val (O.build (res := [_, _, _]) (z := .agg #[.bool false, .int .i64 0, .int .i64 0]) (places := [(0, 1), (1, 1), (2, 1)]) rfl rfl Try.underlying57 (by kernel_rfl) (fun _ => by kernel_rfl) rfl rfl Taken.no) ?_
 refine SL.memS (O.alloc (z := .agg #[.bool false, .int .i64 0, .int .i64 0]) (is := [.u (.sc (.bool false)), .u (.sc (.int .i64 0)), .u (.sc (.int .i64 0))]) 103 (by kernel_rfl) rfl rfl rfl Taken.no) rfl rfl (S' := (103, _) :: _) rfl ?_
 refine SL.effS (O.st_ref (m := 3) rfl rfl rfl (js := [_, _, _]) rfl rfl (by kernel_rfl) (by simp) (Nat.le_of_ble_eq_true rfl) rfl (is' := [_, _, _]) rfl Taken.no) (S' := (103, _) :: _) rfl ?_
 refine SL.an rfl rfl (E.fo (W.seq (W.rg (SL.an rfl rfl (E.fo (W.block ?_))))))
 refine W.unroll ?_
 refine W.seq (W.rg (SL.mv rfl rfl ?_))
 refine SL.val (O.det (fun _ => G.R.mv (G.R.lss rfl rfl) (congrArg Value.bool (decide_eq_true (by decide)))) rfl Taken.no) ?_
 refine E.fo ?_
 refine W.cond_t rfl ?_
 refine W.skip (E.to (W.seq (W.block (W.rg (SL.an rfl rfl (E.fo (W.block ?_)))))))
 refine W.loopx1 (fun (f : Nat) => [(9, vI (f : Int)), (7, vI (bestF (posR n (barL rs) (atomsL n rs) m) (gnR n ps rs m) (kindS n false f)).2)]) (fun (f : Nat) => [(103, .cells 57 [vB (bestF (posR n (barL rs) (atomsL n rs) m) (gnR n ps rs m) (kindS n false f)).1.u, vI (bestF (posR n (barL rs) (atomsL n rs) m) (gnR n ps rs m) (kindS n false f)).1.f, vI (bestF (posR n (barL rs) (atomsL n rs) m) (gnR n ps rs m) (kindS n false f)).1.t])]) (fun (f : Nat) => f ≤ n) (fun (f : Nat) => n - f) (0) (rn []) (.cons (t := 1) rfl (.cons (t := 2) rfl (.cons (t := 4) rfl (.cons (t := 5) rfl (.cons (t := 6) rfl (.cons (t := 8) rfl (.cons (t := 16) rfl (.cons (t := 17) rfl .nil)))))))) (.cons (t := 101) rfl (.cons (t := 102) rfl .nil)) rfl ?_ ?_ rfl rfl ?_ ?_
 · exact (SubF.cons rfl (SubF.val rfl (by exact iv_int rfl) SubF.nil))
 · exact (SubS.val rfl (by rfl) SubS.nil)
 ·skip
  omega
 intro f hinv
 have hf_ := hinv
 refine W.seq (W.rg (SL.mv rfl rfl ?_))
 refine SL.val (O.fld_ref (o' := 0) rfl Try.underlying25 rfl (m := 0) (by kernel_rfl) rfl rfl Taken.no) ?_
 refine SL.val (O.ld1 (PtI.ref rfl rfl) rfl Try.underlying3 rfl rfl Taken.no) ?_
 refine SL.val (O.det (fun _ => G.R.lss rfl rfl) rfl Taken.no) ?_
 refine E.fo ?_
 first | refine W.cond_d rfl (fun hc1 => ?_) (fun hc1 => ?_) | refine W.cond_nd rfl (fun hc1 => ?_) (fun hc1 => ?_) | refine W.cond rfl (fun hc1 => ?_) (fun hc1 => ?_)
 ·skip
  refine W.skip (E.to (W.seq (W.block (W.rg (SL.an rfl rfl (E.fo (W.block ?_)))))))
  refine W.loopx1 (fun (j : Nat) => [(10, vI ((j : Int) - 1)), (7, vI (bestF (posR n (barL rs) (atomsL n rs) m) (gnR n ps rs m) ((kindS n false f) ++ (rowS n false f).take j)).2)]) (fun (j : Nat) => [(103, .cells 57 [vB (bestF (posR n (barL rs) (atomsL n rs) m) (gnR n ps rs m) ((kindS n false f) ++ (rowS n false f).take j)).1.u, vI (bestF (posR n (barL rs) (atomsL n rs) m) (gnR n ps rs m) ((kindS n false f) ++ (rowS n false f).take j)).1.f, vI (bestF (posR n (barL rs) (atomsL n rs) m) (gnR n ps rs m) ((kindS n false f) ++ (rowS n false f).take j)).1.t])]) (fun (j : Nat) => j ≤ n + 1) (fun (j : Nat) => n + 1 - j) (0) (rn []) (.cons (t := 1) rfl (.cons (t := 2) rfl (.cons (t := 4) rfl (.cons (t := 5) rfl (.cons (t := 6) rfl (.cons (t := 8) rfl (.cons (t := 9) rfl (.cons (t := 16) rfl (.cons (t := 17) rfl (.cons (t := 20) rfl (.cons (t := 21) rfl (.cons (t := 22) rfl (.cons (t := 23) rfl .nil))))))))))))) (.cons (t := 101) rfl (.cons (t := 102) rfl .nil)) rfl ?_ ?_ rfl rfl ?_ ?_
  · exact (SubF.val rfl (by exact iv_int (by omega)) (SubF.val rfl (by exact iv_int (by rw [List.take_zero, List.append_nil])) SubF.nil))
  · exact (SubS.val rfl (by (rw [List.take_zero, List.append_nil]; try rfl)) SubS.nil)
  ·skip
   omega
  intro j hinv
  have hj := hinv
  refine W.seq (W.rg (SL.mv rfl rfl ?_))
  refine SL.val (O.fld_ref (o' := 0) rfl Try.underlying25 rfl (m := 0) (by kernel_rfl) rfl rfl Taken.no) ?_
  refine SL.val (O.ld1 (PtI.ref rfl rfl) rfl Try.underlying3 rfl rfl Taken.no) ?_
  refine SL.val (O.det (fun _ => G.R.lss rfl rfl) rfl Taken.no) ?_
  refine E.fo ?_
  first | refine W.cond_d rfl (fun hc2 => ?_) (fun hc2 => ?_) | refine W.cond_nd rfl (fun hc2 => ?_) (fun hc2 => ?_) | refine W.cond rfl (fun hc2 => ?_) (fun hc2 => ?_)
  ·skip
   refine W.skip (E.to (W.seq (W.block (W.rg (SL.mv rfl rfl ?_)))))
   refine SL.val (O.det (fun _ => G.R.mv (G.R.eql rfl rfl) (congrArg Value.bool (decide_eq_false (by decide)))) rfl Taken.no) ?_
   refine SL.mv rfl rfl (SL.mv rfl rfl ?_)
   refine SL.val (O.build (res := [_, _, _]) (z := .agg #[.bool false, .int .i64 0, .int .i64 0]) (places := [(0, 1), (1, 1), (2, 1)]) rfl rfl Try.underlying57 (by kernel_rfl) (fun _ => by kernel_rfl) rfl rfl Taken.no) ?_
   refine SL.memS (O.alloc (z := .agg #[.bool false, .int .i64 0, .int .i64 0]) (is := [.u (.sc (.bool false)), .u (.sc (.int .i64 0)), .u (.sc (.int .i64 0))]) 104 (by kernel_rfl) rfl rfl rfl Taken.no) rfl rfl (S' := (104, _) :: _) rfl ?_
   refine SL.effS (O.st_ref (m := 3) rfl rfl rfl (js := [_, _, _]) rfl rfl (by kernel_rfl) (by simp) (Nat.le_of_ble_eq_true rfl) rfl (is' := [_, _, _]) rfl Taken.no) (S' := (104, _) :: _) rfl ?_
   refine E.fo ?_
   refine W.pick (K:=[(1,_),(2,_),(4,_),(5,_),(6,_),(7,_),(8,_),(9,_),(10,_),(11,_),(16,_),(17,_),(20,_),(21,_),(22,_),(23,_),(26,_),(27,_),(28,_),(29,_),(32,_),(33,_),(34,_),(35,_),(36,_)]) (Z:=[(101,_),(102,_),(103,_),(104,_)]) ⟨rfl,rfl,rfl,rfl,rfl,rfl,rfl,rfl,rfl,rfl,rfl,rfl,rfl,rfl,rfl,rfl,rfl,rfl,rfl,rfl,rfl,rfl,rfl,rfl,rfl,trivial⟩ ⟨rfl,rfl,rfl,rfl,trivial⟩ ?_
   refine W.rg ?_
   refine SL.val (O.ldN (m := 3) (PtI.ref rfl rfl) (js := [_, _, _]) rfl (Nat.le_of_ble_eq_true rfl) Try.underlying25 rfl (by kernel_rfl) rfl Taken.no) ?_
   refine SL.mv rfl rfl ?_
   refine SL.val (O.ldN (m := 3) (PtI.ref rfl rfl) (js := [_, _, _]) rfl (Nat.le_of_ble_eq_true rfl) Try.underlying57 rfl (by kernel_rfl) rfl Taken.no) ?_
   refine SL.memS (O.call (rn []) [] rfl rfl rfl (refapply_h (u := false) (f := (f : Int)) (t := (j : Int) - 1) hf hml hpl) (.cons (ArgOk.aggU (.cons (ArgOk.same rfl) (.cons (ArgOk.same rfl) (.cons (ArgOk.same rfl) .nil)))) (.cons (ArgOk.same rfl) (.cons (ArgOk.aggU (.cons (ArgOk.same rfl) (.cons (ArgOk.same rfl) (.cons (ArgOk.same rfl) .nil)))) .nil))) SubS.nil rfl rfl rfl rfl rfl (.inl rfl) hcallOk51 (r' := .tup [.u _, .u _, .u _]) rfl rfl Taken.no) rfl rfl (S' := _) rfl ?_
   refine SL.mv rfl rfl ?_
   refine SL.val (O.extract rfl rfl rfl Taken.no) ?_
   refine SL.val (O.extract rfl rfl rfl Taken.no) ?_
   refine SL.val (O.extract rfl rfl rfl Taken.no) ?_
   refine SL.an rfl rfl (SL.an rfl rfl (SL.an rfl rfl (E.fo ?_)))
   refine W.pick (K:=[(1,_),(2,_),(4,_),(5,_),(6,_),(7,_),(8,_),(9,_),(10,_),(11,_),(13,_),(14,_),(16,_),(17,_),(20,_),(21,_),(22,_),(23,_),(26,_),(27,_),(28,_),(29,_),(32,_),(33,_),(34,_),(35,_),(36,_),(37,_),(38,_),(39,_),(40,_),(41,_),(42,_),(43,_),(44,_)]) (Z:=[(101,_),(102,_),(103,_),(104,_)]) ⟨rfl,rfl,rfl,rfl,rfl,rfl,rfl,rfl,rfl,rfl,rfl,rfl,rfl,rfl,rfl,rfl,rfl,rfl,rfl,rfl,rfl,rfl,rfl,rfl,rfl,rfl,rfl,rfl,rfl,rfl,rfl,rfl,rfl,rfl,rfl,trivial⟩ ⟨rfl,rfl,rfl,rfl,trivial⟩ ?_
   refine W.rg (SL.mv rfl rfl (SL.mv rfl rfl ?_))
   refine SL.case (j := 1) (g := 46) (want := true) rfl rfl (fun hg3 => ?_) (fun hg3 => ?_)
   ·skip
    first | have hg3p := G.gA1 hg3 | have hg3p := G.gA2 hg3 | have hg3p := hg3
    refine SL.val (O.move rfl rfl (Taken.yes rfl rfl hg3)) ?_
    refine SL.val (O.move rfl rfl (Taken.yes rfl rfl hg3)) ?_
    refine SL.val (O.det (fun _ => G.R.gtr rfl rfl) rfl (Taken.yes rfl rfl hg3)) ?_
    refine SL.val (O.pick_t rfl hg3 rfl rfl Taken.no) ?_
    refine E.fo ?_
    refine W.pick (K:=[(1,_),(2,_),(4,_),(5,_),(6,_),(7,_),(8,_),(9,_),(10,_),(11,_),(13,_),(14,_),(16,_),(17,_),(20,_),(21,_),(22,_),(23,_),(26,_),(27,_),(28,_),(29,_),(32,_),(33,_),(34,_),(35,_),(36,_),(37,_),(38,_),(39,_),(40,_),(41,_),(42,_),(43,_),(44,_),(45,_),(46,_),(47,_),(48,_),(49,_),(50,_)]) (Z:=[(101,_),(102,_),(103,_),(104,_)]) ⟨rfl,rfl,rfl,rfl,rfl,rfl,rfl,rfl,rfl,rfl,rfl,rfl,rfl,rfl,rfl,rfl,rfl,rfl,rfl,rfl,rfl,rfl,rfl,rfl,rfl,rfl,rfl,rfl,rfl,rfl,rfl,rfl,rfl,rfl,rfl,rfl,rfl,rfl,rfl,rfl,rfl,trivial⟩ ⟨rfl,rfl,rfl,rfl,trivial⟩ ?_
    first | refine W.cond_d rfl (fun hc4 => ?_) (fun hc4 => ?_) | refine W.cond_nd rfl (fun hc4 => ?_) (fun hc4 => ?_) | refine W.cond rfl (fun hc4 => ?_) (fun hc4 => ?_)
    ·skip
     have hp1 : (posR n (barL rs) (atomsL n rs) m) (Stp.mk false (f : Int) ((j : Int) - 1)) := by first | assumption | simp_all
     have hp2 : (bestF (posR n (barL rs) (atomsL n rs) m) (gnR n ps rs m) ((kindS n false f) ++ (rowS n false f).take j)).2 < (gnR n ps rs m) (Stp.mk false (f : Int) ((j : Int) - 1)) := by rw [← (apR_y hp1).2]; assumption
     refine W.region ?_
     refine SL.val (O.ldN (m := 3) (PtI.ref rfl rfl) (js := [_, _, _]) rfl (Nat.le_of_ble_eq_true rfl) Try.underlying57 rfl (by kernel_rfl) rfl Taken.no) ?_
     refine SL.mv rfl rfl ?_
     refine SL.effS (O.st_ref (m := 3) rfl rfl rfl (js := [_, _, _]) rfl rfl (by kernel_rfl) (by simp) (Nat.le_of_ble_eq_true rfl) rfl (is' := [_, _, _]) rfl Taken.no) (S' := (103, _) :: _) rfl ?_
     refine SL.an rfl rfl (SL.nil (E.inn (E.to ?_)))
     refine W.pick (K:=[(1,_),(2,_),(4,_),(5,_),(6,_),(7,_),(8,_),(9,_),(10,_),(11,_),(13,_),(14,_),(16,_),(17,_),(20,_),(21,_),(22,_),(23,_),(26,_),(27,_),(28,_),(29,_),(32,_),(33,_),(34,_),(35,_),(36,_),(37,_),(38,_),(39,_),(40,_),(41,_),(42,_),(43,_),(44,_),(45,_),(46,_),(47,_),(48,_),(49,_),(50,_),(51,_),(52,_)]) (Z:=[(101,_),(102,_),(103,_),(104,_)]) ⟨rfl,rfl,rfl,rfl,rfl,rfl,rfl,rfl,rfl,rfl,rfl,rfl,rfl,rfl,rfl,rfl,rfl,rfl,rfl,rfl,rfl,rfl,rfl,rfl,rfl,rfl,rfl,rfl,rfl,rfl,rfl,rfl,rfl,rfl,rfl,rfl,rfl,rfl,rfl,rfl,rfl,rfl,rfl,trivial⟩ ⟨rfl,rfl,rfl,rfl,trivial⟩ ?_
     refine W.region (SL.mv rfl rfl ?_)
     refine SL.val (O.det (fun _ => by first | exact G.R.add64 rfl rfl (by omega) | exact G.R.add rfl rfl) rfl Taken.no) ?_
     refine SL.an rfl rfl (SL.nil ?_)
     refine E.again ((j + 1)) (rn []) ?_ ?_ rfl (fixL_spec rfl) ?_ ?_
     · exact (SubF.val rfl (by (try dsimp only); exact iv_int (by omega)) (SubF.val rfl (by (try dsimp only); first | exact iv_int (by rw [snocP (l := (rowS n false f)) (by rw [rowS_len]; omega), ← List.append_assoc, best_snoc, rowS_get (by omega), pick_y hp1 hp2]; exact (apR_y hp1).2) | exact iv_int (by rw [snocP (l := (rowS n false f)) (by rw [rowS_len]; omega), ← List.append_assoc, best_snoc, rowS_get (by omega), pick_n hp])) (SubF.cons rfl (SubF.cons rfl (SubF.cons rfl (SubF.cons rfl (SubF.cons rfl (SubF.cons rfl (SubF.cons rfl (SubF.cons rfl (SubF.cons rfl (SubF.cons rfl (SubF.cons rfl (SubF.cons rfl (SubF.cons rfl SubF.nil)))))))))))))))
     · exact (SubS.val rfl (by (try dsimp only); first | (rw [snocP (l := (rowS n false f)) (by rw [rowS_len]; omega), ← List.append_assoc, best_snoc, rowS_get (by omega), pick_y hp1 hp2]; rfl) | (rw [snocP (l := (rowS n false f)) (by rw [rowS_len]; omega), ← List.append_assoc, best_snoc, rowS_get (by omega), pick_n hp]; rfl)) (SubS.cons rfl (SubS.cons rfl SubS.nil)))
     ·try dsimp only
      omega
     · (try dsimp only); omega
    ·skip
     have hp : ¬ ((posR n (barL rs) (atomsL n rs) m) (Stp.mk false (f : Int) ((j : Int) - 1)) ∧ (bestF (posR n (barL rs) (atomsL n rs) m) (gnR n ps rs m) ((kindS n false f) ++ (rowS n false f).take j)).2 < (gnR n ps rs m) (Stp.mk false (f : Int) ((j : Int) - 1))) := fun q => by have q2 := q.2; rw [← (apR_y q.1).2] at q2; exact absurd q2 (by assumption)
     refine W.skip (E.inn (E.to ?_))
     refine W.pick (K:=[(1,_),(2,_),(4,_),(5,_),(6,_),(7,_),(8,_),(9,_),(10,_),(11,_),(13,_),(14,_),(16,_),(17,_),(20,_),(21,_),(22,_),(23,_),(26,_),(27,_),(28,_),(29,_),(32,_),(33,_),(34,_),(35,_),(36,_),(37,_),(38,_),(39,_),(40,_),(41,_),(42,_),(43,_),(44,_),(45,_),(46,_),(47,_),(48,_),(49,_),(50,_)]) (Z:=[(101,_),(102,_),(103,_),(104,_)]) ⟨rfl,rfl,rfl,rfl,rfl,rfl,rfl,rfl,rfl,rfl,rfl,rfl,rfl,rfl,rfl,rfl,rfl,rfl,rfl,rfl,rfl,rfl,rfl,rfl,rfl,rfl,rfl,rfl,rfl,rfl,rfl,rfl,rfl,rfl,rfl,rfl,rfl,rfl,rfl,rfl,rfl,trivial⟩ ⟨rfl,rfl,rfl,rfl,trivial⟩ ?_
     refine W.region (SL.mv rfl rfl ?_)
     refine SL.val (O.det (fun _ => by first | exact G.R.add64 rfl rfl (by omega) | exact G.R.add rfl rfl) rfl Taken.no) ?_
     refine SL.an rfl rfl (SL.nil ?_)
     refine E.again ((j + 1)) (rn []) ?_ ?_ rfl (fixL_spec rfl) ?_ ?_
     · exact (SubF.val rfl (by (try dsimp only); exact iv_int (by omega)) (SubF.val rfl (by (try dsimp only); first | exact iv_int (by rw [snocP (l := (rowS n false f)) (by rw [rowS_len]; omega), ← List.append_assoc, best_snoc, rowS_get (by omega), pick_y hp1 hp2]; exact (apR_y hp1).2) | exact iv_int (by rw [snocP (l := (rowS n false f)) (by rw [rowS_len]; omega), ← List.append_assoc, best_snoc, rowS_get (by omega), pick_n hp])) (SubF.cons rfl (SubF.cons rfl (SubF.cons rfl (SubF.cons rfl (SubF.cons rfl (SubF.cons rfl (SubF.cons rfl (SubF.cons rfl (SubF.cons rfl (SubF.cons rfl (SubF.cons rfl (SubF.cons rfl (SubF.cons rfl SubF.nil)))))))))))))))
     · exact (SubS.val rfl (by (try dsimp only); first | (rw [snocP (l := (rowS n false f)) (by rw [rowS_len]; omega), ← List.append_assoc, best_snoc, rowS_get (by omega), pick_y hp1 hp2]; rfl) | (rw [snocP (l := (rowS n false f)) (by rw [rowS_len]; omega), ← List.append_assoc, best_snoc, rowS_get (by omega), pick_n hp]; rfl)) (SubS.cons rfl (SubS.cons rfl SubS.nil)))
     ·try dsimp only
      omega
     · (try dsimp only); omega
   ·skip
    first | have hg3p := G.gA5 hg3 | have hg3p := G.gA6 hg3 | have hg3p := hg3
    have hp : ¬ ((posR n (barL rs) (atomsL n rs) m) (Stp.mk false (f : Int) ((j : Int) - 1)) ∧ (bestF (posR n (barL rs) (atomsL n rs) m) (gnR n ps rs m) ((kindS n false f) ++ (rowS n false f).take j)).2 < (gnR n ps rs m) (Stp.mk false (f : Int) ((j : Int) - 1))) := fun q => absurd q.1 (by assumption)
    refine SL.sk rfl rfl rfl hg3 (SL.sk rfl rfl rfl hg3 (SL.sk rfl rfl rfl hg3 ?_))
    refine SL.val (O.pick_f rfl (G.ne_t hg3) rfl rfl Taken.no) ?_
    refine E.fo ?_
    refine W.pick (K:=[(1,_),(2,_),(4,_),(5,_),(6,_),(7,_),(8,_),(9,_),(10,_),(11,_),(13,_),(14,_),(16,_),(17,_),(20,_),(21,_),(22,_),(23,_),(26,_),(27,_),(28,_),(29,_),(32,_),(33,_),(34,_),(35,_),(36,_),(37,_),(38,_),(39,_),(40,_),(41,_),(42,_),(43,_),(44,_),(45,_),(46,_),(47,_),(48,_),(49,_),(50,_)]) (Z:=[(101,_),(102,_),(103,_),(104,_)]) ⟨rfl,rfl,rfl,rfl,rfl,rfl,rfl,rfl,rfl,rfl,rfl,rfl,rfl,rfl,rfl,rfl,rfl,rfl,rfl,rfl,rfl,rfl,rfl,rfl,rfl,rfl,rfl,rfl,rfl,rfl,rfl,rfl,rfl,rfl,rfl,rfl,rfl,rfl,rfl,rfl,rfl,trivial⟩ ⟨rfl,rfl,rfl,rfl,trivial⟩ ?_
    refine W.cond_f rfl ?_
    refine W.skip (E.inn (E.to ?_))
    refine W.pick (K:=[(1,_),(2,_),(4,_),(5,_),(6,_),(7,_),(8,_),(9,_),(10,_),(11,_),(13,_),(14,_),(16,_),(17,_),(20,_),(21,_),(22,_),(23,_),(26,_),(27,_),(28,_),(29,_),(32,_),(33,_),(34,_),(35,_),(36,_),(37,_),(38,_),(39,_),(40,_),(41,_),(42,_),(43,_),(44,_),(45,_),(46,_),(47,_),(48,_),(49,_),(50,_)]) (Z:=[(101,_),(102,_),(103,_),(104,_)]) ⟨rfl,rfl,rfl,rfl,rfl,rfl,rfl,rfl,rfl,rfl,rfl,rfl,rfl,rfl,rfl,rfl,rfl,rfl,rfl,rfl,rfl,rfl,rfl,rfl,rfl,rfl,rfl,rfl,rfl,rfl,rfl,rfl,rfl,rfl,rfl,rfl,rfl,rfl,rfl,rfl,rfl,trivial⟩ ⟨rfl,rfl,rfl,rfl,trivial⟩ ?_
    refine W.region (SL.mv rfl rfl ?_)
    refine SL.val (O.det (fun _ => by first | exact G.R.add64 rfl rfl (by omega) | exact G.R.add rfl rfl) rfl Taken.no) ?_
    refine SL.an rfl rfl (SL.nil ?_)
    refine E.again ((j + 1)) (rn []) ?_ ?_ rfl (fixL_spec rfl) ?_ ?_
    · exact (SubF.val rfl (by (try dsimp only); exact iv_int (by omega)) (SubF.val rfl (by (try dsimp only); first | exact iv_int (by rw [snocP (l := (rowS n false f)) (by rw [rowS_len]; omega), ← List.append_assoc, best_snoc, rowS_get (by omega), pick_y hp1 hp2]; exact (apR_y hp1).2) | exact iv_int (by rw [snocP (l := (rowS n false f)) (by rw [rowS_len]; omega), ← List.append_assoc, best_snoc, rowS_get (by omega), pick_n hp])) (SubF.cons rfl (SubF.cons rfl (SubF.cons rfl (SubF.cons rfl (SubF.cons rfl (SubF.cons rfl (SubF.cons rfl (SubF.cons rfl (SubF.cons rfl (SubF.cons rfl (SubF.cons rfl (SubF.cons rfl (SubF.cons rfl SubF.nil)))))))))))))))
    · exact (SubS.val rfl (by (try dsimp only); first | (rw [snocP (l := (rowS n false f)) (by rw [rowS_len]; omega), ← List.append_assoc, best_snoc, rowS_get (by omega), pick_y hp1 hp2]; rfl) | (rw [snocP (l := (rowS n false f)) (by rw [rowS_len]; omega), ← List.append_assoc, best_snoc, rowS_get (by omega), pick_n hp]; rfl)) (SubS.cons rfl (SubS.cons rfl SubS.nil)))
    ·try dsimp only
     omega
    · (try dsimp only); omega
  ·skip
   refine W.exit (E.th (E.th (E.hit (E.inn (E.to (W.region (SL.mv rfl rfl ?_)))))))
   refine SL.val (O.det (fun _ => by first | exact G.R.add64 rfl rfl (by omega) | exact G.R.add rfl rfl) rfl Taken.no) ?_
   refine SL.an rfl rfl (SL.nil ?_)
   refine E.again ((f + 1)) (rn []) ?_ ?_ rfl (fixL_spec rfl) ?_ ?_
   · exact (SubF.cons rfl (SubF.val rfl (by (try dsimp only); exact iv_int (by rw [kindS_s, show j = (rowS n false f).length by rw [rowS_len]; omega, List.take_length])) (SubF.cons rfl (SubF.cons rfl (SubF.cons rfl (SubF.cons rfl (SubF.cons rfl (SubF.cons rfl (SubF.cons rfl (SubF.cons rfl SubF.nil))))))))))
   · exact (SubS.val rfl (by (try dsimp only); (rw [kindS_s, show j = (rowS n false f).length by rw [rowS_len]; omega, List.take_length]; rfl)) (SubS.cons rfl (SubS.cons rfl SubS.nil)))
   ·try dsimp only
    omega
   · (try dsimp only); omega
 ·skip
  refine W.exit (E.th (E.th (E.hit (E.inn (E.to (W.region (SL.mv rfl rfl ?_)))))))
  refine SL.val (O.det (fun _ => by first | exact G.R.add64 rfl rfl (by omega) | exact G.R.add rfl rfl) rfl Taken.no) ?_
  refine SL.an rfl rfl (SL.nil ?_)
  refine E.reround ?_
  refine W.pick (K:=[(1,_),(2,_),(4,_),(5,_),(6,_),(7,_),(8,_),(9,_),(16,_),(17,_),(18,_),(19,_),(20,_),(21,_),(22,_),(23,_)]) (Z:=[(101,_),(102,_),(103,_)]) ⟨rfl,rfl,rfl,rfl,rfl,rfl,rfl,rfl,rfl,rfl,rfl,rfl,rfl,rfl,rfl,rfl,trivial⟩ ⟨rfl,rfl,rfl,trivial⟩ ?_
  refine W.seq (W.rg (SL.mv rfl rfl ?_))
  refine SL.val (O.det (fun _ => G.R.mv (G.R.lss rfl rfl) (congrArg Value.bool (decide_eq_true (by decide)))) rfl Taken.no) ?_
  refine E.fo ?_
  refine W.cond_t rfl ?_
  refine W.skip (E.to (W.seq (W.block (W.rg (SL.an rfl rfl (E.fo (W.block ?_)))))))
  refine W.loopx1 (fun (f : Nat) => [(9, vI (f : Int)), (7, vI (bestF (posR n (barL rs) (atomsL n rs) m) (gnR n ps rs m) (kindS n false n ++ kindS n true f)).2)]) (fun (f : Nat) => [(103, .cells 57 [vB (bestF (posR n (barL rs) (atomsL n rs) m) (gnR n ps rs m) (kindS n false n ++ kindS n true f)).1.u, vI (bestF (posR n (barL rs) (atomsL n rs) m) (gnR n ps rs m) (kindS n false n ++ kindS n true f)).1.f, vI (bestF (posR n (barL rs) (atomsL n rs) m) (gnR n ps rs m) (kindS n false n ++ kindS n true f)).1.t])]) (fun (f : Nat) => f ≤ n) (fun (f : Nat) => n - f) (0) (rn []) (.cons (t := 1) rfl (.cons (t := 2) rfl (.cons (t := 4) rfl (.cons (t := 5) rfl (.cons (t := 6) rfl (.cons (t := 8) rfl (.cons (t := 16) rfl (.cons (t := 17) rfl (.cons (t := 18) rfl (.cons (t := 19) rfl .nil)))))))))) (.cons (t := 101) rfl (.cons (t := 102) rfl .nil)) rfl ?_ ?_ rfl rfl ?_ ?_
  · exact (SubF.cons rfl (SubF.val rfl (by exact iv_int (by rw [show f = n by omega]; exact congrArg (fun l => (bestF (posR n (barL rs) (atomsL n rs) m) (gnR n ps rs m) l).2) (List.append_nil _).symm)) SubF.nil))
  · exact (SubS.val rfl (by (rw [show f = n by omega, show kindS n false n ++ kindS n true 0 = kindS n false n from List.append_nil _]; try rfl)) SubS.nil)
  ·skip
   omega
  intro f hinv
  have hf_ := hinv
  refine W.seq (W.rg (SL.mv rfl rfl ?_))
  refine SL.val (O.fld_ref (o' := 0) rfl Try.underlying25 rfl (m := 0) (by kernel_rfl) rfl rfl Taken.no) ?_
  refine SL.val (O.ld1 (PtI.ref rfl rfl) rfl Try.underlying3 rfl rfl Taken.no) ?_
  refine SL.val (O.det (fun _ => G.R.lss rfl rfl) rfl Taken.no) ?_
  refine E.fo ?_
  first | refine W.cond_d rfl (fun hc5 => ?_) (fun hc5 => ?_) | refine W.cond_nd rfl (fun hc5 => ?_) (fun hc5 => ?_) | refine W.cond rfl (fun hc5 => ?_) (fun hc5 => ?_)
  ·skip
   refine W.skip (E.to (W.seq (W.block (W.rg (SL.an rfl rfl (E.fo (W.block ?_)))))))
   refine W.loopx1 (fun (j : Nat) => [(10, vI ((j : Int) - 1)), (7, vI (bestF (posR n (barL rs) (atomsL n rs) m) (gnR n ps rs m) ((kindS n false n ++ kindS n true f) ++ (rowS n true f).take j)).2)]) (fun (j : Nat) => [(103, .cells 57 [vB (bestF (posR n (barL rs) (atomsL n rs) m) (gnR n ps rs m) ((kindS n false n ++ kindS n true f) ++ (rowS n true f).take j)).1.u, vI (bestF (posR n (barL rs) (atomsL n rs) m) (gnR n ps rs m) ((kindS n false n ++ kindS n true f) ++ (rowS n true f).take j)).1.f, vI (bestF (posR n (barL rs) (atomsL n rs) m) (gnR n ps rs m) ((kindS n false n ++ kindS n true f) ++ (rowS n true f).take j)).1.t])]) (fun (j : Nat) => j ≤ n + 1) (fun (j : Nat) => n + 1 - j) (0) (rn []) (.cons (t := 1) rfl (.cons (t := 2) rfl (.cons (t := 4) rfl (.cons (t := 5) rfl (.cons (t := 6) rfl (.cons (t := 8) rfl (.cons (t := 9) rfl (.cons (t := 16) rfl (.cons (t := 17) rfl (.cons (t := 18) rfl (.cons (t := 19) rfl (.cons (t := 20) rfl (.cons (t := 21) rfl (.cons (t := 22) rfl (.cons (t := 23) rfl .nil))))))))))))))) (.cons (t := 101) rfl (.cons (t := 102) rfl .nil)) rfl ?_ ?_ rfl rfl ?_ ?_
   · exact (SubF.val rfl (by exact iv_int (by omega)) (SubF.val rfl (by exact iv_int (by rw [List.take_zero, List.append_nil])) SubF.nil))
   · exact (SubS.val rfl (by (rw [List.take_zero, List.append_nil]; try rfl)) SubS.nil)
   ·skip
    omega
   intro j hinv
   have hj := hinv
   refine W.seq (W.rg (SL.mv rfl rfl ?_))
   refine SL.val (O.fld_ref (o' := 0) rfl Try.underlying25 rfl (m := 0) (by kernel_rfl) rfl rfl Taken.no) ?_
   refine SL.val (O.ld1 (PtI.ref rfl rfl) rfl Try.underlying3 rfl rfl Taken.no) ?_
   refine SL.val (O.det (fun _ => G.R.lss rfl rfl) rfl Taken.no) ?_
   refine E.fo ?_
   first | refine W.cond_d rfl (fun hc6 => ?_) (fun hc6 => ?_) | refine W.cond_nd rfl (fun hc6 => ?_) (fun hc6 => ?_) | refine W.cond rfl (fun hc6 => ?_) (fun hc6 => ?_)
   ·skip
    refine W.skip (E.to (W.seq (W.block (W.rg (SL.mv rfl rfl ?_)))))
    refine SL.val (O.det (fun _ => G.R.mv (G.R.eql rfl rfl) (congrArg Value.bool (decide_eq_true (by decide)))) rfl Taken.no) ?_
    refine SL.mv rfl rfl (SL.mv rfl rfl ?_)
    refine SL.val (O.build (res := [_, _, _]) (z := .agg #[.bool false, .int .i64 0, .int .i64 0]) (places := [(0, 1), (1, 1), (2, 1)]) rfl rfl Try.underlying57 (by kernel_rfl) (fun _ => by kernel_rfl) rfl rfl Taken.no) ?_
    refine SL.memS (O.alloc (z := .agg #[.bool false, .int .i64 0, .int .i64 0]) (is := [.u (.sc (.bool false)), .u (.sc (.int .i64 0)), .u (.sc (.int .i64 0))]) 105 (by kernel_rfl) rfl rfl rfl Taken.no) rfl rfl (S' := (105, _) :: _) rfl ?_
    refine SL.effS (O.st_ref (m := 3) rfl rfl rfl (js := [_, _, _]) rfl rfl (by kernel_rfl) (by simp) (Nat.le_of_ble_eq_true rfl) rfl (is' := [_, _, _]) rfl Taken.no) (S' := (105, _) :: _) rfl ?_
    refine E.fo ?_
    refine W.pick (K:=[(1,_),(2,_),(4,_),(5,_),(6,_),(7,_),(8,_),(9,_),(10,_),(11,_),(16,_),(17,_),(18,_),(19,_),(20,_),(21,_),(22,_),(23,_),(26,_),(27,_),(28,_),(29,_),(32,_),(33,_),(34,_),(35,_),(36,_)]) (Z:=[(101,_),(102,_),(103,_),(105,_)]) ⟨rfl,rfl,rfl,rfl,rfl,rfl,rfl,rfl,rfl,rfl,rfl,rfl,rfl,rfl,rfl,rfl,rfl,rfl,rfl,rfl,rfl,rfl,rfl,rfl,rfl,rfl,rfl,trivial⟩ ⟨rfl,rfl,rfl,rfl,trivial⟩ ?_
    refine W.rg ?_
    refine SL.val (O.ldN (m := 3) (PtI.ref rfl rfl) (js := [_, _, _]) rfl (Nat.le_of_ble_eq_true rfl) Try.underlying25 rfl (by kernel_rfl) rfl Taken.no) ?_
    refine SL.mv rfl rfl ?_
    refine SL.val (O.ldN (m := 3) (PtI.ref rfl rfl) (js := [_, _, _]) rfl (Nat.le_of_ble_eq_true rfl) Try.underlying57 rfl (by kernel_rfl) rfl Taken.no) ?_
    refine SL.memS (O.call (rn []) [] rfl rfl rfl (refapply_h (u := true) (f := (f : Int)) (t := (j : Int) - 1) hf hml hpl) (.cons (ArgOk.aggU (.cons (ArgOk.same rfl) (.cons (ArgOk.same rfl) (.cons (ArgOk.same rfl) .nil)))) (.cons (ArgOk.same rfl) (.cons (ArgOk.aggU (.cons (ArgOk.same rfl) (.cons (ArgOk.same rfl) (.cons (ArgOk.same rfl) .nil)))) .nil))) SubS.nil rfl rfl rfl rfl rfl (.inl rfl) hcallOk51 (r' := .tup [.u _, .u _, .u _]) rfl rfl Taken.no) rfl rfl (S' := _) rfl ?_
    refine SL.mv rfl rfl ?_
    refine SL.val (O.extract rfl rfl rfl Taken.no) ?_
    refine SL.val (O.extract rfl rfl rfl Taken.no) ?_
    refine SL.val (O.extract rfl rfl rfl Taken.no) ?_
    refine SL.an rfl rfl (SL.an rfl rfl (SL.an rfl rfl (E.fo ?_)))
    refine W.pick (K:=[(1,_),(2,_),(4,_),(5,_),(6,_),(7,_),(8,_),(9,_),(10,_),(11,_),(13,_),(14,_),(16,_),(17,_),(18,_),(19,_),(20,_),(21,_),(22,_),(23,_),(26,_),(27,_),(28,_),(29,_),(32,_),(33,_),(34,_),(35,_),(36,_),(37,_),(38,_),(39,_),(40,_),(41,_),(42,_),(43,_),(44,_)]) (Z:=[(101,_),(102,_),(103,_),(105,_)]) ⟨rfl,rfl,rfl,rfl,rfl,rfl,rfl,rfl,rfl,rfl,rfl,rfl,rfl,rfl,rfl,rfl,rfl,rfl,rfl,rfl,rfl,rfl,rfl,rfl,rfl,rfl,rfl,rfl,rfl,rfl,rfl,rfl,rfl,rfl,rfl,rfl,rfl,trivial⟩ ⟨rfl,rfl,rfl,rfl,trivial⟩ ?_
    refine W.rg (SL.mv rfl rfl (SL.mv rfl rfl ?_))
    refine SL.case (j := 1) (g := 46) (want := true) rfl rfl (fun hg7 => ?_) (fun hg7 => ?_)
    ·skip
     first | have hg7p := G.gA1 hg7 | have hg7p := G.gA2 hg7 | have hg7p := hg7
     refine SL.val (O.move rfl rfl (Taken.yes rfl rfl hg7)) ?_
     refine SL.val (O.move rfl rfl (Taken.yes rfl rfl hg7)) ?_
     refine SL.val (O.det (fun _ => G.R.gtr rfl rfl) rfl (Taken.yes rfl rfl hg7)) ?_
     refine SL.val (O.pick_t rfl hg7 rfl rfl Taken.no) ?_
     refine E.fo ?_
     refine W.pick (K:=[(1,_),(2,_),(4,_),(5,_),(6,_),(7,_),(8,_),(9,_),(10,_),(11,_),(13,_),(14,_),(16,_),(17,_),(18,_),(19,_),(20,_),(21,_),(22,_),(23,_),(26,_),(27,_),(28,_),(29,_),(32,_),(33,_),(34,_),(35,_),(36,_),(37,_),(38,_),(39,_),(40,_),(41,_),(42,_),(43,_),(44,_),(45,_),(46,_),(47,_),(48,_),(49,_),(50,_)]) (Z:=[(101,_),(102,_),(103,_),(105,_)]) ⟨rfl,rfl,rfl,rfl,rfl,rfl,rfl,rfl,rfl,rfl,rfl,rfl,rfl,rfl,rfl,rfl,rfl,rfl,rfl,rfl,rfl,rfl,rfl,rfl,rfl,rfl,rfl,rfl,rfl,rfl,rfl,rfl,rfl,rfl,rfl,rfl,rfl,rfl,rfl,rfl,rfl,rfl,rfl,trivial⟩ ⟨rfl,rfl,rfl,rfl,trivial⟩ ?_
     first | refine W.cond_d rfl (fun hc8 => ?_) (fun hc8 => ?_) | refine W.cond_nd rfl (fun hc8 => ?_) (fun hc8 => ?_) | refine W.cond rfl (fun hc8 => ?_) (fun hc8 => ?_)
     ·skip
      have hp1 : (posR n (barL rs) (atomsL n rs) m) (Stp.mk true (f : Int) ((j : Int) - 1)) := by first | assumption | simp_all
      have hp2 : (bestF (posR n (barL rs) (atomsL n rs) m) (gnR n ps rs m) ((kindS n false n ++ kindS n true f) ++ (rowS n true f).take j)).2 < (gnR n ps rs m) (Stp.mk true (f : Int) ((j : Int) - 1)) := by rw [← (apR_y hp1).2]; assumption
      refine W.region ?_
      refine SL.val (O.ldN (m := 3) (PtI.ref rfl rfl) (js := [_, _, _]) rfl (Nat.le_of_ble_eq_true rfl) Try.underlying57 rfl (by kernel_rfl) rfl Taken.no) ?_
      refine SL.mv rfl rfl ?_
      refine SL.effS (O.st_ref (m := 3) rfl rfl rfl (js := [_, _, _]) rfl rfl (by kernel_rfl) (by simp) (Nat.le_of_ble_eq_true rfl) rfl (is' := [_, _, _]) rfl Taken.no) (S' := (103, _) :: _) rfl ?_
      refine SL.an rfl rfl (SL.nil (E.inn (E.to ?_)))
      refine W.pick (K:=[(1,_),(2,_),(4,_),(5,_),(6,_),(7,_),(8,_),(9,_),(10,_),(11,_),(13,_),(14,_),(16,_),(17,_),(18,_),(19,_),(20,_),(21,_),(22,_),(23,_),(26,_),(27,_),(28,_),(29,_),(32,_),(33,_),(34,_),(35,_),(36,_),(37,_),(38,_),(39,_),(40,_),(41,_),(42,_),(43,_),(44,_),(45,_),(46,_),(47,_),(48,_),(49,_),(50,_),(51,_),(52,_)]) (Z:=[(101,_),(102,_),(103,_),(105,_)]) ⟨rfl,rfl,rfl,rfl,rfl,rfl,rfl,rfl,rfl,rfl,rfl,rfl,rfl,rfl,rfl,rfl,rfl,rfl,rfl,rfl,rfl,rfl,rfl,rfl,rfl,rfl,rfl,rfl,rfl,rfl,rfl,rfl,rfl,rfl,rfl,rfl,rfl,rfl,rfl,rfl,rfl,rfl,rfl,rfl,rfl,trivial⟩ ⟨rfl,rfl,rfl,rfl,trivial⟩ ?_
      refine W.region (SL.mv rfl rfl ?_)
      refine SL.val (O.det (fun _ => by first | exact G.R.add64 rfl rfl (by omega) | exact G.R.add rfl rfl) rfl Taken.no) ?_
      refine SL.an rfl rfl (SL.nil ?_)
      refine E.again ((j + 1)) (rn []) ?_ ?_ rfl (fixL_spec rfl) ?_ ?_
      · exact (SubF.val rfl (by (try dsimp only); exact iv_int (by omega)) (SubF.val rfl (by (try dsimp only); first | exact iv_int (by rw [snocP (l := (rowS n true f)) (by rw [rowS_len]; omega), ← List.append_assoc, best_snoc, rowS_get (by omega), pick_y hp1 hp2]; exact (apR_y hp1).2) | exact iv_int (by rw [snocP (l := (rowS n true f)) (by rw [rowS_len]; omega), ← List.append_assoc, best_snoc, rowS_get (by omega), pick_n hp])) (SubF.cons rfl (SubF.cons rfl (SubF.cons rfl (SubF.cons rfl (SubF.cons rfl (SubF.cons rfl (SubF.cons rfl (SubF.cons rfl (SubF.cons rfl (SubF.cons rfl (SubF.cons rfl (SubF.cons rfl (SubF.cons rfl (SubF.cons rfl (SubF.cons rfl SubF.nil)))))))))))))))))
      · exact (SubS.val rfl (by (try dsimp only); first | (rw [snocP (l := (rowS n true f)) (by rw [rowS_len]; omega), ← List.append_assoc, best_snoc, rowS_get (by omega), pick_y hp1 hp2]; rfl) | (rw [snocP (l := (rowS n true f)) (by rw [rowS_len]; omega), ← List.append_assoc, best_snoc, rowS_get (by omega), pick_n hp]; rfl)) (SubS.cons rfl (SubS.cons rfl SubS.nil)))
      ·try dsimp only
       omega
      · (try dsimp only); omega
     ·skip
      have hp : ¬ ((posR n (barL rs) (atomsL n rs) m) (Stp.mk true (f : Int) ((j : Int) - 1)) ∧ (bestF (posR n (barL rs) (atomsL n rs) m) (gnR n ps rs m) ((kindS n false n ++ kindS n true f) ++ (rowS n true f).take j)).2 < (gnR n ps rs m) (Stp.mk true (f : Int) ((j : Int) - 1))) := fun q => by have q2 := q.2; rw [← (apR_y q.1).2] at q2; exact absurd q2 (by assumption)
      refine W.skip (E.inn (E.to ?_))
      refine W.pick (K:=[(1,_),(2,_),(4,_),(5,_),(6,_),(7,_),(8,_),(9,_),(10,_),(11,_),(13,_),(14,_),(16,_),(17,_),(18,_),(19,_),(20,_),(21,_),(22,_),(23,_),(26,_),(27,_),(28,_),(29,_),(32,_),(33,_),(34,_),(35,_),(36,_),(37,_),(38,_),(39,_),(40,_),(41,_),(42,_),(43,_),(44,_),(45,_),(46,_),(47,_),(48,_),(49,_),(50,_)]) (Z:=[(101,_),(102,_),(103,_),(105,_)]) ⟨rfl,rfl,rfl,rfl,rfl,rfl,rfl,rfl,rfl,rfl,rfl,rfl,rfl,rfl,rfl,rfl,rfl,rfl,rfl,rfl,rfl,rfl,rfl,rfl,rfl,rfl,rfl,rfl,rfl,rfl,rfl,rfl,rfl,rfl,rfl,rfl,rfl,rfl,rfl,rfl,rfl,rfl,rfl,trivial⟩ ⟨rfl,rfl,rfl,rfl,trivial⟩ ?_
      refine W.region (SL.mv rfl rfl ?_)
      refine SL.val (O.det (fun _ => by first | exact G.R.add64 rfl rfl (by omega) | exact G.R.add rfl rfl) rfl Taken.no) ?_
      refine SL.an rfl rfl (SL.nil ?_)
      refine E.again ((j + 1)) (rn []) ?_ ?_ rfl (fixL_spec rfl) ?_ ?_
      · exact (SubF.val rfl (by (try dsimp only); exact iv_int (by omega)) (SubF.val rfl (by (try dsimp only); first | exact iv_int (by rw [snocP (l := (rowS n true f)) (by rw [rowS_len]; omega), ← List.append_assoc, best_snoc, rowS_get (by omega), pick_y hp1 hp2]; exact (apR_y hp1).2) | exact iv_int (by rw [snocP (l := (rowS n true f)) (by rw [rowS_len]; omega), ← List.append_assoc, best_snoc, rowS_get (by omega), pick_n hp])) (SubF.cons rfl (SubF.cons rfl (SubF.cons rfl (SubF.cons rfl (SubF.cons rfl (SubF.cons rfl (SubF.cons rfl (SubF.cons rfl (SubF.cons rfl (SubF.cons rfl (SubF.cons rfl (SubF.cons rfl (SubF.cons rfl (SubF.cons rfl (SubF.cons rfl SubF.nil)))))))))))))))))
      · exact (SubS.val rfl (by (try dsimp only); first | (rw [snocP (l := (rowS n true f)) (by rw [rowS_len]; omega), ← List.append_assoc, best_snoc, rowS_get (by omega), pick_y hp1 hp2]; rfl) | (rw [snocP (l := (rowS n true f)) (by rw [rowS_len]; omega), ← List.append_assoc, best_snoc, rowS_get (by omega), pick_n hp]; rfl)) (SubS.cons rfl (SubS.cons rfl SubS.nil)))
      ·try dsimp only
       omega
      · (try dsimp only); omega
    ·skip
     first | have hg7p := G.gA5 hg7 | have hg7p := G.gA6 hg7 | have hg7p := hg7
     have hp : ¬ ((posR n (barL rs) (atomsL n rs) m) (Stp.mk true (f : Int) ((j : Int) - 1)) ∧ (bestF (posR n (barL rs) (atomsL n rs) m) (gnR n ps rs m) ((kindS n false n ++ kindS n true f) ++ (rowS n true f).take j)).2 < (gnR n ps rs m) (Stp.mk true (f : Int) ((j : Int) - 1))) := fun q => absurd q.1 (by assumption)
     refine SL.sk rfl rfl rfl hg7 (SL.sk rfl rfl rfl hg7 (SL.sk rfl rfl rfl hg7 ?_))
     refine SL.val (O.pick_f rfl (G.ne_t hg7) rfl rfl Taken.no) ?_
     refine E.fo ?_
     refine W.pick (K:=[(1,_),(2,_),(4,_),(5,_),(6,_),(7,_),(8,_),(9,_),(10,_),(11,_),(13,_),(14,_),(16,_),(17,_),(18,_),(19,_),(20,_),(21,_),(22,_),(23,_),(26,_),(27,_),(28,_),(29,_),(32,_),(33,_),(34,_),(35,_),(36,_),(37,_),(38,_),(39,_),(40,_),(41,_),(42,_),(43,_),(44,_),(45,_),(46,_),(47,_),(48,_),(49,_),(50,_)]) (Z:=[(101,_),(102,_),(103,_),(105,_)]) ⟨rfl,rfl,rfl,rfl,rfl,rfl,rfl,rfl,rfl,rfl,rfl,rfl,rfl,rfl,rfl,rfl,rfl,rfl,rfl,rfl,rfl,rfl,rfl,rfl,rfl,rfl,rfl,rfl,rfl,rfl,rfl,rfl,rfl,rfl,rfl,rfl,rfl,rfl,rfl,rfl,rfl,rfl,rfl,trivial⟩ ⟨rfl,rfl,rfl,rfl,trivial⟩ ?_
     refine W.cond_f rfl ?_
     refine W.skip (E.inn (E.to ?_))
     refine W.pick (K:=[(1,_),(2,_),(4,_),(5,_),(6,_),(7,_),(8,_),(9,_),(10,_),(11,_),(13,_),(14,_),(16,_),(17,_),(18,_),(19,_),(20,_),(21,_),(22,_),(23,_),(26,_),(27,_),(28,_),(29,_),(32,_),(33,_),(34,_),(35,_),(36,_),(37,_),(38,_),(39,_),(40,_),(41,_),(42,_),(43,_),(44,_),(45,_),(46,_),(47,_),(48,_),(49,_),(50,_)]) (Z:=[(101,_),(102,_),(103,_),(105,_)]) ⟨rfl,rfl,rfl,rfl,rfl,rfl,rfl,rfl,rfl,rfl,rfl,rfl,rfl,rfl,rfl,rfl,rfl,rfl,rfl,rfl,rfl,rfl,rfl,rfl,rfl,rfl,rfl,rfl,rfl,rfl,rfl,rfl,rfl,rfl,rfl,rfl,rfl,rfl,rfl,rfl,rfl,rfl,rfl,trivial⟩ ⟨rfl,rfl,rfl,rfl,trivial⟩ ?_
     refine W.region (SL.mv rfl rfl ?_)
     refine SL.val (O.det (fun _ => by first | exact G.R.add64 rfl rfl (by omega) | exact G.R.add rfl rfl) rfl Taken.no) ?_
     refine SL.an rfl rfl (SL.nil ?_)
     refine E.again ((j + 1)) (rn []) ?_ ?_ rfl (fixL_spec rfl) ?_ ?_
     · exact (SubF.val rfl (by (try dsimp only); exact iv_int (by omega)) (SubF.val rfl (by (try dsimp only); first | exact iv_int (by rw [snocP (l := (rowS n true f)) (by rw [rowS_len]; omega), ← List.append_assoc, best_snoc, rowS_get (by omega), pick_y hp1 hp2]; exact (apR_y hp1).2) | exact iv_int (by rw [snocP (l := (rowS n true f)) (by rw [rowS_len]; omega), ← List.append_assoc, best_snoc, rowS_get (by omega), pick_n hp])) (SubF.cons rfl (SubF.cons rfl (SubF.cons rfl (SubF.cons rfl (SubF.cons rfl (SubF.cons rfl (SubF.cons rfl (SubF.cons rfl (SubF.cons rfl (SubF.cons rfl (SubF.cons rfl (SubF.cons rfl (SubF.cons rfl (SubF.cons rfl (SubF.cons rfl SubF.nil)))))))))))))))))
     · exact (SubS.val rfl (by (try dsimp only); first | (rw [snocP (l := (rowS n true f)) (by rw [rowS_len]; omega), ← List.append_assoc, best_snoc, rowS_get (by omega), pick_y hp1 hp2]; rfl) | (rw [snocP (l := (rowS n true f)) (by rw [rowS_len]; omega), ← List.append_assoc, best_snoc, rowS_get (by omega), pick_n hp]; rfl)) (SubS.cons rfl (SubS.cons rfl SubS.nil)))
     ·try dsimp only
      omega
     · (try dsimp only); omega
   ·skip
    refine W.exit (E.th (E.th (E.hit (E.inn (E.to (W.region (SL.mv rfl rfl ?_)))))))
    refine SL.val (O.det (fun _ => by first | exact G.R.add64 rfl rfl (by omega) | exact G.R.add rfl rfl) rfl Taken.no) ?_
    refine SL.an rfl rfl (SL.nil ?_)
    refine E.again ((f + 1)) (rn []) ?_ ?_ rfl (fixL_spec rfl) ?_ ?_
    · exact (SubF.cons rfl (SubF.val rfl (by (try dsimp only); exact iv_int (by rw [kindS_s, show j = (rowS n true f).length by rw [rowS_len]; omega, List.take_length, List.append_assoc])) (SubF.cons rfl (SubF.cons rfl (SubF.cons rfl (SubF.cons rfl (SubF.cons rfl (SubF.cons rfl (SubF.cons rfl (SubF.cons rfl (SubF.cons rfl (SubF.cons rfl SubF.nil))))))))))))
    · exact (SubS.val rfl (by (try dsimp only); (rw [kindS_s, show j = (rowS n true f).length by rw [rowS_len]; omega, List.take_length, List.append_assoc]; rfl)) (SubS.cons rfl (SubS.cons rfl SubS.nil)))
    ·try dsimp only
     omega
    · (try dsimp only); omega
  ·skip
   refine W.exit (E.th (E.th (E.hit (E.inn (E.to (W.region (SL.mv rfl rfl ?_)))))))
   refine SL.val (O.det (fun _ => by first | exact G.R.add64 rfl rfl (by omega) | exact G.R.add rfl rfl) rfl Taken.no) ?_
   refine SL.an rfl rfl (SL.nil ?_)
   refine E.reround ?_
   refine W.pick (K:=[(1,_),(2,_),(4,_),(5,_),(6,_),(7,_),(8,_),(9,_),(16,_),(17,_),(18,_),(19,_),(20,_),(21,_),(22,_),(23,_)]) (Z:=[(101,_),(102,_),(103,_)]) ⟨rfl,rfl,rfl,rfl,rfl,rfl,rfl,rfl,rfl,rfl,rfl,rfl,rfl,rfl,rfl,rfl,trivial⟩ ⟨rfl,rfl,rfl,trivial⟩ ?_
   refine W.seq (W.rg (SL.mv rfl rfl ?_))
   refine SL.val (O.det (fun _ => G.R.mv (G.R.lss rfl rfl) (congrArg Value.bool (decide_eq_false (by decide)))) rfl Taken.no) ?_
   refine E.fo ?_
   refine W.cond_f rfl ?_
   refine W.exit (E.th (E.th (E.hit (E.to (W.rg ?_)))))
   refine SL.val (O.ldN (m := 3) (PtI.ref rfl rfl) (js := [_, _, _]) rfl (Nat.le_of_ble_eq_true rfl) Try.underlying57 rfl (by kernel_rfl) rfl Taken.no) ?_
   refine SL.mv rfl rfl ?_
   refine SL.effS (O.st_ref (m := 3) rfl rfl rfl (js := [_, _, _]) rfl rfl (by kernel_rfl) (by simp) (Nat.le_of_ble_eq_true rfl) rfl (is' := [_, _, _]) rfl Taken.no) (S' := (102, _) :: _) rfl ?_
   refine SL.an rfl rfl (E.fo (W.ret ?_))
   refine E.fin (rs := [_, _]) (rn []) (.inl rfl) rfl (.cons (ResOne.cellN (m := 3) (PtI.ref rfl rfl) (js := [_, _, _]) rfl (Nat.le_of_ble_eq_true rfl) Try.underlying57 rfl (by kernel_rfl)) (.cons (ResOne.tmp rfl) .nil)) ?_ ?_ rfl (fixL_spec rfl)
   ·skip
    (rw [show f = n by omega]; rfl)
   · exact SubS.nil

set_option maxRecDepth 8000 in
/-- bookplate/bookplateref33.Apply. -/
theorem refApply_ok {n : Nat} {ps : List Pr} {rs : List Ru} {l : List Int} {u : Bool} {f t : Int} (hok : (Prob.mk (n : Int) ps rs).ok) (hpl : ps.length ≤ 1000000) :
    Con Try.prog 27 [vA [uI (n : Int), .sl 3 (ps.map ePr), .sl 3 (rs.map eRu)], vL 1 (l.map eI), vA [uB u, uI f, uI t]] [] (.tup [vL 1 ((apL n ps rs l ⟨u, f, t⟩).map eN), vI (apV n ps rs l ⟨u, f, t⟩), vI (apE n ps rs l ⟨u, f, t⟩)]) [] := by
 have hf := hok.1
 have hn2 : (n : Int) ≤ 200 := hf.2.1
 have hr4 : rs.length ≤ 400 := hf.2.2.1
 have hal : (atomsL n rs).length = n := by rw [atomsL, joins_len, List.length_range]
 refine Con.enterL (n := 34) Try.func27 rfl rfl rfl (fun τ w ok vs hin => ?_)
 have hl0_1 := hin.lenA (i := 0) (j := 1) rfl rfl
 try rw [List.length_map] at hl0_1
 have hl0_2 := hin.lenA (i := 0) (j := 2) rfl rfl
 try rw [List.length_map] at hl0_2
 have hl1 := hin.len (i := 1) rfl
 try rw [List.length_map] at hl1
 clear hin
 refine W.rg ?_
 refine SL.memS (O.box (is := [_, _, _]) 101 rfl rfl (by simp) rfl rfl Taken.no) rfl rfl (S' := (101, _) :: _) rfl ?_
 refine SL.memS (O.box (is := [_, _, _]) 102 rfl rfl (by simp) rfl rfl Taken.no) rfl rfl (S' := (102, _) :: _) rfl ?_
 refine SL.an rfl rfl (SL.an rfl rfl (SL.an rfl rfl (E.fo (W.seq (W.rg ?_)))))
 refine SL.val (O.ldN (m := 3) (PtI.ref rfl rfl) (js := [_, _, _]) rfl (Nat.le_of_ble_eq_true rfl) Try.underlying25 rfl (by kernel_rfl) rfl Taken.no) ?_
 refine SL.val (O.callp rfl rfl rfl (refvalid_h (N := (n : Int)) (ps := ps) (rs := rs)) (.cons (ArgOk.aggU (.cons (ArgOk.same rfl) (.cons (ArgOk.same rfl) (.cons (ArgOk.same rfl) .nil)))) .nil) hcallOk13 rfl Taken.no) ?_
 refine SL.as (i' := vI 0) 14 rfl (by rw [Prob.err_0 hok]) ?_
 refine SL.an rfl rfl (E.fo (W.rg (SL.mv rfl rfl ?_)))
 refine SL.val (O.det (fun _ => G.R.mv (G.R.neq rfl rfl) (congrArg Value.bool (decide_eq_false (by decide)))) rfl Taken.no) ?_
 refine E.fo ?_
 refine W.cond_f rfl ?_
 refine W.skip (E.to (W.seq (W.rg ?_)))
 refine SL.val (O.ldN (m := 3) (PtI.ref rfl rfl) (js := [_, _, _]) rfl (Nat.le_of_ble_eq_true rfl) Try.underlying25 rfl (by kernel_rfl) rfl Taken.no) ?_
 refine SL.mv rfl rfl ?_
 refine SL.val (O.callp rfl rfl rfl (refPerm_ok (l := l) hok) (.cons (ArgOk.aggU (.cons (ArgOk.same rfl) (.cons (ArgOk.same rfl) (.cons (ArgOk.same rfl) .nil)))) (.cons (ArgOk.same rfl) .nil)) hcallOk25 rfl Taken.no) ?_
 refine SL.val (O.det (fun _ => G.R.not rfl) rfl Taken.no) ?_
 refine E.fo ?_
 first | refine W.cond_d rfl (fun hc1 => ?_) (fun hc1 => ?_) | refine W.cond_nd rfl (fun hc1 => ?_) (fun hc1 => ?_) | refine W.cond rfl (fun hc1 => ?_) (fun hc1 => ?_)
 ·skip
  refine W.rg (SL.an rfl rfl (SL.an rfl rfl (SL.an rfl rfl (E.fo (W.ret (E.thr ?_))))))
  refine E.nilsl 6 1 rfl ?_
  refine E.fin (rs := [_, _, _]) (rn []) (.inl rfl) rfl (.cons (ResOne.tmp rfl) (.cons (ResOne.tmp rfl) (.cons (ResOne.tmp rfl) .nil))) ?_ ?_ rfl (fixL_spec rfl)
  ·skip
   have hnp : ¬ permS n ps rs l := fun q => by simp_all
   rw [(ap_np hnp _).1, (ap_np hnp _).2.1, (ap_np hnp _).2.2]; rfl
  · exact SubS.nil
 ·skip
  have hps : permS n ps rs l := by first | assumption | simp_all
  obtain ⟨m, rfl⟩ := cast_of fun i hi => (hps.1.2 i hi).1
  obtain ⟨hQ, hpr⟩ := permS_cast.1 hps
  rw [eI_eN]
  have hml := hQ.1
  refine W.skip (E.to (W.rg ?_))
  refine SL.val (O.ldN (m := 3) (PtI.ref rfl rfl) (js := [_, _, _]) rfl (Nat.le_of_ble_eq_true rfl) Try.underlying25 rfl (by kernel_rfl) rfl Taken.no) ?_
  refine SL.mv rfl rfl ?_
  refine SL.val (O.ldN (m := 3) (PtI.ref rfl rfl) (js := [_, _, _]) rfl (Nat.le_of_ble_eq_true rfl) Try.underlying57 rfl (by kernel_rfl) rfl Taken.no) ?_
  refine SL.memS (O.call (rn []) [] rfl rfl rfl (refapply_h (by assumption) (by omega) (by omega)) (.cons (ArgOk.aggU (.cons (ArgOk.same rfl) (.cons (ArgOk.same rfl) (.cons (ArgOk.same rfl) .nil)))) (.cons (ArgOk.same rfl) (.cons (ArgOk.aggU (.cons (ArgOk.same rfl) (.cons (ArgOk.same rfl) (.cons (ArgOk.same rfl) .nil)))) .nil))) SubS.nil rfl rfl rfl rfl rfl (.inl rfl) hcallOk51 (r' := .tup [.u _, .u _, .u _]) rfl rfl Taken.no) rfl rfl (S' := _) rfl ?_
  refine SL.mv rfl rfl ?_
  refine SL.val (O.extract rfl rfl rfl Taken.no) ?_
  refine SL.val (O.extract rfl rfl rfl Taken.no) ?_
  refine SL.val (O.extract rfl rfl rfl Taken.no) ?_
  refine SL.an rfl rfl (SL.an rfl rfl (SL.an rfl rfl (E.fo ?_)))
  refine W.pick (K:=[(6,_),(7,_),(8,_),(10,_),(11,_),(12,_)]) (Z:=[(101,_),(102,_)]) ⟨rfl,rfl,rfl,rfl,rfl,rfl,trivial⟩ ⟨rfl,rfl,trivial⟩ ?_
  refine W.seq (W.rg (SL.mv rfl rfl ?_))
  refine SL.val (O.det (fun _ => G.R.not rfl) rfl Taken.no) ?_
  refine E.fo ?_
  first | refine W.cond_d rfl (fun hc2 => ?_) (fun hc2 => ?_) | refine W.cond_nd rfl (fun hc2 => ?_) (fun hc2 => ?_) | refine W.cond rfl (fun hc2 => ?_) (fun hc2 => ?_)
  ·skip
   refine W.rg (SL.an rfl rfl (SL.an rfl rfl (SL.an rfl rfl (E.fo (W.ret (E.thr ?_))))))
   refine E.nilsl 6 1 rfl ?_
   refine E.fin (rs := [_, _, _]) (rn []) (.inl rfl) rfl (.cons (ResOne.tmp rfl) (.cons (ResOne.tmp rfl) (.cons (ResOne.tmp rfl) .nil))) ?_ ?_ rfl (fixL_spec rfl)
   ·skip
    have hno : ¬ posR n (barL rs) (atomsL n rs) m ⟨u, f, t⟩ := fun q => by simp_all
    rw [(ap_no hps hno).1, (ap_no hps hno).2.1, (ap_no hps hno).2.2]; rfl
   · exact SubS.nil
  ·skip
   refine W.skip (E.to (W.rg (SL.mv rfl rfl (SL.mv rfl rfl (SL.an rfl rfl (SL.an rfl rfl (SL.an rfl rfl (E.fo (W.ret ?_)))))))))
   refine E.fin (rs := [_, _, _]) (rn []) (.inl rfl) rfl (.cons (ResOne.tmp rfl) (.cons (ResOne.tmp rfl) (.cons (ResOne.tmp rfl) .nil))) ?_ ?_ rfl (fixL_spec rfl)
   ·skip
    have hyes : posR n (barL rs) (atomsL n rs) m ⟨u, f, t⟩ := by first | assumption | simp_all
    rw [(ap_yes hps hyes).1, (ap_yes hps hyes).2.1, (ap_yes hps hyes).2.2, (apR_y hyes).1, (apR_y hyes).2]; rfl
   · exact SubS.nil

set_option maxRecDepth 8000 in
/-- bookplate/bookplateref33.Apply. -/
theorem refApply_bad {N : Int} {ps : List Pr} {rs : List Ru} {l : List Int} {u : Bool} {f t : Int} (hok : ¬ (Prob.mk N ps rs).ok) (_ : ps.length ≤ 1000000) :
    Con Try.prog 27 [vA [uI N, .sl 3 (ps.map ePr), .sl 3 (rs.map eRu)], vL 1 (l.map eI), vA [uB u, uI f, uI t]] [] (.tup [vL 1 ([] : List (List UV)), vI 0, vI (Prob.mk N ps rs).err]) [] := by
 have he : (Prob.mk N ps rs).err ≠ 0 := fun q => hok (Prob.err_iff.1 q)
 refine Con.enterL (n := 34) Try.func27 rfl rfl rfl (fun τ w ok vs hin => ?_)
 have hl0_1 := hin.lenA (i := 0) (j := 1) rfl rfl
 try rw [List.length_map] at hl0_1
 have hl0_2 := hin.lenA (i := 0) (j := 2) rfl rfl
 try rw [List.length_map] at hl0_2
 have hl1 := hin.len (i := 1) rfl
 try rw [List.length_map] at hl1
 clear hin
 refine W.rg ?_
 refine SL.memS (O.box (is := [_, _, _]) 101 rfl rfl (by simp) rfl rfl Taken.no) rfl rfl (S' := (101, _) :: _) rfl ?_
 refine SL.memS (O.box (is := [_, _, _]) 102 rfl rfl (by simp) rfl rfl Taken.no) rfl rfl (S' := (102, _) :: _) rfl ?_
 refine SL.an rfl rfl (SL.an rfl rfl (SL.an rfl rfl (E.fo (W.seq (W.rg ?_)))))
 refine SL.val (O.ldN (m := 3) (PtI.ref rfl rfl) (js := [_, _, _]) rfl (Nat.le_of_ble_eq_true rfl) Try.underlying25 rfl (by kernel_rfl) rfl Taken.no) ?_
 refine SL.val (O.callp rfl rfl rfl (refvalid_h (N := N) (ps := ps) (rs := rs)) (.cons (ArgOk.aggU (.cons (ArgOk.same rfl) (.cons (ArgOk.same rfl) (.cons (ArgOk.same rfl) .nil)))) .nil) hcallOk13 rfl Taken.no) ?_
 refine SL.an rfl rfl (E.fo (W.rg (SL.mv rfl rfl ?_)))
 refine SL.val (O.det (fun _ => G.R.mv (G.R.neq rfl rfl) (congrArg Value.bool (decide_eq_true (by exact he)))) rfl Taken.no) ?_
 refine E.fo ?_
 refine W.cond_t rfl ?_
 refine W.rg (SL.mv rfl rfl (SL.an rfl rfl (SL.an rfl rfl (SL.an rfl rfl (E.fo (W.ret (E.thr ?_)))))))
 refine E.nilsl 6 1 rfl ?_
 refine E.fin (rs := [_, _, _]) (rn []) (.inl rfl) rfl (.cons (ResOne.tmp rfl) (.cons (ResOne.tmp rfl) (.cons (ResOne.tmp rfl) .nil))) ?_ ?_ rfl (fixL_spec rfl)
 ·skip
  rfl
 · exact SubS.nil

set_option maxRecDepth 8000 in
/-- bookplate/bookplateref33.Next. -/
theorem refNext_ok {n : Nat} {ps : List Pr} {rs : List Ru} {l : List Int} (hok : (Prob.mk (n : Int) ps rs).ok) (hpl : ps.length ≤ 1000000) :
    Con Try.prog 29 [vA [uI (n : Int), .sl 3 (ps.map ePr), .sl 3 (rs.map eRu)], vL 1 (l.map eI)] [] (.tup [.agg [vB (nxI n ps rs l).1.u, vI (nxI n ps rs l).1.f, vI (nxI n ps rs l).1.t], vI (nxI n ps rs l).2, vI (nxE n ps rs l)]) [] := by
 have hf := hok.1
 have hn2 : (n : Int) ≤ 200 := hf.2.1
 have hr4 : rs.length ≤ 400 := hf.2.2.1
 have hal : (atomsL n rs).length = n := by rw [atomsL, joins_len, List.length_range]
 refine Con.enterL (n := 29) Try.func29 rfl rfl rfl (fun τ w ok vs hin => ?_)
 have hl0_1 := hin.lenA (i := 0) (j := 1) rfl rfl
 try rw [List.length_map] at hl0_1
 have hl0_2 := hin.lenA (i := 0) (j := 2) rfl rfl
 try rw [List.length_map] at hl0_2
 have hl1 := hin.len (i := 1) rfl
 try rw [List.length_map] at hl1
 clear hin
 refine W.rg ?_
 refine SL.memS (O.box (is := [_, _, _]) 101 rfl rfl (by simp) rfl rfl Taken.no) rfl rfl (S' := (101, _) :: _) rfl ?_
 refine SL.memS (O.alloc (z := .agg #[.bool false, .int .i64 0, .int .i64 0]) (is := [.u (.sc (.bool false)), .u (.sc (.int .i64 0)), .u (.sc (.int .i64 0))]) 102 (by kernel_rfl) rfl rfl rfl Taken.no) rfl rfl (S' := (102, _) :: _) rfl ?_
 refine SL.an rfl rfl (SL.an rfl rfl (E.fo (W.seq (W.rg ?_))))
 refine SL.val (O.ldN (m := 3) (PtI.ref rfl rfl) (js := [_, _, _]) rfl (Nat.le_of_ble_eq_true rfl) Try.underlying25 rfl (by kernel_rfl) rfl Taken.no) ?_
 refine SL.val (O.callp rfl rfl rfl (refvalid_h (N := (n : Int)) (ps := ps) (rs := rs)) (.cons (ArgOk.aggU (.cons (ArgOk.same rfl) (.cons (ArgOk.same rfl) (.cons (ArgOk.same rfl) .nil)))) .nil) hcallOk13 rfl Taken.no) ?_
 refine SL.as (i' := vI 0) 11 rfl (by rw [Prob.err_0 hok]) ?_
 refine SL.an rfl rfl (E.fo (W.rg (SL.mv rfl rfl ?_)))
 refine SL.val (O.det (fun _ => G.R.mv (G.R.neq rfl rfl) (congrArg Value.bool (decide_eq_false (by decide)))) rfl Taken.no) ?_
 refine E.fo ?_
 refine W.cond_f rfl ?_
 refine W.skip (E.to (W.seq (W.rg ?_)))
 refine SL.val (O.ldN (m := 3) (PtI.ref rfl rfl) (js := [_, _, _]) rfl (Nat.le_of_ble_eq_true rfl) Try.underlying25 rfl (by kernel_rfl) rfl Taken.no) ?_
 refine SL.mv rfl rfl ?_
 refine SL.val (O.callp rfl rfl rfl (refPerm_ok (l := l) hok) (.cons (ArgOk.aggU (.cons (ArgOk.same rfl) (.cons (ArgOk.same rfl) (.cons (ArgOk.same rfl) .nil)))) (.cons (ArgOk.same rfl) .nil)) hcallOk25 rfl Taken.no) ?_
 refine SL.val (O.det (fun _ => G.R.not rfl) rfl Taken.no) ?_
 refine E.fo ?_
 first | refine W.cond_d rfl (fun hc1 => ?_) (fun hc1 => ?_) | refine W.cond_nd rfl (fun hc1 => ?_) (fun hc1 => ?_) | refine W.cond rfl (fun hc1 => ?_) (fun hc1 => ?_)
 ·skip
  refine W.rg ?_
  refine SL.val (O.build (res := [_, _, _]) (z := .agg #[.bool false, .int .i64 0, .int .i64 0]) (places := [(0, 1), (1, 1), (2, 1)]) rfl rfl Try.underlying57 (by kernel_rfl) (fun _ => by kernel_rfl) rfl rfl Taken.no) ?_
  refine SL.effS (O.st_ref (m := 3) rfl rfl rfl (js := [_, _, _]) rfl rfl (by kernel_rfl) (by simp) (Nat.le_of_ble_eq_true rfl) rfl (is' := [_, _, _]) rfl Taken.no) (S' := (102, _) :: _) rfl ?_
  refine SL.an rfl rfl (SL.an rfl rfl (E.fo (W.ret (E.thr ?_))))
  refine E.fin (rs := [_, _, _]) (rn []) (.inl rfl) rfl (.cons (ResOne.cellN (m := 3) (PtI.ref rfl rfl) (js := [_, _, _]) rfl (Nat.le_of_ble_eq_true rfl) Try.underlying57 rfl (by kernel_rfl)) (.cons (ResOne.tmp rfl) (.cons (ResOne.tmp rfl) .nil))) ?_ ?_ rfl (fixL_spec rfl)
  ·skip
   have hnp : ¬ permS n ps rs l := fun q => by simp_all
   rw [(nx_no hnp).1, (nx_no hnp).2]; rfl
  · exact SubS.nil
 ·skip
  have hps : permS n ps rs l := by first | assumption | simp_all
  obtain ⟨m, rfl⟩ := cast_of fun i hi => (hps.1.2 i hi).1
  obtain ⟨hQ, hpr⟩ := permS_cast.1 hps
  rw [eI_eN]
  have hml := hQ.1
  refine W.skip (E.to (W.rg ?_))
  refine SL.val (O.ldN (m := 3) (PtI.ref rfl rfl) (js := [_, _, _]) rfl (Nat.le_of_ble_eq_true rfl) Try.underlying25 rfl (by kernel_rfl) rfl Taken.no) ?_
  refine SL.mv rfl rfl ?_
  refine SL.memS (O.call (rn []) [] rfl rfl rfl (refnext_h (m := m) hf hml hpl) (.cons (ArgOk.aggU (.cons (ArgOk.same rfl) (.cons (ArgOk.same rfl) (.cons (ArgOk.same rfl) .nil)))) (.cons (ArgOk.same rfl) .nil)) SubS.nil rfl rfl rfl rfl rfl (.inl rfl) hcallOk52 (r' := .tup [.agg [.u _, .u _, .u _], .u _]) rfl rfl Taken.no) rfl rfl (S' := _) rfl ?_
  refine SL.mv rfl rfl ?_
  refine SL.val (O.extract rfl rfl rfl Taken.no) ?_
  refine SL.val (O.extract rfl rfl rfl Taken.no) ?_
  refine SL.memS (O.alloc (z := .agg #[.bool false, .int .i64 0, .int .i64 0]) (is := [.u (.sc (.bool false)), .u (.sc (.int .i64 0)), .u (.sc (.int .i64 0))]) 103 (by kernel_rfl) rfl rfl rfl Taken.no) rfl rfl (S' := (103, _) :: _) rfl ?_
  refine SL.effS (O.st_ref (m := 3) rfl rfl rfl (js := [_, _, _]) rfl rfl (by kernel_rfl) (by simp) (Nat.le_of_ble_eq_true rfl) rfl (is' := [_, _, _]) rfl Taken.no) (S' := (103, _) :: _) rfl ?_
  refine SL.an rfl rfl (E.fo (W.rg ?_))
  refine SL.val (O.ldN (m := 3) (PtI.ref rfl rfl) (js := [_, _, _]) rfl (Nat.le_of_ble_eq_true rfl) Try.underlying57 rfl (by kernel_rfl) rfl Taken.no) ?_
  refine SL.mv rfl rfl ?_
  refine SL.effS (O.st_ref (m := 3) rfl rfl rfl (js := [_, _, _]) rfl rfl (by kernel_rfl) (by simp) (Nat.le_of_ble_eq_true rfl) rfl (is' := [_, _, _]) rfl Taken.no) (S' := (102, _) :: _) rfl ?_
  refine SL.an rfl rfl (SL.an rfl rfl (E.fo ?_))
  refine W.pick (K:=[(4,_),(5,_),(6,_)]) (Z:=[(101,_),(102,_),(103,_)]) ⟨rfl,rfl,rfl,trivial⟩ ⟨rfl,rfl,rfl,trivial⟩ ?_
  refine W.ret ?_
  refine E.fin (rs := [_, _, _]) (rn []) (.inl rfl) rfl (.cons (ResOne.cellN (m := 3) (PtI.ref rfl rfl) (js := [_, _, _]) rfl (Nat.le_of_ble_eq_true rfl) Try.underlying57 rfl (by kernel_rfl)) (.cons (ResOne.tmp rfl) (.cons (ResOne.tmp rfl) .nil))) ?_ ?_ rfl (fixL_spec rfl)
  ·skip
   first | (rw [(nx_yes hps).1, (nx_yes hps).2]; rfl) | rfl
  · exact SubS.nil

set_option maxRecDepth 8000 in
/-- bookplate/bookplateref33.Next. -/
theorem refNext_bad {N : Int} {ps : List Pr} {rs : List Ru} {l : List Int} (hok : ¬ (Prob.mk N ps rs).ok) (_ : ps.length ≤ 1000000) :
    Con Try.prog 29 [vA [uI N, .sl 3 (ps.map ePr), .sl 3 (rs.map eRu)], vL 1 (l.map eI)] [] (.tup [.agg [vB false, vI 0, vI 0], vI 0, vI (Prob.mk N ps rs).err]) [] := by
 have he : (Prob.mk N ps rs).err ≠ 0 := fun q => hok (Prob.err_iff.1 q)
 refine Con.enterL (n := 29) Try.func29 rfl rfl rfl (fun τ w ok vs hin => ?_)
 have hl0_1 := hin.lenA (i := 0) (j := 1) rfl rfl
 try rw [List.length_map] at hl0_1
 have hl0_2 := hin.lenA (i := 0) (j := 2) rfl rfl
 try rw [List.length_map] at hl0_2
 have hl1 := hin.len (i := 1) rfl
 try rw [List.length_map] at hl1
 clear hin
 refine W.rg ?_
 refine SL.memS (O.box (is := [_, _, _]) 101 rfl rfl (by simp) rfl rfl Taken.no) rfl rfl (S' := (101, _) :: _) rfl ?_
 refine SL.memS (O.alloc (z := .agg #[.bool false, .int .i64 0, .int .i64 0]) (is := [.u (.sc (.bool false)), .u (.sc (.int .i64 0)), .u (.sc (.int .i64 0))]) 102 (by kernel_rfl) rfl rfl rfl Taken.no) rfl rfl (S' := (102, _) :: _) rfl ?_
 refine SL.an rfl rfl (SL.an rfl rfl (E.fo (W.seq (W.rg ?_))))
 refine SL.val (O.ldN (m := 3) (PtI.ref rfl rfl) (js := [_, _, _]) rfl (Nat.le_of_ble_eq_true rfl) Try.underlying25 rfl (by kernel_rfl) rfl Taken.no) ?_
 refine SL.val (O.callp rfl rfl rfl (refvalid_h (N := N) (ps := ps) (rs := rs)) (.cons (ArgOk.aggU (.cons (ArgOk.same rfl) (.cons (ArgOk.same rfl) (.cons (ArgOk.same rfl) .nil)))) .nil) hcallOk13 rfl Taken.no) ?_
 refine SL.an rfl rfl (E.fo (W.rg (SL.mv rfl rfl ?_)))
 refine SL.val (O.det (fun _ => G.R.mv (G.R.neq rfl rfl) (congrArg Value.bool (decide_eq_true (by exact he)))) rfl Taken.no) ?_
 refine E.fo ?_
 refine W.cond_t rfl ?_
 refine W.rg ?_
 refine SL.val (O.build (res := [_, _, _]) (z := .agg #[.bool false, .int .i64 0, .int .i64 0]) (places := [(0, 1), (1, 1), (2, 1)]) rfl rfl Try.underlying57 (by kernel_rfl) (fun _ => by kernel_rfl) rfl rfl Taken.no) ?_
 refine SL.mv rfl rfl ?_
 refine SL.effS (O.st_ref (m := 3) rfl rfl rfl (js := [_, _, _]) rfl rfl (by kernel_rfl) (by simp) (Nat.le_of_ble_eq_true rfl) rfl (is' := [_, _, _]) rfl Taken.no) (S' := (102, _) :: _) rfl ?_
 refine SL.an rfl rfl (SL.an rfl rfl (E.fo (W.ret (E.thr ?_))))
 refine E.fin (rs := [_, _, _]) (rn []) (.inl rfl) rfl (.cons (ResOne.cellN (m := 3) (PtI.ref rfl rfl) (js := [_, _, _]) rfl (Nat.le_of_ble_eq_true rfl) Try.underlying57 rfl (by kernel_rfl)) (.cons (ResOne.tmp rfl) (.cons (ResOne.tmp rfl) .nil))) ?_ ?_ rfl (fixL_spec rfl)
 ·skip
  first | (rw [(nx_yes hps).1, (nx_yes hps).2]; rfl) | rfl
 · exact SubS.nil





end Go.Proofs.Ytppamigboeaefaa
end
section
namespace Go.D33
open Go Go.RowKit Go.H
def exP : List Pr := [⟨0, 1, 5⟩, ⟨0, 2, -6⟩, ⟨1, 2, 4⟩]
def exR : List Ru := [⟨1, 2, 1⟩]
theorem ex_ok : (Prob.mk ((3 : Nat) : Int) exP []).ok := ⟨by decide +kernel, by decide +kernel⟩
theorem ex_ok2 : (Prob.mk ((3 : Nat) : Int) exP exR).ok := ⟨by decide +kernel, by decide +kernel⟩
theorem ex_s1 : solveR 3 exP [] = [0, 0, 2] := by decide +kernel
theorem ex_s2 : solveR 3 exP exR = [0, 1, 1] := by decide +kernel
theorem ex_v : valI 3 (wF exP) ([0, 0, 2] : List Int) = 5 ∧ valE 3 ([0, 0, 2] : List Int) = 0 := by decide +kernel
theorem ex_p : permI 3 (mF (lF exP) exR) (barL exR) (namedL 3 (partsL (mu exR) (List.range 3))) ([0, 1, 1] : List Int) := by decide +kernel
/-! ### '==' of pairs, rules and steps -/
def prV (x : Pr) : List Value := [.int .i64 x.a, .int .i64 x.b, .int .i64 x.w]
def ruV (x : Ru) : List Value := [.int .i64 x.k, .int .i64 x.a, .int .i64 x.b]
def stV (x : Stp) : List Value := [.bool x.u, .int .i64 x.f, .int .i64 x.t]
theorem Pr.ext {a b : Pr} (h1 : a.a = b.a) (h2 : a.b = b.b) (h3 : a.w = b.w) : a = b := by cases a; cases b; simp_all
instance : DecidableEq Pr := fun a b => if h : a.a = b.a ∧ a.b = b.b ∧ a.w = b.w then .isTrue (Pr.ext h.1 h.2.1 h.2.2) else .isFalse fun e => h (by subst e; exact ⟨rfl, rfl, rfl⟩)
theorem Ru.ext {a b : Ru} (h1 : a.k = b.k) (h2 : a.a = b.a) (h3 : a.b = b.b) : a = b := by cases a; cases b; simp_all
instance : DecidableEq Ru := fun a b => if h : a.k = b.k ∧ a.a = b.a ∧ a.b = b.b then .isTrue (Ru.ext h.1 h.2.1 h.2.2) else .isFalse fun e => h (by subst e; exact ⟨rfl, rfl, rfl⟩)
theorem eqSt (a : Stp) : eqvL (stV a) (stV a) = true := by
  cases a
  simp [stV, eqvL, eqv]
end Go.D33
end
section
namespace Go.Proofs.Ytppamigboeaefaa
open Go Go.RowKit Go.H Go.D33

theorem hcallOk15 : G.callOk Try.prog 15 = true := by kernel_rfl
theorem hcallOk21 : G.callOk Try.prog 21 = true := by kernel_rfl
theorem hcallOk24 : G.callOk Try.prog 24 = true := by kernel_rfl


set_option maxRecDepth 8000 in
set_option maxHeartbeats 1600000 in
/-- bookplate/bookplatelaw33.awake. -/
theorem awake_h  :
    Con Try.prog 11 [] [] (vB true) [] := by
 obtain ⟨i3, hi3, hz3, hs3, hb3⟩ := hinf3
 obtain ⟨i36, hi36, hz36, hs36, hb36⟩ := hinf36
 obtain ⟨i38, hi38, hz38, hs38, hb38⟩ := hinf38
 refine Con.enterL (n := 61) Try.func11 rfl rfl rfl (fun τ w ok vs hin => ?_)
 clear hin
 refine W.rg (SL.an rfl rfl (E.fo (W.rg ?_)))
 refine SL.val (O.build (res := [_, _, _]) (z := .agg #[.int .i64 0, .int .i64 0, .int .i64 0]) (places := [(0, 1), (1, 1), (2, 1)]) rfl rfl Try.underlying36 (by kernel_rfl) (fun _ => by kernel_rfl) rfl rfl Taken.no) ?_
 refine SL.val (O.build (res := [_, _, _]) (z := .agg #[.int .i64 0, .int .i64 0, .int .i64 0]) (places := [(0, 1), (1, 1), (2, 1)]) rfl rfl Try.underlying36 (by kernel_rfl) (fun _ => by kernel_rfl) rfl rfl Taken.no) ?_
 refine SL.val (O.build (res := [_, _, _]) (z := .agg #[.int .i64 0, .int .i64 0, .int .i64 0]) (places := [(0, 1), (1, 1), (2, 1)]) rfl rfl Try.underlying36 (by kernel_rfl) (fun _ => by kernel_rfl) rfl rfl Taken.no) ?_
 refine SL.memS (O.buildSlice 101 (rows := exP.map ePr) rfl rfl Try.underlying30 hi36 hz36 hs36 (by decide) rfl (by decide) rfl rfl rfl Taken.no) rfl rfl (S' := (101, .data 36 3 (exP.map ePr)) :: _) rfl ?_
 refine SL.freeze 101 rfl (F' := [(11, _)]) (⟨⟨_, rfl, rfl⟩, trivial⟩) ?_
 refine SL.val (O.build (res := [_, _, _]) (z := .agg #[.int .i64 0, .slice none 0 0, .slice none 0 0]) (places := [(0, 1), (1, 1), (2, 1)]) rfl rfl Try.underlying32 (by kernel_rfl) (fun _ => by kernel_rfl) rfl rfl Taken.no) ?_
 refine SL.memS (O.alloc (z := .agg #[.int .i64 0, .slice none 0 0, .slice none 0 0]) (is := [.u (.sc (.int .i64 0)), .u (.sc (.slice none 0 0)), .u (.sc (.slice none 0 0))]) 102 (by kernel_rfl) rfl rfl rfl Taken.no) rfl rfl (S' := (102, _) :: _) rfl ?_
 refine SL.effS (O.st_ref (m := 3) rfl rfl rfl (js := [_, _, _]) rfl rfl (by kernel_rfl) (by simp) (Nat.le_of_ble_eq_true rfl) rfl (is' := [_, _, _]) rfl Taken.no) (S' := (102, _) :: _) rfl ?_
 refine E.fo (W.rg ?_)
 refine SL.val (O.ldN (m := 3) (PtI.ref rfl rfl) (js := [_, _, _]) rfl (Nat.le_of_ble_eq_true rfl) Try.underlying32 rfl (by kernel_rfl) rfl Taken.no) ?_
 refine SL.memS (O.call (rn []) [] rfl rfl rfl (solveC_ok ex_ok) (.cons (ArgOk.aggU (.cons (ArgOk.same rfl) (.cons (ArgOk.same rfl) (.cons ArgOk.nil .nil)))) .nil) SubS.nil rfl rfl rfl rfl rfl (.inl rfl) hcallOk15 (r' := .tup [.u _, .u _]) rfl rfl Taken.no) rfl rfl (S' := _) rfl ?_
 refine SL.as (i' := .tup [vL 1 (([0, 0, 2] : List Nat).map eN), vI 0]) 15 rfl (by rw [ex_s1]) ?_
 refine SL.mv rfl rfl ?_
 refine SL.val (O.extract rfl rfl rfl Taken.no) ?_
 refine SL.val (O.extract rfl rfl rfl Taken.no) ?_
 refine SL.an rfl rfl (SL.an rfl rfl (E.fo (W.rg ?_)))
 refine SL.val (O.ldN (m := 3) (PtI.ref rfl rfl) (js := [_, _, _]) rfl (Nat.le_of_ble_eq_true rfl) Try.underlying32 rfl (by kernel_rfl) rfl Taken.no) ?_
 refine SL.mv rfl rfl ?_
 refine SL.memS (O.call (rn []) [] rfl rfl rfl (valueC_ok (l := [0, 0, 2]) ex_ok) (.cons (ArgOk.aggU (.cons (ArgOk.same rfl) (.cons (ArgOk.same rfl) (.cons ArgOk.nil .nil)))) (.cons (ArgOk.same rfl) .nil)) SubS.nil rfl rfl rfl rfl rfl (.inl rfl) hcallOk21 (r' := .tup [.u _, .u _]) rfl rfl Taken.no) rfl rfl (S' := _) rfl ?_
 refine SL.as (i' := .tup [vI 5, vI 0]) 21 rfl (by rw [ex_v.1, ex_v.2]) ?_
 refine SL.mv rfl rfl ?_
 refine SL.val (O.extract rfl rfl rfl Taken.no) ?_
 refine SL.val (O.extract rfl rfl rfl Taken.no) ?_
 refine SL.an rfl rfl (SL.an rfl rfl (E.fo ?_))
 refine W.pick (K:=[(0,_),(1,_),(2,_),(3,_),(4,_),(5,_)]) (Z:=[(102,_)]) ⟨rfl,rfl,rfl,rfl,rfl,rfl,trivial⟩ ⟨rfl,trivial⟩ ?_
 refine W.rg ?_
 refine SL.val (O.build (res := [_, _, _]) (z := .agg #[.int .i64 0, .int .i64 0, .int .i64 0]) (places := [(0, 1), (1, 1), (2, 1)]) rfl rfl Try.underlying38 (by kernel_rfl) (fun _ => by kernel_rfl) rfl rfl Taken.no) ?_
 refine SL.memS (O.buildSlice 103 (rows := exR.map eRu) rfl rfl Try.underlying23 hi38 hz38 hs38 (by decide) rfl (by decide) rfl rfl rfl Taken.no) rfl rfl (S' := (103, .data 38 3 (exR.map eRu)) :: _) rfl ?_
 refine SL.val (O.fld_ref (o' := 2) rfl Try.underlying32 rfl (m := 0) (by kernel_rfl) rfl rfl Taken.no) ?_
 refine SL.effS (O.st_ref (m := 1) rfl rfl rfl (js := [_]) rfl rfl (by kernel_rfl) (by simp) (Nat.le_of_ble_eq_true rfl) rfl (is' := [_, _, _]) rfl Taken.no) (S' := (102, _) :: _) rfl ?_
 refine E.fo (W.seq ?_)
 refine W.freezeC 102 2 103 (is' := [_, _, _]) rfl rfl rfl rfl ?_
 refine W.region ?_
 refine SL.val (O.ldN (m := 3) (PtI.ref rfl rfl) (js := [_, _, _]) rfl (Nat.le_of_ble_eq_true rfl) Try.underlying32 rfl (by kernel_rfl) rfl Taken.no) ?_
 refine SL.memS (O.call (rn []) [] rfl rfl rfl (solveC_ok ex_ok2) (.cons (ArgOk.aggU (.cons (ArgOk.same rfl) (.cons (ArgOk.same rfl) (.cons (ArgOk.same rfl) .nil)))) .nil) SubS.nil rfl rfl rfl rfl rfl (.inl rfl) hcallOk15 (r' := .tup [.u _, .u _]) rfl rfl Taken.no) rfl rfl (S' := _) rfl ?_
 refine SL.as (i' := .tup [vL 1 (([0, 1, 1] : List Nat).map eN), vI 0]) 29 rfl (by rw [ex_s2]) ?_
 refine SL.mv rfl rfl ?_
 refine SL.val (O.extract rfl rfl rfl Taken.no) ?_
 refine SL.val (O.extract rfl rfl rfl Taken.no) ?_
 refine SL.an rfl rfl (SL.an rfl rfl (E.fo (W.rg (SL.mv rfl rfl ?_))))
 refine SL.val (O.det (fun _ => G.R.mv (G.R.eql rfl rfl) (congrArg Value.bool (decide_eq_true (by rfl)))) rfl Taken.no) ?_
 refine SL.mv rfl rfl ?_
 have hg1 : true = true := by decide
 refine SL.val (O.move rfl rfl (Taken.yes rfl rfl hg1)) ?_
 refine SL.val (O.det (fun _ => G.R.mv (G.R.eql rfl rfl) (congrArg Value.bool (decide_eq_true (by rfl)))) rfl (Taken.yes rfl rfl hg1)) ?_
 refine SL.val (O.pick_t rfl rfl rfl rfl Taken.no) ?_
 refine SL.mv rfl rfl ?_
 have hg2 : true = true := by decide
 refine SL.val (O.move rfl rfl (Taken.yes rfl rfl hg2)) ?_
 refine SL.val (O.det (fun _ => G.R.mv (G.R.eql rfl rfl) (congrArg Value.bool (decide_eq_true (by rfl)))) rfl (Taken.yes rfl rfl hg2)) ?_
 refine SL.val (O.pick_t rfl rfl rfl rfl Taken.no) ?_
 refine SL.mv rfl rfl ?_
 have hg3 : true = true := by decide
 refine SL.val (O.move rfl rfl (Taken.yes rfl rfl hg3)) ?_
 refine SL.val (O.det (fun _ => G.R.mv (G.R.eql rfl rfl) (congrArg Value.bool (decide_eq_true (by rfl)))) rfl (Taken.yes rfl rfl hg3)) ?_
 refine SL.val (O.pick_t rfl rfl rfl rfl Taken.no) ?_
 refine SL.mv rfl rfl ?_
 have hg4 : true = true := by decide
 refine SL.val (O.move rfl rfl (Taken.yes rfl rfl hg4)) ?_
 refine SL.memS (O.buildSlice 104 (rows := ([0, 0, 2] : List Nat).map eN) rfl rfl Try.underlying39 hi3 hz3 hs3 (by decide) rfl (by decide) rfl rfl rfl (Taken.yes rfl rfl hg4)) rfl rfl (S' := (104, .data 3 1 (([0, 0, 2] : List Nat).map eN)) :: _) rfl ?_
 refine SL.memS (O.call (rn []) [104] rfl rfl rfl (same_h (a := [0, 0, 2]) (b := [0, 0, 2])) (.cons (ArgOk.same rfl) (.cons (ArgOk.own rfl rfl) .nil)) SubS.nil rfl rfl rfl rfl rfl (.inr ⟨rfl, fun x hx => by simp at hx⟩) hcallOk16 (r' := .u _) rfl rfl (Taken.yes rfl rfl hg4)) rfl rfl (S' := _) rfl ?_
 refine SL.as (i' := vB true) 49 rfl (by exact iv_bool (dec_t rfl)) ?_
 refine SL.val (O.pick_t rfl rfl rfl rfl Taken.no) ?_
 refine SL.mv rfl rfl ?_
 have hg5 : true = true := by decide
 refine SL.val (O.move rfl rfl (Taken.yes rfl rfl hg5)) ?_
 refine SL.memS (O.buildSlice 105 (rows := ([0, 1, 1] : List Nat).map eN) rfl rfl Try.underlying39 hi3 hz3 hs3 (by decide) rfl (by decide) rfl rfl rfl (Taken.yes rfl rfl hg5)) rfl rfl (S' := (105, .data 3 1 (([0, 1, 1] : List Nat).map eN)) :: _) rfl ?_
 refine SL.memS (O.call (rn []) [105] rfl rfl rfl (same_h (a := [0, 1, 1]) (b := [0, 1, 1])) (.cons (ArgOk.same rfl) (.cons (ArgOk.own rfl rfl) .nil)) SubS.nil rfl rfl rfl rfl rfl (.inr ⟨rfl, fun x hx => by simp at hx⟩) hcallOk16 (r' := .u _) rfl rfl (Taken.yes rfl rfl hg5)) rfl rfl (S' := _) rfl ?_
 refine SL.as (i' := vB true) 54 rfl (by exact iv_bool (dec_t rfl)) ?_
 refine SL.val (O.pick_t rfl rfl rfl rfl Taken.no) ?_
 refine SL.mv rfl rfl ?_
 have hg6 : true = true := by decide
 refine SL.val (O.ldN (m := 3) (PtI.ref rfl rfl) (js := [_, _, _]) rfl (Nat.le_of_ble_eq_true rfl) Try.underlying32 rfl (by kernel_rfl) rfl (Taken.yes rfl rfl hg6)) ?_
 refine SL.val (O.move rfl rfl (Taken.yes rfl rfl hg6)) ?_
 refine SL.val (O.callp rfl rfl rfl (permC_ok (l := [0, 1, 1]) ex_ok2) (.cons (ArgOk.aggU (.cons (ArgOk.same rfl) (.cons (ArgOk.same rfl) (.cons (ArgOk.same rfl) .nil)))) (.cons (ArgOk.same rfl) .nil)) hcallOk24 rfl (Taken.yes rfl rfl hg6)) ?_
 refine SL.as (i' := vB true) 59 rfl (by exact iv_bool (dec_t ex_p)) ?_
 refine SL.val (O.pick_t rfl rfl rfl rfl Taken.no) ?_
 refine SL.an rfl rfl (E.fo ?_)
 refine W.pick (K:=[(0,_)]) (Z:=[(102,_),(104,_),(105,_)]) ⟨rfl,trivial⟩ ⟨rfl,rfl,rfl,trivial⟩ ?_
 refine W.ret ?_
 refine E.fin (rs := [_]) (rn []) (.inl rfl) rfl (.cons (ResOne.tmp rfl) .nil) ?_ ?_ rfl (fixL_spec rfl)
 ·skip
  rfl
 · exact SubS.nil

end Go.Proofs.Ytppamigboeaefaa
end
section
namespace Go.Proofs.Ytppamigboeaefaa
open Go Go.RowKit Go.H Go.D33

theorem hcallOk11 : G.callOk Try.prog 11 = true := by kernel_rfl
theorem hcallOk12 : G.callOk Try.prog 12 = true := by kernel_rfl
theorem hcallOk14 : G.callOk Try.prog 14 = true := by kernel_rfl
theorem hcallOk26 : G.callOk Try.prog 26 = true := by kernel_rfl
theorem hcallOk27 : G.callOk Try.prog 27 = true := by kernel_rfl
theorem hcallOk28 : G.callOk Try.prog 28 = true := by kernel_rfl
theorem hcallOk29 : G.callOk Try.prog 29 = true := by kernel_rfl




set_option maxRecDepth 8000 in
set_option maxHeartbeats 3200000 in
/-- bookplate/bookplatelaw33.ClusterSteps. -/
theorem clusterSteps_ok {n : Nat} {ps : List Pr} {rs : List Ru} {l : List Int} {u : Bool} {f t : Int} (hok : (Prob.mk (n : Int) ps rs).ok) :
    Con Try.prog 8 [vA [uI (n : Int), .sl 3 (ps.map ePr), .sl 3 (rs.map eRu)], vL 1 (l.map eI), vA [uB u, uI f, uI t]] [] (vB true) [] := by
 have hf := hok.1
 have hn2 : (n : Int) ≤ 200 := hf.2.1
 have hr4 : rs.length ≤ 400 := hf.2.2.1
 refine Con.enterL (n := 92) Try.func8 rfl rfl rfl (fun τ w ok vs hin => ?_)
 have hl0_1 := hin.lenA (i := 0) (j := 1) rfl rfl
 try rw [List.length_map] at hl0_1
 have hl0_2 := hin.lenA (i := 0) (j := 2) rfl rfl
 try rw [List.length_map] at hl0_2
 have hl1 := hin.len (i := 1) rfl
 try rw [List.length_map] at hl1
 clear hin
 refine W.rg ?_
 refine SL.memS (O.box (is := [_, _, _]) 101 rfl rfl (by simp) rfl rfl Taken.no) rfl rfl (S' := (101, _) :: _) rfl ?_
 refine SL.memS (O.box (is := [_, _, _]) 102 rfl rfl (by simp) rfl rfl Taken.no) rfl rfl (S' := (102, _) :: _) rfl ?_
 refine SL.an rfl rfl (E.fo (W.seq (W.rg ?_)))
 refine SL.val (O.callp rfl rfl rfl (awake_h) .nil hcallOk11 rfl Taken.no) ?_
 refine SL.as (i' := vB true) 19 rfl (by rfl) ?_
 refine SL.val (O.det (fun _ => G.R.mv (G.R.not rfl) rfl) rfl Taken.no) ?_
 refine SL.mv rfl rfl ?_
 have hg1 : false = false := by decide
 refine SL.val (O.ldN (m := 3) (PtI.ref rfl rfl) (js := [_, _, _]) rfl (Nat.le_of_ble_eq_true rfl) Try.underlying25 rfl (by kernel_rfl) rfl (Taken.yes rfl rfl hg1)) ?_
 refine SL.val (O.callp rfl rfl rfl (few_h) (.cons (ArgOk.aggU (.cons (ArgOk.same rfl) (.cons (ArgOk.same rfl) (.cons (ArgOk.same rfl) .nil)))) .nil) hcallOk12 rfl (Taken.yes rfl rfl hg1)) ?_
 refine SL.val (O.det (fun _ => G.R.not rfl) rfl (Taken.yes rfl rfl hg1)) ?_
 refine SL.val (O.pick_f rfl rfl rfl rfl Taken.no) ?_
 refine SL.mv rfl rfl ?_
 refine SL.case (j := 7) (g := 26) (want := false) rfl rfl (fun hg2 => ?_) (fun hg2 => ?_)
 ·skip
  first | have hg2p := G.gA3 hg2 | have hg2p := G.gA4 hg2 | have hg2p := hg2
  have hfew : ((n : Int) ≤ 9 ∨ 200 < (n : Int)) ∧ ps.length ≤ 40 ∧ (rs.length ≤ 12 ∨ rs.length = 401) := by simp_all
  refine SL.val (O.move rfl rfl (Taken.yes rfl rfl hg2)) ?_
  refine SL.val (O.lenE (SlOf.fz rfl (by decide)) (by first | exact List.length_map _ | rfl) Try.underlying39 rfl (Taken.yes rfl rfl hg2)) ?_
  refine SL.val (O.det (fun _ => G.R.gtr rfl rfl) rfl (Taken.yes rfl rfl hg2)) ?_
  refine SL.val (O.pick_f rfl hg2 rfl rfl Taken.no) ?_
  refine E.fo ?_
  first | refine W.cond_d rfl (fun hc3 => ?_) (fun hc3 => ?_) | refine W.cond_nd rfl (fun hc3 => ?_) (fun hc3 => ?_) | refine W.cond rfl (fun hc3 => ?_) (fun hc3 => ?_)
  ·skip
   refine W.rg ?_
   refine SL.val (O.callp rfl rfl rfl (awake_h) .nil hcallOk11 rfl Taken.no) ?_
   refine SL.an rfl rfl (E.fo (W.ret (E.thr ?_)))
   refine E.fin (rs := [_]) (rn []) (.inl rfl) rfl (.cons (ResOne.tmp rfl) .nil) ?_ ?_ rfl (fixL_spec rfl)
   ·skip
    first | rfl | simp_all
   · exact SubS.nil
  ·skip
   refine W.skip (E.to (W.seq ?_))
   refine W.draw [⟨[101], [], [], []⟩, ⟨[], [], [], []⟩, ⟨[], [], [], []⟩, ⟨[102], [], [], []⟩, ⟨[], [], [], []⟩, ⟨[], [], [], []⟩, ⟨[], [], [], []⟩, ⟨[], [], [], []⟩, ⟨[], [], [], []⟩, ⟨[], [], [], []⟩, ⟨[], [], [], []⟩, ⟨[], [], [], []⟩] rfl (by kernel_rfl) (by kernel_rfl) rfl rfl ?_
   refine WH.val (O.ldN (m := 3) (PtI.ref rfl rfl) (js := [_, _, _]) rfl (Nat.le_of_ble_eq_true rfl) Try.underlying25 rfl (by kernel_rfl) rfl Taken.no) rfl rfl ?_
   refine WH.memS (O.call (rn []) [] rfl rfl rfl (own_h (by omega) (by omega)) (.cons (ArgOk.aggU (.cons (ArgOk.same rfl) (.cons (ArgOk.same rfl) (.cons (ArgOk.same rfl) .nil)))) .nil) SubS.nil rfl rfl rfl rfl rfl (.inl rfl) hcallOk14 (r' := .agg [.u _, .u _, .u _]) rfl rfl Taken.no) rfl rfl rfl rfl rfl (S' := _) rfl ?_
   refine WH.mv rfl rfl rfl ?_
   refine WH.val (O.ldN (m := 3) (PtI.ref rfl rfl) (js := [_, _, _]) rfl (Nat.le_of_ble_eq_true rfl) Try.underlying57 rfl (by kernel_rfl) rfl Taken.no) rfl rfl ?_
   refine WH.memS (O.call (rn []) [] rfl rfl rfl (applyC_ok (l := l) (u := u) (f := f) (t := t) hok) (.cons (ArgOk.aggU (.cons (ArgOk.same rfl) (.cons (ArgOk.same rfl) (.cons (ArgOk.same rfl) .nil)))) (.cons (ArgOk.same rfl) (.cons (ArgOk.aggU (.cons (ArgOk.same rfl) (.cons (ArgOk.same rfl) (.cons (ArgOk.same rfl) .nil)))) .nil))) SubS.nil rfl rfl rfl rfl rfl (.inl rfl) hcallOk26 (r' := .tup [.u _, .u _, .u _]) rfl rfl Taken.no) rfl rfl rfl rfl rfl (S' := _) rfl ?_
   refine WH.mv rfl rfl rfl ?_
   refine WH.val (O.extract rfl rfl rfl Taken.no) rfl rfl ?_
   refine WH.val (O.extract rfl rfl rfl Taken.no) rfl rfl ?_
   refine WH.val (O.extract rfl rfl rfl Taken.no) rfl rfl ?_
   refine WH.val (O.assign rfl rfl Taken.no) rfl rfl ?_
   refine WH.val (O.assign rfl rfl Taken.no) rfl rfl ?_
   refine WH.val (O.assign rfl rfl Taken.no) rfl rfl ?_
   refine WH.nil (E.to ?_)
   refine W.pick (K:=[(1,_),(3,_),(5,_),(6,_),(7,_),(8,_),(9,_)]) (Z:=[(101,_),(102,_)]) ⟨rfl,rfl,rfl,rfl,rfl,rfl,rfl,trivial⟩ ⟨rfl,rfl,trivial⟩ ?_
   refine W.rg ?_
   refine SL.val (O.ldN (m := 3) (PtI.ref rfl rfl) (js := [_, _, _]) rfl (Nat.le_of_ble_eq_true rfl) Try.underlying25 rfl (by kernel_rfl) rfl Taken.no) ?_
   refine SL.mv rfl rfl ?_
   refine SL.val (O.ldN (m := 3) (PtI.ref rfl rfl) (js := [_, _, _]) rfl (Nat.le_of_ble_eq_true rfl) Try.underlying57 rfl (by kernel_rfl) rfl Taken.no) ?_
   refine SL.memS (O.call (rn []) [] rfl rfl rfl (refApply_ok (l := l) (u := u) (f := f) (t := t) hok (by omega)) (.cons (ArgOk.aggU (.cons (ArgOk.same rfl) (.cons (ArgOk.same rfl) (.cons (ArgOk.same rfl) .nil)))) (.cons (ArgOk.same rfl) (.cons (ArgOk.aggU (.cons (ArgOk.same rfl) (.cons (ArgOk.same rfl) (.cons (ArgOk.same rfl) .nil)))) .nil))) SubS.nil rfl rfl rfl rfl rfl (.inl rfl) hcallOk27 (r' := .tup [.u _, .u _, .u _]) rfl rfl Taken.no) rfl rfl (S' := _) rfl ?_
   refine SL.mv rfl rfl ?_
   refine SL.val (O.extract rfl rfl rfl Taken.no) ?_
   refine SL.val (O.extract rfl rfl rfl Taken.no) ?_
   refine SL.val (O.extract rfl rfl rfl Taken.no) ?_
   refine SL.an rfl rfl (SL.an rfl rfl (SL.an rfl rfl (E.fo (W.rg ?_))))
   refine SL.val (O.ldN (m := 3) (PtI.ref rfl rfl) (js := [_, _, _]) rfl (Nat.le_of_ble_eq_true rfl) Try.underlying25 rfl (by kernel_rfl) rfl Taken.no) ?_
   refine SL.memS (O.call (rn []) [] rfl rfl rfl (own_h (by omega) (by omega)) (.cons (ArgOk.aggU (.cons (ArgOk.same rfl) (.cons (ArgOk.same rfl) (.cons (ArgOk.same rfl) .nil)))) .nil) SubS.nil rfl rfl rfl rfl rfl (.inl rfl) hcallOk14 (r' := .agg [.u _, .u _, .u _]) rfl rfl Taken.no) rfl rfl (S' := _) rfl ?_
   refine SL.mv rfl rfl ?_
   refine SL.memS (O.call (rn []) [] rfl rfl rfl (nextC_ok (l := l) hok) (.cons (ArgOk.aggU (.cons (ArgOk.same rfl) (.cons (ArgOk.same rfl) (.cons (ArgOk.same rfl) .nil)))) (.cons (ArgOk.same rfl) .nil)) SubS.nil rfl rfl rfl rfl rfl (.inl rfl) hcallOk28 (r' := .tup [.agg [.u _, .u _, .u _], .u _, .u _]) rfl rfl Taken.no) rfl rfl (S' := _) rfl ?_
   refine SL.mv rfl rfl ?_
   refine SL.val (O.extract rfl rfl rfl Taken.no) ?_
   refine SL.val (O.extract rfl rfl rfl Taken.no) ?_
   refine SL.val (O.extract rfl rfl rfl Taken.no) ?_
   refine SL.memS (O.alloc (z := .agg #[.bool false, .int .i64 0, .int .i64 0]) (is := [.u (.sc (.bool false)), .u (.sc (.int .i64 0)), .u (.sc (.int .i64 0))]) 103 (by kernel_rfl) rfl rfl rfl Taken.no) rfl rfl (S' := (103, _) :: _) rfl ?_
   refine SL.effS (O.st_ref (m := 3) rfl rfl rfl (js := [_, _, _]) rfl rfl (by kernel_rfl) (by simp) (Nat.le_of_ble_eq_true rfl) rfl (is' := [_, _, _]) rfl Taken.no) (S' := (103, _) :: _) rfl ?_
   refine SL.an rfl rfl (SL.an rfl rfl (E.fo ?_))
   refine W.pick (K:=[(1,_),(3,_),(6,_),(7,_),(8,_),(9,_),(10,_),(11,_),(12,_),(13,_),(14,_),(15,_)]) (Z:=[(101,_),(102,_),(103,_)]) ⟨rfl,rfl,rfl,rfl,rfl,rfl,rfl,rfl,rfl,rfl,rfl,rfl,trivial⟩ ⟨rfl,rfl,rfl,trivial⟩ ?_
   refine W.rg ?_
   refine SL.val (O.ldN (m := 3) (PtI.ref rfl rfl) (js := [_, _, _]) rfl (Nat.le_of_ble_eq_true rfl) Try.underlying25 rfl (by kernel_rfl) rfl Taken.no) ?_
   refine SL.mv rfl rfl ?_
   refine SL.memS (O.call (rn []) [] rfl rfl rfl (refNext_ok (l := l) hok (by omega)) (.cons (ArgOk.aggU (.cons (ArgOk.same rfl) (.cons (ArgOk.same rfl) (.cons (ArgOk.same rfl) .nil)))) (.cons (ArgOk.same rfl) .nil)) SubS.nil rfl rfl rfl rfl rfl (.inl rfl) hcallOk29 (r' := .tup [.agg [.u _, .u _, .u _], .u _, .u _]) rfl rfl Taken.no) rfl rfl (S' := _) rfl ?_
   refine SL.mv rfl rfl ?_
   refine SL.val (O.extract rfl rfl rfl Taken.no) ?_
   refine SL.val (O.extract rfl rfl rfl Taken.no) ?_
   refine SL.val (O.extract rfl rfl rfl Taken.no) ?_
   refine SL.memS (O.alloc (z := .agg #[.bool false, .int .i64 0, .int .i64 0]) (is := [.u (.sc (.bool false)), .u (.sc (.int .i64 0)), .u (.sc (.int .i64 0))]) 104 (by kernel_rfl) rfl rfl rfl Taken.no) rfl rfl (S' := (104, _) :: _) rfl ?_
   refine SL.effS (O.st_ref (m := 3) rfl rfl rfl (js := [_, _, _]) rfl rfl (by kernel_rfl) (by simp) (Nat.le_of_ble_eq_true rfl) rfl (is' := [_, _, _]) rfl Taken.no) (S' := (104, _) :: _) rfl ?_
   refine SL.an rfl rfl (SL.an rfl rfl (E.fo (W.rg (SL.mv rfl rfl (SL.mv rfl rfl ?_)))))
   refine SL.val (O.callp rfl rfl rfl (same_h (a := apL n ps rs l ⟨u, f, t⟩) (b := apL n ps rs l ⟨u, f, t⟩)) (.cons (ArgOk.same rfl) (.cons (ArgOk.same rfl) .nil)) hcallOk16 rfl Taken.no) ?_
   refine SL.as (i' := vB true) 66 rfl (by exact iv_bool (dec_t rfl)) ?_
   refine SL.mv rfl rfl ?_
   have hg4 : true = true := by decide
   refine SL.val (O.move rfl rfl (Taken.yes rfl rfl hg4)) ?_
   refine SL.val (O.move rfl rfl (Taken.yes rfl rfl hg4)) ?_
   refine SL.val (O.det (fun _ => G.R.mv (G.R.eql rfl rfl) (congrArg Value.bool (decide_eq_true (by rfl)))) rfl (Taken.yes rfl rfl hg4)) ?_
   refine SL.val (O.pick_t rfl rfl rfl rfl Taken.no) ?_
   refine SL.mv rfl rfl ?_
   have hg5 : true = true := by decide
   refine SL.val (O.move rfl rfl (Taken.yes rfl rfl hg5)) ?_
   refine SL.val (O.move rfl rfl (Taken.yes rfl rfl hg5)) ?_
   refine SL.val (O.det (fun _ => G.R.mv (G.R.eql rfl rfl) (congrArg Value.bool (decide_eq_true (by rfl)))) rfl (Taken.yes rfl rfl hg5)) ?_
   refine SL.val (O.pick_t rfl rfl rfl rfl Taken.no) ?_
   refine SL.mv rfl rfl ?_
   have hg6 : true = true := by decide
   refine SL.val (O.ldN (m := 3) (PtI.ref rfl rfl) (js := [_, _, _]) rfl (Nat.le_of_ble_eq_true rfl) Try.underlying55 rfl (by kernel_rfl) rfl (Taken.yes rfl rfl hg6)) ?_
   refine SL.val (O.ldN (m := 3) (PtI.ref rfl rfl) (js := [_, _, _]) rfl (Nat.le_of_ble_eq_true rfl) Try.underlying57 rfl (by kernel_rfl) rfl (Taken.yes rfl rfl hg6)) ?_
   refine SL.val (O.eqAgg (ls := (stV (nxI n ps rs l).1)) (ms := (stV (nxI n ps rs l).1)) (r := true) (.inr rfl) (.inr rfl) (by kernel_rfl) (by kernel_rfl) (by kernel_rfl) (by kernel_rfl) (by rw [eqSt]) rfl (Taken.yes rfl rfl hg6)) ?_
   refine SL.val (O.pick_t rfl rfl rfl rfl Taken.no) ?_
   refine SL.mv rfl rfl ?_
   have hg7 : true = true := by decide
   refine SL.val (O.move rfl rfl (Taken.yes rfl rfl hg7)) ?_
   refine SL.val (O.move rfl rfl (Taken.yes rfl rfl hg7)) ?_
   refine SL.val (O.det (fun _ => G.R.mv (G.R.eql rfl rfl) (congrArg Value.bool (decide_eq_true (by rfl)))) rfl (Taken.yes rfl rfl hg7)) ?_
   refine SL.val (O.pick_t rfl rfl rfl rfl Taken.no) ?_
   refine SL.mv rfl rfl ?_
   have hg8 : true = true := by decide
   refine SL.val (O.move rfl rfl (Taken.yes rfl rfl hg8)) ?_
   refine SL.val (O.move rfl rfl (Taken.yes rfl rfl hg8)) ?_
   refine SL.val (O.det (fun _ => G.R.mv (G.R.eql rfl rfl) (congrArg Value.bool (decide_eq_true (by rfl)))) rfl (Taken.yes rfl rfl hg8)) ?_
   refine SL.val (O.pick_t rfl rfl rfl rfl Taken.no) ?_
   refine SL.an rfl rfl (E.fo ?_)
   refine W.pick (K:=[(6,_)]) (Z:=[(101,_),(102,_),(103,_),(104,_)]) ⟨rfl,trivial⟩ ⟨rfl,rfl,rfl,rfl,trivial⟩ ?_
   refine W.ret ?_
   refine E.fin (rs := [_]) (rn []) (.inl rfl) rfl (.cons (ResOne.tmp rfl) .nil) ?_ ?_ rfl (fixL_spec rfl)
   ·skip
    first | rfl | simp_all
   · exact SubS.nil
 ·skip
  first | have hg2p := G.gA7 hg2 | have hg2p := G.gA8 hg2 | have hg2p := hg2
  refine SL.sk rfl rfl rfl hg2 (SL.sk rfl rfl rfl hg2 (SL.sk rfl rfl rfl hg2 ?_))
  refine SL.val (O.pick_t rfl (G.ne_f hg2) rfl rfl Taken.no) ?_
  refine E.fo ?_
  refine W.cond_t rfl ?_
  refine W.rg ?_
  refine SL.val (O.callp rfl rfl rfl (awake_h) .nil hcallOk11 rfl Taken.no) ?_
  refine SL.an rfl rfl (E.fo (W.ret (E.thr ?_)))
  refine E.fin (rs := [_]) (rn []) (.inl rfl) rfl (.cons (ResOne.tmp rfl) .nil) ?_ ?_ rfl (fixL_spec rfl)
  ·skip
   first | rfl | simp_all
  · exact SubS.nil

set_option maxRecDepth 8000 in
set_option maxHeartbeats 3200000 in
/-- bookplate/bookplatelaw33.ClusterSteps. -/
theorem clusterSteps_bad {N : Int} {ps : List Pr} {rs : List Ru} {l : List Int} {u : Bool} {f t : Int} (hok : ¬ (Prob.mk N ps rs).ok) :
    Con Try.prog 8 [vA [uI N, .sl 3 (ps.map ePr), .sl 3 (rs.map eRu)], vL 1 (l.map eI), vA [uB u, uI f, uI t]] [] (vB true) [] := by
 refine Con.enterL (n := 92) Try.func8 rfl rfl rfl (fun τ w ok vs hin => ?_)
 have hl0_1 := hin.lenA (i := 0) (j := 1) rfl rfl
 try rw [List.length_map] at hl0_1
 have hl0_2 := hin.lenA (i := 0) (j := 2) rfl rfl
 try rw [List.length_map] at hl0_2
 have hl1 := hin.len (i := 1) rfl
 try rw [List.length_map] at hl1
 clear hin
 refine W.rg ?_
 refine SL.memS (O.box (is := [_, _, _]) 101 rfl rfl (by simp) rfl rfl Taken.no) rfl rfl (S' := (101, _) :: _) rfl ?_
 refine SL.memS (O.box (is := [_, _, _]) 102 rfl rfl (by simp) rfl rfl Taken.no) rfl rfl (S' := (102, _) :: _) rfl ?_
 refine SL.an rfl rfl (E.fo (W.seq (W.rg ?_)))
 refine SL.val (O.callp rfl rfl rfl (awake_h) .nil hcallOk11 rfl Taken.no) ?_
 refine SL.as (i' := vB true) 19 rfl (by rfl) ?_
 refine SL.val (O.det (fun _ => G.R.mv (G.R.not rfl) rfl) rfl Taken.no) ?_
 refine SL.mv rfl rfl ?_
 have hg1 : false = false := by decide
 refine SL.val (O.ldN (m := 3) (PtI.ref rfl rfl) (js := [_, _, _]) rfl (Nat.le_of_ble_eq_true rfl) Try.underlying25 rfl (by kernel_rfl) rfl (Taken.yes rfl rfl hg1)) ?_
 refine SL.val (O.callp rfl rfl rfl (few_h) (.cons (ArgOk.aggU (.cons (ArgOk.same rfl) (.cons (ArgOk.same rfl) (.cons (ArgOk.same rfl) .nil)))) .nil) hcallOk12 rfl (Taken.yes rfl rfl hg1)) ?_
 refine SL.val (O.det (fun _ => G.R.not rfl) rfl (Taken.yes rfl rfl hg1)) ?_
 refine SL.val (O.pick_f rfl rfl rfl rfl Taken.no) ?_
 refine SL.mv rfl rfl ?_
 refine SL.case (j := 7) (g := 26) (want := false) rfl rfl (fun hg2 => ?_) (fun hg2 => ?_)
 ·skip
  first | have hg2p := G.gA3 hg2 | have hg2p := G.gA4 hg2 | have hg2p := hg2
  have hfew : (N ≤ 9 ∨ 200 < N) ∧ ps.length ≤ 40 ∧ (rs.length ≤ 12 ∨ rs.length = 401) := by simp_all
  refine SL.val (O.move rfl rfl (Taken.yes rfl rfl hg2)) ?_
  refine SL.val (O.lenE (SlOf.fz rfl (by decide)) (by first | exact List.length_map _ | rfl) Try.underlying39 rfl (Taken.yes rfl rfl hg2)) ?_
  refine SL.val (O.det (fun _ => G.R.gtr rfl rfl) rfl (Taken.yes rfl rfl hg2)) ?_
  refine SL.val (O.pick_f rfl hg2 rfl rfl Taken.no) ?_
  refine E.fo ?_
  first | refine W.cond_d rfl (fun hc3 => ?_) (fun hc3 => ?_) | refine W.cond_nd rfl (fun hc3 => ?_) (fun hc3 => ?_) | refine W.cond rfl (fun hc3 => ?_) (fun hc3 => ?_)
  ·skip
   refine W.rg ?_
   refine SL.val (O.callp rfl rfl rfl (awake_h) .nil hcallOk11 rfl Taken.no) ?_
   refine SL.an rfl rfl (E.fo (W.ret (E.thr ?_)))
   refine E.fin (rs := [_]) (rn []) (.inl rfl) rfl (.cons (ResOne.tmp rfl) .nil) ?_ ?_ rfl (fixL_spec rfl)
   ·skip
    first | rfl | simp_all
   · exact SubS.nil
  ·skip
   refine W.skip (E.to (W.seq ?_))
   refine W.draw [⟨[101], [], [], []⟩, ⟨[], [], [], []⟩, ⟨[], [], [], []⟩, ⟨[102], [], [], []⟩, ⟨[], [], [], []⟩, ⟨[], [], [], []⟩, ⟨[], [], [], []⟩, ⟨[], [], [], []⟩, ⟨[], [], [], []⟩, ⟨[], [], [], []⟩, ⟨[], [], [], []⟩, ⟨[], [], [], []⟩] rfl (by kernel_rfl) (by kernel_rfl) rfl rfl ?_
   refine WH.val (O.ldN (m := 3) (PtI.ref rfl rfl) (js := [_, _, _]) rfl (Nat.le_of_ble_eq_true rfl) Try.underlying25 rfl (by kernel_rfl) rfl Taken.no) rfl rfl ?_
   refine WH.memS (O.call (rn []) [] rfl rfl rfl (own_h (by omega) (by omega)) (.cons (ArgOk.aggU (.cons (ArgOk.same rfl) (.cons (ArgOk.same rfl) (.cons (ArgOk.same rfl) .nil)))) .nil) SubS.nil rfl rfl rfl rfl rfl (.inl rfl) hcallOk14 (r' := .agg [.u _, .u _, .u _]) rfl rfl Taken.no) rfl rfl rfl rfl rfl (S' := _) rfl ?_
   refine WH.mv rfl rfl rfl ?_
   refine WH.val (O.ldN (m := 3) (PtI.ref rfl rfl) (js := [_, _, _]) rfl (Nat.le_of_ble_eq_true rfl) Try.underlying57 rfl (by kernel_rfl) rfl Taken.no) rfl rfl ?_
   refine WH.memS (O.call (rn []) [] rfl rfl rfl (applyC_bad (l := l) (u := u) (f := f) (t := t) hok) (.cons (ArgOk.aggU (.cons (ArgOk.same rfl) (.cons (ArgOk.same rfl) (.cons (ArgOk.same rfl) .nil)))) (.cons (ArgOk.same rfl) (.cons (ArgOk.aggU (.cons (ArgOk.same rfl) (.cons (ArgOk.same rfl) (.cons (ArgOk.same rfl) .nil)))) .nil))) SubS.nil rfl rfl rfl rfl rfl (.inl rfl) hcallOk26 (r' := .tup [.u _, .u _, .u _]) rfl rfl Taken.no) rfl rfl rfl rfl rfl (S' := _) rfl ?_
   refine WH.mv rfl rfl rfl ?_
   refine WH.val (O.extract rfl rfl rfl Taken.no) rfl rfl ?_
   refine WH.val (O.extract rfl rfl rfl Taken.no) rfl rfl ?_
   refine WH.val (O.extract rfl rfl rfl Taken.no) rfl rfl ?_
   refine WH.val (O.assign rfl rfl Taken.no) rfl rfl ?_
   refine WH.val (O.assign rfl rfl Taken.no) rfl rfl ?_
   refine WH.val (O.assign rfl rfl Taken.no) rfl rfl ?_
   refine WH.nil (E.to ?_)
   refine W.pick (K:=[(1,_),(3,_),(5,_),(6,_),(7,_),(8,_),(9,_)]) (Z:=[(101,_),(102,_)]) ⟨rfl,rfl,rfl,rfl,rfl,rfl,rfl,trivial⟩ ⟨rfl,rfl,trivial⟩ ?_
   refine W.rg ?_
   refine SL.val (O.ldN (m := 3) (PtI.ref rfl rfl) (js := [_, _, _]) rfl (Nat.le_of_ble_eq_true rfl) Try.underlying25 rfl (by kernel_rfl) rfl Taken.no) ?_
   refine SL.mv rfl rfl ?_
   refine SL.val (O.ldN (m := 3) (PtI.ref rfl rfl) (js := [_, _, _]) rfl (Nat.le_of_ble_eq_true rfl) Try.underlying57 rfl (by kernel_rfl) rfl Taken.no) ?_
   refine SL.memS (O.call (rn []) [] rfl rfl rfl (refApply_bad (l := l) (u := u) (f := f) (t := t) hok (by omega)) (.cons (ArgOk.aggU (.cons (ArgOk.same rfl) (.cons (ArgOk.same rfl) (.cons (ArgOk.same rfl) .nil)))) (.cons (ArgOk.same rfl) (.cons (ArgOk.aggU (.cons (ArgOk.same rfl) (.cons (ArgOk.same rfl) (.cons (ArgOk.same rfl) .nil)))) .nil))) SubS.nil rfl rfl rfl rfl rfl (.inl rfl) hcallOk27 (r' := .tup [.u _, .u _, .u _]) rfl rfl Taken.no) rfl rfl (S' := _) rfl ?_
   refine SL.mv rfl rfl ?_
   refine SL.val (O.extract rfl rfl rfl Taken.no) ?_
   refine SL.val (O.extract rfl rfl rfl Taken.no) ?_
   refine SL.val (O.extract rfl rfl rfl Taken.no) ?_
   refine SL.an rfl rfl (SL.an rfl rfl (SL.an rfl rfl (E.fo (W.rg ?_))))
   refine SL.val (O.ldN (m := 3) (PtI.ref rfl rfl) (js := [_, _, _]) rfl (Nat.le_of_ble_eq_true rfl) Try.underlying25 rfl (by kernel_rfl) rfl Taken.no) ?_
   refine SL.memS (O.call (rn []) [] rfl rfl rfl (own_h (by omega) (by omega)) (.cons (ArgOk.aggU (.cons (ArgOk.same rfl) (.cons (ArgOk.same rfl) (.cons (ArgOk.same rfl) .nil)))) .nil) SubS.nil rfl rfl rfl rfl rfl (.inl rfl) hcallOk14 (r' := .agg [.u _, .u _, .u _]) rfl rfl Taken.no) rfl rfl (S' := _) rfl ?_
   refine SL.mv rfl rfl ?_
   refine SL.memS (O.call (rn []) [] rfl rfl rfl (nextC_bad (l := l) hok) (.cons (ArgOk.aggU (.cons (ArgOk.same rfl) (.cons (ArgOk.same rfl) (.cons (ArgOk.same rfl) .nil)))) (.cons (ArgOk.same rfl) .nil)) SubS.nil rfl rfl rfl rfl rfl (.inl rfl) hcallOk28 (r' := .tup [.agg [.u _, .u _, .u _], .u _, .u _]) rfl rfl Taken.no) rfl rfl (S' := _) rfl ?_
   refine SL.mv rfl rfl ?_
   refine SL.val (O.extract rfl rfl rfl Taken.no) ?_
   refine SL.val (O.extract rfl rfl rfl Taken.no) ?_
   refine SL.val (O.extract rfl rfl rfl Taken.no) ?_
   refine SL.memS (O.alloc (z := .agg #[.bool false, .int .i64 0, .int .i64 0]) (is := [.u (.sc (.bool false)), .u (.sc (.int .i64 0)), .u (.sc (.int .i64 0))]) 103 (by kernel_rfl) rfl rfl rfl Taken.no) rfl rfl (S' := (103, _) :: _) rfl ?_
   refine SL.effS (O.st_ref (m := 3) rfl rfl rfl (js := [_, _, _]) rfl rfl (by kernel_rfl) (by simp) (Nat.le_of_ble_eq_true rfl) rfl (is' := [_, _, _]) rfl Taken.no) (S' := (103, _) :: _) rfl ?_
   refine SL.an rfl rfl (SL.an rfl rfl (E.fo ?_))
   refine W.pick (K:=[(1,_),(3,_),(6,_),(7,_),(8,_),(9,_),(10,_),(11,_),(12,_),(13,_),(14,_),(15,_)]) (Z:=[(101,_),(102,_),(103,_)]) ⟨rfl,rfl,rfl,rfl,rfl,rfl,rfl,rfl,rfl,rfl,rfl,rfl,trivial⟩ ⟨rfl,rfl,rfl,trivial⟩ ?_
   refine W.rg ?_
   refine SL.val (O.ldN (m := 3) (PtI.ref rfl rfl) (js := [_, _, _]) rfl (Nat.le_of_ble_eq_true rfl) Try.underlying25 rfl (by kernel_rfl) rfl Taken.no) ?_
   refine SL.mv rfl rfl ?_
   refine SL.memS (O.call (rn []) [] rfl rfl rfl (refNext_bad (l := l) hok (by omega)) (.cons (ArgOk.aggU (.cons (ArgOk.same rfl) (.cons (ArgOk.same rfl) (.cons (ArgOk.same rfl) .nil)))) (.cons (ArgOk.same rfl) .nil)) SubS.nil rfl rfl rfl rfl rfl (.inl rfl) hcallOk29 (r' := .tup [.agg [.u _, .u _, .u _], .u _, .u _]) rfl rfl Taken.no) rfl rfl (S' := _) rfl ?_
   refine SL.mv rfl rfl ?_
   refine SL.val (O.extract rfl rfl rfl Taken.no) ?_
   refine SL.val (O.extract rfl rfl rfl Taken.no) ?_
   refine SL.val (O.extract rfl rfl rfl Taken.no) ?_
   refine SL.memS (O.alloc (z := .agg #[.bool false, .int .i64 0, .int .i64 0]) (is := [.u (.sc (.bool false)), .u (.sc (.int .i64 0)), .u (.sc (.int .i64 0))]) 104 (by kernel_rfl) rfl rfl rfl Taken.no) rfl rfl (S' := (104, _) :: _) rfl ?_
   refine SL.effS (O.st_ref (m := 3) rfl rfl rfl (js := [_, _, _]) rfl rfl (by kernel_rfl) (by simp) (Nat.le_of_ble_eq_true rfl) rfl (is' := [_, _, _]) rfl Taken.no) (S' := (104, _) :: _) rfl ?_
   refine SL.an rfl rfl (SL.an rfl rfl (E.fo (W.rg (SL.mv rfl rfl (SL.mv rfl rfl ?_)))))
   refine SL.val (O.callp rfl rfl rfl (same_h (a := []) (b := [])) (.cons (ArgOk.same rfl) (.cons (ArgOk.same rfl) .nil)) hcallOk16 rfl Taken.no) ?_
   refine SL.as (i' := vB true) 66 rfl (by exact iv_bool (dec_t rfl)) ?_
   refine SL.mv rfl rfl ?_
   have hg4 : true = true := by decide
   refine SL.val (O.move rfl rfl (Taken.yes rfl rfl hg4)) ?_
   refine SL.val (O.move rfl rfl (Taken.yes rfl rfl hg4)) ?_
   refine SL.val (O.det (fun _ => G.R.mv (G.R.eql rfl rfl) (congrArg Value.bool (decide_eq_true (by rfl)))) rfl (Taken.yes rfl rfl hg4)) ?_
   refine SL.val (O.pick_t rfl rfl rfl rfl Taken.no) ?_
   refine SL.mv rfl rfl ?_
   have hg5 : true = true := by decide
   refine SL.val (O.move rfl rfl (Taken.yes rfl rfl hg5)) ?_
   refine SL.val (O.move rfl rfl (Taken.yes rfl rfl hg5)) ?_
   refine SL.val (O.det (fun _ => G.R.mv (G.R.eql rfl rfl) (congrArg Value.bool (decide_eq_true (by rfl)))) rfl (Taken.yes rfl rfl hg5)) ?_
   refine SL.val (O.pick_t rfl rfl rfl rfl Taken.no) ?_
   refine SL.mv rfl rfl ?_
   have hg6 : true = true := by decide
   refine SL.val (O.ldN (m := 3) (PtI.ref rfl rfl) (js := [_, _, _]) rfl (Nat.le_of_ble_eq_true rfl) Try.underlying55 rfl (by kernel_rfl) rfl (Taken.yes rfl rfl hg6)) ?_
   refine SL.val (O.ldN (m := 3) (PtI.ref rfl rfl) (js := [_, _, _]) rfl (Nat.le_of_ble_eq_true rfl) Try.underlying57 rfl (by kernel_rfl) rfl (Taken.yes rfl rfl hg6)) ?_
   refine SL.val (O.eqAgg (ls := (stV ⟨false, 0, 0⟩)) (ms := (stV ⟨false, 0, 0⟩)) (r := true) (.inr rfl) (.inr rfl) (by kernel_rfl) (by kernel_rfl) (by kernel_rfl) (by kernel_rfl) (by rw [eqSt]) rfl (Taken.yes rfl rfl hg6)) ?_
   refine SL.val (O.pick_t rfl rfl rfl rfl Taken.no) ?_
   refine SL.mv rfl rfl ?_
   have hg7 : true = true := by decide
   refine SL.val (O.move rfl rfl (Taken.yes rfl rfl hg7)) ?_
   refine SL.val (O.move rfl rfl (Taken.yes rfl rfl hg7)) ?_
   refine SL.val (O.det (fun _ => G.R.mv (G.R.eql rfl rfl) (congrArg Value.bool (decide_eq_true (by rfl)))) rfl (Taken.yes rfl rfl hg7)) ?_
   refine SL.val (O.pick_t rfl rfl rfl rfl Taken.no) ?_
   refine SL.mv rfl rfl ?_
   have hg8 : true = true := by decide
   refine SL.val (O.move rfl rfl (Taken.yes rfl rfl hg8)) ?_
   refine SL.val (O.move rfl rfl (Taken.yes rfl rfl hg8)) ?_
   refine SL.val (O.det (fun _ => G.R.mv (G.R.eql rfl rfl) (congrArg Value.bool (decide_eq_true (by rfl)))) rfl (Taken.yes rfl rfl hg8)) ?_
   refine SL.val (O.pick_t rfl rfl rfl rfl Taken.no) ?_
   refine SL.an rfl rfl (E.fo ?_)
   refine W.pick (K:=[(6,_)]) (Z:=[(101,_),(102,_),(103,_),(104,_)]) ⟨rfl,trivial⟩ ⟨rfl,rfl,rfl,rfl,trivial⟩ ?_
   refine W.ret ?_
   refine E.fin (rs := [_]) (rn []) (.inl rfl) rfl (.cons (ResOne.tmp rfl) .nil) ?_ ?_ rfl (fixL_spec rfl)
   ·skip
    first | rfl | simp_all
   · exact SubS.nil
 ·skip
  first | have hg2p := G.gA7 hg2 | have hg2p := G.gA8 hg2 | have hg2p := hg2
  refine SL.sk rfl rfl rfl hg2 (SL.sk rfl rfl rfl hg2 (SL.sk rfl rfl rfl hg2 ?_))
  refine SL.val (O.pick_t rfl (G.ne_f hg2) rfl rfl Taken.no) ?_
  refine E.fo ?_
  refine W.cond_t rfl ?_
  refine W.rg ?_
  refine SL.val (O.callp rfl rfl rfl (awake_h) .nil hcallOk11 rfl Taken.no) ?_
  refine SL.an rfl rfl (E.fo (W.ret (E.thr ?_)))
  refine E.fin (rs := [_]) (rn []) (.inl rfl) rfl (.cons (ResOne.tmp rfl) .nil) ?_ ?_ rfl (fixL_spec rfl)
  ·skip
   first | rfl | simp_all
  · exact SubS.nil

theorem clusterSteps_h {N : Int} {ps : List Pr} {rs : List Ru} {l : List Int} {u : Bool} {f t : Int} : Con Try.prog 8 [vA [uI N, .sl 3 (ps.map ePr), .sl 3 (rs.map eRu)], vL 1 (l.map eI), vA [uB u, uI f, uI t]] [] (vB true) [] := by
  by_cases h : (Prob.mk N ps rs).ok
  · obtain ⟨n, rfl⟩ : ∃ n : Nat, N = (n : Int) := ⟨N.toNat, Prob.nat h.1⟩
    exact clusterSteps_ok h
  · exact clusterSteps_bad h




end Go.Proofs.Ytppamigboeaefaa
end
