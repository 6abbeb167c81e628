/-
  What the proof rests on: part 12 of 12.
-/
import Derived.Test.YtbkbeplddddgeaaOptimumGreatestP11
section
namespace Go.Proofs.Ytbkbeplddddgeaa
open Go Go.RowKit Go.H Go.D33

theorem hcallOk30 : G.callOk Try.prog 30 = true := by kernel_rfl
theorem hcallOk36 : G.callOk Try.prog 36 = true := by kernel_rfl
theorem hcallOk37 : G.callOk Try.prog 37 = true := by kernel_rfl
theorem hcallOk42 : G.callOk Try.prog 42 = true := by kernel_rfl
theorem hcallOk49 : G.callOk Try.prog 49 = true := by kernel_rfl
theorem hcallOk61 : G.callOk Try.prog 61 = true := by kernel_rfl
theorem hcallOk63 : G.callOk Try.prog 63 = true := by kernel_rfl
theorem hcallOk77 : G.callOk Try.prog 77 = true := by kernel_rfl

set_option maxRecDepth 8000 in
theorem isNaN_h {a : Int} :
    Con Try.prog 77 [vI a] [] (vB false) [] := by
 refine Con.enterL (n := 6) Try.func77 rfl rfl rfl (fun τ w ok vs hin => ?_)
 clear hin
 refine W.rg (SL.an rfl rfl (E.fo (W.rg (SL.mv rfl rfl (SL.mv rfl rfl ?_)))))
 refine SL.val (O.det (fun _ => G.R.mv (G.R.neq rfl rfl) (congrArg Value.bool (decide_eq_false (by simp)))) rfl Taken.no) ?_
 refine SL.an rfl rfl (E.fo (W.ret ?_))
 refine E.fin (rs := [_]) (rn []) (.inl rfl) rfl (.cons (ResOne.tmp rfl) .nil) ?_ ?_ rfl (fixL_spec rfl)
 ·skip
  rfl
 · exact SubS.nil

set_option maxRecDepth 8000 in
theorem cmpCompare_h {a b : Int} :
    Con Try.prog 63 [vI a, vI b] [] (vI (cmpI a b)) [] := by
 refine Con.enterL (n := 20) Try.func63 rfl rfl rfl (fun τ w ok vs hin => ?_)
 clear hin
 refine W.rg (SL.an rfl rfl (E.fo (W.rg (SL.mv rfl rfl ?_))))
 refine SL.val (O.callp rfl rfl rfl (isNaN_h) (.cons (ArgOk.same rfl) .nil) hcallOk77 rfl Taken.no) ?_
 refine SL.an rfl rfl (E.fo (W.rg (SL.mv rfl rfl ?_)))
 refine SL.val (O.callp rfl rfl rfl (isNaN_h) (.cons (ArgOk.same rfl) .nil) hcallOk77 rfl Taken.no) ?_
 refine SL.an rfl rfl (E.fo (W.seq (W.rg (SL.mv rfl rfl (E.fo ?_)))))
 refine W.cond_f rfl ?_
 refine W.skip (E.to (W.seq (W.rg (SL.mv rfl rfl (E.fo ?_)))))
 refine W.cond_f rfl ?_
 refine W.skip (E.to (W.seq (W.rg (SL.mv rfl rfl (SL.mv rfl rfl ?_)))))
 refine SL.val (O.det (fun _ => G.R.lss rfl rfl) rfl Taken.no) ?_
 refine E.fo ?_
 first | refine W.cond_d rfl (fun hc1 => ?_) (fun hc1 => ?_) | refine W.cond_nd rfl (fun hc1 => ?_) (fun hc1 => ?_) | refine W.cond rfl (fun hc1 => ?_) (fun hc1 => ?_)
 ·skip
  refine W.rg (SL.an rfl rfl (E.fo (W.ret (E.thr ?_))))
  refine E.fin (rs := [_]) (rn []) (.inl rfl) rfl (.cons (ResOne.tmp rfl) .nil) ?_ ?_ rfl (fixL_spec rfl)
  ·skip
   exact iv_int (cmpI_lt (by assumption))
  · exact SubS.nil
 refine W.skip (E.to (W.seq (W.rg (SL.mv rfl rfl (SL.mv rfl rfl ?_)))))
 refine SL.val (O.det (fun _ => G.R.gtr rfl rfl) rfl Taken.no) ?_
 refine E.fo ?_
 first | refine W.cond_d rfl (fun hc2 => ?_) (fun hc2 => ?_) | refine W.cond_nd rfl (fun hc2 => ?_) (fun hc2 => ?_) | refine W.cond rfl (fun hc2 => ?_) (fun hc2 => ?_)
 ·skip
  refine W.rg (SL.an rfl rfl (E.fo (W.ret (E.thr ?_))))
  refine E.fin (rs := [_]) (rn []) (.inl rfl) rfl (.cons (ResOne.tmp rfl) .nil) ?_ ?_ rfl (fixL_spec rfl)
  ·skip
   exact iv_int (cmpI_gt (by assumption))
  · exact SubS.nil
 refine W.skip (E.to (W.rg (SL.an rfl rfl (E.fo (W.ret ?_)))))
 refine E.fin (rs := [_]) (rn []) (.inl rfl) rfl (.cons (ResOne.tmp rfl) .nil) ?_ ?_ rfl (fixL_spec rfl)
 ·skip
  exact iv_int (cmpI_eq (by assumption) (by assumption))
 · exact SubS.nil

set_option maxRecDepth 8000 in
theorem sCompare_h {x y : List Nat} :
    Con Try.prog 37 [vL 1 (x.map eN), vL 1 (y.map eN)] [] (vI (cmpL x y)) [] := by
 obtain ⟨i3, hi3, hz3, hs3, hb3⟩ := hinf3
 refine Con.enterL (n := 36) Try.func37 rfl rfl rfl (fun τ w ok vs hin => ?_)
 have hl0 := hin.len (i := 0) rfl
 try rw [List.length_map] at hl0
 have hl1 := hin.len (i := 1) rfl
 try rw [List.length_map] at hl1
 clear hin
 refine W.rg (SL.an rfl rfl (E.fo (W.seq (W.rg (SL.mv rfl rfl ?_)))))
 refine SL.val (O.lenE (SlOf.fz rfl (by decide)) (by first | exact List.length_map _ | rfl) Try.underlying32 rfl Taken.no) ?_
 refine SL.mv rfl rfl (E.fo (W.block ?_))
 refine W.loopx1 (fun (k : Nat) => [(11, vI (k : Int))]) (fun (k : Nat) => []) (fun (k : Nat) => k ≤ x.length ∧ k ≤ y.length ∧ ∀ i, i < k → x[i]! = y[i]!) (fun (k : Nat) => x.length - k) (0) (rn []) (.cons (t := 0) rfl (.cons (t := 1) rfl (.cons (t := 9) rfl (.cons (t := 10) rfl .nil)))) .nil rfl ?_ ?_ rfl rfl ?_ ?_
 · exact (SubF.cons rfl SubF.nil)
 · exact SubS.nil
 ·skip
  exact ⟨by omega, by omega, fun i h => by omega⟩
 intro k hinv
 obtain ⟨hk, hky, hp⟩ := hinv
 refine W.rg ?_
 refine SL.val (O.det (fun _ => G.R.lss rfl rfl) rfl Taken.no) ?_
 refine E.fo (W.seq ?_)
 first | refine W.cond_d rfl (fun hc1 => ?_) (fun hc1 => ?_) | refine W.cond_nd rfl (fun hc1 => ?_) (fun hc1 => ?_) | refine W.cond rfl (fun hc1 => ?_) (fun hc1 => ?_)
 ·skip
  refine W.skip (E.to (W.seq (W.block (W.rg (SL.mv rfl rfl ?_)))))
  refine SL.val (O.idx_fz rfl rfl (rfl) (row_get (by omega)) Try.underlying32 hi3 hs3 rfl Taken.no) ?_
  refine SL.val (O.ld1 (PtI.ofU (PtU.fz rfl)) rfl Try.underlying3 rfl rfl Taken.no) ?_
  refine SL.an rfl rfl (SL.an rfl rfl (E.fo (W.seq (W.rg (SL.mv rfl rfl (SL.mv rfl rfl ?_))))))
  refine SL.val (O.lenE (SlOf.fz rfl (by decide)) (by first | exact List.length_map _ | rfl) Try.underlying32 rfl Taken.no) ?_
  refine SL.val (O.det (fun _ => G.R.geq rfl rfl) rfl Taken.no) ?_
  refine E.fo ?_
  first | refine W.cond_d rfl (fun hc2 => ?_) (fun hc2 => ?_) | refine W.cond_nd rfl (fun hc2 => ?_) (fun hc2 => ?_) | refine W.cond rfl (fun hc2 => ?_) (fun hc2 => ?_)
  ·skip
   refine W.rg (SL.an rfl rfl (E.fo (W.ret (E.thr ?_))))
   refine E.inr ?_
   refine E.thr (E.thr ?_)
   refine E.inr ?_
   refine E.thr ?_
   refine E.fin (rs := [_]) (rn []) (.inl rfl) rfl (.cons (ResOne.tmp rfl) .nil) ?_ ?_ rfl (fixL_spec rfl)
   ·skip
    exact iv_int (cmpL_long (k := k) (by omega) (by omega) hp)
   · exact SubS.nil
  refine W.skip (E.to (W.rg (SL.mv rfl rfl (SL.mv rfl rfl ?_))))
  refine SL.val (O.idx_fz rfl rfl (rfl) (row_get (by omega)) Try.underlying32 hi3 hs3 rfl Taken.no) ?_
  refine SL.val (O.ld1 (PtI.ofU (PtU.fz rfl)) rfl Try.underlying3 rfl rfl Taken.no) ?_
  refine SL.an rfl rfl (E.fo (W.rg (SL.mv rfl rfl (SL.mv rfl rfl ?_))))
  refine SL.val (O.callp rfl rfl rfl (cmpCompare_h) (.cons (ArgOk.same rfl) (.cons (ArgOk.same rfl) .nil)) hcallOk63 rfl Taken.no) ?_
  refine SL.an rfl rfl (E.fo (W.rg (SL.mv rfl rfl ?_)))
  refine SL.val (O.det (fun _ => G.R.neq rfl rfl) rfl Taken.no) ?_
  refine E.fo ?_
  refine W.pick (K:=[(0,_),(1,_),(8,_),(9,_),(10,_),(11,_),(28,_)]) (Z:=[]) ⟨rfl,rfl,rfl,rfl,rfl,rfl,rfl,trivial⟩ trivial ?_
  first | refine W.cond_d rfl (fun hc3 => ?_) (fun hc3 => ?_) | refine W.cond_nd rfl (fun hc3 => ?_) (fun hc3 => ?_) | refine W.cond rfl (fun hc3 => ?_) (fun hc3 => ?_)
  ·skip
   refine W.rg (SL.mv rfl rfl (SL.an rfl rfl (E.fo (W.ret ?_))))
   refine E.inr ?_
   refine E.thr (E.thr ?_)
   refine E.inr ?_
   refine E.thr ?_
   refine E.fin (rs := [_]) (rn []) (.inl rfl) rfl (.cons (ResOne.tmp rfl) .nil) ?_ ?_ rfl (fixL_spec rfl)
   ·skip
    exact iv_int (cmpL_here (k := k) (by omega) (by omega) hp (by first | assumption | omega))
   · exact SubS.nil
  refine W.skip (E.inn (E.to (W.region ?_)))
  refine SL.val (O.det (fun _ => by first | exact G.R.add64 rfl rfl (by omega) | exact G.R.add rfl rfl) rfl Taken.no) ?_
  refine SL.mv rfl rfl (SL.nil ?_)
  refine E.again ((k + 1)) (rn []) ?_ ?_ rfl (fixL_spec rfl) ?_ ?_
  · exact (SubF.cons rfl (SubF.cons rfl (SubF.cons rfl (SubF.cons rfl (SubF.cons rfl SubF.nil)))))
  · exact SubS.nil
  ·try dsimp only
   have hz : cmpI (x[k]! : Int) (y[k]! : Int) = 0 := by first | assumption | omega | simp_all
   have hz2 := cmpI_zero.1 hz
   exact ⟨by omega, by omega, fun i hi => by rcases Nat.lt_succ_iff_lt_or_eq.1 hi with h | h; exact hp i h; subst h; omega⟩
  · (try dsimp only); omega
 refine W.exit (E.th (E.th (E.hit (E.to (W.seq (W.rg (SL.mv rfl rfl ?_)))))))
 refine SL.val (O.lenE (SlOf.fz rfl (by decide)) (by first | exact List.length_map _ | rfl) Try.underlying32 rfl Taken.no) ?_
 refine SL.mv rfl rfl ?_
 refine SL.val (O.lenE (SlOf.fz rfl (by decide)) (by first | exact List.length_map _ | rfl) Try.underlying32 rfl Taken.no) ?_
 refine SL.val (O.det (fun _ => G.R.lss rfl rfl) rfl Taken.no) ?_
 refine E.fo ?_
 first | refine W.cond_d rfl (fun hc4 => ?_) (fun hc4 => ?_) | refine W.cond_nd rfl (fun hc4 => ?_) (fun hc4 => ?_) | refine W.cond rfl (fun hc4 => ?_) (fun hc4 => ?_)
 ·skip
  refine W.rg (SL.an rfl rfl (E.fo (W.ret (E.thr ?_))))
  refine E.fin (rs := [_]) (rn []) (.inl rfl) rfl (.cons (ResOne.tmp rfl) .nil) ?_ ?_ rfl (fixL_spec rfl)
  ·skip
   exact iv_int (cmpL_short (k := k) (by omega) (by omega) hp)
  · exact SubS.nil
 refine W.skip (E.to (W.rg (SL.an rfl rfl (E.fo (W.ret ?_)))))
 refine E.fin (rs := [_]) (rn []) (.inl rfl) rfl (.cons (ResOne.tmp rfl) .nil) ?_ ?_ rfl (fixL_spec rfl)
 ·skip
  exact iv_int (cmpL_same (k := k) (by omega) (by omega) hp)
 · exact SubS.nil

set_option maxRecDepth 8000 in
theorem best1_h {ps : List Pr} {s : BS} {m : List Nat} :
    Con Try.prog 36 [vL 1 (m.map eN), vI (valR m ps), .ref 0 0, .ref 1 0, .ref 2 0] [(0, .cells 4 [.u (uB s.any)]), (1, .cells 3 [.u (uI s.most)]), (2, .cells 32 [.u (.sl 1 (s.best.map eN))])] (.tup []) [(0, .cells 4 [.u (uB (bsF ps s m).any)]), (1, .cells 3 [.u (uI (bsF ps s m).most)]), (2, .cells 32 [.u (.sl 1 ((bsF ps s m).best.map eN))])] := by
 refine Con.enterL (n := 27) Try.func36 rfl rfl rfl (fun τ w ok vs hin => ?_)
 have hl0 := hin.len (i := 0) rfl
 try rw [List.length_map] at hl0
 clear hin
 refine W.rg ?_
 refine SL.val (O.ld1 (PtI.ref rfl rfl) rfl Try.underlying4 rfl rfl Taken.no) ?_
 refine SL.val (O.det (fun _ => G.R.not rfl) rfl Taken.no) ?_
 refine SL.mv rfl rfl ?_
 refine SL.case (j := 2) (g := 9) (want := false) rfl rfl (fun hg1 => ?_) (fun hg1 => ?_)
 ·skip
  first | have hg1p := G.gA3 hg1 | have hg1p := G.gA4 hg1 | have hg1p := hg1
  refine SL.val (O.move rfl rfl (Taken.yes rfl rfl hg1)) ?_
  refine SL.val (O.ld1 (PtI.ref rfl rfl) rfl Try.underlying3 rfl rfl (Taken.yes rfl rfl hg1)) ?_
  refine SL.val (O.det (fun _ => G.R.gtr rfl rfl) rfl (Taken.yes rfl rfl hg1)) ?_
  refine SL.val (O.pick_f rfl hg1 rfl rfl Taken.no) ?_
  refine SL.mv rfl rfl ?_
  refine SL.case (j := 7) (g := 14) (want := false) rfl rfl (fun hg2 => ?_) (fun hg2 => ?_)
  ·skip
   first | have hg2p := G.gA3 hg2 | have hg2p := G.gA4 hg2 | have hg2p := hg2
   refine SL.val (O.move rfl rfl (Taken.yes rfl rfl hg2)) ?_
   refine SL.val (O.ld1 (PtI.ref rfl rfl) rfl Try.underlying3 rfl rfl (Taken.yes rfl rfl hg2)) ?_
   refine SL.val (O.det (fun _ => G.R.eql rfl rfl) rfl (Taken.yes rfl rfl hg2)) ?_
   refine SL.val (O.move rfl rfl (Taken.yes rfl rfl hg2)) ?_
   refine SL.case (j := 11) (g := 18) (want := true) rfl rfl (fun hg3 => ?_) (fun hg3 => ?_)
   ·skip
    first | have hg3p := G.gA1 hg3 | have hg3p := G.gA2 hg3 | have hg3p := hg3
    refine SL.val (O.move rfl rfl (Taken.yes rfl rfl hg3)) ?_
    refine SL.val (O.ld1 (PtI.ref rfl rfl) rfl Try.underlying32 rfl rfl (Taken.yes rfl rfl hg3)) ?_
    refine SL.val (O.callp rfl rfl rfl (sCompare_h (x := m) (y := s.best)) (.cons (ArgOk.same rfl) (.cons (ArgOk.same rfl) .nil)) hcallOk37 rfl (Taken.yes rfl rfl hg3)) ?_
    refine SL.val (O.det (fun _ => G.R.lss rfl rfl) rfl (Taken.yes rfl rfl hg3)) ?_
    refine SL.val (O.pick_t rfl hg3 rfl rfl (Taken.yes rfl rfl hg2)) ?_
    refine SL.val (O.pick_f rfl hg2 rfl rfl Taken.no) ?_
    refine E.fo ?_
    first | refine W.cond_d rfl (fun hc4 => ?_) (fun hc4 => ?_) | refine W.cond_nd rfl (fun hc4 => ?_) (fun hc4 => ?_) | refine W.cond rfl (fun hc4 => ?_) (fun hc4 => ?_)
    ·skip
     refine W.region (SL.mv rfl rfl (SL.mv rfl rfl ?_))
     refine SL.effS (O.st_ref (m := 1) rfl rfl rfl (js := [_]) rfl rfl (by kernel_rfl) (by simp) (Nat.le_of_ble_eq_true rfl) rfl (is' := [_]) rfl Taken.no) (S' := (2, _) :: _) rfl ?_
     refine SL.effS (O.st_ref (m := 1) rfl rfl rfl (js := [_]) rfl rfl (by kernel_rfl) (by simp) (Nat.le_of_ble_eq_true rfl) rfl (is' := [_]) rfl Taken.no) (S' := (1, _) :: _) rfl ?_
     refine SL.effS (O.st_ref (m := 1) rfl rfl rfl (js := [_]) rfl rfl (by kernel_rfl) (by simp) (Nat.le_of_ble_eq_true rfl) rfl (is' := [_]) rfl Taken.no) (S' := (0, _) :: _) rfl ?_
     refine SL.nil ?_
     refine E.fin (rs := []) (rn []) (.inr rfl) rfl .nil ?_ ?_ rfl (fixL_spec rfl)
     ·skip
      rfl
     · exact (SubS.val rfl (by first | (rw [show bsF ps s m = ⟨true, valR m ps, m⟩ from if_pos (by unfold bsW; simp_all)]; rfl) | (rw [show bsF ps s m = s from if_neg (by unfold bsW; simp_all)]; rfl)) (SubS.val rfl (by first | (rw [show bsF ps s m = ⟨true, valR m ps, m⟩ from if_pos (by unfold bsW; simp_all)]; rfl) | (rw [show bsF ps s m = s from if_neg (by unfold bsW; simp_all)]; rfl)) (SubS.val rfl (by first | (rw [show bsF ps s m = ⟨true, valR m ps, m⟩ from if_pos (by unfold bsW; simp_all)]; rfl) | (rw [show bsF ps s m = s from if_neg (by unfold bsW; simp_all)]; rfl)) SubS.nil)))
    refine W.skip ?_
    refine E.fin (rs := []) (rn []) (.inr rfl) rfl .nil ?_ ?_ rfl (fixL_spec rfl)
    ·skip
     rfl
    · exact (SubS.val rfl (by first | (rw [show bsF ps s m = ⟨true, valR m ps, m⟩ from if_pos (by unfold bsW; simp_all)]; rfl) | (rw [show bsF ps s m = s from if_neg (by unfold bsW; simp_all)]; rfl)) (SubS.val rfl (by first | (rw [show bsF ps s m = ⟨true, valR m ps, m⟩ from if_pos (by unfold bsW; simp_all)]; rfl) | (rw [show bsF ps s m = s from if_neg (by unfold bsW; simp_all)]; rfl)) (SubS.val rfl (by first | (rw [show bsF ps s m = ⟨true, valR m ps, m⟩ from if_pos (by unfold bsW; simp_all)]; rfl) | (rw [show bsF ps s m = s from if_neg (by unfold bsW; simp_all)]; rfl)) SubS.nil)))
   first | have hg3p := G.gA5 hg3 | have hg3p := G.gA6 hg3 | have hg3p := hg3
   refine SL.sk rfl rfl rfl hg3 (SL.sk rfl rfl rfl hg3 (SL.sk rfl rfl rfl hg3 (SL.sk rfl rfl rfl hg3 ?_)))
   refine SL.val (O.pick_f rfl (G.ne_t hg3) rfl rfl (Taken.yes rfl rfl hg2)) ?_
   refine SL.val (O.pick_f rfl hg2 rfl rfl Taken.no) ?_
   refine E.fo ?_
   refine W.cond_f rfl ?_
   refine W.skip ?_
   refine E.fin (rs := []) (rn []) (.inr rfl) rfl .nil ?_ ?_ rfl (fixL_spec rfl)
   ·skip
    rfl
   · exact (SubS.val rfl (by first | (rw [show bsF ps s m = ⟨true, valR m ps, m⟩ from if_pos (by unfold bsW; simp_all)]; rfl) | (rw [show bsF ps s m = s from if_neg (by unfold bsW; simp_all)]; rfl)) (SubS.val rfl (by first | (rw [show bsF ps s m = ⟨true, valR m ps, m⟩ from if_pos (by unfold bsW; simp_all)]; rfl) | (rw [show bsF ps s m = s from if_neg (by unfold bsW; simp_all)]; rfl)) (SubS.val rfl (by first | (rw [show bsF ps s m = ⟨true, valR m ps, m⟩ from if_pos (by unfold bsW; simp_all)]; rfl) | (rw [show bsF ps s m = s from if_neg (by unfold bsW; simp_all)]; rfl)) SubS.nil)))
  first | have hg2p := G.gA7 hg2 | have hg2p := G.gA8 hg2 | have hg2p := hg2
  refine SL.sk rfl rfl rfl hg2 (SL.sk rfl rfl rfl hg2 (SL.sk rfl rfl rfl hg2 (SL.sk rfl rfl rfl hg2 ?_)))
  refine SL.skip (OpOk.not2 rfl rfl rfl) ?_
  refine SL.skip (OpOk.not2 rfl rfl rfl) ?_
  refine SL.skip (OpOk.not2 rfl rfl rfl) ?_
  refine SL.skip (OpOk.not2 rfl rfl rfl) ?_
  refine SL.sk rfl rfl rfl hg2 ?_
  refine SL.val (O.pick_t rfl (G.ne_f hg2) rfl rfl Taken.no) ?_
  refine E.fo ?_
  refine W.cond_t rfl ?_
  refine W.region (SL.mv rfl rfl (SL.mv rfl rfl ?_))
  refine SL.effS (O.st_ref (m := 1) rfl rfl rfl (js := [_]) rfl rfl (by kernel_rfl) (by simp) (Nat.le_of_ble_eq_true rfl) rfl (is' := [_]) rfl Taken.no) (S' := (2, _) :: _) rfl ?_
  refine SL.effS (O.st_ref (m := 1) rfl rfl rfl (js := [_]) rfl rfl (by kernel_rfl) (by simp) (Nat.le_of_ble_eq_true rfl) rfl (is' := [_]) rfl Taken.no) (S' := (1, _) :: _) rfl ?_
  refine SL.effS (O.st_ref (m := 1) rfl rfl rfl (js := [_]) rfl rfl (by kernel_rfl) (by simp) (Nat.le_of_ble_eq_true rfl) rfl (is' := [_]) rfl Taken.no) (S' := (0, _) :: _) rfl ?_
  refine SL.nil ?_
  refine E.fin (rs := []) (rn []) (.inr rfl) rfl .nil ?_ ?_ rfl (fixL_spec rfl)
  ·skip
   rfl
  · exact (SubS.val rfl (by first | (rw [show bsF ps s m = ⟨true, valR m ps, m⟩ from if_pos (by unfold bsW; simp_all)]; rfl) | (rw [show bsF ps s m = s from if_neg (by unfold bsW; simp_all)]; rfl)) (SubS.val rfl (by first | (rw [show bsF ps s m = ⟨true, valR m ps, m⟩ from if_pos (by unfold bsW; simp_all)]; rfl) | (rw [show bsF ps s m = s from if_neg (by unfold bsW; simp_all)]; rfl)) (SubS.val rfl (by first | (rw [show bsF ps s m = ⟨true, valR m ps, m⟩ from if_pos (by unfold bsW; simp_all)]; rfl) | (rw [show bsF ps s m = s from if_neg (by unfold bsW; simp_all)]; rfl)) SubS.nil)))
 first | have hg1p := G.gA7 hg1 | have hg1p := G.gA8 hg1 | have hg1p := hg1
 refine SL.sk rfl rfl rfl hg1 (SL.sk rfl rfl rfl hg1 (SL.sk rfl rfl rfl hg1 ?_))
 refine SL.val (O.pick_t rfl (G.ne_f hg1) rfl rfl Taken.no) ?_
 refine SL.mv rfl rfl ?_
 have hg5 : true ≠ false := by decide
 refine SL.sk rfl rfl rfl hg5 (SL.sk rfl rfl rfl hg5 (SL.sk rfl rfl rfl hg5 (SL.sk rfl rfl rfl hg5 ?_)))
 refine SL.skip (OpOk.not2 rfl rfl rfl) ?_
 refine SL.skip (OpOk.not2 rfl rfl rfl) ?_
 refine SL.skip (OpOk.not2 rfl rfl rfl) ?_
 refine SL.skip (OpOk.not2 rfl rfl rfl) ?_
 refine SL.sk rfl rfl rfl hg5 ?_
 refine SL.val (O.pick_t rfl rfl rfl rfl Taken.no) ?_
 refine E.fo ?_
 refine W.cond_t rfl ?_
 refine W.region (SL.mv rfl rfl (SL.mv rfl rfl ?_))
 refine SL.effS (O.st_ref (m := 1) rfl rfl rfl (js := [_]) rfl rfl (by kernel_rfl) (by simp) (Nat.le_of_ble_eq_true rfl) rfl (is' := [_]) rfl Taken.no) (S' := (2, _) :: _) rfl ?_
 refine SL.effS (O.st_ref (m := 1) rfl rfl rfl (js := [_]) rfl rfl (by kernel_rfl) (by simp) (Nat.le_of_ble_eq_true rfl) rfl (is' := [_]) rfl Taken.no) (S' := (1, _) :: _) rfl ?_
 refine SL.effS (O.st_ref (m := 1) rfl rfl rfl (js := [_]) rfl rfl (by kernel_rfl) (by simp) (Nat.le_of_ble_eq_true rfl) rfl (is' := [_]) rfl Taken.no) (S' := (0, _) :: _) rfl ?_
 refine SL.nil ?_
 refine E.fin (rs := []) (rn []) (.inr rfl) rfl .nil ?_ ?_ rfl (fixL_spec rfl)
 ·skip
  rfl
 · exact (SubS.val rfl (by first | (rw [show bsF ps s m = ⟨true, valR m ps, m⟩ from if_pos (by unfold bsW; simp_all)]; rfl) | (rw [show bsF ps s m = s from if_neg (by unfold bsW; simp_all)]; rfl)) (SubS.val rfl (by first | (rw [show bsF ps s m = ⟨true, valR m ps, m⟩ from if_pos (by unfold bsW; simp_all)]; rfl) | (rw [show bsF ps s m = s from if_neg (by unfold bsW; simp_all)]; rfl)) (SubS.val rfl (by first | (rw [show bsF ps s m = ⟨true, valR m ps, m⟩ from if_pos (by unfold bsW; simp_all)]; rfl) | (rw [show bsF ps s m = s from if_neg (by unfold bsW; simp_all)]; rfl)) SubS.nil)))

set_option maxRecDepth 8000 in
theorem count1_h {c : Nat} {v : Int} {m : List Nat} (hc : c ≤ 1000000) :
    Con Try.prog 42 [vL 1 (m.map eN), vI v, .ref 0 0] [(0, .cells 3 [.u (uI ((c : Nat) : Int))])] (.tup []) [(0, .cells 3 [.u (uI (((c + 1) : Nat) : Int))])] := by
 refine Con.enterL (n := 7) Try.func42 rfl rfl rfl (fun τ w ok vs hin => ?_)
 have hl0 := hin.len (i := 0) rfl
 try rw [List.length_map] at hl0
 clear hin
 refine W.region ?_
 refine SL.val (O.ld1 (PtI.ref rfl rfl) rfl Try.underlying3 rfl rfl Taken.no) ?_
 refine SL.val (O.det (fun _ => by first | exact G.R.add64 rfl rfl (by omega) | exact G.R.add rfl rfl) rfl Taken.no) ?_
 refine SL.effS (O.st_ref (m := 1) rfl rfl rfl (js := [_]) rfl rfl (by kernel_rfl) (by simp) (Nat.le_of_ble_eq_true rfl) rfl (is' := [_]) rfl Taken.no) (S' := (0, _) :: _) rfl ?_
 refine SL.nil ?_
 refine E.fin (rs := []) (rn []) (.inr rfl) rfl .nil ?_ ?_ rfl (fixL_spec rfl)
 ·skip
  rfl
 · exact (SubS.cons rfl SubS.nil)

set_option maxRecDepth 8000 in
set_option maxHeartbeats 1600000 in
theorem eachB_step {n : Nat} {ps : List Pr} {rs : List Ru} {atm nm : List Nat} {d j : Nat} {h : List Nat} {s : BS} (hok : (Prob.mk (n : Int) ps rs).ok) (hal : atm.length = n) (N : Nms n atm nm) (hj : j + d = nm.length) (hhl : h.length = j) (ih : ∀ d', d = d' + 1 → ∀ (v : Nat) (t : BS), Con Try.prog 61 [vI ((j : Int) + 1), .u (.ptr [.sl 1 (nm.map eN)]), .u (.ptr [uI (n : Int), .sl 3 (ps.map ePr), .sl 3 (rs.map eRu)]), .u (.ptr [.sl 1 (atm.map eN)]), .ref 0 0, .ref 2 0, .ref 3 0] [(0, .cells 80 [.own 1]), (1, .mp (mpE (fun a : Int => Value.int .i64 a) (fun a : Int => Value.int .i64 a) (mpH nm (h ++ [v])))), (2, .cells 67 [.clo (.func 36) [] [.ref 4 0, .ref 5 0, .ref 6 0]]), (3, .cells 96 [.clo (.func 61) [] [.u (.ptr [.sl 1 (nm.map eN)]), .u (.ptr [uI (n : Int), .sl 3 (ps.map ePr), .sl 3 (rs.map eRu)]), .u (.ptr [.sl 1 (atm.map eN)]), .ref 0 0, .ref 2 0, .ref 3 0]]), (4, .cells 4 [.u (uB t.any)]), (5, .cells 3 [.u (uI t.most)]), (6, .cells 32 [.u (.sl 1 (t.best.map eN))])] (.tup []) [(0, .cells 80 [.own 1]), (1, .mp (mpE (fun a : Int => Value.int .i64 a) (fun a : Int => Value.int .i64 a) (mpH nm (h ++ [v])))), (2, .cells 67 [.clo (.func 36) [] [.ref 4 0, .ref 5 0, .ref 6 0]]), (3, .cells 96 [.clo (.func 61) [] [.u (.ptr [.sl 1 (nm.map eN)]), .u (.ptr [uI (n : Int), .sl 3 (ps.map ePr), .sl 3 (rs.map eRu)]), .u (.ptr [.sl 1 (atm.map eN)]), .ref 0 0, .ref 2 0, .ref 3 0]]), (4, .cells 4 [.u (uB ((visP n ps rs atm nm d' (j + 1) (h ++ [v])).foldl (bsF ps) t).any)]), (5, .cells 3 [.u (uI ((visP n ps rs atm nm d' (j + 1) (h ++ [v])).foldl (bsF ps) t).most)]), (6, .cells 32 [.u (.sl 1 (((visP n ps rs atm nm d' (j + 1) (h ++ [v])).foldl (bsF ps) t).best.map eN))])]) :
    Con Try.prog 61 [vI (j : Int), .u (.ptr [.sl 1 (nm.map eN)]), .u (.ptr [uI (n : Int), .sl 3 (ps.map ePr), .sl 3 (rs.map eRu)]), .u (.ptr [.sl 1 (atm.map eN)]), .ref 0 0, .ref 2 0, .ref 3 0] [(0, .cells 80 [.own 1]), (1, .mp (mpE (fun a : Int => Value.int .i64 a) (fun a : Int => Value.int .i64 a) (mpH nm h))), (2, .cells 67 [.clo (.func 36) [] [.ref 4 0, .ref 5 0, .ref 6 0]]), (3, .cells 96 [.clo (.func 61) [] [.u (.ptr [.sl 1 (nm.map eN)]), .u (.ptr [uI (n : Int), .sl 3 (ps.map ePr), .sl 3 (rs.map eRu)]), .u (.ptr [.sl 1 (atm.map eN)]), .ref 0 0, .ref 2 0, .ref 3 0]]), (4, .cells 4 [.u (uB s.any)]), (5, .cells 3 [.u (uI s.most)]), (6, .cells 32 [.u (.sl 1 (s.best.map eN))])] (.tup []) [(0, .cells 80 [.own 1]), (1, .mp (mpE (fun a : Int => Value.int .i64 a) (fun a : Int => Value.int .i64 a) (mpH nm h))), (2, .cells 67 [.clo (.func 36) [] [.ref 4 0, .ref 5 0, .ref 6 0]]), (3, .cells 96 [.clo (.func 61) [] [.u (.ptr [.sl 1 (nm.map eN)]), .u (.ptr [uI (n : Int), .sl 3 (ps.map ePr), .sl 3 (rs.map eRu)]), .u (.ptr [.sl 1 (atm.map eN)]), .ref 0 0, .ref 2 0, .ref 3 0]]), (4, .cells 4 [.u (uB ((visP n ps rs atm nm d j h).foldl (bsF ps) s).any)]), (5, .cells 3 [.u (uI ((visP n ps rs atm nm d j h).foldl (bsF ps) s).most)]), (6, .cells 32 [.u (.sl 1 (((visP n ps rs atm nm d j h).foldl (bsF ps) s).best.map eN))])] := by
 have hf := hok.1
 have hn2 : (n : Int) ≤ 200 := hf.2.1
 have hnd := N.nodup
 have hql : nm.length ≤ 200 := by have := selfs_len n atm; rw [N.nm]; omega
 obtain ⟨i3, hi3, hz3, hs3, hb3⟩ := hinf3
 refine Con.enterL (n := 88) Try.func61 rfl rfl rfl (fun τ w ok vs hin => ?_)
 clear hin
 refine W.rg ?_
 refine SL.memS (O.box (is := [_]) 101 rfl rfl (by simp) rfl rfl Taken.no) rfl rfl (S' := (101, _) :: _) rfl ?_
 refine E.fo (W.seq (W.rg ?_))
 refine SL.val (O.ld1 (PtI.ref rfl rfl) rfl Try.underlying3 rfl rfl Taken.no) ?_
 refine SL.val (O.ld1 (PtI.ofU (PtU.fz rfl)) rfl Try.underlying32 rfl rfl Taken.no) ?_
 refine SL.val (O.lenE (SlOf.fz rfl (by decide)) (by first | exact List.length_map _ | rfl) Try.underlying32 rfl Taken.no) ?_
 refine SL.val (O.det (fun _ => G.R.eql rfl rfl) rfl Taken.no) ?_
 refine E.fo ?_
 first | refine W.cond_d rfl (fun hc1 => ?_) (fun hc1 => ?_) | refine W.cond_nd rfl (fun hc1 => ?_) (fun hc1 => ?_) | refine W.cond rfl (fun hc1 => ?_) (fun hc1 => ?_)
 ·skip
  obtain rfl : d = 0 := by omega
  have hjq : j = nm.length := by omega
  refine W.rg ?_
  refine SL.val (O.fld_fz rfl Try.underlying30 rfl (m := 0) (by kernel_rfl) rfl rfl Taken.no) ?_
  refine SL.val (O.ld1 (PtI.ofU (PtU.fz rfl)) rfl Try.underlying3 rfl rfl Taken.no) ?_
  refine SL.memS (O.make (m := n) (kk := 102) rfl rfl (by rfl) (by rfl) Try.underlying32 hi3 hz3 hs3 rfl rfl (by decide) rfl (by rw [hb3]; omega) (by omega) rfl Taken.no) rfl rfl (S' := (102, _) :: _) rfl ?_
  refine SL.an rfl rfl (E.fo (W.seq (W.rg ?_)))
  refine SL.val (O.ld1 (PtI.ofU (PtU.fz rfl)) rfl Try.underlying32 rfl rfl Taken.no) ?_
  refine SL.val (O.lenE (SlOf.fz rfl (by decide)) (by first | exact List.length_map _ | rfl) Try.underlying32 rfl Taken.no) ?_
  refine SL.mv rfl rfl (E.fo (W.block ?_))
  refine W.loopx1 (fun (u : Nat) => [(24, vI (u : Int)), (8, .own 103)]) (fun (u : Nat) => [(103, .data 3 1 ((luL atm nm u h ++ List.replicate (n - u) 0).map eN))]) (fun (u : Nat) => u ≤ n) (fun (u : Nat) => n - u) (0) (rn [(103, 102)]) (.cons (t := 1) rfl (.cons (t := 2) rfl (.cons (t := 3) rfl (.cons (t := 4) rfl (.cons (t := 5) rfl (.cons (t := 6) rfl (.cons (t := 7) rfl (.cons (t := 22) rfl (.cons (t := 23) rfl .nil))))))))) (.cons (t := 0) rfl (.cons (t := 1) rfl (.cons (t := 2) rfl (.cons (t := 3) rfl (.cons (t := 4) rfl (.cons (t := 5) rfl (.cons (t := 6) rfl (.cons (t := 101) rfl .nil)))))))) rfl ?_ ?_ rfl rfl ?_ ?_
  · exact (SubF.cons rfl (SubF.cons rfl SubF.nil))
  · exact (SubS.val rfl (by exact sb_data (by show _ = List.map eN (List.replicate n 0); rw [List.map_replicate]; rfl)) SubS.nil)
  ·skip
   omega
  intro u hinv
  have hu := hinv
  have hol : (luL atm nm u h ++ List.replicate (n - u) 0).length = n := by rw [List.length_append, luL_len, List.length_replicate]; omega
  refine W.rg ?_
  refine SL.val (O.det (fun _ => G.R.lss rfl rfl) rfl Taken.no) ?_
  refine E.fo (W.seq ?_)
  first | refine W.cond_d rfl (fun hc2 => ?_) (fun hc2 => ?_) | refine W.cond_nd rfl (fun hc2 => ?_) (fun hc2 => ?_) | refine W.cond rfl (fun hc2 => ?_) (fun hc2 => ?_)
  ·skip
   refine W.skip (E.to (W.seq (W.block (W.rg (SL.mv rfl rfl ?_)))))
   refine SL.val (O.idx_fz rfl rfl (rfl) (row_get (by omega)) Try.underlying32 hi3 hs3 rfl Taken.no) ?_
   refine SL.val (O.ld1 (PtI.ofU (PtU.fz rfl)) rfl Try.underlying3 rfl rfl Taken.no) ?_
   refine SL.an rfl rfl (SL.an rfl rfl (E.fo (W.region (SL.mv rfl rfl (SL.mv rfl rfl ?_)))))
   refine SL.val (O.ld1 (PtI.ref rfl rfl) rfl Try.underlying80 rfl rfl Taken.no) ?_
   refine SL.mv rfl rfl ?_
   refine SL.val (O.lookup (kf := (fun a : Int => Value.int .i64 a)) (vf := (fun a : Int => Value.int .i64 a)) (l := mpH nm h) (b := (atm[u]! : Int)) (z := 0) rfl rfl rfl Try.underlying80 (KeyOk.int Try.underlying3) (by kernel_rfl) rfl Taken.no) ?_
   refine SL.as (i' := vI (h[nm.idxOf atm[u]!]! : Int)) 33 rfl (by exact iv_int (luL_look N (by omega) (by omega))) ?_
   refine SL.val (O.idx_own (i := u) rfl rfl rfl (rfl) (by rw [List.length_map]; omega) Try.underlying32 hi3 hs3 rfl Taken.no) ?_
   refine SL.effS (O.st_els (m := 1) rfl rfl rfl (us := [_]) rfl rfl (by kernel_rfl) (by simp) (row_get (by omega)) (by exact Nat.le_of_ble_eq_true rfl) rfl rfl (rows' := ((luL atm nm u h ++ List.replicate (n - u) 0).set u (h[nm.idxOf atm[u]!]!)).map eN) (by exact set_map rfl) Taken.no) (S' := (103, _) :: _) rfl ?_
   refine SL.nil (E.inn (E.to (W.region ?_)))
   refine SL.val (O.det (fun _ => by first | exact G.R.add64 rfl rfl (by omega) | exact G.R.add rfl rfl) rfl Taken.no) ?_
   refine SL.mv rfl rfl (SL.nil ?_)
   refine E.again ((u + 1)) (rn []) ?_ ?_ rfl (fixL_spec rfl) ?_ ?_
   · exact (SubF.cons rfl (SubF.cons rfl (SubF.cons rfl (SubF.cons rfl (SubF.cons rfl (SubF.cons rfl (SubF.cons rfl (SubF.cons rfl (SubF.cons rfl (SubF.cons rfl (SubF.cons rfl SubF.nil)))))))))))
   · exact (SubS.val rfl (by (try dsimp only); exact sb_data (by rw [luL_set (by omega)])) (SubS.cons rfl (SubS.cons rfl (SubS.cons rfl (SubS.cons rfl (SubS.cons rfl (SubS.cons rfl (SubS.cons rfl (SubS.cons rfl SubS.nil)))))))))
   ·try dsimp only
    omega
   · (try dsimp only); omega
  refine W.exit (E.th (E.th (E.hit (E.to (W.seq (W.seq ?_))))))
  have hun : u = n := by omega
  rw [hun, Nat.sub_self, List.replicate_zero, List.append_nil]
  refine W.freeze 103 rfl (F' := [(8, _)]) (⟨⟨_, rfl, rfl⟩, trivial⟩) ?_
  refine W.region ?_
  refine SL.val (O.ldU (m := 3) (PtU.fz rfl) rfl Try.underlying30 rfl (by kernel_rfl) rfl Taken.no) ?_
  refine SL.mv rfl rfl ?_
  refine SL.val (O.callp rfl rfl rfl (permN_h (m := luL atm nm n h) hok) (.cons (ArgOk.same rfl) (.cons (ArgOk.same rfl) .nil)) hcallOk49 rfl Taken.no) ?_
  refine E.fo ?_
  first | refine W.cond_d rfl (fun hc3 => ?_) (fun hc3 => ?_) | refine W.cond_nd rfl (fun hc3 => ?_) (fun hc3 => ?_) | refine W.cond rfl (fun hc3 => ?_) (fun hc3 => ?_)
  ·skip
   have hpm : permB n ps rs (luL atm nm n h) = true := by first | assumption | exact decide_eq_true (by assumption)
   have hQ := (permB_iff.1 hpm).1
   refine W.rg ?_
   refine SL.val (O.ldU (m := 3) (PtU.fz rfl) rfl Try.underlying30 rfl (by kernel_rfl) rfl Taken.no) ?_
   refine SL.mv rfl rfl ?_
   refine SL.memS (O.call (rn []) [] rfl rfl rfl (valN_h (m := luL atm nm n h) hok hQ) (.cons (ArgOk.same rfl) (.cons (ArgOk.same rfl) .nil)) SubS.nil rfl rfl rfl rfl rfl (.inl rfl) hcallOk30 (r' := .tup [.u _, .u _]) rfl rfl Taken.no) rfl rfl (S' := _) rfl ?_
   refine SL.mv rfl rfl ?_
   refine SL.val (O.extract rfl rfl rfl Taken.no) ?_
   refine SL.val (O.extract rfl rfl rfl Taken.no) ?_
   refine SL.an rfl rfl (SL.an rfl rfl (E.fo (W.region ?_)))
   refine SL.val (O.ld1 (PtI.ref rfl rfl) rfl Try.underlying67 rfl rfl Taken.no) ?_
   refine SL.mv rfl rfl (SL.mv rfl rfl ?_)
   refine SL.memS (O.call (rn [(0, 4), (1, 5), (2, 6)]) [] rfl rfl rfl (best1_h (ps := ps) (s := s) (m := luL atm nm n h)) (.cons (ArgOk.same rfl) (.cons (ArgOk.same rfl) (.cons (ArgOk.same rfl) (.cons (ArgOk.same rfl) (.cons (ArgOk.same rfl) .nil))))) (SubS.cons rfl (SubS.cons rfl (SubS.cons rfl SubS.nil))) rfl rfl rfl rfl rfl (.inl rfl) hcallOk36 (r' := .tup []) rfl rfl Taken.no) rfl rfl (S' := (4, .cells _ [.u _]) :: (5, .cells _ [.u _]) :: (6, .cells _ [.u _]) :: _) rfl ?_
   refine E.fo ?_
   refine W.pick (K:=[(1,_),(2,_),(3,_),(4,_),(6,_),(7,_)]) (Z:=[(0,_),(1,_),(2,_),(3,_),(4,_),(5,_),(6,_),(101,_)]) ⟨rfl,rfl,rfl,rfl,rfl,rfl,trivial⟩ ⟨rfl,rfl,rfl,rfl,rfl,rfl,rfl,rfl,trivial⟩ ?_
   refine W.ret (E.thr ?_)
   rw [visP_0y hpm]
   refine E.fin (rs := []) (rn []) (.inl rfl) rfl .nil ?_ ?_ rfl (fixL_spec rfl)
   ·skip
    rfl
   · exact (SubS.cons rfl (SubS.val rfl (by first | rfl | exact sb_mp (mpH_del hnd (by omega) hhl he)) (SubS.cons rfl (SubS.cons rfl (SubS.cons rfl (SubS.cons rfl (SubS.cons rfl SubS.nil)))))))
  have hpm : permB n ps rs (luL atm nm n h) = false := by first | assumption | exact decide_eq_false (by assumption)
  refine W.skip (E.to (W.ret (E.thr ?_)))
  rw [visP_0n hpm]
  refine E.fin (rs := []) (rn []) (.inl rfl) rfl .nil ?_ ?_ rfl (fixL_spec rfl)
  ·skip
   rfl
  · exact (SubS.cons rfl (SubS.val rfl (by first | rfl | exact sb_mp (mpH_del hnd (by omega) hhl he)) (SubS.cons rfl (SubS.cons rfl (SubS.cons rfl (SubS.cons rfl (SubS.cons rfl SubS.nil)))))))
 obtain ⟨d, rfl⟩ : ∃ e, d = e + 1 := ⟨d - 1, by omega⟩
 replace ih := ih d rfl
 refine W.skip (E.to (W.seq (W.rg (SL.an rfl rfl (E.fo (W.block ?_))))))
 refine W.loopx3 (fun (k : Nat) (e : List Nat) (t : BS) => [(13, vI (k : Int))]) (fun (k : Nat) (e : List Nat) (t : BS) => [(1, .mp (mpE (fun a : Int => Value.int .i64 a) (fun a : Int => Value.int .i64 a) (mpH nm (h ++ e)))), (0, .cells 80 [.own 1]), (4, .cells 4 [.u (uB t.any)]), (5, .cells 3 [.u (uI t.most)]), (6, .cells 32 [.u (.sl 1 (t.best.map eN))])]) (fun (k : Nat) (e : List Nat) (t : BS) => k ≤ j + 1 ∧ e.length ≤ 1 ∧ t = (visK n ps rs atm nm d j h k).foldl (bsF ps) s) (fun (k : Nat) (e : List Nat) (t : BS) => j + 1 - k) (0) ([]) (s) (rn []) (.cons (t := 1) rfl (.cons (t := 2) rfl (.cons (t := 3) rfl (.cons (t := 4) rfl (.cons (t := 6) rfl (.cons (t := 7) rfl .nil)))))) (.cons (t := 2) rfl (.cons (t := 3) rfl (.cons (t := 101) rfl .nil))) rfl ?_ ?_ rfl rfl ?_ ?_
 · exact (SubF.cons rfl SubF.nil)
 · exact (SubS.val rfl (by exact sb_mp (by rw [List.append_nil])) (SubS.cons rfl (SubS.cons rfl (SubS.cons rfl (SubS.cons rfl SubS.nil)))))
 ·skip
  exact ⟨by omega, by simp, rfl⟩
 intro k e t hinv
 obtain ⟨hk, he, ht⟩ := hinv
 refine W.seq (W.rg (SL.mv rfl rfl ?_))
 refine SL.val (O.ld1 (PtI.ref rfl rfl) rfl Try.underlying3 rfl rfl Taken.no) ?_
 refine SL.val (O.det (fun _ => G.R.leq rfl rfl) rfl Taken.no) ?_
 refine E.fo ?_
 first | refine W.cond_d rfl (fun hc4 => ?_) (fun hc4 => ?_) | refine W.cond_nd rfl (fun hc4 => ?_) (fun hc4 => ?_) | refine W.cond rfl (fun hc4 => ?_) (fun hc4 => ?_)
 ·skip
  have hkq : k < nm.length := by omega
  refine W.skip (E.to (W.seq (W.block (W.rg ?_))))
  refine SL.val (O.ld1 (PtI.ofU (PtU.fz rfl)) rfl Try.underlying32 rfl rfl Taken.no) ?_
  refine SL.mv rfl rfl ?_
  refine SL.val (O.idx_fz rfl rfl (rfl) (row_get (by omega)) Try.underlying32 hi3 hs3 rfl Taken.no) ?_
  refine SL.val (O.ld1 (PtI.ofU (PtU.fz rfl)) rfl Try.underlying3 rfl rfl Taken.no) ?_
  refine SL.memS (O.alloc (z := .int .i64 0) (is := [.u (.sc (.int .i64 0))]) 104 (by kernel_rfl) rfl rfl rfl Taken.no) rfl rfl (S' := (104, _) :: _) rfl ?_
  refine SL.effS (O.st_ref (m := 1) rfl rfl rfl (js := [_]) rfl rfl (by kernel_rfl) (by simp) (Nat.le_of_ble_eq_true rfl) rfl (is' := [_]) rfl Taken.no) (S' := (104, _) :: _) rfl ?_
  refine E.fo (W.seq (W.rg (SL.mv rfl rfl ?_)))
  refine SL.val (O.ld1 (PtI.ref rfl rfl) rfl Try.underlying3 rfl rfl Taken.no) ?_
  refine SL.val (O.det (fun _ => G.R.lss rfl rfl) rfl Taken.no) ?_
  refine SL.mv rfl rfl ?_
  refine SL.case (j := 3) (g := 61) (want := true) rfl rfl (fun hg5 => ?_) (fun hg5 => ?_)
  ·skip
   first | have hg5p := G.gA1 hg5 | have hg5p := G.gA2 hg5 | have hg5p := hg5
   refine SL.val (O.ld1 (PtI.ref rfl rfl) rfl Try.underlying80 rfl rfl (Taken.yes rfl rfl hg5)) ?_
   refine SL.val (O.ld1 (PtI.ref rfl rfl) rfl Try.underlying3 rfl rfl (Taken.yes rfl rfl hg5)) ?_
   refine SL.val (O.lookup (kf := (fun a : Int => Value.int .i64 a)) (vf := (fun a : Int => Value.int .i64 a)) (l := mpH nm (h ++ e)) (b := (nm[k]! : Int)) (z := 0) rfl rfl rfl Try.underlying80 (KeyOk.int Try.underlying3) (by kernel_rfl) rfl (Taken.yes rfl rfl hg5)) ?_
   refine SL.as (i' := vI (h[k]! : Int)) 64 rfl (by exact iv_int (hom_at hnd (by omega) (by omega))) ?_
   refine SL.val (O.ld1 (PtI.ref rfl rfl) rfl Try.underlying3 rfl rfl (Taken.yes rfl rfl hg5)) ?_
   refine SL.val (O.det (fun _ => G.R.neq rfl rfl) rfl (Taken.yes rfl rfl hg5)) ?_
   refine SL.val (O.pick_t rfl hg5 rfl rfl Taken.no) ?_
   refine E.fo ?_
   refine W.pick (K:=[(1,_),(2,_),(3,_),(4,_),(6,_),(7,_),(13,_),(14,_),(67,_)]) (Z:=[(0,_),(1,_),(2,_),(3,_),(4,_),(5,_),(6,_),(101,_),(104,_)]) ⟨rfl,rfl,rfl,rfl,rfl,rfl,rfl,rfl,rfl,trivial⟩ ⟨rfl,rfl,rfl,rfl,rfl,rfl,rfl,rfl,rfl,trivial⟩ ?_
   first | refine W.cond_d rfl (fun hc6 => ?_) (fun hc6 => ?_) | refine W.cond_nd rfl (fun hc6 => ?_) (fun hc6 => ?_) | refine W.cond rfl (fun hc6 => ?_) (fun hc6 => ?_)
   ·skip
    refine W.exit (E.th (E.hit (E.to (W.region (SL.mv rfl rfl ?_)))))
    refine SL.val (O.det (fun _ => by first | exact G.R.add64 rfl rfl (by omega) | exact G.R.add rfl rfl) rfl Taken.no) ?_
    refine SL.an rfl rfl (SL.nil ?_)
    refine E.again ((k + 1), (e), (t)) (rn []) ?_ ?_ rfl (fixL_spec rfl) ?_ ?_
    · exact (SubF.cons rfl (SubF.cons rfl (SubF.cons rfl (SubF.cons rfl (SubF.cons rfl (SubF.cons rfl (SubF.cons rfl SubF.nil)))))))
    · exact (SubS.cons rfl (SubS.cons rfl (SubS.cons rfl (SubS.cons rfl (SubS.cons rfl (SubS.cons rfl (SubS.cons rfl (SubS.cons rfl SubS.nil))))))))
    ·try dsimp only
     exact ⟨by omega, he, by rw [visK_n (by first | exact okK_no (by omega) | exact okK_bar (by first | assumption | simp_all))]; exact ht⟩
    · (try dsimp only); omega
   refine W.skip (E.to (W.seq (W.rg ?_)))
   refine SL.val (O.ld1 (PtI.ofU (PtU.fz rfl)) rfl Try.underlying32 rfl rfl Taken.no) ?_
   refine SL.val (O.ld1 (PtI.ref rfl rfl) rfl Try.underlying3 rfl rfl Taken.no) ?_
   refine SL.val (O.sub_fz (j := j) rfl Bnd.no (Bnd.at rfl (by first | rfl | omega)) (by first | omega | (simp only [List.length_map, Nat.le_refl, Nat.zero_le] <;> omega) | (simp <;> omega)) (by rw [List.length_map]; omega) sub_hi Try.underlying32 hi3 hs3 rfl Taken.no) ?_
   refine SL.val (O.makeFunc rfl rfl rfl Taken.no) ?_
   refine SL.memS (O.call (rn [(0, 0), (1, 1), (2, 104), (3, 101)]) [] rfl rfl rfl (containsFuncH (g := h ++ e) (c := nm[k]!) (j := j) (q := nm.take j) hf hal (by omega)) (.cons (ArgOk.same rfl) (.cons (ArgOk.same rfl) .nil)) (SubS.cons rfl (SubS.cons rfl (SubS.cons rfl (SubS.cons rfl SubS.nil)))) rfl rfl rfl rfl rfl (.inl rfl) hcallOk51 (r' := .u _) rfl rfl Taken.no) rfl rfl (S' := (0, .cells _ [.own 1]) :: (1, .mp _) :: (104, .cells _ [.u _]) :: (101, .cells _ [.u _]) :: _) rfl ?_
   refine SL.as (i' := vB (barJ rs atm nm h j k)) 72 rfl (by exact iv_bool (homQ_any hnd (by omega) hhl)) ?_
   refine E.fo ?_
   first | refine W.cond_d rfl (fun hc7 => ?_) (fun hc7 => ?_) | refine W.cond_nd rfl (fun hc7 => ?_) (fun hc7 => ?_) | refine W.cond rfl (fun hc7 => ?_) (fun hc7 => ?_)
   ·skip
    refine W.exit (E.th (E.hit (E.to (W.region (SL.mv rfl rfl ?_)))))
    refine SL.val (O.det (fun _ => by first | exact G.R.add64 rfl rfl (by omega) | exact G.R.add rfl rfl) rfl Taken.no) ?_
    refine SL.an rfl rfl (SL.nil ?_)
    refine E.again ((k + 1), (e), (t)) (rn []) ?_ ?_ rfl (fixL_spec rfl) ?_ ?_
    · exact (SubF.cons rfl (SubF.cons rfl (SubF.cons rfl (SubF.cons rfl (SubF.cons rfl (SubF.cons rfl (SubF.cons rfl SubF.nil)))))))
    · exact (SubS.cons rfl (SubS.cons rfl (SubS.cons rfl (SubS.cons rfl (SubS.cons rfl (SubS.cons rfl (SubS.cons rfl (SubS.cons rfl SubS.nil))))))))
    ·try dsimp only
     exact ⟨by omega, he, by rw [visK_n (by first | exact okK_no (by omega) | exact okK_bar (by first | assumption | simp_all))]; exact ht⟩
    · (try dsimp only); omega
   have hK : okK rs atm nm h j k = true := okK_y (by omega) (by first | assumption | simp_all)
   refine W.skip (E.to (W.seq ?_))
   refine W.draw [⟨[0], [], [], [1]⟩, ⟨[], [], [], []⟩, ⟨[101], [], [], []⟩, ⟨[], [], [], []⟩, ⟨[], [], [], []⟩, ⟨[104], [], [], []⟩, ⟨[1], [1], [], []⟩] rfl (by kernel_rfl) (by kernel_rfl) rfl rfl ?_
   refine WH.val (O.ld1 (PtI.ref rfl rfl) rfl Try.underlying80 rfl rfl Taken.no) rfl rfl ?_
   refine WH.val (O.ld1 (PtI.ofU (PtU.fz rfl)) rfl Try.underlying32 rfl rfl Taken.no) rfl rfl ?_
   refine WH.val (O.ld1 (PtI.ref rfl rfl) rfl Try.underlying3 rfl rfl Taken.no) rfl rfl ?_
   refine WH.val (O.idx_fz (i := j) rfl rfl (rfl) (row_get (by omega)) Try.underlying32 hi3 hs3 rfl Taken.no) rfl rfl ?_
   refine WH.val (O.ld1 (PtI.ofU (PtU.fz rfl)) rfl Try.underlying3 rfl rfl Taken.no) rfl rfl ?_
   refine WH.val (O.ld1 (PtI.ref rfl rfl) rfl Try.underlying3 rfl rfl Taken.no) rfl rfl ?_
   refine WH.effS (O.mapUpdate (kf := (fun a : Int => Value.int .i64 a)) (vf := (fun a : Int => Value.int .i64 a)) (l := mpH nm (h ++ e)) (b := (nm[j]! : Int)) (u := (nm[k]! : Int)) rfl rfl rfl rfl Try.underlying80 (KeyOk.int Try.underlying3) Taken.no) rfl rfl rfl (S' := (1, _) :: _) rfl ?_
   refine WH.nil (E.to (W.region ?_))
   rw [mpH_set nm[k]! hnd (by omega) hhl he]
   refine SL.val (O.ld1 (PtI.ref rfl rfl) rfl Try.underlying96 rfl rfl Taken.no) ?_
   refine SL.val (O.ld1 (PtI.ref rfl rfl) rfl Try.underlying3 rfl rfl Taken.no) ?_
   refine SL.val (O.det (fun _ => by first | exact G.R.add64 rfl rfl (by omega) | exact G.R.add rfl rfl) rfl Taken.no) ?_
   refine SL.memS (O.call (rn [(0, 0), (1, 1), (2, 2), (3, 3), (4, 4), (5, 5), (6, 6)]) [] rfl rfl rfl (ih nm[k]! t) (.cons (ArgOk.same rfl) (.cons (ArgOk.same rfl) (.cons (ArgOk.same rfl) (.cons (ArgOk.same rfl) (.cons (ArgOk.same rfl) (.cons (ArgOk.same rfl) (.cons (ArgOk.same rfl) .nil))))))) (SubS.cons rfl (SubS.cons rfl (SubS.cons rfl (SubS.cons rfl (SubS.cons rfl (SubS.cons rfl (SubS.cons rfl SubS.nil))))))) rfl rfl rfl rfl rfl (.inl rfl) hcallOk61 (r' := .tup []) rfl rfl Taken.no) rfl rfl (S' := (0, .cells _ [.own 1]) :: (1, .mp _) :: (2, .cells _ [_]) :: (3, .cells _ [_]) :: (4, .cells _ [.u _]) :: (5, .cells _ [.u _]) :: (6, .cells _ [.u _]) :: _) rfl ?_
   refine SL.nil (E.inn (E.to ?_))
   refine W.pick (K:=[(1,_),(2,_),(3,_),(4,_),(6,_),(7,_),(13,_)]) (Z:=[(0,_),(1,_),(2,_),(3,_),(4,_),(5,_),(6,_),(101,_),(104,_)]) ⟨rfl,rfl,rfl,rfl,rfl,rfl,rfl,trivial⟩ ⟨rfl,rfl,rfl,rfl,rfl,rfl,rfl,rfl,rfl,trivial⟩ ?_
   refine W.region (SL.mv rfl rfl ?_)
   refine SL.val (O.det (fun _ => by first | exact G.R.add64 rfl rfl (by omega) | exact G.R.add rfl rfl) rfl Taken.no) ?_
   refine SL.an rfl rfl (SL.nil ?_)
   refine E.again ((k + 1), ([nm[k]!]), ((visP n ps rs atm nm d (j + 1) (h ++ [nm[k]!])).foldl (bsF ps) t)) (rn []) ?_ ?_ rfl (fixL_spec rfl) ?_ ?_
   · exact (SubF.cons rfl (SubF.cons rfl (SubF.cons rfl (SubF.cons rfl (SubF.cons rfl (SubF.cons rfl (SubF.cons rfl SubF.nil)))))))
   · exact (SubS.cons rfl (SubS.cons rfl (SubS.cons rfl (SubS.cons rfl (SubS.cons rfl (SubS.cons rfl (SubS.cons rfl (SubS.cons rfl SubS.nil))))))))
   ·try dsimp only
    exact ⟨by omega, by simp, by rw [visK_y hK, ht]; rw [List.foldl_append]⟩
   · (try dsimp only); omega
  first | have hg5p := G.gA5 hg5 | have hg5p := G.gA6 hg5 | have hg5p := hg5
  refine SL.sk rfl rfl rfl hg5 (SL.sk rfl rfl rfl hg5 (SL.sk rfl rfl rfl hg5 (SL.sk rfl rfl rfl hg5 (SL.sk rfl rfl rfl hg5 ?_))))
  refine SL.val (O.pick_f rfl (G.ne_t hg5) rfl rfl Taken.no) ?_
  refine E.fo ?_
  refine W.pick (K:=[(1,_),(2,_),(3,_),(4,_),(6,_),(7,_),(13,_),(14,_),(67,_)]) (Z:=[(0,_),(1,_),(2,_),(3,_),(4,_),(5,_),(6,_),(101,_),(104,_)]) ⟨rfl,rfl,rfl,rfl,rfl,rfl,rfl,rfl,rfl,trivial⟩ ⟨rfl,rfl,rfl,rfl,rfl,rfl,rfl,rfl,rfl,trivial⟩ ?_
  refine W.cond_f rfl ?_
  refine W.skip (E.to (W.seq (W.rg ?_)))
  refine SL.val (O.ld1 (PtI.ofU (PtU.fz rfl)) rfl Try.underlying32 rfl rfl Taken.no) ?_
  refine SL.val (O.ld1 (PtI.ref rfl rfl) rfl Try.underlying3 rfl rfl Taken.no) ?_
  refine SL.val (O.sub_fz (j := j) rfl Bnd.no (Bnd.at rfl (by first | rfl | omega)) (by first | omega | (simp only [List.length_map, Nat.le_refl, Nat.zero_le] <;> omega) | (simp <;> omega)) (by rw [List.length_map]; omega) sub_hi Try.underlying32 hi3 hs3 rfl Taken.no) ?_
  refine SL.val (O.makeFunc rfl rfl rfl Taken.no) ?_
  refine SL.memS (O.call (rn [(0, 0), (1, 1), (2, 104), (3, 101)]) [] rfl rfl rfl (containsFuncH (g := h ++ e) (c := nm[k]!) (j := j) (q := nm.take j) hf hal (by omega)) (.cons (ArgOk.same rfl) (.cons (ArgOk.same rfl) .nil)) (SubS.cons rfl (SubS.cons rfl (SubS.cons rfl (SubS.cons rfl SubS.nil)))) rfl rfl rfl rfl rfl (.inl rfl) hcallOk51 (r' := .u _) rfl rfl Taken.no) rfl rfl (S' := (0, .cells _ [.own 1]) :: (1, .mp _) :: (104, .cells _ [.u _]) :: (101, .cells _ [.u _]) :: _) rfl ?_
  refine SL.as (i' := vB (barJ rs atm nm h j k)) 72 rfl (by exact iv_bool (homQ_any hnd (by omega) hhl)) ?_
  refine E.fo ?_
  first | refine W.cond_d rfl (fun hc8 => ?_) (fun hc8 => ?_) | refine W.cond_nd rfl (fun hc8 => ?_) (fun hc8 => ?_) | refine W.cond rfl (fun hc8 => ?_) (fun hc8 => ?_)
  ·skip
   refine W.exit (E.th (E.hit (E.to (W.region (SL.mv rfl rfl ?_)))))
   refine SL.val (O.det (fun _ => by first | exact G.R.add64 rfl rfl (by omega) | exact G.R.add rfl rfl) rfl Taken.no) ?_
   refine SL.an rfl rfl (SL.nil ?_)
   refine E.again ((k + 1), (e), (t)) (rn []) ?_ ?_ rfl (fixL_spec rfl) ?_ ?_
   · exact (SubF.cons rfl (SubF.cons rfl (SubF.cons rfl (SubF.cons rfl (SubF.cons rfl (SubF.cons rfl (SubF.cons rfl SubF.nil)))))))
   · exact (SubS.cons rfl (SubS.cons rfl (SubS.cons rfl (SubS.cons rfl (SubS.cons rfl (SubS.cons rfl (SubS.cons rfl (SubS.cons rfl SubS.nil))))))))
   ·try dsimp only
    exact ⟨by omega, he, by rw [visK_n (by first | exact okK_no (by omega) | exact okK_bar (by first | assumption | simp_all))]; exact ht⟩
   · (try dsimp only); omega
  have hK : okK rs atm nm h j k = true := okK_y (by omega) (by first | assumption | simp_all)
  refine W.skip (E.to (W.seq ?_))
  refine W.draw [⟨[0], [], [], [1]⟩, ⟨[], [], [], []⟩, ⟨[101], [], [], []⟩, ⟨[], [], [], []⟩, ⟨[], [], [], []⟩, ⟨[104], [], [], []⟩, ⟨[1], [1], [], []⟩] rfl (by kernel_rfl) (by kernel_rfl) rfl rfl ?_
  refine WH.val (O.ld1 (PtI.ref rfl rfl) rfl Try.underlying80 rfl rfl Taken.no) rfl rfl ?_
  refine WH.val (O.ld1 (PtI.ofU (PtU.fz rfl)) rfl Try.underlying32 rfl rfl Taken.no) rfl rfl ?_
  refine WH.val (O.ld1 (PtI.ref rfl rfl) rfl Try.underlying3 rfl rfl Taken.no) rfl rfl ?_
  refine WH.val (O.idx_fz (i := j) rfl rfl (rfl) (row_get (by omega)) Try.underlying32 hi3 hs3 rfl Taken.no) rfl rfl ?_
  refine WH.val (O.ld1 (PtI.ofU (PtU.fz rfl)) rfl Try.underlying3 rfl rfl Taken.no) rfl rfl ?_
  refine WH.val (O.ld1 (PtI.ref rfl rfl) rfl Try.underlying3 rfl rfl Taken.no) rfl rfl ?_
  refine WH.effS (O.mapUpdate (kf := (fun a : Int => Value.int .i64 a)) (vf := (fun a : Int => Value.int .i64 a)) (l := mpH nm (h ++ e)) (b := (nm[j]! : Int)) (u := (nm[k]! : Int)) rfl rfl rfl rfl Try.underlying80 (KeyOk.int Try.underlying3) Taken.no) rfl rfl rfl (S' := (1, _) :: _) rfl ?_
  refine WH.nil (E.to (W.region ?_))
  rw [mpH_set nm[k]! hnd (by omega) hhl he]
  refine SL.val (O.ld1 (PtI.ref rfl rfl) rfl Try.underlying96 rfl rfl Taken.no) ?_
  refine SL.val (O.ld1 (PtI.ref rfl rfl) rfl Try.underlying3 rfl rfl Taken.no) ?_
  refine SL.val (O.det (fun _ => by first | exact G.R.add64 rfl rfl (by omega) | exact G.R.add rfl rfl) rfl Taken.no) ?_
  refine SL.memS (O.call (rn [(0, 0), (1, 1), (2, 2), (3, 3), (4, 4), (5, 5), (6, 6)]) [] rfl rfl rfl (ih nm[k]! t) (.cons (ArgOk.same rfl) (.cons (ArgOk.same rfl) (.cons (ArgOk.same rfl) (.cons (ArgOk.same rfl) (.cons (ArgOk.same rfl) (.cons (ArgOk.same rfl) (.cons (ArgOk.same rfl) .nil))))))) (SubS.cons rfl (SubS.cons rfl (SubS.cons rfl (SubS.cons rfl (SubS.cons rfl (SubS.cons rfl (SubS.cons rfl SubS.nil))))))) rfl rfl rfl rfl rfl (.inl rfl) hcallOk61 (r' := .tup []) rfl rfl Taken.no) rfl rfl (S' := (0, .cells _ [.own 1]) :: (1, .mp _) :: (2, .cells _ [_]) :: (3, .cells _ [_]) :: (4, .cells _ [.u _]) :: (5, .cells _ [.u _]) :: (6, .cells _ [.u _]) :: _) rfl ?_
  refine SL.nil (E.inn (E.to ?_))
  refine W.pick (K:=[(1,_),(2,_),(3,_),(4,_),(6,_),(7,_),(13,_)]) (Z:=[(0,_),(1,_),(2,_),(3,_),(4,_),(5,_),(6,_),(101,_),(104,_)]) ⟨rfl,rfl,rfl,rfl,rfl,rfl,rfl,trivial⟩ ⟨rfl,rfl,rfl,rfl,rfl,rfl,rfl,rfl,rfl,trivial⟩ ?_
  refine W.region (SL.mv rfl rfl ?_)
  refine SL.val (O.det (fun _ => by first | exact G.R.add64 rfl rfl (by omega) | exact G.R.add rfl rfl) rfl Taken.no) ?_
  refine SL.an rfl rfl (SL.nil ?_)
  refine E.again ((k + 1), ([nm[k]!]), ((visP n ps rs atm nm d (j + 1) (h ++ [nm[k]!])).foldl (bsF ps) t)) (rn []) ?_ ?_ rfl (fixL_spec rfl) ?_ ?_
  · exact (SubF.cons rfl (SubF.cons rfl (SubF.cons rfl (SubF.cons rfl (SubF.cons rfl (SubF.cons rfl (SubF.cons rfl SubF.nil)))))))
  · exact (SubS.cons rfl (SubS.cons rfl (SubS.cons rfl (SubS.cons rfl (SubS.cons rfl (SubS.cons rfl (SubS.cons rfl (SubS.cons rfl SubS.nil))))))))
  ·try dsimp only
   exact ⟨by omega, by simp, by rw [visK_y hK, ht]; rw [List.foldl_append]⟩
  · (try dsimp only); omega
 refine W.exit (E.th (E.th (E.hit (E.to ?_))))
 refine W.draw [⟨[0], [], [], [1]⟩, ⟨[], [], [], []⟩, ⟨[101], [], [], []⟩, ⟨[], [], [], []⟩, ⟨[], [], [], []⟩, ⟨[1], [1], [], []⟩] rfl (by kernel_rfl) (by kernel_rfl) rfl rfl ?_
 refine WH.val (O.ld1 (PtI.ref rfl rfl) rfl Try.underlying80 rfl rfl Taken.no) rfl rfl ?_
 refine WH.val (O.ld1 (PtI.ofU (PtU.fz rfl)) rfl Try.underlying32 rfl rfl Taken.no) rfl rfl ?_
 refine WH.val (O.ld1 (PtI.ref rfl rfl) rfl Try.underlying3 rfl rfl Taken.no) rfl rfl ?_
 refine WH.val (O.idx_fz (i := j) rfl rfl (rfl) (row_get (by omega)) Try.underlying32 hi3 hs3 rfl Taken.no) rfl rfl ?_
 refine WH.val (O.ld1 (PtI.ofU (PtU.fz rfl)) rfl Try.underlying3 rfl rfl Taken.no) rfl rfl ?_
 refine WH.effS (O.mapDelete (kf := (fun a : Int => Value.int .i64 a)) (vf := (fun a : Int => Value.int .i64 a)) (l := mpH nm (h ++ e)) (b := (nm[j]! : Int)) rfl rfl rfl Try.underlying80 (KeyOk.int Try.underlying3) Taken.no) rfl rfl rfl (S' := (1, _) :: _) rfl ?_
 refine WH.nil ?_
 have hkj : k = j + 1 := by omega
 rw [visP_s, ← hkj, ← ht]
 refine E.fin (rs := []) (rn []) (.inr rfl) rfl .nil ?_ ?_ rfl (fixL_spec rfl)
 ·skip
  rfl
 · exact (SubS.cons rfl (SubS.val rfl (by first | rfl | exact sb_mp (mpH_del hnd (by omega) hhl he)) (SubS.cons rfl (SubS.cons rfl (SubS.cons rfl (SubS.cons rfl (SubS.cons rfl SubS.nil)))))))

theorem eachB {n : Nat} {ps : List Pr} {rs : List Ru} {atm nm : List Nat} (hok : (Prob.mk (n : Int) ps rs).ok) (hal : atm.length = n) (N : Nms n atm nm) : ∀ (d j : Nat) (h : List Nat) (s : BS), j + d = nm.length → h.length = j → Con Try.prog 61 [vI (j : Int), .u (.ptr [.sl 1 (nm.map eN)]), .u (.ptr [uI (n : Int), .sl 3 (ps.map ePr), .sl 3 (rs.map eRu)]), .u (.ptr [.sl 1 (atm.map eN)]), .ref 0 0, .ref 2 0, .ref 3 0] [(0, .cells 80 [.own 1]), (1, .mp (mpE (fun a : Int => Value.int .i64 a) (fun a : Int => Value.int .i64 a) (mpH nm h))), (2, .cells 67 [.clo (.func 36) [] [.ref 4 0, .ref 5 0, .ref 6 0]]), (3, .cells 96 [.clo (.func 61) [] [.u (.ptr [.sl 1 (nm.map eN)]), .u (.ptr [uI (n : Int), .sl 3 (ps.map ePr), .sl 3 (rs.map eRu)]), .u (.ptr [.sl 1 (atm.map eN)]), .ref 0 0, .ref 2 0, .ref 3 0]]), (4, .cells 4 [.u (uB s.any)]), (5, .cells 3 [.u (uI s.most)]), (6, .cells 32 [.u (.sl 1 (s.best.map eN))])] (.tup []) [(0, .cells 80 [.own 1]), (1, .mp (mpE (fun a : Int => Value.int .i64 a) (fun a : Int => Value.int .i64 a) (mpH nm h))), (2, .cells 67 [.clo (.func 36) [] [.ref 4 0, .ref 5 0, .ref 6 0]]), (3, .cells 96 [.clo (.func 61) [] [.u (.ptr [.sl 1 (nm.map eN)]), .u (.ptr [uI (n : Int), .sl 3 (ps.map ePr), .sl 3 (rs.map eRu)]), .u (.ptr [.sl 1 (atm.map eN)]), .ref 0 0, .ref 2 0, .ref 3 0]]), (4, .cells 4 [.u (uB ((visP n ps rs atm nm d j h).foldl (bsF ps) s).any)]), (5, .cells 3 [.u (uI ((visP n ps rs atm nm d j h).foldl (bsF ps) s).most)]), (6, .cells 32 [.u (.sl 1 (((visP n ps rs atm nm d j h).foldl (bsF ps) s).best.map eN))])]
  | 0, j, h, s, h1, h2 => eachB_step hok hal N h1 h2 (fun d' e => by cases e)
  | d + 1, j, h, s, h1, h2 => eachB_step hok hal N h1 h2 (fun d' e v t => by
    obtain rfl : d = d' := by omega
    exact eachB hok hal N d (j + 1) (h ++ [v]) t (by omega) (by rw [List.length_append, h2]; rfl))

set_option maxRecDepth 8000 in
set_option maxHeartbeats 1600000 in
theorem eachC_step {n : Nat} {ps : List Pr} {rs : List Ru} {atm nm : List Nat} {d j : Nat} {h : List Nat} {s : Nat} (hok : (Prob.mk (n : Int) ps rs).ok) (hal : atm.length = n) (N : Nms n atm nm) (hj : j + d = nm.length) (hhl : h.length = j) (hb : s + (visP n ps rs atm nm d j h).length ≤ 1000000) (ih : ∀ d', d = d' + 1 → ∀ (v : Nat) (t : Nat), t + (visP n ps rs atm nm d' (j + 1) (h ++ [v])).length ≤ 1000000 → Con Try.prog 61 [vI ((j : Int) + 1), .u (.ptr [.sl 1 (nm.map eN)]), .u (.ptr [uI (n : Int), .sl 3 (ps.map ePr), .sl 3 (rs.map eRu)]), .u (.ptr [.sl 1 (atm.map eN)]), .ref 0 0, .ref 2 0, .ref 3 0] [(0, .cells 80 [.own 1]), (1, .mp (mpE (fun a : Int => Value.int .i64 a) (fun a : Int => Value.int .i64 a) (mpH nm (h ++ [v])))), (2, .cells 67 [.clo (.func 42) [] [.ref 4 0]]), (3, .cells 96 [.clo (.func 61) [] [.u (.ptr [.sl 1 (nm.map eN)]), .u (.ptr [uI (n : Int), .sl 3 (ps.map ePr), .sl 3 (rs.map eRu)]), .u (.ptr [.sl 1 (atm.map eN)]), .ref 0 0, .ref 2 0, .ref 3 0]]), (4, .cells 3 [.u (uI ((t : Nat) : Int))])] (.tup []) [(0, .cells 80 [.own 1]), (1, .mp (mpE (fun a : Int => Value.int .i64 a) (fun a : Int => Value.int .i64 a) (mpH nm (h ++ [v])))), (2, .cells 67 [.clo (.func 42) [] [.ref 4 0]]), (3, .cells 96 [.clo (.func 61) [] [.u (.ptr [.sl 1 (nm.map eN)]), .u (.ptr [uI (n : Int), .sl 3 (ps.map ePr), .sl 3 (rs.map eRu)]), .u (.ptr [.sl 1 (atm.map eN)]), .ref 0 0, .ref 2 0, .ref 3 0]]), (4, .cells 3 [.u (uI (((t + (visP n ps rs atm nm d' (j + 1) (h ++ [v])).length) : Nat) : Int))])]) :
    Con Try.prog 61 [vI (j : Int), .u (.ptr [.sl 1 (nm.map eN)]), .u (.ptr [uI (n : Int), .sl 3 (ps.map ePr), .sl 3 (rs.map eRu)]), .u (.ptr [.sl 1 (atm.map eN)]), .ref 0 0, .ref 2 0, .ref 3 0] [(0, .cells 80 [.own 1]), (1, .mp (mpE (fun a : Int => Value.int .i64 a) (fun a : Int => Value.int .i64 a) (mpH nm h))), (2, .cells 67 [.clo (.func 42) [] [.ref 4 0]]), (3, .cells 96 [.clo (.func 61) [] [.u (.ptr [.sl 1 (nm.map eN)]), .u (.ptr [uI (n : Int), .sl 3 (ps.map ePr), .sl 3 (rs.map eRu)]), .u (.ptr [.sl 1 (atm.map eN)]), .ref 0 0, .ref 2 0, .ref 3 0]]), (4, .cells 3 [.u (uI ((s : Nat) : Int))])] (.tup []) [(0, .cells 80 [.own 1]), (1, .mp (mpE (fun a : Int => Value.int .i64 a) (fun a : Int => Value.int .i64 a) (mpH nm h))), (2, .cells 67 [.clo (.func 42) [] [.ref 4 0]]), (3, .cells 96 [.clo (.func 61) [] [.u (.ptr [.sl 1 (nm.map eN)]), .u (.ptr [uI (n : Int), .sl 3 (ps.map ePr), .sl 3 (rs.map eRu)]), .u (.ptr [.sl 1 (atm.map eN)]), .ref 0 0, .ref 2 0, .ref 3 0]]), (4, .cells 3 [.u (uI (((s + (visP n ps rs atm nm d j h).length) : Nat) : Int))])] := by
 have hf := hok.1
 have hn2 : (n : Int) ≤ 200 := hf.2.1
 have hnd := N.nodup
 have hql : nm.length ≤ 200 := by have := selfs_len n atm; rw [N.nm]; omega
 obtain ⟨i3, hi3, hz3, hs3, hb3⟩ := hinf3
 refine Con.enterL (n := 88) Try.func61 rfl rfl rfl (fun τ w ok vs hin => ?_)
 clear hin
 refine W.rg ?_
 refine SL.memS (O.box (is := [_]) 101 rfl rfl (by simp) rfl rfl Taken.no) rfl rfl (S' := (101, _) :: _) rfl ?_
 refine E.fo (W.seq (W.rg ?_))
 refine SL.val (O.ld1 (PtI.ref rfl rfl) rfl Try.underlying3 rfl rfl Taken.no) ?_
 refine SL.val (O.ld1 (PtI.ofU (PtU.fz rfl)) rfl Try.underlying32 rfl rfl Taken.no) ?_
 refine SL.val (O.lenE (SlOf.fz rfl (by decide)) (by first | exact List.length_map _ | rfl) Try.underlying32 rfl Taken.no) ?_
 refine SL.val (O.det (fun _ => G.R.eql rfl rfl) rfl Taken.no) ?_
 refine E.fo ?_
 first | refine W.cond_d rfl (fun hc1 => ?_) (fun hc1 => ?_) | refine W.cond_nd rfl (fun hc1 => ?_) (fun hc1 => ?_) | refine W.cond rfl (fun hc1 => ?_) (fun hc1 => ?_)
 ·skip
  obtain rfl : d = 0 := by omega
  have hjq : j = nm.length := by omega
  refine W.rg ?_
  refine SL.val (O.fld_fz rfl Try.underlying30 rfl (m := 0) (by kernel_rfl) rfl rfl Taken.no) ?_
  refine SL.val (O.ld1 (PtI.ofU (PtU.fz rfl)) rfl Try.underlying3 rfl rfl Taken.no) ?_
  refine SL.memS (O.make (m := n) (kk := 102) rfl rfl (by rfl) (by rfl) Try.underlying32 hi3 hz3 hs3 rfl rfl (by decide) rfl (by rw [hb3]; omega) (by omega) rfl Taken.no) rfl rfl (S' := (102, _) :: _) rfl ?_
  refine SL.an rfl rfl (E.fo (W.seq (W.rg ?_)))
  refine SL.val (O.ld1 (PtI.ofU (PtU.fz rfl)) rfl Try.underlying32 rfl rfl Taken.no) ?_
  refine SL.val (O.lenE (SlOf.fz rfl (by decide)) (by first | exact List.length_map _ | rfl) Try.underlying32 rfl Taken.no) ?_
  refine SL.mv rfl rfl (E.fo (W.block ?_))
  refine W.loopx1 (fun (u : Nat) => [(24, vI (u : Int)), (8, .own 103)]) (fun (u : Nat) => [(103, .data 3 1 ((luL atm nm u h ++ List.replicate (n - u) 0).map eN))]) (fun (u : Nat) => u ≤ n) (fun (u : Nat) => n - u) (0) (rn [(103, 102)]) (.cons (t := 1) rfl (.cons (t := 2) rfl (.cons (t := 3) rfl (.cons (t := 4) rfl (.cons (t := 5) rfl (.cons (t := 6) rfl (.cons (t := 7) rfl (.cons (t := 22) rfl (.cons (t := 23) rfl .nil))))))))) (.cons (t := 0) rfl (.cons (t := 1) rfl (.cons (t := 2) rfl (.cons (t := 3) rfl (.cons (t := 4) rfl (.cons (t := 101) rfl .nil)))))) rfl ?_ ?_ rfl rfl ?_ ?_
  · exact (SubF.cons rfl (SubF.cons rfl SubF.nil))
  · exact (SubS.val rfl (by exact sb_data (by show _ = List.map eN (List.replicate n 0); rw [List.map_replicate]; rfl)) SubS.nil)
  ·skip
   omega
  intro u hinv
  have hu := hinv
  have hol : (luL atm nm u h ++ List.replicate (n - u) 0).length = n := by rw [List.length_append, luL_len, List.length_replicate]; omega
  refine W.rg ?_
  refine SL.val (O.det (fun _ => G.R.lss rfl rfl) rfl Taken.no) ?_
  refine E.fo (W.seq ?_)
  first | refine W.cond_d rfl (fun hc2 => ?_) (fun hc2 => ?_) | refine W.cond_nd rfl (fun hc2 => ?_) (fun hc2 => ?_) | refine W.cond rfl (fun hc2 => ?_) (fun hc2 => ?_)
  ·skip
   refine W.skip (E.to (W.seq (W.block (W.rg (SL.mv rfl rfl ?_)))))
   refine SL.val (O.idx_fz rfl rfl (rfl) (row_get (by omega)) Try.underlying32 hi3 hs3 rfl Taken.no) ?_
   refine SL.val (O.ld1 (PtI.ofU (PtU.fz rfl)) rfl Try.underlying3 rfl rfl Taken.no) ?_
   refine SL.an rfl rfl (SL.an rfl rfl (E.fo (W.region (SL.mv rfl rfl (SL.mv rfl rfl ?_)))))
   refine SL.val (O.ld1 (PtI.ref rfl rfl) rfl Try.underlying80 rfl rfl Taken.no) ?_
   refine SL.mv rfl rfl ?_
   refine SL.val (O.lookup (kf := (fun a : Int => Value.int .i64 a)) (vf := (fun a : Int => Value.int .i64 a)) (l := mpH nm h) (b := (atm[u]! : Int)) (z := 0) rfl rfl rfl Try.underlying80 (KeyOk.int Try.underlying3) (by kernel_rfl) rfl Taken.no) ?_
   refine SL.as (i' := vI (h[nm.idxOf atm[u]!]! : Int)) 33 rfl (by exact iv_int (luL_look N (by omega) (by omega))) ?_
   refine SL.val (O.idx_own (i := u) rfl rfl rfl (rfl) (by rw [List.length_map]; omega) Try.underlying32 hi3 hs3 rfl Taken.no) ?_
   refine SL.effS (O.st_els (m := 1) rfl rfl rfl (us := [_]) rfl rfl (by kernel_rfl) (by simp) (row_get (by omega)) (by exact Nat.le_of_ble_eq_true rfl) rfl rfl (rows' := ((luL atm nm u h ++ List.replicate (n - u) 0).set u (h[nm.idxOf atm[u]!]!)).map eN) (by exact set_map rfl) Taken.no) (S' := (103, _) :: _) rfl ?_
   refine SL.nil (E.inn (E.to (W.region ?_)))
   refine SL.val (O.det (fun _ => by first | exact G.R.add64 rfl rfl (by omega) | exact G.R.add rfl rfl) rfl Taken.no) ?_
   refine SL.mv rfl rfl (SL.nil ?_)
   refine E.again ((u + 1)) (rn []) ?_ ?_ rfl (fixL_spec rfl) ?_ ?_
   · exact (SubF.cons rfl (SubF.cons rfl (SubF.cons rfl (SubF.cons rfl (SubF.cons rfl (SubF.cons rfl (SubF.cons rfl (SubF.cons rfl (SubF.cons rfl (SubF.cons rfl (SubF.cons rfl SubF.nil)))))))))))
   · exact (SubS.val rfl (by (try dsimp only); exact sb_data (by rw [luL_set (by omega)])) (SubS.cons rfl (SubS.cons rfl (SubS.cons rfl (SubS.cons rfl (SubS.cons rfl (SubS.cons rfl SubS.nil)))))))
   ·try dsimp only
    omega
   · (try dsimp only); omega
  refine W.exit (E.th (E.th (E.hit (E.to (W.seq (W.seq ?_))))))
  have hun : u = n := by omega
  rw [hun, Nat.sub_self, List.replicate_zero, List.append_nil]
  refine W.freeze 103 rfl (F' := [(8, _)]) (⟨⟨_, rfl, rfl⟩, trivial⟩) ?_
  refine W.region ?_
  refine SL.val (O.ldU (m := 3) (PtU.fz rfl) rfl Try.underlying30 rfl (by kernel_rfl) rfl Taken.no) ?_
  refine SL.mv rfl rfl ?_
  refine SL.val (O.callp rfl rfl rfl (permN_h (m := luL atm nm n h) hok) (.cons (ArgOk.same rfl) (.cons (ArgOk.same rfl) .nil)) hcallOk49 rfl Taken.no) ?_
  refine E.fo ?_
  first | refine W.cond_d rfl (fun hc3 => ?_) (fun hc3 => ?_) | refine W.cond_nd rfl (fun hc3 => ?_) (fun hc3 => ?_) | refine W.cond rfl (fun hc3 => ?_) (fun hc3 => ?_)
  ·skip
   have hpm : permB n ps rs (luL atm nm n h) = true := by first | assumption | exact decide_eq_true (by assumption)
   have hQ := (permB_iff.1 hpm).1
   refine W.rg ?_
   refine SL.val (O.ldU (m := 3) (PtU.fz rfl) rfl Try.underlying30 rfl (by kernel_rfl) rfl Taken.no) ?_
   refine SL.mv rfl rfl ?_
   refine SL.memS (O.call (rn []) [] rfl rfl rfl (valN_h (m := luL atm nm n h) hok hQ) (.cons (ArgOk.same rfl) (.cons (ArgOk.same rfl) .nil)) SubS.nil rfl rfl rfl rfl rfl (.inl rfl) hcallOk30 (r' := .tup [.u _, .u _]) rfl rfl Taken.no) rfl rfl (S' := _) rfl ?_
   refine SL.mv rfl rfl ?_
   refine SL.val (O.extract rfl rfl rfl Taken.no) ?_
   refine SL.val (O.extract rfl rfl rfl Taken.no) ?_
   refine SL.an rfl rfl (SL.an rfl rfl (E.fo (W.region ?_)))
   refine SL.val (O.ld1 (PtI.ref rfl rfl) rfl Try.underlying67 rfl rfl Taken.no) ?_
   refine SL.mv rfl rfl (SL.mv rfl rfl ?_)
   refine SL.memS (O.call (rn [(0, 4)]) [] rfl rfl rfl (count1_h (c := s) (m := luL atm nm n h) (by have hb2 := hb; rw [visP_0y hpm] at hb2; simp at hb2; omega)) (.cons (ArgOk.same rfl) (.cons (ArgOk.same rfl) (.cons (ArgOk.same rfl) .nil))) (SubS.cons rfl SubS.nil) rfl rfl rfl rfl rfl (.inl rfl) hcallOk42 (r' := .tup []) rfl rfl Taken.no) rfl rfl (S' := (4, .cells _ [.u _]) :: _) rfl ?_
   refine E.fo ?_
   refine W.pick (K:=[(1,_),(2,_),(3,_),(4,_),(6,_),(7,_)]) (Z:=[(0,_),(1,_),(2,_),(3,_),(4,_),(101,_)]) ⟨rfl,rfl,rfl,rfl,rfl,rfl,trivial⟩ ⟨rfl,rfl,rfl,rfl,rfl,rfl,trivial⟩ ?_
   refine W.ret (E.thr ?_)
   rw [visP_0y hpm]
   refine E.fin (rs := []) (rn []) (.inl rfl) rfl .nil ?_ ?_ rfl (fixL_spec rfl)
   ·skip
    rfl
   · exact (SubS.cons rfl (SubS.val rfl (by first | rfl | exact sb_mp (mpH_del hnd (by omega) hhl he)) (SubS.cons rfl (SubS.cons rfl (SubS.cons rfl SubS.nil)))))
  have hpm : permB n ps rs (luL atm nm n h) = false := by first | assumption | exact decide_eq_false (by assumption)
  refine W.skip (E.to (W.ret (E.thr ?_)))
  rw [visP_0n hpm]
  refine E.fin (rs := []) (rn []) (.inl rfl) rfl .nil ?_ ?_ rfl (fixL_spec rfl)
  ·skip
   rfl
  · exact (SubS.cons rfl (SubS.val rfl (by first | rfl | exact sb_mp (mpH_del hnd (by omega) hhl he)) (SubS.cons rfl (SubS.cons rfl (SubS.cons rfl SubS.nil)))))
 obtain ⟨d, rfl⟩ : ∃ e, d = e + 1 := ⟨d - 1, by omega⟩
 replace ih := ih d rfl
 refine W.skip (E.to (W.seq (W.rg (SL.an rfl rfl (E.fo (W.block ?_))))))
 refine W.loopx3 (fun (k : Nat) (e : List Nat) (t : Nat) => [(13, vI (k : Int))]) (fun (k : Nat) (e : List Nat) (t : Nat) => [(1, .mp (mpE (fun a : Int => Value.int .i64 a) (fun a : Int => Value.int .i64 a) (mpH nm (h ++ e)))), (0, .cells 80 [.own 1]), (4, .cells 3 [.u (uI (t : Int))])]) (fun (k : Nat) (e : List Nat) (t : Nat) => k ≤ j + 1 ∧ e.length ≤ 1 ∧ t = s + (visK n ps rs atm nm d j h k).length) (fun (k : Nat) (e : List Nat) (t : Nat) => j + 1 - k) (0) ([]) (s) (rn []) (.cons (t := 1) rfl (.cons (t := 2) rfl (.cons (t := 3) rfl (.cons (t := 4) rfl (.cons (t := 6) rfl (.cons (t := 7) rfl .nil)))))) (.cons (t := 2) rfl (.cons (t := 3) rfl (.cons (t := 101) rfl .nil))) rfl ?_ ?_ rfl rfl ?_ ?_
 · exact (SubF.cons rfl SubF.nil)
 · exact (SubS.val rfl (by exact sb_mp (by rw [List.append_nil])) (SubS.cons rfl (SubS.cons rfl SubS.nil)))
 ·skip
  exact ⟨by omega, by simp, rfl⟩
 intro k e t hinv
 obtain ⟨hk, he, ht⟩ := hinv
 refine W.seq (W.rg (SL.mv rfl rfl ?_))
 refine SL.val (O.ld1 (PtI.ref rfl rfl) rfl Try.underlying3 rfl rfl Taken.no) ?_
 refine SL.val (O.det (fun _ => G.R.leq rfl rfl) rfl Taken.no) ?_
 refine E.fo ?_
 first | refine W.cond_d rfl (fun hc4 => ?_) (fun hc4 => ?_) | refine W.cond_nd rfl (fun hc4 => ?_) (fun hc4 => ?_) | refine W.cond rfl (fun hc4 => ?_) (fun hc4 => ?_)
 ·skip
  have hkq : k < nm.length := by omega
  refine W.skip (E.to (W.seq (W.block (W.rg ?_))))
  refine SL.val (O.ld1 (PtI.ofU (PtU.fz rfl)) rfl Try.underlying32 rfl rfl Taken.no) ?_
  refine SL.mv rfl rfl ?_
  refine SL.val (O.idx_fz rfl rfl (rfl) (row_get (by omega)) Try.underlying32 hi3 hs3 rfl Taken.no) ?_
  refine SL.val (O.ld1 (PtI.ofU (PtU.fz rfl)) rfl Try.underlying3 rfl rfl Taken.no) ?_
  refine SL.memS (O.alloc (z := .int .i64 0) (is := [.u (.sc (.int .i64 0))]) 104 (by kernel_rfl) rfl rfl rfl Taken.no) rfl rfl (S' := (104, _) :: _) rfl ?_
  refine SL.effS (O.st_ref (m := 1) rfl rfl rfl (js := [_]) rfl rfl (by kernel_rfl) (by simp) (Nat.le_of_ble_eq_true rfl) rfl (is' := [_]) rfl Taken.no) (S' := (104, _) :: _) rfl ?_
  refine E.fo (W.seq (W.rg (SL.mv rfl rfl ?_)))
  refine SL.val (O.ld1 (PtI.ref rfl rfl) rfl Try.underlying3 rfl rfl Taken.no) ?_
  refine SL.val (O.det (fun _ => G.R.lss rfl rfl) rfl Taken.no) ?_
  refine SL.mv rfl rfl ?_
  refine SL.case (j := 3) (g := 61) (want := true) rfl rfl (fun hg5 => ?_) (fun hg5 => ?_)
  ·skip
   first | have hg5p := G.gA1 hg5 | have hg5p := G.gA2 hg5 | have hg5p := hg5
   refine SL.val (O.ld1 (PtI.ref rfl rfl) rfl Try.underlying80 rfl rfl (Taken.yes rfl rfl hg5)) ?_
   refine SL.val (O.ld1 (PtI.ref rfl rfl) rfl Try.underlying3 rfl rfl (Taken.yes rfl rfl hg5)) ?_
   refine SL.val (O.lookup (kf := (fun a : Int => Value.int .i64 a)) (vf := (fun a : Int => Value.int .i64 a)) (l := mpH nm (h ++ e)) (b := (nm[k]! : Int)) (z := 0) rfl rfl rfl Try.underlying80 (KeyOk.int Try.underlying3) (by kernel_rfl) rfl (Taken.yes rfl rfl hg5)) ?_
   refine SL.as (i' := vI (h[k]! : Int)) 64 rfl (by exact iv_int (hom_at hnd (by omega) (by omega))) ?_
   refine SL.val (O.ld1 (PtI.ref rfl rfl) rfl Try.underlying3 rfl rfl (Taken.yes rfl rfl hg5)) ?_
   refine SL.val (O.det (fun _ => G.R.neq rfl rfl) rfl (Taken.yes rfl rfl hg5)) ?_
   refine SL.val (O.pick_t rfl hg5 rfl rfl Taken.no) ?_
   refine E.fo ?_
   refine W.pick (K:=[(1,_),(2,_),(3,_),(4,_),(6,_),(7,_),(13,_),(14,_),(67,_)]) (Z:=[(0,_),(1,_),(2,_),(3,_),(4,_),(101,_),(104,_)]) ⟨rfl,rfl,rfl,rfl,rfl,rfl,rfl,rfl,rfl,trivial⟩ ⟨rfl,rfl,rfl,rfl,rfl,rfl,rfl,trivial⟩ ?_
   first | refine W.cond_d rfl (fun hc6 => ?_) (fun hc6 => ?_) | refine W.cond_nd rfl (fun hc6 => ?_) (fun hc6 => ?_) | refine W.cond rfl (fun hc6 => ?_) (fun hc6 => ?_)
   ·skip
    refine W.exit (E.th (E.hit (E.to (W.region (SL.mv rfl rfl ?_)))))
    refine SL.val (O.det (fun _ => by first | exact G.R.add64 rfl rfl (by omega) | exact G.R.add rfl rfl) rfl Taken.no) ?_
    refine SL.an rfl rfl (SL.nil ?_)
    refine E.again ((k + 1), (e), (t)) (rn []) ?_ ?_ rfl (fixL_spec rfl) ?_ ?_
    · exact (SubF.cons rfl (SubF.cons rfl (SubF.cons rfl (SubF.cons rfl (SubF.cons rfl (SubF.cons rfl (SubF.cons rfl SubF.nil)))))))
    · exact (SubS.cons rfl (SubS.cons rfl (SubS.cons rfl (SubS.cons rfl (SubS.cons rfl (SubS.cons rfl SubS.nil))))))
    ·try dsimp only
     exact ⟨by omega, he, by rw [visK_n (by first | exact okK_no (by omega) | exact okK_bar (by first | assumption | simp_all))]; exact ht⟩
    · (try dsimp only); omega
   refine W.skip (E.to (W.seq (W.rg ?_)))
   refine SL.val (O.ld1 (PtI.ofU (PtU.fz rfl)) rfl Try.underlying32 rfl rfl Taken.no) ?_
   refine SL.val (O.ld1 (PtI.ref rfl rfl) rfl Try.underlying3 rfl rfl Taken.no) ?_
   refine SL.val (O.sub_fz (j := j) rfl Bnd.no (Bnd.at rfl (by first | rfl | omega)) (by first | omega | (simp only [List.length_map, Nat.le_refl, Nat.zero_le] <;> omega) | (simp <;> omega)) (by rw [List.length_map]; omega) sub_hi Try.underlying32 hi3 hs3 rfl Taken.no) ?_
   refine SL.val (O.makeFunc rfl rfl rfl Taken.no) ?_
   refine SL.memS (O.call (rn [(0, 0), (1, 1), (2, 104), (3, 101)]) [] rfl rfl rfl (containsFuncH (g := h ++ e) (c := nm[k]!) (j := j) (q := nm.take j) hf hal (by omega)) (.cons (ArgOk.same rfl) (.cons (ArgOk.same rfl) .nil)) (SubS.cons rfl (SubS.cons rfl (SubS.cons rfl (SubS.cons rfl SubS.nil)))) rfl rfl rfl rfl rfl (.inl rfl) hcallOk51 (r' := .u _) rfl rfl Taken.no) rfl rfl (S' := (0, .cells _ [.own 1]) :: (1, .mp _) :: (104, .cells _ [.u _]) :: (101, .cells _ [.u _]) :: _) rfl ?_
   refine SL.as (i' := vB (barJ rs atm nm h j k)) 72 rfl (by exact iv_bool (homQ_any hnd (by omega) hhl)) ?_
   refine E.fo ?_
   first | refine W.cond_d rfl (fun hc7 => ?_) (fun hc7 => ?_) | refine W.cond_nd rfl (fun hc7 => ?_) (fun hc7 => ?_) | refine W.cond rfl (fun hc7 => ?_) (fun hc7 => ?_)
   ·skip
    refine W.exit (E.th (E.hit (E.to (W.region (SL.mv rfl rfl ?_)))))
    refine SL.val (O.det (fun _ => by first | exact G.R.add64 rfl rfl (by omega) | exact G.R.add rfl rfl) rfl Taken.no) ?_
    refine SL.an rfl rfl (SL.nil ?_)
    refine E.again ((k + 1), (e), (t)) (rn []) ?_ ?_ rfl (fixL_spec rfl) ?_ ?_
    · exact (SubF.cons rfl (SubF.cons rfl (SubF.cons rfl (SubF.cons rfl (SubF.cons rfl (SubF.cons rfl (SubF.cons rfl SubF.nil)))))))
    · exact (SubS.cons rfl (SubS.cons rfl (SubS.cons rfl (SubS.cons rfl (SubS.cons rfl (SubS.cons rfl SubS.nil))))))
    ·try dsimp only
     exact ⟨by omega, he, by rw [visK_n (by first | exact okK_no (by omega) | exact okK_bar (by first | assumption | simp_all))]; exact ht⟩
    · (try dsimp only); omega
   have hK : okK rs atm nm h j k = true := okK_y (by omega) (by first | assumption | simp_all)
   have hkl := visK_le (ps := ps) (n := n) (d := d) (by omega) hK
   refine W.skip (E.to (W.seq ?_))
   refine W.draw [⟨[0], [], [], [1]⟩, ⟨[], [], [], []⟩, ⟨[101], [], [], []⟩, ⟨[], [], [], []⟩, ⟨[], [], [], []⟩, ⟨[104], [], [], []⟩, ⟨[1], [1], [], []⟩] rfl (by kernel_rfl) (by kernel_rfl) rfl rfl ?_
   refine WH.val (O.ld1 (PtI.ref rfl rfl) rfl Try.underlying80 rfl rfl Taken.no) rfl rfl ?_
   refine WH.val (O.ld1 (PtI.ofU (PtU.fz rfl)) rfl Try.underlying32 rfl rfl Taken.no) rfl rfl ?_
   refine WH.val (O.ld1 (PtI.ref rfl rfl) rfl Try.underlying3 rfl rfl Taken.no) rfl rfl ?_
   refine WH.val (O.idx_fz (i := j) rfl rfl (rfl) (row_get (by omega)) Try.underlying32 hi3 hs3 rfl Taken.no) rfl rfl ?_
   refine WH.val (O.ld1 (PtI.ofU (PtU.fz rfl)) rfl Try.underlying3 rfl rfl Taken.no) rfl rfl ?_
   refine WH.val (O.ld1 (PtI.ref rfl rfl) rfl Try.underlying3 rfl rfl Taken.no) rfl rfl ?_
   refine WH.effS (O.mapUpdate (kf := (fun a : Int => Value.int .i64 a)) (vf := (fun a : Int => Value.int .i64 a)) (l := mpH nm (h ++ e)) (b := (nm[j]! : Int)) (u := (nm[k]! : Int)) rfl rfl rfl rfl Try.underlying80 (KeyOk.int Try.underlying3) Taken.no) rfl rfl rfl (S' := (1, _) :: _) rfl ?_
   refine WH.nil (E.to (W.region ?_))
   rw [mpH_set nm[k]! hnd (by omega) hhl he]
   refine SL.val (O.ld1 (PtI.ref rfl rfl) rfl Try.underlying96 rfl rfl Taken.no) ?_
   refine SL.val (O.ld1 (PtI.ref rfl rfl) rfl Try.underlying3 rfl rfl Taken.no) ?_
   refine SL.val (O.det (fun _ => by first | exact G.R.add64 rfl rfl (by omega) | exact G.R.add rfl rfl) rfl Taken.no) ?_
   refine SL.memS (O.call (rn [(0, 0), (1, 1), (2, 2), (3, 3), (4, 4)]) [] rfl rfl rfl (ih nm[k]! t (by omega)) (.cons (ArgOk.same rfl) (.cons (ArgOk.same rfl) (.cons (ArgOk.same rfl) (.cons (ArgOk.same rfl) (.cons (ArgOk.same rfl) (.cons (ArgOk.same rfl) (.cons (ArgOk.same rfl) .nil))))))) (SubS.cons rfl (SubS.cons rfl (SubS.cons rfl (SubS.cons rfl (SubS.cons rfl SubS.nil))))) rfl rfl rfl rfl rfl (.inl rfl) hcallOk61 (r' := .tup []) rfl rfl Taken.no) rfl rfl (S' := (0, .cells _ [.own 1]) :: (1, .mp _) :: (2, .cells _ [_]) :: (3, .cells _ [_]) :: (4, .cells _ [.u _]) :: _) rfl ?_
   refine SL.nil (E.inn (E.to ?_))
   refine W.pick (K:=[(1,_),(2,_),(3,_),(4,_),(6,_),(7,_),(13,_)]) (Z:=[(0,_),(1,_),(2,_),(3,_),(4,_),(101,_),(104,_)]) ⟨rfl,rfl,rfl,rfl,rfl,rfl,rfl,trivial⟩ ⟨rfl,rfl,rfl,rfl,rfl,rfl,rfl,trivial⟩ ?_
   refine W.region (SL.mv rfl rfl ?_)
   refine SL.val (O.det (fun _ => by first | exact G.R.add64 rfl rfl (by omega) | exact G.R.add rfl rfl) rfl Taken.no) ?_
   refine SL.an rfl rfl (SL.nil ?_)
   refine E.again ((k + 1), ([nm[k]!]), (t + (visP n ps rs atm nm d (j + 1) (h ++ [nm[k]!])).length)) (rn []) ?_ ?_ rfl (fixL_spec rfl) ?_ ?_
   · exact (SubF.cons rfl (SubF.cons rfl (SubF.cons rfl (SubF.cons rfl (SubF.cons rfl (SubF.cons rfl (SubF.cons rfl SubF.nil)))))))
   · exact (SubS.cons rfl (SubS.cons rfl (SubS.cons rfl (SubS.cons rfl (SubS.cons rfl (SubS.cons rfl SubS.nil))))))
   ·try dsimp only
    exact ⟨by omega, by simp, by rw [visK_y hK, ht]; rw [List.length_append]; omega⟩
   · (try dsimp only); omega
  first | have hg5p := G.gA5 hg5 | have hg5p := G.gA6 hg5 | have hg5p := hg5
  refine SL.sk rfl rfl rfl hg5 (SL.sk rfl rfl rfl hg5 (SL.sk rfl rfl rfl hg5 (SL.sk rfl rfl rfl hg5 (SL.sk rfl rfl rfl hg5 ?_))))
  refine SL.val (O.pick_f rfl (G.ne_t hg5) rfl rfl Taken.no) ?_
  refine E.fo ?_
  refine W.pick (K:=[(1,_),(2,_),(3,_),(4,_),(6,_),(7,_),(13,_),(14,_),(67,_)]) (Z:=[(0,_),(1,_),(2,_),(3,_),(4,_),(101,_),(104,_)]) ⟨rfl,rfl,rfl,rfl,rfl,rfl,rfl,rfl,rfl,trivial⟩ ⟨rfl,rfl,rfl,rfl,rfl,rfl,rfl,trivial⟩ ?_
  refine W.cond_f rfl ?_
  refine W.skip (E.to (W.seq (W.rg ?_)))
  refine SL.val (O.ld1 (PtI.ofU (PtU.fz rfl)) rfl Try.underlying32 rfl rfl Taken.no) ?_
  refine SL.val (O.ld1 (PtI.ref rfl rfl) rfl Try.underlying3 rfl rfl Taken.no) ?_
  refine SL.val (O.sub_fz (j := j) rfl Bnd.no (Bnd.at rfl (by first | rfl | omega)) (by first | omega | (simp only [List.length_map, Nat.le_refl, Nat.zero_le] <;> omega) | (simp <;> omega)) (by rw [List.length_map]; omega) sub_hi Try.underlying32 hi3 hs3 rfl Taken.no) ?_
  refine SL.val (O.makeFunc rfl rfl rfl Taken.no) ?_
  refine SL.memS (O.call (rn [(0, 0), (1, 1), (2, 104), (3, 101)]) [] rfl rfl rfl (containsFuncH (g := h ++ e) (c := nm[k]!) (j := j) (q := nm.take j) hf hal (by omega)) (.cons (ArgOk.same rfl) (.cons (ArgOk.same rfl) .nil)) (SubS.cons rfl (SubS.cons rfl (SubS.cons rfl (SubS.cons rfl SubS.nil)))) rfl rfl rfl rfl rfl (.inl rfl) hcallOk51 (r' := .u _) rfl rfl Taken.no) rfl rfl (S' := (0, .cells _ [.own 1]) :: (1, .mp _) :: (104, .cells _ [.u _]) :: (101, .cells _ [.u _]) :: _) rfl ?_
  refine SL.as (i' := vB (barJ rs atm nm h j k)) 72 rfl (by exact iv_bool (homQ_any hnd (by omega) hhl)) ?_
  refine E.fo ?_
  first | refine W.cond_d rfl (fun hc8 => ?_) (fun hc8 => ?_) | refine W.cond_nd rfl (fun hc8 => ?_) (fun hc8 => ?_) | refine W.cond rfl (fun hc8 => ?_) (fun hc8 => ?_)
  ·skip
   refine W.exit (E.th (E.hit (E.to (W.region (SL.mv rfl rfl ?_)))))
   refine SL.val (O.det (fun _ => by first | exact G.R.add64 rfl rfl (by omega) | exact G.R.add rfl rfl) rfl Taken.no) ?_
   refine SL.an rfl rfl (SL.nil ?_)
   refine E.again ((k + 1), (e), (t)) (rn []) ?_ ?_ rfl (fixL_spec rfl) ?_ ?_
   · exact (SubF.cons rfl (SubF.cons rfl (SubF.cons rfl (SubF.cons rfl (SubF.cons rfl (SubF.cons rfl (SubF.cons rfl SubF.nil)))))))
   · exact (SubS.cons rfl (SubS.cons rfl (SubS.cons rfl (SubS.cons rfl (SubS.cons rfl (SubS.cons rfl SubS.nil))))))
   ·try dsimp only
    exact ⟨by omega, he, by rw [visK_n (by first | exact okK_no (by omega) | exact okK_bar (by first | assumption | simp_all))]; exact ht⟩
   · (try dsimp only); omega
  have hK : okK rs atm nm h j k = true := okK_y (by omega) (by first | assumption | simp_all)
  have hkl := visK_le (ps := ps) (n := n) (d := d) (by omega) hK
  refine W.skip (E.to (W.seq ?_))
  refine W.draw [⟨[0], [], [], [1]⟩, ⟨[], [], [], []⟩, ⟨[101], [], [], []⟩, ⟨[], [], [], []⟩, ⟨[], [], [], []⟩, ⟨[104], [], [], []⟩, ⟨[1], [1], [], []⟩] rfl (by kernel_rfl) (by kernel_rfl) rfl rfl ?_
  refine WH.val (O.ld1 (PtI.ref rfl rfl) rfl Try.underlying80 rfl rfl Taken.no) rfl rfl ?_
  refine WH.val (O.ld1 (PtI.ofU (PtU.fz rfl)) rfl Try.underlying32 rfl rfl Taken.no) rfl rfl ?_
  refine WH.val (O.ld1 (PtI.ref rfl rfl) rfl Try.underlying3 rfl rfl Taken.no) rfl rfl ?_
  refine WH.val (O.idx_fz (i := j) rfl rfl (rfl) (row_get (by omega)) Try.underlying32 hi3 hs3 rfl Taken.no) rfl rfl ?_
  refine WH.val (O.ld1 (PtI.ofU (PtU.fz rfl)) rfl Try.underlying3 rfl rfl Taken.no) rfl rfl ?_
  refine WH.val (O.ld1 (PtI.ref rfl rfl) rfl Try.underlying3 rfl rfl Taken.no) rfl rfl ?_
  refine WH.effS (O.mapUpdate (kf := (fun a : Int => Value.int .i64 a)) (vf := (fun a : Int => Value.int .i64 a)) (l := mpH nm (h ++ e)) (b := (nm[j]! : Int)) (u := (nm[k]! : Int)) rfl rfl rfl rfl Try.underlying80 (KeyOk.int Try.underlying3) Taken.no) rfl rfl rfl (S' := (1, _) :: _) rfl ?_
  refine WH.nil (E.to (W.region ?_))
  rw [mpH_set nm[k]! hnd (by omega) hhl he]
  refine SL.val (O.ld1 (PtI.ref rfl rfl) rfl Try.underlying96 rfl rfl Taken.no) ?_
  refine SL.val (O.ld1 (PtI.ref rfl rfl) rfl Try.underlying3 rfl rfl Taken.no) ?_
  refine SL.val (O.det (fun _ => by first | exact G.R.add64 rfl rfl (by omega) | exact G.R.add rfl rfl) rfl Taken.no) ?_
  refine SL.memS (O.call (rn [(0, 0), (1, 1), (2, 2), (3, 3), (4, 4)]) [] rfl rfl rfl (ih nm[k]! t (by omega)) (.cons (ArgOk.same rfl) (.cons (ArgOk.same rfl) (.cons (ArgOk.same rfl) (.cons (ArgOk.same rfl) (.cons (ArgOk.same rfl) (.cons (ArgOk.same rfl) (.cons (ArgOk.same rfl) .nil))))))) (SubS.cons rfl (SubS.cons rfl (SubS.cons rfl (SubS.cons rfl (SubS.cons rfl SubS.nil))))) rfl rfl rfl rfl rfl (.inl rfl) hcallOk61 (r' := .tup []) rfl rfl Taken.no) rfl rfl (S' := (0, .cells _ [.own 1]) :: (1, .mp _) :: (2, .cells _ [_]) :: (3, .cells _ [_]) :: (4, .cells _ [.u _]) :: _) rfl ?_
  refine SL.nil (E.inn (E.to ?_))
  refine W.pick (K:=[(1,_),(2,_),(3,_),(4,_),(6,_),(7,_),(13,_)]) (Z:=[(0,_),(1,_),(2,_),(3,_),(4,_),(101,_),(104,_)]) ⟨rfl,rfl,rfl,rfl,rfl,rfl,rfl,trivial⟩ ⟨rfl,rfl,rfl,rfl,rfl,rfl,rfl,trivial⟩ ?_
  refine W.region (SL.mv rfl rfl ?_)
  refine SL.val (O.det (fun _ => by first | exact G.R.add64 rfl rfl (by omega) | exact G.R.add rfl rfl) rfl Taken.no) ?_
  refine SL.an rfl rfl (SL.nil ?_)
  refine E.again ((k + 1), ([nm[k]!]), (t + (visP n ps rs atm nm d (j + 1) (h ++ [nm[k]!])).length)) (rn []) ?_ ?_ rfl (fixL_spec rfl) ?_ ?_
  · exact (SubF.cons rfl (SubF.cons rfl (SubF.cons rfl (SubF.cons rfl (SubF.cons rfl (SubF.cons rfl (SubF.cons rfl SubF.nil)))))))
  · exact (SubS.cons rfl (SubS.cons rfl (SubS.cons rfl (SubS.cons rfl (SubS.cons rfl (SubS.cons rfl SubS.nil))))))
  ·try dsimp only
   exact ⟨by omega, by simp, by rw [visK_y hK, ht]; rw [List.length_append]; omega⟩
  · (try dsimp only); omega
 refine W.exit (E.th (E.th (E.hit (E.to ?_))))
 refine W.draw [⟨[0], [], [], [1]⟩, ⟨[], [], [], []⟩, ⟨[101], [], [], []⟩, ⟨[], [], [], []⟩, ⟨[], [], [], []⟩, ⟨[1], [1], [], []⟩] rfl (by kernel_rfl) (by kernel_rfl) rfl rfl ?_
 refine WH.val (O.ld1 (PtI.ref rfl rfl) rfl Try.underlying80 rfl rfl Taken.no) rfl rfl ?_
 refine WH.val (O.ld1 (PtI.ofU (PtU.fz rfl)) rfl Try.underlying32 rfl rfl Taken.no) rfl rfl ?_
 refine WH.val (O.ld1 (PtI.ref rfl rfl) rfl Try.underlying3 rfl rfl Taken.no) rfl rfl ?_
 refine WH.val (O.idx_fz (i := j) rfl rfl (rfl) (row_get (by omega)) Try.underlying32 hi3 hs3 rfl Taken.no) rfl rfl ?_
 refine WH.val (O.ld1 (PtI.ofU (PtU.fz rfl)) rfl Try.underlying3 rfl rfl Taken.no) rfl rfl ?_
 refine WH.effS (O.mapDelete (kf := (fun a : Int => Value.int .i64 a)) (vf := (fun a : Int => Value.int .i64 a)) (l := mpH nm (h ++ e)) (b := (nm[j]! : Int)) rfl rfl rfl Try.underlying80 (KeyOk.int Try.underlying3) Taken.no) rfl rfl rfl (S' := (1, _) :: _) rfl ?_
 refine WH.nil ?_
 have hkj : k = j + 1 := by omega
 rw [visP_s, ← hkj, ← ht]
 refine E.fin (rs := []) (rn []) (.inr rfl) rfl .nil ?_ ?_ rfl (fixL_spec rfl)
 ·skip
  rfl
 · exact (SubS.cons rfl (SubS.val rfl (by first | rfl | exact sb_mp (mpH_del hnd (by omega) hhl he)) (SubS.cons rfl (SubS.cons rfl (SubS.cons rfl SubS.nil)))))

theorem eachC {n : Nat} {ps : List Pr} {rs : List Ru} {atm nm : List Nat} (hok : (Prob.mk (n : Int) ps rs).ok) (hal : atm.length = n) (N : Nms n atm nm) : ∀ (d j : Nat) (h : List Nat) (s : Nat), j + d = nm.length → h.length = j → s + (visP n ps rs atm nm d j h).length ≤ 1000000 → Con Try.prog 61 [vI (j : Int), .u (.ptr [.sl 1 (nm.map eN)]), .u (.ptr [uI (n : Int), .sl 3 (ps.map ePr), .sl 3 (rs.map eRu)]), .u (.ptr [.sl 1 (atm.map eN)]), .ref 0 0, .ref 2 0, .ref 3 0] [(0, .cells 80 [.own 1]), (1, .mp (mpE (fun a : Int => Value.int .i64 a) (fun a : Int => Value.int .i64 a) (mpH nm h))), (2, .cells 67 [.clo (.func 42) [] [.ref 4 0]]), (3, .cells 96 [.clo (.func 61) [] [.u (.ptr [.sl 1 (nm.map eN)]), .u (.ptr [uI (n : Int), .sl 3 (ps.map ePr), .sl 3 (rs.map eRu)]), .u (.ptr [.sl 1 (atm.map eN)]), .ref 0 0, .ref 2 0, .ref 3 0]]), (4, .cells 3 [.u (uI ((s : Nat) : Int))])] (.tup []) [(0, .cells 80 [.own 1]), (1, .mp (mpE (fun a : Int => Value.int .i64 a) (fun a : Int => Value.int .i64 a) (mpH nm h))), (2, .cells 67 [.clo (.func 42) [] [.ref 4 0]]), (3, .cells 96 [.clo (.func 61) [] [.u (.ptr [.sl 1 (nm.map eN)]), .u (.ptr [uI (n : Int), .sl 3 (ps.map ePr), .sl 3 (rs.map eRu)]), .u (.ptr [.sl 1 (atm.map eN)]), .ref 0 0, .ref 2 0, .ref 3 0]]), (4, .cells 3 [.u (uI (((s + (visP n ps rs atm nm d j h).length) : Nat) : Int))])]
  | 0, j, h, s, h1, h2, hb => eachC_step hok hal N h1 h2 hb (fun d' e => by cases e)
  | d + 1, j, h, s, h1, h2, hb => eachC_step hok hal N h1 h2 hb (fun d' e v t hb2 => by
    obtain rfl : d = d' := by omega
    exact eachC hok hal N d (j + 1) (h ++ [v]) t (by omega) (by rw [List.length_append, h2]; rfl) hb2)

end Go.Proofs.Ytbkbeplddddgeaa
end
section
namespace Go.Proofs.Ytbkbeplddddgeaa
open Go Go.RowKit Go.H Go.D33

theorem hcallOk12 : G.callOk Try.prog 12 = true := by kernel_rfl
theorem hcallOk35 : G.callOk Try.prog 35 = true := by kernel_rfl
theorem hcallOk40 : G.callOk Try.prog 40 = true := by kernel_rfl

theorem eachB0 {n : Nat} {ps : List Pr} {rs : List Ru} (hok : (Prob.mk (n : Int) ps rs).ok) (s : BS) : Con Try.prog 61 [vI 0, .u (.ptr [.sl 1 ((selfs n (atomsL n rs)).map eN)]), .u (.ptr [uI (n : Int), .sl 3 (ps.map ePr), .sl 3 (rs.map eRu)]), .u (.ptr [.sl 1 ((atomsL n rs).map eN)]), .ref 0 0, .ref 2 0, .ref 3 0] [(0, .cells 80 [.own 1]), (1, .mp []), (2, .cells 67 [.clo (.func 36) [] [.ref 4 0, .ref 5 0, .ref 6 0]]), (3, .cells 96 [.clo (.func 61) [] [.u (.ptr [.sl 1 ((selfs n (atomsL n rs)).map eN)]), .u (.ptr [uI (n : Int), .sl 3 (ps.map ePr), .sl 3 (rs.map eRu)]), .u (.ptr [.sl 1 ((atomsL n rs).map eN)]), .ref 0 0, .ref 2 0, .ref 3 0]]), (4, .cells 4 [.u (uB s.any)]), (5, .cells 3 [.u (uI s.most)]), (6, .cells 32 [.u (.sl 1 (s.best.map eN))])] (.tup []) [(0, .cells 80 [.own 1]), (1, .mp []), (2, .cells 67 [.clo (.func 36) [] [.ref 4 0, .ref 5 0, .ref 6 0]]), (3, .cells 96 [.clo (.func 61) [] [.u (.ptr [.sl 1 ((selfs n (atomsL n rs)).map eN)]), .u (.ptr [uI (n : Int), .sl 3 (ps.map ePr), .sl 3 (rs.map eRu)]), .u (.ptr [.sl 1 ((atomsL n rs).map eN)]), .ref 0 0, .ref 2 0, .ref 3 0]]), (4, .cells 4 [.u (uB ((allL n ps rs).foldl (bsF ps) s).any)]), (5, .cells 3 [.u (uI ((allL n ps rs).foldl (bsF ps) s).most)]), (6, .cells 32 [.u (.sl 1 (((allL n ps rs).foldl (bsF ps) s).best.map eN))])] := by
  have hf := hok.1
  have ha := atoms_comp hf
  have h := eachB hok ha.len (atm_nms hf) (selfs n (atomsL n rs)).length 0 [] s (by omega) rfl
  rw [allL_vis hf, show mpH (selfs n (atomsL n rs)) [] = [] by unfold mpH; rw [List.zip_nil_right]; rfl] at h
  exact h

theorem eachC0 {n : Nat} {ps : List Pr} {rs : List Ru} (hok : (Prob.mk (n : Int) ps rs).ok) (s : Nat) (hb : s + (allL n ps rs).length ≤ 1000000) : Con Try.prog 61 [vI 0, .u (.ptr [.sl 1 ((selfs n (atomsL n rs)).map eN)]), .u (.ptr [uI (n : Int), .sl 3 (ps.map ePr), .sl 3 (rs.map eRu)]), .u (.ptr [.sl 1 ((atomsL n rs).map eN)]), .ref 0 0, .ref 2 0, .ref 3 0] [(0, .cells 80 [.own 1]), (1, .mp []), (2, .cells 67 [.clo (.func 42) [] [.ref 4 0]]), (3, .cells 96 [.clo (.func 61) [] [.u (.ptr [.sl 1 ((selfs n (atomsL n rs)).map eN)]), .u (.ptr [uI (n : Int), .sl 3 (ps.map ePr), .sl 3 (rs.map eRu)]), .u (.ptr [.sl 1 ((atomsL n rs).map eN)]), .ref 0 0, .ref 2 0, .ref 3 0]]), (4, .cells 3 [.u (uI ((s : Nat) : Int))])] (.tup []) [(0, .cells 80 [.own 1]), (1, .mp []), (2, .cells 67 [.clo (.func 42) [] [.ref 4 0]]), (3, .cells 96 [.clo (.func 61) [] [.u (.ptr [.sl 1 ((selfs n (atomsL n rs)).map eN)]), .u (.ptr [uI (n : Int), .sl 3 (ps.map ePr), .sl 3 (rs.map eRu)]), .u (.ptr [.sl 1 ((atomsL n rs).map eN)]), .ref 0 0, .ref 2 0, .ref 3 0]]), (4, .cells 3 [.u (uI (((s + (allL n ps rs).length) : Nat) : Int))])] := by
  have hf := hok.1
  have ha := atoms_comp hf
  have h := eachC hok ha.len (atm_nms hf) (selfs n (atomsL n rs)).length 0 [] s (by omega) rfl (by rw [allL_vis hf]; exact hb)
  rw [allL_vis hf, show mpH (selfs n (atomsL n rs)) [] = [] by unfold mpH; rw [List.zip_nil_right]; rfl] at h
  exact h

set_option maxRecDepth 8000 in
theorem each3_ok {n : Nat} {ps : List Pr} {rs : List Ru} {s : BS} (hok : (Prob.mk (n : Int) ps rs).ok) (h8 : (selfs n (atomsL n rs)).length ≤ 8) :
    Con Try.prog 35 [vA [uI (n : Int), .sl 3 (ps.map ePr), .sl 3 (rs.map eRu)], .clo (.func 36) [] [.ref 0 0, .ref 1 0, .ref 2 0]] [(0, .cells 4 [.u (uB s.any)]), (1, .cells 3 [.u (uI s.most)]), (2, .cells 32 [.u (.sl 1 (s.best.map eN))])] (vI 0) [(0, .cells 4 [.u (uB ((allL n ps rs).foldl (bsF ps) s).any)]), (1, .cells 3 [.u (uI ((allL n ps rs).foldl (bsF ps) s).most)]), (2, .cells 32 [.u (.sl 1 (((allL n ps rs).foldl (bsF ps) s).best.map eN))])] := by
 refine Con.enterL (n := 28) Try.func35 rfl rfl rfl (fun τ w ok vs hin => ?_)
 have hl0_1 := hin.lenA (i := 0) (j := 1) rfl rfl
 try rw [List.length_map] at hl0_1
 have hl0_2 := hin.lenA (i := 0) (j := 2) rfl rfl
 try rw [List.length_map] at hl0_2
 clear hin
 refine W.rg ?_
 refine SL.memS (O.box (is := [_, _, _]) 101 rfl rfl (by simp) rfl rfl Taken.no) rfl rfl (S' := (101, _) :: _) rfl ?_
 refine SL.memS (O.box (is := [_]) 102 rfl rfl (by simp) rfl rfl Taken.no) rfl rfl (S' := (102, _) :: _) rfl ?_
 refine SL.an rfl rfl (E.fo (W.rg ?_))
 refine SL.val (O.ldN (m := 3) (PtI.ref rfl rfl) (js := [_, _, _]) rfl (Nat.le_of_ble_eq_true rfl) Try.underlying30 rfl (by kernel_rfl) rfl Taken.no) ?_
 refine SL.memS (O.call (rn []) [] rfl rfl rfl (atomsOf_ok hok) (.cons (ArgOk.aggU (.cons (ArgOk.same rfl) (.cons (ArgOk.same rfl) (.cons (ArgOk.same rfl) .nil)))) .nil) SubS.nil rfl rfl rfl rfl rfl (.inl rfl) hcallOk40 (r' := .tup [.u _, .u _, .u _]) rfl rfl Taken.no) rfl rfl (S' := _) rfl ?_
 refine SL.mv rfl rfl ?_
 refine SL.val (O.extract rfl rfl rfl Taken.no) ?_
 refine SL.val (O.extract rfl rfl rfl Taken.no) ?_
 refine SL.val (O.extract rfl rfl rfl Taken.no) ?_
 refine SL.memS (O.alloc (z := .slice none 0 0) (is := [.u (.sc (.slice none 0 0))]) 103 (by kernel_rfl) rfl rfl rfl Taken.no) rfl rfl (S' := (103, _) :: _) rfl ?_
 refine SL.memS (O.alloc (z := .slice none 0 0) (is := [.u (.sc (.slice none 0 0))]) 104 (by kernel_rfl) rfl rfl rfl Taken.no) rfl rfl (S' := (104, _) :: _) rfl ?_
 refine SL.effS (O.st_ref (m := 1) rfl rfl rfl (js := [_]) rfl rfl (by kernel_rfl) (by simp) (Nat.le_of_ble_eq_true rfl) rfl (is' := [_]) rfl Taken.no) (S' := (103, _) :: _) rfl ?_
 refine SL.effS (O.st_ref (m := 1) rfl rfl rfl (js := [_]) rfl rfl (by kernel_rfl) (by simp) (Nat.le_of_ble_eq_true rfl) rfl (is' := [_]) rfl Taken.no) (S' := (104, _) :: _) rfl ?_
 refine SL.an rfl rfl (E.fo (W.seq (W.block (W.rg (SL.mv rfl rfl ?_)))))
 refine SL.val (O.det (fun _ => G.R.mv (G.R.neq rfl rfl) (congrArg Value.bool (decide_eq_false (by decide)))) rfl Taken.no) ?_
 refine SL.an rfl rfl (E.fo ?_)
 refine W.cond_f rfl ?_
 refine W.rg ?_
 refine SL.val (O.ld1 (PtI.ref rfl rfl) rfl Try.underlying32 rfl rfl Taken.no) ?_
 refine SL.val (O.lenE (SlOf.fz rfl (by decide)) (by first | exact List.length_map _ | rfl) Try.underlying32 rfl Taken.no) ?_
 refine SL.val (O.det (fun _ => G.R.mv (G.R.gtr rfl rfl) (congrArg Value.bool (decide_eq_false (by omega)))) rfl Taken.no) ?_
 refine SL.an rfl rfl (E.fo ?_)
 refine W.cond_f rfl ?_
 refine W.skip (E.inn (E.to (W.rg ?_)))
 refine SL.memS (O.makeMap 105 rfl Taken.no) rfl rfl (S' := (105, .mp []) :: _) rfl ?_
 refine SL.memS (O.alloc (z := .map none) (is := [.u (.sc (.map none))]) 106 (by kernel_rfl) rfl rfl rfl Taken.no) rfl rfl (S' := (106, _) :: _) rfl ?_
 refine SL.effS (O.st_ref (m := 1) rfl rfl rfl (js := [_]) rfl rfl (by kernel_rfl) (by simp) (Nat.le_of_ble_eq_true rfl) rfl (is' := [_]) rfl Taken.no) (S' := (106, _) :: _) rfl ?_
 refine E.fo (W.rg ?_)
 refine SL.memS (O.alloc (z := .nilFunc) (is := [.u (.sc (.nilFunc))]) 107 (by kernel_rfl) rfl rfl rfl Taken.no) rfl rfl (S' := (107, _) :: _) rfl ?_
 refine E.fo (W.rg ?_)
 refine SL.freezeP ([_]) 104 rfl (by rfl) (F' := [(6, _)]) (⟨⟨_, rfl, rfl⟩, trivial⟩) ?_
 refine SL.freezeP ([_, _, _]) 101 rfl (by rfl) (F' := [(2, _)]) (⟨⟨_, rfl, rfl⟩, trivial⟩) ?_
 refine SL.freezeP ([_]) 103 rfl (by rfl) (F' := [(5, _)]) (⟨⟨_, rfl, rfl⟩, trivial⟩) ?_
 refine SL.val (O.makeFunc rfl rfl rfl Taken.no) ?_
 refine SL.effS (O.st_ref (m := 1) rfl rfl rfl (js := [_]) rfl rfl (by kernel_rfl) (by simp) (Nat.le_of_ble_eq_true rfl) rfl (is' := [_]) rfl Taken.no) (S' := (107, _) :: _) rfl ?_
 refine E.fo ?_
 refine W.pick (K:=[(4,_),(9,_)]) (Z:=[(0,_),(1,_),(2,_),(102,_),(105,_),(106,_),(107,_)]) ⟨rfl,rfl,trivial⟩ ⟨rfl,rfl,rfl,rfl,rfl,rfl,rfl,trivial⟩ ?_
 refine W.rg ?_
 refine SL.val (O.ld1 (PtI.ref rfl rfl) rfl Try.underlying96 rfl rfl Taken.no) ?_
 refine SL.memS (O.call (rn [(0, 106), (1, 105), (2, 102), (3, 107), (4, 0), (5, 1), (6, 2)]) [] rfl rfl rfl (eachB0 hok s) (.cons (ArgOk.same rfl) (.cons (ArgOk.same rfl) (.cons (ArgOk.same rfl) (.cons (ArgOk.same rfl) (.cons (ArgOk.same rfl) (.cons (ArgOk.same rfl) (.cons (ArgOk.same rfl) .nil))))))) (SubS.cons rfl (SubS.cons rfl (SubS.cons rfl (SubS.cons rfl (SubS.cons rfl (SubS.cons rfl (SubS.cons rfl SubS.nil))))))) rfl rfl rfl rfl rfl (.inl rfl) hcallOk61 (r' := .tup []) rfl rfl Taken.no) rfl rfl (S' := (106, .cells _ [.own 105]) :: (105, .mp _) :: (102, .cells _ [_]) :: (107, .cells _ [_]) :: (0, .cells _ [.u _]) :: (1, .cells _ [.u _]) :: (2, .cells _ [.u _]) :: _) rfl ?_
 refine E.fo (W.rg (SL.an rfl rfl (E.fo (W.ret ?_))))
 refine E.fin (rs := [_]) (rn []) (.inl rfl) rfl (.cons (ResOne.tmp rfl) .nil) ?_ ?_ rfl (fixL_spec rfl)
 ·skip
  rfl
 · exact (SubS.cons rfl (SubS.cons rfl (SubS.cons rfl SubS.nil)))



set_option maxRecDepth 8000 in
theorem each1_ok {n : Nat} {ps : List Pr} {rs : List Ru} {s : Nat} (hok : (Prob.mk (n : Int) ps rs).ok) (h8 : (selfs n (atomsL n rs)).length ≤ 8) (hb : s + (allL n ps rs).length ≤ 1000000) :
    Con Try.prog 35 [vA [uI (n : Int), .sl 3 (ps.map ePr), .sl 3 (rs.map eRu)], .clo (.func 42) [] [.ref 0 0]] [(0, .cells 3 [.u (uI ((s : Nat) : Int))])] (vI 0) [(0, .cells 3 [.u (uI (((s + (allL n ps rs).length) : Nat) : Int))])] := by
 refine Con.enterL (n := 28) Try.func35 rfl rfl rfl (fun τ w ok vs hin => ?_)
 have hl0_1 := hin.lenA (i := 0) (j := 1) rfl rfl
 try rw [List.length_map] at hl0_1
 have hl0_2 := hin.lenA (i := 0) (j := 2) rfl rfl
 try rw [List.length_map] at hl0_2
 clear hin
 refine W.rg ?_
 refine SL.memS (O.box (is := [_, _, _]) 101 rfl rfl (by simp) rfl rfl Taken.no) rfl rfl (S' := (101, _) :: _) rfl ?_
 refine SL.memS (O.box (is := [_]) 102 rfl rfl (by simp) rfl rfl Taken.no) rfl rfl (S' := (102, _) :: _) rfl ?_
 refine SL.an rfl rfl (E.fo (W.rg ?_))
 refine SL.val (O.ldN (m := 3) (PtI.ref rfl rfl) (js := [_, _, _]) rfl (Nat.le_of_ble_eq_true rfl) Try.underlying30 rfl (by kernel_rfl) rfl Taken.no) ?_
 refine SL.memS (O.call (rn []) [] rfl rfl rfl (atomsOf_ok hok) (.cons (ArgOk.aggU (.cons (ArgOk.same rfl) (.cons (ArgOk.same rfl) (.cons (ArgOk.same rfl) .nil)))) .nil) SubS.nil rfl rfl rfl rfl rfl (.inl rfl) hcallOk40 (r' := .tup [.u _, .u _, .u _]) rfl rfl Taken.no) rfl rfl (S' := _) rfl ?_
 refine SL.mv rfl rfl ?_
 refine SL.val (O.extract rfl rfl rfl Taken.no) ?_
 refine SL.val (O.extract rfl rfl rfl Taken.no) ?_
 refine SL.val (O.extract rfl rfl rfl Taken.no) ?_
 refine SL.memS (O.alloc (z := .slice none 0 0) (is := [.u (.sc (.slice none 0 0))]) 103 (by kernel_rfl) rfl rfl rfl Taken.no) rfl rfl (S' := (103, _) :: _) rfl ?_
 refine SL.memS (O.alloc (z := .slice none 0 0) (is := [.u (.sc (.slice none 0 0))]) 104 (by kernel_rfl) rfl rfl rfl Taken.no) rfl rfl (S' := (104, _) :: _) rfl ?_
 refine SL.effS (O.st_ref (m := 1) rfl rfl rfl (js := [_]) rfl rfl (by kernel_rfl) (by simp) (Nat.le_of_ble_eq_true rfl) rfl (is' := [_]) rfl Taken.no) (S' := (103, _) :: _) rfl ?_
 refine SL.effS (O.st_ref (m := 1) rfl rfl rfl (js := [_]) rfl rfl (by kernel_rfl) (by simp) (Nat.le_of_ble_eq_true rfl) rfl (is' := [_]) rfl Taken.no) (S' := (104, _) :: _) rfl ?_
 refine SL.an rfl rfl (E.fo (W.seq (W.block (W.rg (SL.mv rfl rfl ?_)))))
 refine SL.val (O.det (fun _ => G.R.mv (G.R.neq rfl rfl) (congrArg Value.bool (decide_eq_false (by decide)))) rfl Taken.no) ?_
 refine SL.an rfl rfl (E.fo ?_)
 refine W.cond_f rfl ?_
 refine W.rg ?_
 refine SL.val (O.ld1 (PtI.ref rfl rfl) rfl Try.underlying32 rfl rfl Taken.no) ?_
 refine SL.val (O.lenE (SlOf.fz rfl (by decide)) (by first | exact List.length_map _ | rfl) Try.underlying32 rfl Taken.no) ?_
 refine SL.val (O.det (fun _ => G.R.mv (G.R.gtr rfl rfl) (congrArg Value.bool (decide_eq_false (by omega)))) rfl Taken.no) ?_
 refine SL.an rfl rfl (E.fo ?_)
 refine W.cond_f rfl ?_
 refine W.skip (E.inn (E.to (W.rg ?_)))
 refine SL.memS (O.makeMap 105 rfl Taken.no) rfl rfl (S' := (105, .mp []) :: _) rfl ?_
 refine SL.memS (O.alloc (z := .map none) (is := [.u (.sc (.map none))]) 106 (by kernel_rfl) rfl rfl rfl Taken.no) rfl rfl (S' := (106, _) :: _) rfl ?_
 refine SL.effS (O.st_ref (m := 1) rfl rfl rfl (js := [_]) rfl rfl (by kernel_rfl) (by simp) (Nat.le_of_ble_eq_true rfl) rfl (is' := [_]) rfl Taken.no) (S' := (106, _) :: _) rfl ?_
 refine E.fo (W.rg ?_)
 refine SL.memS (O.alloc (z := .nilFunc) (is := [.u (.sc (.nilFunc))]) 107 (by kernel_rfl) rfl rfl rfl Taken.no) rfl rfl (S' := (107, _) :: _) rfl ?_
 refine E.fo (W.rg ?_)
 refine SL.freezeP ([_]) 104 rfl (by rfl) (F' := [(6, _)]) (⟨⟨_, rfl, rfl⟩, trivial⟩) ?_
 refine SL.freezeP ([_, _, _]) 101 rfl (by rfl) (F' := [(2, _)]) (⟨⟨_, rfl, rfl⟩, trivial⟩) ?_
 refine SL.freezeP ([_]) 103 rfl (by rfl) (F' := [(5, _)]) (⟨⟨_, rfl, rfl⟩, trivial⟩) ?_
 refine SL.val (O.makeFunc rfl rfl rfl Taken.no) ?_
 refine SL.effS (O.st_ref (m := 1) rfl rfl rfl (js := [_]) rfl rfl (by kernel_rfl) (by simp) (Nat.le_of_ble_eq_true rfl) rfl (is' := [_]) rfl Taken.no) (S' := (107, _) :: _) rfl ?_
 refine E.fo ?_
 refine W.pick (K:=[(4,_),(9,_)]) (Z:=[(0,_),(102,_),(105,_),(106,_),(107,_)]) ⟨rfl,rfl,trivial⟩ ⟨rfl,rfl,rfl,rfl,rfl,trivial⟩ ?_
 refine W.rg ?_
 refine SL.val (O.ld1 (PtI.ref rfl rfl) rfl Try.underlying96 rfl rfl Taken.no) ?_
 refine SL.memS (O.call (rn [(0, 106), (1, 105), (2, 102), (3, 107), (4, 0)]) [] rfl rfl rfl (eachC0 hok s hb) (.cons (ArgOk.same rfl) (.cons (ArgOk.same rfl) (.cons (ArgOk.same rfl) (.cons (ArgOk.same rfl) (.cons (ArgOk.same rfl) (.cons (ArgOk.same rfl) (.cons (ArgOk.same rfl) .nil))))))) (SubS.cons rfl (SubS.cons rfl (SubS.cons rfl (SubS.cons rfl (SubS.cons rfl SubS.nil))))) rfl rfl rfl rfl rfl (.inl rfl) hcallOk61 (r' := .tup []) rfl rfl Taken.no) rfl rfl (S' := (106, .cells _ [.own 105]) :: (105, .mp _) :: (102, .cells _ [_]) :: (107, .cells _ [_]) :: (0, .cells _ [.u _]) :: _) rfl ?_
 refine E.fo (W.rg (SL.an rfl rfl (E.fo (W.ret ?_))))
 refine E.fin (rs := [_]) (rn []) (.inl rfl) rfl (.cons (ResOne.tmp rfl) .nil) ?_ ?_ rfl (fixL_spec rfl)
 ·skip
  rfl
 · exact (SubS.cons rfl SubS.nil)



set_option maxRecDepth 8000 in
theorem bestC_ok {n : Nat} {ps : List Pr} {rs : List Ru} (hok : (Prob.mk (n : Int) ps rs).ok) (h8 : (selfs n (atomsL n rs)).length ≤ 8) :
    Con Try.prog 12 [vA [uI (n : Int), .sl 3 (ps.map ePr), .sl 3 (rs.map eRu)]] [] (.tup [vL 1 ((stB n ps rs).best.map eN), vI (stB n ps rs).most, vI 0]) [] := by
 refine Con.enterL (n := 17) Try.func12 rfl rfl rfl (fun τ w ok vs hin => ?_)
 have hl0_1 := hin.lenA (i := 0) (j := 1) rfl rfl
 try rw [List.length_map] at hl0_1
 have hl0_2 := hin.lenA (i := 0) (j := 2) rfl rfl
 try rw [List.length_map] at hl0_2
 clear hin
 refine W.rg ?_
 refine SL.memS (O.box (is := [_, _, _]) 101 rfl rfl (by simp) rfl rfl Taken.no) rfl rfl (S' := (101, _) :: _) rfl ?_
 refine SL.an rfl rfl (SL.an rfl rfl (SL.an rfl rfl (E.fo (W.rg ?_))))
 refine SL.memS (O.alloc (z := .slice none 0 0) (is := [.u (.sc (.slice none 0 0))]) 102 (by kernel_rfl) rfl rfl rfl Taken.no) rfl rfl (S' := (102, _) :: _) rfl ?_
 refine E.fo (W.rg ?_)
 refine SL.memS (O.alloc (z := .int .i64 0) (is := [.u (.sc (.int .i64 0))]) 103 (by kernel_rfl) rfl rfl rfl Taken.no) rfl rfl (S' := (103, _) :: _) rfl ?_
 refine SL.memS (O.alloc (z := .bool false) (is := [.u (.sc (.bool false))]) 104 (by kernel_rfl) rfl rfl rfl Taken.no) rfl rfl (S' := (104, _) :: _) rfl ?_
 refine SL.effS (O.st_ref (m := 1) rfl rfl rfl (js := [_]) rfl rfl (by kernel_rfl) (by simp) (Nat.le_of_ble_eq_true rfl) rfl (is' := [_]) rfl Taken.no) (S' := (103, _) :: _) rfl ?_
 refine SL.effS (O.st_ref (m := 1) rfl rfl rfl (js := [_]) rfl rfl (by kernel_rfl) (by simp) (Nat.le_of_ble_eq_true rfl) rfl (is' := [_]) rfl Taken.no) (S' := (104, _) :: _) rfl ?_
 refine E.fo (W.rg ?_)
 refine SL.val (O.ldN (m := 3) (PtI.ref rfl rfl) (js := [_, _, _]) rfl (Nat.le_of_ble_eq_true rfl) Try.underlying30 rfl (by kernel_rfl) rfl Taken.no) ?_
 refine SL.nilslC 102 0 1 (is' := [_]) rfl rfl rfl ?_
 refine SL.val (O.makeFunc rfl rfl rfl Taken.no) ?_
 refine SL.memS (O.call (rn [(0, 104), (1, 103), (2, 102)]) [] rfl rfl rfl (each3_ok (s := ⟨false, 0, []⟩) hok h8) (.cons (ArgOk.aggU (.cons (ArgOk.same rfl) (.cons (ArgOk.same rfl) (.cons (ArgOk.same rfl) .nil)))) (.cons (ArgOk.same rfl) .nil)) (SubS.cons rfl (SubS.cons rfl (SubS.cons rfl SubS.nil))) rfl rfl rfl rfl rfl (.inl rfl) hcallOk35 (r' := .u _) rfl rfl Taken.no) rfl rfl (S' := (104, .cells _ [.u _]) :: (103, .cells _ [.u _]) :: (102, .cells _ [.u _]) :: _) rfl ?_
 refine SL.an rfl rfl (E.fo (W.seq (W.rg (SL.mv rfl rfl ?_))))
 refine SL.val (O.det (fun _ => G.R.mv (G.R.neq rfl rfl) (congrArg Value.bool (decide_eq_false (by decide)))) rfl Taken.no) ?_
 refine E.fo ?_
 refine W.cond_f rfl ?_
 refine W.skip (E.to (W.seq ?_))
 refine W.draw [⟨[102], [], [], []⟩, ⟨[103], [], [], []⟩, ⟨[], [], [], []⟩, ⟨[], [], [], []⟩, ⟨[], [], [], []⟩] rfl (by kernel_rfl) (by kernel_rfl) rfl rfl ?_
 refine WH.val (O.ld1 (PtI.ref rfl rfl) rfl Try.underlying32 rfl rfl Taken.no) rfl rfl ?_
 refine WH.val (O.ld1 (PtI.ref rfl rfl) rfl Try.underlying3 rfl rfl Taken.no) rfl rfl ?_
 refine WH.val (O.assign rfl rfl Taken.no) rfl rfl ?_
 refine WH.val (O.assign rfl rfl Taken.no) rfl rfl ?_
 refine WH.val (O.assign rfl rfl Taken.no) rfl rfl ?_
 refine WH.nil (E.to (W.ret ?_))
 refine E.fin (rs := [_, _, _]) (rn []) (.inl rfl) rfl (.cons (ResOne.tmp rfl) (.cons (ResOne.tmp rfl) (.cons (ResOne.tmp rfl) .nil))) ?_ ?_ rfl (fixL_spec rfl)
 ·skip
  rfl
 · exact SubS.nil



set_option maxRecDepth 8000 in
theorem countC_ok {n : Nat} {ps : List Pr} {rs : List Ru} (hok : (Prob.mk (n : Int) ps rs).ok) (h8 : (selfs n (atomsL n rs)).length ≤ 8) (hb : (allL n ps rs).length ≤ 1000000) :
    Con Try.prog 16 [vA [uI (n : Int), .sl 3 (ps.map ePr), .sl 3 (rs.map eRu)]] [] (.tup [vI ((allL n ps rs).length : Int), vI 0]) [] := by
 refine Con.enterL (n := 13) Try.func16 rfl rfl rfl (fun τ w ok vs hin => ?_)
 have hl0_1 := hin.lenA (i := 0) (j := 1) rfl rfl
 try rw [List.length_map] at hl0_1
 have hl0_2 := hin.lenA (i := 0) (j := 2) rfl rfl
 try rw [List.length_map] at hl0_2
 clear hin
 refine W.rg ?_
 refine SL.memS (O.box (is := [_, _, _]) 101 rfl rfl (by simp) rfl rfl Taken.no) rfl rfl (S' := (101, _) :: _) rfl ?_
 refine SL.an rfl rfl (SL.an rfl rfl (E.fo (W.rg ?_)))
 refine SL.memS (O.alloc (z := .int .i64 0) (is := [.u (.sc (.int .i64 0))]) 102 (by kernel_rfl) rfl rfl rfl Taken.no) rfl rfl (S' := (102, _) :: _) rfl ?_
 refine SL.effS (O.st_ref (m := 1) rfl rfl rfl (js := [_]) rfl rfl (by kernel_rfl) (by simp) (Nat.le_of_ble_eq_true rfl) rfl (is' := [_]) rfl Taken.no) (S' := (102, _) :: _) rfl ?_
 refine E.fo (W.rg ?_)
 refine SL.val (O.ldN (m := 3) (PtI.ref rfl rfl) (js := [_, _, _]) rfl (Nat.le_of_ble_eq_true rfl) Try.underlying30 rfl (by kernel_rfl) rfl Taken.no) ?_
 refine SL.val (O.makeFunc rfl rfl rfl Taken.no) ?_
 refine SL.memS (O.call (rn [(0, 102)]) [] rfl rfl rfl (each1_ok (s := 0) hok h8 (by omega)) (.cons (ArgOk.aggU (.cons (ArgOk.same rfl) (.cons (ArgOk.same rfl) (.cons (ArgOk.same rfl) .nil)))) (.cons (ArgOk.same rfl) .nil)) (SubS.cons rfl SubS.nil) rfl rfl rfl rfl rfl (.inl rfl) hcallOk35 (r' := .u _) rfl rfl Taken.no) rfl rfl (S' := (102, .cells _ [.u _]) :: _) rfl ?_
 refine SL.an rfl rfl (E.fo (W.seq (W.rg (SL.mv rfl rfl ?_))))
 refine SL.val (O.det (fun _ => G.R.mv (G.R.neq rfl rfl) (congrArg Value.bool (decide_eq_false (by decide)))) rfl Taken.no) ?_
 refine E.fo ?_
 refine W.cond_f rfl ?_
 refine W.skip (E.to (W.rg ?_))
 refine SL.val (O.ld1 (PtI.ref rfl rfl) rfl Try.underlying3 rfl rfl Taken.no) ?_
 refine SL.an rfl rfl (SL.an rfl rfl (E.fo (W.ret ?_)))
 refine E.fin (rs := [_, _]) (rn []) (.inl rfl) rfl (.cons (ResOne.tmp rfl) (.cons (ResOne.tmp rfl) .nil)) ?_ ?_ rfl (fixL_spec rfl)
 ·skip
  rw [Nat.zero_add]; rfl
 · exact SubS.nil



set_option maxRecDepth 8000 in
theorem boundC_ok {n : Nat} {ps : List Pr} {rs : List Ru} (hok : (Prob.mk (n : Int) ps rs).ok) (hpl : ps.length ≤ 1000000) :
    Con Try.prog 14 [vA [uI (n : Int), .sl 3 (ps.map ePr), .sl 3 (rs.map eRu)]] [] (.tup [vI (bndL rs (atomsL n rs) ps), vI 0]) [] := by
 have hf := hok.1
 have hn2 : (n : Int) ≤ 200 := hf.2.1
 have hal := (atoms_comp hf).len
 have hbb := bnd_b (rs := rs) (atm := atomsL n rs) (fun x hx => by have q := pr_in hf hx; unfold prOk at q; omega)
 obtain ⟨i3, hi3, hz3, hs3, hb3⟩ := hinf3
 obtain ⟨i61, hi61, hz61, hs61, hb61⟩ := hinf61
 refine Con.enterL (n := 60) Try.func14 rfl rfl rfl (fun τ w ok vs hin => ?_)
 have hl0_1 := hin.lenA (i := 0) (j := 1) rfl rfl
 try rw [List.length_map] at hl0_1
 have hl0_2 := hin.lenA (i := 0) (j := 2) rfl rfl
 try rw [List.length_map] at hl0_2
 clear hin
 refine W.rg ?_
 refine SL.memS (O.box (is := [_, _, _]) 101 rfl rfl (by simp) rfl rfl Taken.no) rfl rfl (S' := (101, _) :: _) rfl ?_
 refine SL.an rfl rfl (SL.an rfl rfl (E.fo (W.rg ?_)))
 refine SL.val (O.ldN (m := 3) (PtI.ref rfl rfl) (js := [_, _, _]) rfl (Nat.le_of_ble_eq_true rfl) Try.underlying30 rfl (by kernel_rfl) rfl Taken.no) ?_
 refine SL.memS (O.call (rn []) [] rfl rfl rfl (atomsOf_ok hok) (.cons (ArgOk.aggU (.cons (ArgOk.same rfl) (.cons (ArgOk.same rfl) (.cons (ArgOk.same rfl) .nil)))) .nil) SubS.nil rfl rfl rfl rfl rfl (.inl rfl) hcallOk40 (r' := .tup [.u _, .u _, .u _]) rfl rfl Taken.no) rfl rfl (S' := _) rfl ?_
 refine SL.mv rfl rfl ?_
 refine SL.val (O.extract rfl rfl rfl Taken.no) ?_
 refine SL.val (O.extract rfl rfl rfl Taken.no) ?_
 refine SL.val (O.extract rfl rfl rfl Taken.no) ?_
 refine SL.an rfl rfl (SL.an rfl rfl (SL.an rfl rfl (E.fo (W.seq (W.rg (SL.mv rfl rfl ?_))))))
 refine SL.val (O.det (fun _ => G.R.mv (G.R.neq rfl rfl) (congrArg Value.bool (decide_eq_false (by decide)))) rfl Taken.no) ?_
 refine E.fo ?_
 refine W.cond_f rfl ?_
 refine W.skip (E.to (W.rg (SL.an rfl rfl (E.fo (W.seq (W.rg ?_))))))
 refine SL.val (O.fld_ref (o' := 1) rfl Try.underlying30 rfl (m := 0) (by kernel_rfl) rfl rfl Taken.no) ?_
 refine SL.val (O.ld1 (PtI.ref rfl rfl) rfl Try.underlying28 rfl rfl Taken.no) ?_
 refine SL.val (O.lenE (SlOf.fz rfl (by decide)) (by first | exact List.length_map _ | rfl) Try.underlying28 rfl Taken.no) ?_
 refine SL.mv rfl rfl (E.fo (W.block ?_))
 refine W.loopx1 (fun (k : Nat) => [(24, vI (k : Int)), (7, vI (bndL rs (atomsL n rs) (ps.take k)))]) (fun (k : Nat) => []) (fun (k : Nat) => k ≤ ps.length) (fun (k : Nat) => ps.length - k) (0) (rn []) (.cons (t := 1) rfl (.cons (t := 2) rfl (.cons (t := 3) rfl (.cons (t := 4) rfl (.cons (t := 22) rfl (.cons (t := 23) rfl .nil)))))) (.cons (t := 101) rfl .nil) rfl ?_ ?_ rfl rfl ?_ ?_
 · exact (SubF.cons rfl (SubF.cons rfl SubF.nil))
 · exact SubS.nil
 ·skip
  omega
 intro k hinv
 have hk := hinv
 have hbk := hbb k hk
 refine W.rg ?_
 refine SL.val (O.det (fun _ => G.R.lss rfl rfl) rfl Taken.no) ?_
 refine E.fo (W.seq ?_)
 first | refine W.cond_d rfl (fun hc1 => ?_) (fun hc1 => ?_) | refine W.cond_nd rfl (fun hc1 => ?_) (fun hc1 => ?_) | refine W.cond rfl (fun hc1 => ?_) (fun hc1 => ?_)
 ·skip
  have hpk : prOk (n : Int) ps[k]! := pr_in hf (mem_at (by omega))
  unfold prOk at hpk
  refine W.skip (E.to (W.seq (W.block (W.rg ?_))))
  refine SL.val (O.idx_fz rfl rfl (rfl) (row_get (by omega)) Try.underlying28 hi61 hs61 rfl Taken.no) ?_
  refine SL.val (O.ldU (m := 3) (PtU.fz rfl) rfl Try.underlying61 rfl (by kernel_rfl) rfl Taken.no) ?_
  refine SL.memS (O.alloc (z := .agg #[.int .i64 0, .int .i64 0, .int .i64 0]) (is := [.u (.sc (.int .i64 0)), .u (.sc (.int .i64 0)), .u (.sc (.int .i64 0))]) 102 (by kernel_rfl) rfl rfl rfl Taken.no) rfl rfl (S' := (102, _) :: _) rfl ?_
  refine SL.effS (O.st_ref (m := 3) rfl rfl rfl (js := [_, _, _]) rfl rfl (by kernel_rfl) (by simp) (Nat.le_of_ble_eq_true rfl) rfl (is' := [_, _, _]) rfl Taken.no) (S' := (102, _) :: _) rfl ?_
  refine E.fo (W.seq ?_)
  refine W.draw [⟨[], [], [], []⟩, ⟨[], [], [], [102]⟩, ⟨[102], [], [], []⟩, ⟨[], [], [], []⟩, ⟨[], [], [], []⟩, ⟨[], [], [], []⟩, ⟨[], [], [], [102]⟩, ⟨[102], [], [], []⟩, ⟨[], [], [], []⟩, ⟨[], [], [], []⟩, ⟨[], [], [], []⟩, ⟨[], [], [], []⟩] rfl (by kernel_rfl) (by kernel_rfl) rfl rfl ?_
  refine WH.mv rfl rfl rfl ?_
  refine WH.val (O.fld_ref (o' := 0) rfl Try.underlying61 rfl (m := 0) (by kernel_rfl) rfl rfl Taken.no) rfl rfl ?_
  refine WH.val (O.ld1 (PtI.ref rfl rfl) rfl Try.underlying3 rfl rfl Taken.no) rfl rfl ?_
  refine WH.val (O.idx_fz (i := ps[k]!.a.toNat) rfl rfl (by omega) (row_get (by omega)) Try.underlying32 hi3 hs3 rfl Taken.no) rfl rfl ?_
  refine WH.val (O.ld1 (PtI.ofU (PtU.fz rfl)) rfl Try.underlying3 rfl rfl Taken.no) rfl rfl ?_
  refine WH.mv rfl rfl rfl ?_
  refine WH.val (O.fld_ref (o' := 1) rfl Try.underlying61 rfl (m := 0) (by kernel_rfl) rfl rfl Taken.no) rfl rfl ?_
  refine WH.val (O.ld1 (PtI.ref rfl rfl) rfl Try.underlying3 rfl rfl Taken.no) rfl rfl ?_
  refine WH.val (O.idx_fz (i := ps[k]!.b.toNat) rfl rfl (by omega) (row_get (by omega)) Try.underlying32 hi3 hs3 rfl Taken.no) rfl rfl ?_
  refine WH.val (O.ld1 (PtI.ofU (PtU.fz rfl)) rfl Try.underlying3 rfl rfl Taken.no) rfl rfl ?_
  refine WH.val (O.assign rfl rfl Taken.no) rfl rfl ?_
  refine WH.val (O.assign rfl rfl Taken.no) rfl rfl ?_
  refine WH.nil (E.to (W.rg (SL.mv rfl rfl (SL.mv rfl rfl ?_))))
  refine SL.val (O.det (fun _ => G.R.eql rfl rfl) rfl Taken.no) ?_
  refine SL.mv rfl rfl ?_
  refine SL.case (j := 3) (g := 41) (want := false) rfl rfl (fun hg2 => ?_) (fun hg2 => ?_)
  ·skip
   first | have hg2p := G.gA3 hg2 | have hg2p := G.gA4 hg2 | have hg2p := hg2
   refine SL.val (O.fld_ref (o' := 2) rfl Try.underlying61 rfl (m := 0) (by kernel_rfl) rfl rfl (Taken.yes rfl rfl hg2)) ?_
   refine SL.val (O.ld1 (PtI.ref rfl rfl) rfl Try.underlying3 rfl rfl (Taken.yes rfl rfl hg2)) ?_
   refine SL.val (O.det (fun _ => G.R.gtr rfl rfl) rfl (Taken.yes rfl rfl hg2)) ?_
   refine SL.val (O.move rfl rfl (Taken.yes rfl rfl hg2)) ?_
   refine SL.case (j := 7) (g := 45) (want := true) rfl rfl (fun hg3 => ?_) (fun hg3 => ?_)
   ·skip
    first | have hg3p := G.gA1 hg3 | have hg3p := G.gA2 hg3 | have hg3p := hg3
    refine SL.val (O.ldN (m := 3) (PtI.ref rfl rfl) (js := [_, _, _]) rfl (Nat.le_of_ble_eq_true rfl) Try.underlying30 rfl (by kernel_rfl) rfl (Taken.yes rfl rfl hg3)) ?_
    refine SL.val (O.move rfl rfl (Taken.yes rfl rfl hg3)) ?_
    refine SL.val (O.move rfl rfl (Taken.yes rfl rfl hg3)) ?_
    refine SL.val (O.move rfl rfl (Taken.yes rfl rfl hg3)) ?_
    refine SL.val (O.callp rfl rfl rfl (barred_h (atm := atomsL n rs) (a := (atomsL n rs)[ps[k]!.a.toNat]!) (b := (atomsL n rs)[ps[k]!.b.toNat]!) hf hal) (.cons (ArgOk.aggU (.cons (ArgOk.same rfl) (.cons (ArgOk.same rfl) (.cons (ArgOk.same rfl) .nil)))) (.cons (ArgOk.same rfl) (.cons (ArgOk.same rfl) (.cons (ArgOk.same rfl) .nil)))) hcallOk41 rfl (Taken.yes rfl rfl hg3)) ?_
    refine SL.val (O.det (fun _ => G.R.not rfl) rfl (Taken.yes rfl rfl hg3)) ?_
    refine SL.val (O.pick_t rfl hg3 rfl rfl (Taken.yes rfl rfl hg2)) ?_
    refine SL.val (O.pick_f rfl hg2 rfl rfl Taken.no) ?_
    refine E.fo ?_
    refine W.pick (K:=[(1,_),(2,_),(3,_),(4,_),(7,_),(9,_),(22,_),(23,_),(24,_),(53,_)]) (Z:=[(101,_),(102,_)]) ⟨rfl,rfl,rfl,rfl,rfl,rfl,rfl,rfl,rfl,rfl,trivial⟩ ⟨rfl,rfl,trivial⟩ ?_
    first | refine W.cond_d rfl (fun hc4 => ?_) (fun hc4 => ?_) | refine W.cond_nd rfl (fun hc4 => ?_) (fun hc4 => ?_) | refine W.cond rfl (fun hc4 => ?_) (fun hc4 => ?_)
    ·skip
     refine W.region (SL.mv rfl rfl ?_)
     refine SL.val (O.fld_ref (o' := 2) rfl Try.underlying61 rfl (m := 0) (by kernel_rfl) rfl rfl Taken.no) ?_
     refine SL.val (O.ld1 (PtI.ref rfl rfl) rfl Try.underlying3 rfl rfl Taken.no) ?_
     refine SL.val (O.det (fun _ => by first | exact G.R.add64 rfl rfl (by omega) | exact G.R.add rfl rfl) rfl Taken.no) ?_
     refine SL.an rfl rfl (SL.nil (E.inn (E.to (W.region ?_))))
     refine SL.val (O.det (fun _ => by first | exact G.R.add64 rfl rfl (by omega) | exact G.R.add rfl rfl) rfl Taken.no) ?_
     refine SL.mv rfl rfl (SL.nil ?_)
     refine E.again ((k + 1)) (rn []) ?_ ?_ rfl (fixL_spec rfl) ?_ ?_
     · exact (SubF.cons rfl (SubF.val rfl (by (try dsimp only); first | exact iv_int (by rw [bnd_y1 (by omega) (by omega)]) | exact iv_int (by rw [bnd_y2 (by omega) (by omega) (not_t (by assumption))]) | exact iv_int (by rw [bnd_n (by omega) (by omega) (by first | exact .inl (by omega) | exact .inr (not_f (by assumption)) | exact .inr (not_f2 (by assumption)))])) (SubF.cons rfl (SubF.cons rfl (SubF.cons rfl (SubF.cons rfl (SubF.cons rfl (SubF.cons rfl SubF.nil))))))))
     · exact (SubS.cons rfl SubS.nil)
     ·try dsimp only
      omega
     · (try dsimp only); omega
    refine W.skip (E.inn (E.to (W.region ?_)))
    refine SL.val (O.det (fun _ => by first | exact G.R.add64 rfl rfl (by omega) | exact G.R.add rfl rfl) rfl Taken.no) ?_
    refine SL.mv rfl rfl (SL.nil ?_)
    refine E.again ((k + 1)) (rn []) ?_ ?_ rfl (fixL_spec rfl) ?_ ?_
    · exact (SubF.cons rfl (SubF.val rfl (by (try dsimp only); first | exact iv_int (by rw [bnd_y1 (by omega) (by omega)]) | exact iv_int (by rw [bnd_y2 (by omega) (by omega) (not_t (by assumption))]) | exact iv_int (by rw [bnd_n (by omega) (by omega) (by first | exact .inl (by omega) | exact .inr (not_f (by assumption)) | exact .inr (not_f2 (by assumption)))])) (SubF.cons rfl (SubF.cons rfl (SubF.cons rfl (SubF.cons rfl (SubF.cons rfl (SubF.cons rfl SubF.nil))))))))
    · exact (SubS.cons rfl SubS.nil)
    ·try dsimp only
     omega
    · (try dsimp only); omega
   first | have hg3p := G.gA5 hg3 | have hg3p := G.gA6 hg3 | have hg3p := hg3
   refine SL.sk rfl rfl rfl hg3 (SL.sk rfl rfl rfl hg3 (SL.sk rfl rfl rfl hg3 (SL.sk rfl rfl rfl hg3 (SL.sk rfl rfl rfl hg3 (SL.sk rfl rfl rfl hg3 ?_)))))
   refine SL.val (O.pick_f rfl (G.ne_t hg3) rfl rfl (Taken.yes rfl rfl hg2)) ?_
   refine SL.val (O.pick_f rfl hg2 rfl rfl Taken.no) ?_
   refine E.fo ?_
   refine W.pick (K:=[(1,_),(2,_),(3,_),(4,_),(7,_),(9,_),(22,_),(23,_),(24,_),(53,_)]) (Z:=[(101,_),(102,_)]) ⟨rfl,rfl,rfl,rfl,rfl,rfl,rfl,rfl,rfl,rfl,trivial⟩ ⟨rfl,rfl,trivial⟩ ?_
   refine W.cond_f rfl ?_
   refine W.skip (E.inn (E.to (W.region ?_)))
   refine SL.val (O.det (fun _ => by first | exact G.R.add64 rfl rfl (by omega) | exact G.R.add rfl rfl) rfl Taken.no) ?_
   refine SL.mv rfl rfl (SL.nil ?_)
   refine E.again ((k + 1)) (rn []) ?_ ?_ rfl (fixL_spec rfl) ?_ ?_
   · exact (SubF.cons rfl (SubF.val rfl (by (try dsimp only); first | exact iv_int (by rw [bnd_y1 (by omega) (by omega)]) | exact iv_int (by rw [bnd_y2 (by omega) (by omega) (not_t (by assumption))]) | exact iv_int (by rw [bnd_n (by omega) (by omega) (by first | exact .inl (by omega) | exact .inr (not_f (by assumption)) | exact .inr (not_f2 (by assumption)))])) (SubF.cons rfl (SubF.cons rfl (SubF.cons rfl (SubF.cons rfl (SubF.cons rfl (SubF.cons rfl SubF.nil))))))))
   · exact (SubS.cons rfl SubS.nil)
   ·try dsimp only
    omega
   · (try dsimp only); omega
  first | have hg2p := G.gA7 hg2 | have hg2p := G.gA8 hg2 | have hg2p := hg2
  refine SL.sk rfl rfl rfl hg2 (SL.sk rfl rfl rfl hg2 (SL.sk rfl rfl rfl hg2 (SL.sk rfl rfl rfl hg2 ?_)))
  refine SL.skip (OpOk.not2 rfl rfl rfl) ?_
  refine SL.skip (OpOk.not2 rfl rfl rfl) ?_
  refine SL.skip (OpOk.not2 rfl rfl rfl) ?_
  refine SL.skip (OpOk.not2 rfl rfl rfl) ?_
  refine SL.skip (OpOk.not2 rfl rfl rfl) ?_
  refine SL.skip (OpOk.not2 rfl rfl rfl) ?_
  refine SL.sk rfl rfl rfl hg2 ?_
  refine SL.val (O.pick_t rfl (G.ne_f hg2) rfl rfl Taken.no) ?_
  refine E.fo ?_
  refine W.pick (K:=[(1,_),(2,_),(3,_),(4,_),(7,_),(9,_),(22,_),(23,_),(24,_),(53,_)]) (Z:=[(101,_),(102,_)]) ⟨rfl,rfl,rfl,rfl,rfl,rfl,rfl,rfl,rfl,rfl,trivial⟩ ⟨rfl,rfl,trivial⟩ ?_
  refine W.cond_t rfl ?_
  refine W.region (SL.mv rfl rfl ?_)
  refine SL.val (O.fld_ref (o' := 2) rfl Try.underlying61 rfl (m := 0) (by kernel_rfl) rfl rfl Taken.no) ?_
  refine SL.val (O.ld1 (PtI.ref rfl rfl) rfl Try.underlying3 rfl rfl Taken.no) ?_
  refine SL.val (O.det (fun _ => by first | exact G.R.add64 rfl rfl (by omega) | exact G.R.add rfl rfl) rfl Taken.no) ?_
  refine SL.an rfl rfl (SL.nil (E.inn (E.to (W.region ?_))))
  refine SL.val (O.det (fun _ => by first | exact G.R.add64 rfl rfl (by omega) | exact G.R.add rfl rfl) rfl Taken.no) ?_
  refine SL.mv rfl rfl (SL.nil ?_)
  refine E.again ((k + 1)) (rn []) ?_ ?_ rfl (fixL_spec rfl) ?_ ?_
  · exact (SubF.cons rfl (SubF.val rfl (by (try dsimp only); first | exact iv_int (by rw [bnd_y1 (by omega) (by omega)]) | exact iv_int (by rw [bnd_y2 (by omega) (by omega) (not_t (by assumption))]) | exact iv_int (by rw [bnd_n (by omega) (by omega) (by first | exact .inl (by omega) | exact .inr (not_f (by assumption)) | exact .inr (not_f2 (by assumption)))])) (SubF.cons rfl (SubF.cons rfl (SubF.cons rfl (SubF.cons rfl (SubF.cons rfl (SubF.cons rfl SubF.nil))))))))
  · exact (SubS.cons rfl SubS.nil)
  ·try dsimp only
   omega
  · (try dsimp only); omega
 refine W.exit (E.th (E.th (E.hit (E.to (W.rg (SL.mv rfl rfl (SL.an rfl rfl (SL.an rfl rfl (E.fo (W.ret ?_))))))))))
 refine E.fin (rs := [_, _]) (rn []) (.inl rfl) rfl (.cons (ResOne.tmp rfl) (.cons (ResOne.tmp rfl) .nil)) ?_ ?_ rfl (fixL_spec rfl)
 ·skip
  rw [show k = ps.length by omega, List.take_length]; rfl
 · exact SubS.nil





end Go.Proofs.Ytbkbeplddddgeaa
end
section
namespace Go.G
open Go Go.RowKit
@[reducible] def bs (l : List UInt8) : ByteArray := ⟨⟨l⟩⟩
section
variable {P : Program} {F : Frm} {w : World} {ty : TypeId}
end
end Go.G
namespace Go.H
open Go Go.RowKit
open Go.G (bs)
abbrev uT (s : List UInt8) : UV := .sc (.string (bs s))
abbrev vT (s : List UInt8) : IV := .u (uT s)
abbrev eStr (s : List UInt8) : List UV := [uT s]
section
variable {c : Ctx} {P : Program} {F : Frm} {S : Sto} {ops : Array Oper} {T N : List Nat}
theorem upon_mono {P : Program} {Q Q' : Value → World → Prop} {x : Result Next} (h : upon P Q x) (hq : ∀ u w, Q u w → Q' u w) : upon P Q' x := by
  match x, h with
  | .ok (.value u) w', h => exact hq _ _ h
  | .ok .skip w', h => exact hq _ _ h
  | .ok (.enter f args) w', h => exact Calls.mono h fun _ _ ⟨v, e, hv⟩ => ⟨v, e, hq _ _ hv⟩
end
end Go.H
end
section
namespace Go.H
open Go Go.RowKit
section
variable {c : Ctx} {P : Program} {F : Frm} {S : Sto} {ops : Array Oper} {T N : List Nat}
theorem Sat.frz2 {σ : Sig} {a : Act} {w : World} {d : Option Nat} {kk kd e sz : Nat} {rows : List (List UV)} (hn : σ.sto kk = none) (h : Sat c (σ.upd d (some (.own kk)) [(kk, some (.data e sz rows)), (kd, none)]) a w) : Sat c (σ.upd d (some (.u (.sl sz rows))) [(kd, none)]) a w := by
  obtain ⟨τ, h⟩ := h
  have hk : (σ.upd d (some (.own kk)) [(kk, some (.data e sz rows)), (kd, none)]).sto kk = some (.data e sz rows) := by simp [Sig.upd, look]
  have hs : ∀ k sb, (σ.upd d (some (.u (.sl sz rows))) [(kd, none)]).sto k = some sb → k ≠ kk ∧ (σ.upd d (some (.own kk)) [(kk, some (.data e sz rows)), (kd, none)]).sto k = some sb := fun k sb q => by
    have hne : k ≠ kk := fun e => by
      subst e
      by_cases z : kd = k
      · subst z; simp [Sig.upd, look] at q
      · simp only [Sig.upd, look_ne z] at q
        have q : σ.sto k = some sb := q
        rw [hn] at q; cases q
    exact ⟨hne, by simp only [Sig.upd, look_ne (Ne.symm hne)]; exact q⟩
  have h2 : ∀ b, okOf c τ (σ.upd d (some (.own kk)) [(kk, some (.data e sz rows)), (kd, none)]).sto b → okOf c τ (σ.upd d (some (.u (.sl sz rows))) [(kd, none)]).sto b := fun b hb => ⟨hb.1, fun k sb q => hb.2 k sb (hs k sb q).2⟩
  have hm : ∀ b, okOf c τ (σ.upd d (some (.own kk)) [(kk, some (.data e sz rows)), (kd, none)]).sto b → b < w.heap.size → okOf c τ (σ.upd d (some (.u (.sl sz rows))) [(kd, none)]).sto b ∧ w.heap[b]? = w.heap[b]? := fun b hb _ => ⟨h2 b hb, rfl⟩
  have h1 : ∀ b, vblk (τ kk) = some b → okOf c τ (σ.upd d (some (.u (.sl sz rows))) [(kd, none)]).sto b := fun b hb => ⟨.inr (h.own kk _ b hk hb), fun k sb q hv => (hs k sb q).1 (h.inj k kk _ _ b (hs k sb q).2 hk hv hb)⟩
  refine ⟨τ, h.size, h.defers, h.gr, fun t j hl => ?_, fun k sb q => ?_, fun k k' sb sb' b q q' => ?_, fun k sb b q => ?_, h.pin⟩
  · by_cases e : d = some t
    · subst e
      have hj : IV.u (.sl sz rows) = j := by simpa [Sig.upd] using hl
      subst hj
      obtain ⟨u, q1, q2⟩ := h.slot t (.own kk) (by simp [Sig.upd])
      cases q2 with
      | own _ _ => exact ⟨_, q1, .u (own_sl (h.sto kk _ hk) h1 h2)⟩
    · obtain ⟨u, q1, q2⟩ := h.slot t j (by simp only [Sig.upd, if_neg e] at hl ⊢; exact hl)
      exact ⟨u, q1, q2.mono (Nat.le_refl _) hm (fun _ _ => rfl)⟩
  · exact (h.sto k sb (hs k sb q).2).mono (Nat.le_refl _) hm (fun _ _ => rfl) rfl (fun _ _ => rfl)
  · exact h.inj k k' sb sb' b (hs k sb q).2 (hs k' sb' q').2
  · exact h.own k sb b (hs k sb q).2
theorem OpOk.frz2 {kk kd e sz : Nat} {rows : List (List UV)} {o : Oper} (h : OpOk c P ops o F S T [kk] (some (.own kk)) [(kk, some (.data e sz rows)), (kd, none)]) : OpOk c P ops o F S T [kk] (some (.u (.sl sz rows))) [(kd, none)] := fun σ a w h1 h2 h3 h4 => by
  have hn := (h3 kk (by simp)).2.1
  have := h σ a w h1 h2 h3 h4
  split at this
  · rename_i e; rw [if_pos e]; exact upon_mono this fun u w' q => q.frz2 hn
  · rename_i e; rw [if_neg e]; exact this.frz2 hn
end
end Go.H
end
section
namespace Go.Proofs.Ytbkbeplddddgeaa
open Go Go.RowKit Go.H Go.D33

theorem hcallOk21 : G.callOk Try.prog 21 = true := by kernel_rfl
theorem hcallOk22 : G.callOk Try.prog 22 = true := by kernel_rfl
theorem hcallOk24 : G.callOk Try.prog 24 = true := by kernel_rfl
theorem hcallOk32 : G.callOk Try.prog 32 = true := by kernel_rfl
theorem hcallOk34 : G.callOk Try.prog 34 = true := by kernel_rfl
theorem hcallOk38 : G.callOk Try.prog 38 = true := by kernel_rfl
theorem hcallOk39 : G.callOk Try.prog 39 = true := by kernel_rfl

theorem refPermN_h {n : Nat} {ps : List Pr} {rs : List Ru} {m : List Nat} (hok : (Prob.mk (n : Int) ps rs).ok) : Con Try.prog 20 [vA [uI (n : Int), .sl 3 (ps.map ePr), .sl 3 (rs.map eRu)], vL 1 (m.map eN)] [] (vB (permB n ps rs m)) [] := by
  have h := refPerm_ok (l := m.map fun x : Nat => (x : Int)) hok
  rw [eI_eN] at h
  exact h
theorem refValN_h {n : Nat} {ps : List Pr} {rs : List Ru} {m : List Nat} (hok : (Prob.mk (n : Int) ps rs).ok) (hm : isP n m) (hpl : ps.length ≤ 1000000) : Con Try.prog 21 [vA [uI (n : Int), .sl 3 (ps.map ePr), .sl 3 (rs.map eRu)], vL 1 (m.map eN)] [] (.tup [vI (valR m ps), vI 0]) [] := by
  have h := refValue_ok (l := m.map fun x : Nat => (x : Int)) hok hpl
  rw [eI_eN, (valSI_y (ps := ps) hm).1, (valSI_y (ps := ps) hm).2] at h
  exact h

set_option maxRecDepth 8000 in
theorem names_h {n : Nat} {ps : List Pr} {rs : List Ru} (hok : (Prob.mk (n : Int) ps rs).ok) :
    Con Try.prog 34 [vA [uI (n : Int), .sl 3 (ps.map ePr), .sl 3 (rs.map eRu)]] [] (vL 1 ((selfs n (atomsL n rs)).map eN)) [] := by
 have hf := hok.1
 have hn2 : (n : Int) ≤ 200 := hf.2.1
 have hal := (atoms_comp hf).len
 obtain ⟨i3, hi3, hz3, hs3, hb3⟩ := hinf3
 refine Con.enterL (n := 29) Try.func34 rfl rfl rfl (fun τ w ok vs hin => ?_)
 have hl0_1 := hin.lenA (i := 0) (j := 1) rfl rfl
 try rw [List.length_map] at hl0_1
 have hl0_2 := hin.lenA (i := 0) (j := 2) rfl rfl
 try rw [List.length_map] at hl0_2
 clear hin
 refine W.rg ?_
 refine SL.memS (O.box (is := [_, _, _]) 101 rfl rfl (by simp) rfl rfl Taken.no) rfl rfl (S' := (101, _) :: _) rfl ?_
 refine SL.an rfl rfl (E.fo (W.rg ?_))
 refine SL.val (O.ldN (m := 3) (PtI.ref rfl rfl) (js := [_, _, _]) rfl (Nat.le_of_ble_eq_true rfl) Try.underlying25 rfl (by kernel_rfl) rfl Taken.no) ?_
 refine SL.memS (O.call (rn []) [] rfl rfl rfl (refAtoms_ok hok) (.cons (ArgOk.aggU (.cons (ArgOk.same rfl) (.cons (ArgOk.same rfl) (.cons (ArgOk.same rfl) .nil)))) .nil) SubS.nil rfl rfl rfl rfl rfl (.inl rfl) hcallOk22 (r' := .tup [.u _, .u _]) rfl rfl Taken.no) rfl rfl (S' := _) rfl ?_
 refine SL.mv rfl rfl ?_
 refine SL.val (O.extract rfl rfl rfl Taken.no) ?_
 refine SL.val (O.extract rfl rfl rfl Taken.no) ?_
 refine SL.an rfl rfl (SL.an rfl rfl (E.fo (W.rg (SL.an rfl rfl (E.fo (W.seq (W.rg (SL.an rfl rfl (E.fo (W.block ?_))))))))))
 refine W.adopt 5 103 3 1 (by decide) rfl rfl rfl ?_
 refine W.loopx1 (fun (i : Nat) => [(6, vI (i : Int)), (5, .own 102)]) (fun (i : Nat) => [(102, .data 3 1 ((selfs i (atomsL n rs)).map eN))]) (fun (i : Nat) => i ≤ n) (fun (i : Nat) => n - i) (0) (rn [(102, 103)]) (.cons (t := 2) rfl (.cons (t := 3) rfl .nil)) (.cons (t := 101) rfl .nil) rfl ?_ ?_ rfl rfl ?_ ?_
 · exact (SubF.cons rfl (SubF.cons rfl SubF.nil))
 · exact (SubS.cons rfl SubS.nil)
 ·skip
  omega
 intro i hinv
 have hi := hinv
 have hsl := selfs_len i (atomsL n rs)
 refine W.seq (W.rg (SL.mv rfl rfl (SL.mv rfl rfl ?_)))
 refine SL.val (O.lenE (SlOf.fz rfl (by decide)) (by first | exact List.length_map _ | rfl) Try.underlying32 rfl Taken.no) ?_
 refine SL.val (O.det (fun _ => G.R.lss rfl rfl) rfl Taken.no) ?_
 refine E.fo ?_
 first | refine W.cond_d rfl (fun hc1 => ?_) (fun hc1 => ?_) | refine W.cond_nd rfl (fun hc1 => ?_) (fun hc1 => ?_) | refine W.cond rfl (fun hc1 => ?_) (fun hc1 => ?_)
 ·skip
  refine W.skip (E.to (W.seq (W.block (W.rg (SL.mv rfl rfl (SL.mv rfl rfl ?_))))))
  refine SL.val (O.idx_fz (i := i) rfl rfl (rfl) (row_get (by omega)) Try.underlying32 hi3 hs3 rfl Taken.no) ?_
  refine SL.val (O.ld1 (PtI.ofU (PtU.fz rfl)) rfl Try.underlying3 rfl rfl Taken.no) ?_
  refine SL.mv rfl rfl ?_
  refine SL.val (O.det (fun _ => G.R.eql rfl rfl) rfl Taken.no) ?_
  refine E.fo ?_
  first | refine W.cond_d rfl (fun hc2 => ?_) (fun hc2 => ?_) | refine W.cond_nd rfl (fun hc2 => ?_) (fun hc2 => ?_) | refine W.cond rfl (fun hc2 => ?_) (fun hc2 => ?_)
  ·skip
   refine W.region (SL.mv rfl rfl (SL.mv rfl rfl ?_))
   refine SL.memS (O.buildSlice 104 (rows := [i].map eN) rfl rfl Try.underlying32 hi3 hz3 hs3 (by decide) rfl (by decide) rfl rfl rfl Taken.no) rfl rfl (S' := (104, .data 3 1 ([i].map eN)) :: _) rfl ?_
   refine SL.memS (O.app (k' := 105) rfl rfl (SlOf.own rfl rfl) Try.underlying32 hi3 hz3 hs3 rfl rfl (by exact app_map) (by rw [hb3]; (simp only [List.length_map, List.length_singleton]; omega)) (by (simp only [List.length_map, List.length_singleton]; omega)) rfl Taken.no) rfl rfl (S' := (105, _) :: (102, .dead) :: _) rfl ?_
   refine SL.an rfl rfl (SL.nil (E.inn (E.to (W.region (SL.mv rfl rfl ?_)))))
   refine SL.val (O.det (fun _ => by first | exact G.R.add64 rfl rfl (by omega) | exact G.R.add rfl rfl) rfl Taken.no) ?_
   refine SL.an rfl rfl (SL.nil ?_)
   refine E.again ((i + 1)) (rn [(102, 105)]) ?_ ?_ rfl (fixL_spec rfl) ?_ ?_
   · exact (SubF.cons rfl (SubF.cons rfl (SubF.cons rfl (SubF.cons rfl SubF.nil))))
   · exact (SubS.val rfl (by (try dsimp only); first | exact sb_data (by rw [selfs_y (by omega)]) | exact sb_data (by rw [selfs_n (by omega)])) (SubS.cons rfl SubS.nil))
   ·try dsimp only
    omega
   · (try dsimp only); omega
  refine W.skip (E.inn (E.to (W.region (SL.mv rfl rfl ?_))))
  refine SL.val (O.det (fun _ => by first | exact G.R.add64 rfl rfl (by omega) | exact G.R.add rfl rfl) rfl Taken.no) ?_
  refine SL.an rfl rfl (SL.nil ?_)
  refine E.again ((i + 1)) (rn []) ?_ ?_ rfl (fixL_spec rfl) ?_ ?_
  · exact (SubF.cons rfl (SubF.cons rfl (SubF.cons rfl (SubF.cons rfl SubF.nil))))
  · exact (SubS.val rfl (by (try dsimp only); first | exact sb_data (by rw [selfs_y (by omega)]) | exact sb_data (by rw [selfs_n (by omega)])) (SubS.cons rfl SubS.nil))
  ·try dsimp only
   omega
  · (try dsimp only); omega
 refine W.exit (E.th (E.th (E.hit (E.to (W.rg (SL.mv rfl rfl (SL.an rfl rfl (E.fo (W.ret ?_)))))))))
 refine E.freeze 102 rfl (F' := [(2, _)]) (⟨⟨_, rfl, rfl⟩, trivial⟩) ?_
 refine E.fin (rs := [_]) (rn []) (.inl rfl) rfl (.cons (ResOne.tmp rfl) .nil) ?_ ?_ rfl (fixL_spec rfl)
 ·skip
  have hkn : i = n := by omega
  rw [hkn]; rfl
 · exact SubS.nil

set_option maxRecDepth 8000 in
set_option maxHeartbeats 1600000 in
theorem refAll_h {n : Nat} {ps : List Pr} {rs : List Ru} (hok : (Prob.mk (n : Int) ps rs).ok) (hn9 : n ≤ 9) :
    Con Try.prog 39 [vA [uI (n : Int), .sl 3 (ps.map ePr), .sl 3 (rs.map eRu)]] [] (vL 1 ((allL n ps rs).map eL1)) [] := by
 have hf := hok.1
 have hn2 : (n : Int) ≤ 200 := hf.2.1
 have hal := (atoms_comp hf).len
 have hle := (atoms_comp hf).le
 obtain ⟨i3, hi3, hz3, hs3, hb3⟩ := hinf3
 obtain ⟨i32, hi32, hz32, hs32, hb32⟩ := hinf32
 refine Con.enterL (n := 103) Try.func39 rfl rfl rfl (fun τ w ok vs hin => ?_)
 have hl0_1 := hin.lenA (i := 0) (j := 1) rfl rfl
 try rw [List.length_map] at hl0_1
 have hl0_2 := hin.lenA (i := 0) (j := 2) rfl rfl
 try rw [List.length_map] at hl0_2
 clear hin
 refine W.rg ?_
 refine SL.memS (O.box (is := [_, _, _]) 101 rfl rfl (by simp) rfl rfl Taken.no) rfl rfl (S' := (101, _) :: _) rfl ?_
 refine SL.an rfl rfl (E.fo (W.rg ?_))
 refine SL.val (O.ldN (m := 3) (PtI.ref rfl rfl) (js := [_, _, _]) rfl (Nat.le_of_ble_eq_true rfl) Try.underlying25 rfl (by kernel_rfl) rfl Taken.no) ?_
 refine SL.memS (O.call (rn []) [] rfl rfl rfl (refAtoms_ok hok) (.cons (ArgOk.aggU (.cons (ArgOk.same rfl) (.cons (ArgOk.same rfl) (.cons (ArgOk.same rfl) .nil)))) .nil) SubS.nil rfl rfl rfl rfl rfl (.inl rfl) hcallOk22 (r' := .tup [.u _, .u _]) rfl rfl Taken.no) rfl rfl (S' := _) rfl ?_
 refine SL.mv rfl rfl ?_
 refine SL.val (O.extract rfl rfl rfl Taken.no) ?_
 refine SL.val (O.extract rfl rfl rfl Taken.no) ?_
 refine SL.an rfl rfl (SL.an rfl rfl (E.fo (W.rg ?_)))
 refine SL.memS (O.buildSlice 102 (rows := ([] : List Nat).map eN) rfl rfl Try.underlying32 hi3 hz3 hs3 (by decide) rfl (by decide) rfl rfl rfl Taken.no) rfl rfl (S' := (102, .data 3 1 (([] : List Nat).map eN)) :: _) rfl ?_
 refine SL.freeze 102 rfl (F' := [(18, _)]) (⟨⟨_, rfl, rfl⟩, trivial⟩) ?_
 refine SL.memS (O.buildSlice 103 (rows := [([] : List Nat)].map eL1) rfl rfl Try.underlying68 hi32 hz32 hs32 (by decide) rfl (by decide) rfl rfl rfl Taken.no) rfl rfl (S' := (103, .data 32 1 ([([] : List Nat)].map eL1)) :: _) rfl ?_
 refine SL.an rfl rfl (E.fo (W.seq (W.rg (SL.an rfl rfl (E.fo (W.block ?_))))))
 refine W.loopx1 (fun (i : Nat) => [(6, vI (i : Int)), (5, .own 104)]) (fun (i : Nat) => [(104, .data 32 1 ((allR (atomsL n rs) i).map eL1))]) (fun (i : Nat) => i ≤ n) (fun (i : Nat) => n - i) (0) (rn [(104, 103)]) (.cons (t := 1) rfl (.cons (t := 2) rfl (.cons (t := 3) rfl .nil))) (.cons (t := 101) rfl .nil) rfl ?_ ?_ rfl rfl ?_ ?_
 · exact (SubF.cons rfl (SubF.cons rfl SubF.nil))
 · exact (SubS.cons rfl SubS.nil)
 ·skip
  omega
 intro i hinv
 have hi := hinv
 have hlb := allR_9 (atomsL n rs) (k := i) (by omega)
 have hrl := allR_len (atomsL n rs) i
 refine W.seq (W.rg (SL.mv rfl rfl ?_))
 refine SL.val (O.fld_ref (o' := 0) rfl Try.underlying25 rfl (m := 0) (by kernel_rfl) rfl rfl Taken.no) ?_
 refine SL.val (O.ld1 (PtI.ref rfl rfl) rfl Try.underlying3 rfl rfl Taken.no) ?_
 refine SL.val (O.det (fun _ => G.R.lss rfl rfl) rfl Taken.no) ?_
 refine E.fo ?_
 first | refine W.cond_d rfl (fun hc1 => ?_) (fun hc1 => ?_) | refine W.cond_nd rfl (fun hc1 => ?_) (fun hc1 => ?_) | refine W.cond rfl (fun hc1 => ?_) (fun hc1 => ?_)
 ·skip
  refine W.skip (E.to (W.seq (W.block (W.rg (SL.an rfl rfl (E.fo (W.seq (W.rg (SL.an rfl rfl (E.fo (W.block ?_)))))))))))
  refine W.adopt 7 106 32 1 (by decide) rfl rfl rfl ?_
  refine W.loopx1 (fun (k : Nat) => [(8, vI (k : Int)), (7, .own 105)]) (fun (k : Nat) => [(105, .data 32 1 ((((allR (atomsL n rs) i).take k).flatMap (stepA (atomsL n rs) i)).map eL1))]) (fun (k : Nat) => k ≤ (allR (atomsL n rs) i).length) (fun (k : Nat) => (allR (atomsL n rs) i).length - k) (0) (rn [(105, 106)]) (.cons (t := 1) rfl (.cons (t := 2) rfl (.cons (t := 3) rfl (.cons (t := 5) rfl (.cons (t := 6) rfl .nil))))) (.cons (t := 101) rfl (.cons (t := 104) rfl .nil)) rfl ?_ ?_ rfl rfl ?_ ?_
  · exact (SubF.cons rfl (SubF.cons rfl SubF.nil))
  · exact (SubS.val rfl (by exact sb_data (by rw [List.take_zero]; rfl)) SubS.nil)
  ·skip
   omega
  intro k hinv
  have hk := hinv
  have hpv := flat_9 (atm := atomsL n rs) (i := i) (k := k) (by omega)
  refine W.seq (W.rg (SL.mv rfl rfl (SL.mv rfl rfl ?_)))
  refine SL.val (O.lenE (SlOf.own rfl rfl) (by first | exact List.length_map _ | rfl) Try.underlying68 rfl Taken.no) ?_
  refine SL.val (O.det (fun _ => G.R.lss rfl rfl) rfl Taken.no) ?_
  refine E.fo ?_
  first | refine W.cond_d rfl (fun hc2 => ?_) (fun hc2 => ?_) | refine W.cond_nd rfl (fun hc2 => ?_) (fun hc2 => ?_) | refine W.cond rfl (fun hc2 => ?_) (fun hc2 => ?_)
  ·skip
   have hkl : k < (allR (atomsL n rs) i).length := by omega
   have hll : ((allR (atomsL n rs) i)[k]!).length = i := hrl _ (mem_at hkl)
   have hai := hle i (by omega)
   refine W.skip (E.to (W.seq (W.block (W.rg (SL.mv rfl rfl (SL.mv rfl rfl ?_))))))
   refine SL.val (O.idx_own (i := k) rfl rfl rfl (rfl) (by rw [List.length_map]; omega) Try.underlying68 hi32 hs32 rfl Taken.no) ?_
   refine SL.val (O.ld1 (PtI.ofU (PtU.el rfl rfl (row_get (by omega)))) rfl Try.underlying32 rfl rfl Taken.no) ?_
   refine SL.an rfl rfl (E.fo (W.seq (W.rg (SL.mv rfl rfl (SL.mv rfl rfl ?_)))))
   refine SL.val (O.idx_fz (i := i) rfl rfl (rfl) (row_get (by omega)) Try.underlying32 hi3 hs3 rfl Taken.no) ?_
   refine SL.val (O.ld1 (PtI.ofU (PtU.fz rfl)) rfl Try.underlying3 rfl rfl Taken.no) ?_
   refine SL.mv rfl rfl ?_
   refine SL.val (O.det (fun _ => G.R.neq rfl rfl) rfl Taken.no) ?_
   refine E.fo ?_
   first | refine W.cond_d rfl (fun hc3 => ?_) (fun hc3 => ?_) | refine W.cond_nd rfl (fun hc3 => ?_) (fun hc3 => ?_) | refine W.cond rfl (fun hc3 => ?_) (fun hc3 => ?_)
   ·skip
    have hAi : ¬ (atomsL n rs)[i]! = i := by omega
    refine W.seq ?_
    refine W.draw [⟨[], [], [], [105]⟩, ⟨[107], [107], [107], []⟩, ⟨[], [], [], []⟩, ⟨[107, 108], [107, 108], [108], []⟩, ⟨[], [], [], []⟩, ⟨[], [], [], []⟩, ⟨[], [], [], []⟩, ⟨[], [], [], []⟩, ⟨[], [], [], []⟩, ⟨[], [], [], []⟩, ⟨[], [], [], []⟩, ⟨[109], [109], [109], []⟩, ⟨[108, 109, 110], [108], [110], []⟩, ⟨[111], [111], [111], []⟩, ⟨[105, 111, 112], [105, 112], [112], []⟩, ⟨[], [], [], [112]⟩] rfl (by kernel_rfl) (by kernel_rfl) rfl rfl ?_
    refine WH.mv rfl rfl rfl ?_
    refine WH.memS (O.buildSlice 107 (rows := ([] : List Nat).map eN) rfl rfl Try.underlying32 hi3 hz3 hs3 (by decide) rfl (by decide) rfl rfl rfl Taken.no) rfl rfl rfl rfl rfl (S' := (107, .data 3 1 (([] : List Nat).map eN)) :: _) rfl ?_
    refine WH.mv rfl rfl rfl ?_
    refine WH.memS (O.app (k' := 108) rfl rfl (SlOf.fz rfl (by decide)) Try.underlying32 hi3 hz3 hs3 rfl rfl (by exact List.nil_append _) (by rw [hb3]; (simp only [List.length_map, List.length_nil]; omega)) (by (simp only [List.length_map, List.length_nil]; omega)) rfl Taken.no) rfl rfl rfl rfl rfl (S' := (108, _) :: (107, .dead) :: _) rfl ?_
    refine WH.mv rfl rfl rfl (WH.mv rfl rfl rfl (WH.mv rfl rfl rfl ?_))
    refine WH.val (O.idx_fz (i := i) rfl rfl (rfl) (row_get (by omega)) Try.underlying32 hi3 hs3 rfl Taken.no) rfl rfl ?_
    refine WH.val (O.ld1 (PtI.ofU (PtU.fz rfl)) rfl Try.underlying3 rfl rfl Taken.no) rfl rfl ?_
    refine WH.val (O.idx_fz (i := (atomsL n rs)[i]!) rfl rfl (rfl) (row_get (by omega)) Try.underlying32 hi3 hs3 rfl Taken.no) rfl rfl ?_
    refine WH.val (O.ld1 (PtI.ofU (PtU.fz rfl)) rfl Try.underlying3 rfl rfl Taken.no) rfl rfl ?_
    refine WH.memS (O.buildSlice 109 (rows := [((allR (atomsL n rs) i)[k]!)[(atomsL n rs)[i]!]!].map eN) rfl rfl Try.underlying32 hi3 hz3 hs3 (by decide) rfl (by decide) rfl rfl rfl Taken.no) rfl rfl rfl rfl rfl (S' := (109, .data 3 1 ([((allR (atomsL n rs) i)[k]!)[(atomsL n rs)[i]!]!].map eN)) :: _) rfl ?_
    refine WH.memS (OpOk.frz2 (O.app (k' := 110) rfl rfl (SlOf.own rfl rfl) Try.underlying32 hi3 hz3 hs3 rfl rfl (by exact app_map) (by rw [hb3]; (simp only [List.length_map, List.length_singleton]; omega)) (by (simp only [List.length_map, List.length_singleton]; omega)) rfl Taken.no)) rfl rfl rfl rfl rfl (S' := (108, .dead) :: _) rfl ?_
    refine WH.memS (O.buildSlice 111 (rows := [(allR (atomsL n rs) i)[k]! ++ [((allR (atomsL n rs) i)[k]!)[(atomsL n rs)[i]!]!]].map eL1) rfl rfl Try.underlying68 hi32 hz32 hs32 (by decide) rfl (by decide) rfl rfl rfl Taken.no) rfl rfl rfl rfl rfl (S' := (111, .data 32 1 ([(allR (atomsL n rs) i)[k]! ++ [((allR (atomsL n rs) i)[k]!)[(atomsL n rs)[i]!]!]].map eL1)) :: _) rfl ?_
    refine WH.memS (O.app (k' := 112) rfl rfl (SlOf.own rfl rfl) Try.underlying68 hi32 hz32 hs32 rfl rfl (by exact app_map) (by rw [hb32]; (simp only [List.length_map, List.length_singleton]; omega)) (by (simp only [List.length_map, List.length_singleton]; omega)) rfl Taken.no) rfl rfl rfl rfl rfl (S' := (112, _) :: (105, .dead) :: _) rfl ?_
    refine WH.val (O.assign rfl rfl Taken.no) rfl rfl ?_
    refine WH.nil (E.to ?_)
    refine W.pick (K:=[(1,_),(2,_),(3,_),(5,_),(6,_),(7,_),(8,_),(9,_)]) (Z:=[(101,_),(104,_),(109,_),(111,_),(112,_)]) ⟨rfl,rfl,rfl,rfl,rfl,rfl,rfl,rfl,trivial⟩ ⟨rfl,rfl,rfl,rfl,rfl,trivial⟩ ?_
    refine W.exit (E.th (E.hit (E.to (W.region (SL.mv rfl rfl ?_)))))
    refine SL.val (O.det (fun _ => by first | exact G.R.add64 rfl rfl (by omega) | exact G.R.add rfl rfl) rfl Taken.no) ?_
    refine SL.an rfl rfl (SL.nil ?_)
    refine E.again ((k + 1)) (rn [(105, 112)]) ?_ ?_ rfl (fixL_spec rfl) ?_ ?_
    · exact (SubF.cons rfl (SubF.cons rfl (SubF.cons rfl (SubF.cons rfl (SubF.cons rfl (SubF.cons rfl (SubF.cons rfl SubF.nil)))))))
    · exact (SubS.val rfl (by (try dsimp only); first | exact sb_data (by rw [flat_s hkl, stepA_n hAi]) | exact sb_data (by rw [flat_s hkl, stepA_y hAi, show c = i + 1 by omega])) (SubS.cons rfl (SubS.cons rfl SubS.nil)))
    ·try dsimp only
     omega
    · (try dsimp only); omega
   have hAi : (atomsL n rs)[i]! = i := by omega
   refine W.skip (E.to (W.rg (SL.an rfl rfl (E.fo (W.block ?_)))))
   refine W.loopx1 (fun (c : Nat) => [(10, vI (c : Int)), (7, .own 113)]) (fun (c : Nat) => [(113, .data 32 1 (((((allR (atomsL n rs) i).take k).flatMap (stepA (atomsL n rs) i)) ++ chQ i (allR (atomsL n rs) i)[k]! c).map eL1))]) (fun (c : Nat) => c ≤ i + 1) (fun (c : Nat) => i + 1 - c) (0) (rn [(113, 105)]) (.cons (t := 1) rfl (.cons (t := 2) rfl (.cons (t := 3) rfl (.cons (t := 5) rfl (.cons (t := 6) rfl (.cons (t := 8) rfl (.cons (t := 9) rfl .nil))))))) (.cons (t := 101) rfl (.cons (t := 104) rfl .nil)) rfl ?_ ?_ rfl rfl ?_ ?_
   · exact (SubF.cons rfl (SubF.cons rfl SubF.nil))
   · exact (SubS.val rfl (by exact sb_data (by show _ = List.map eL1 (_ ++ []); rw [List.append_nil])) SubS.nil)
   ·skip
    omega
   intro c hinv
   have hc := hinv
   have hcl := chQ_le i c (allR (atomsL n rs) i)[k]!
   refine W.seq (W.rg (SL.mv rfl rfl (SL.mv rfl rfl ?_)))
   refine SL.val (O.det (fun _ => G.R.leq rfl rfl) rfl Taken.no) ?_
   refine E.fo ?_
   first | refine W.cond_d rfl (fun hc4 => ?_) (fun hc4 => ?_) | refine W.cond_nd rfl (fun hc4 => ?_) (fun hc4 => ?_) | refine W.cond rfl (fun hc4 => ?_) (fun hc4 => ?_)
   ·skip
    refine W.skip (E.to (W.seq (W.block (W.rg (SL.mv rfl rfl (SL.mv rfl rfl ?_))))))
    refine SL.val (O.det (fun _ => G.R.eql rfl rfl) rfl Taken.no) ?_
    refine SL.mv rfl rfl ?_
    refine SL.case (j := 3) (g := 65) (want := false) rfl rfl (fun hg5 => ?_) (fun hg5 => ?_)
    ·skip
     first | have hg5p := G.gA3 hg5 | have hg5p := G.gA4 hg5 | have hg5p := hg5
     refine SL.val (O.move rfl rfl (Taken.yes rfl rfl hg5)) ?_
     refine SL.val (O.move rfl rfl (Taken.yes rfl rfl hg5)) ?_
     refine SL.val (O.idx_fz (i := c) rfl rfl (rfl) (row_get (by omega)) Try.underlying32 hi3 hs3 rfl (Taken.yes rfl rfl hg5)) ?_
     refine SL.val (O.ld1 (PtI.ofU (PtU.fz rfl)) rfl Try.underlying3 rfl rfl (Taken.yes rfl rfl hg5)) ?_
     refine SL.val (O.move rfl rfl (Taken.yes rfl rfl hg5)) ?_
     refine SL.val (O.det (fun _ => G.R.eql rfl rfl) rfl (Taken.yes rfl rfl hg5)) ?_
     refine SL.val (O.pick_f rfl hg5 rfl rfl Taken.no) ?_
     refine E.fo ?_
     first | refine W.cond_d rfl (fun hc6 => ?_) (fun hc6 => ?_) | refine W.cond_nd rfl (fun hc6 => ?_) (fun hc6 => ?_) | refine W.cond rfl (fun hc6 => ?_) (fun hc6 => ?_)
     ·skip
      have hQ : toQ i (allR (atomsL n rs) i)[k]! c = true := by first | exact decide_eq_true (.inl (by omega)) | exact decide_eq_true (.inr (by omega))
      refine W.region (SL.mv rfl rfl ?_)
      refine SL.memS (O.buildSlice 114 (rows := ([] : List Nat).map eN) rfl rfl Try.underlying32 hi3 hz3 hs3 (by decide) rfl (by decide) rfl rfl rfl Taken.no) rfl rfl (S' := (114, .data 3 1 (([] : List Nat).map eN)) :: _) rfl ?_
      refine SL.mv rfl rfl ?_
      refine SL.memS (O.app (k' := 115) rfl rfl (SlOf.fz rfl (by decide)) Try.underlying32 hi3 hz3 hs3 rfl rfl (by exact List.nil_append _) (by rw [hb3]; (simp only [List.length_map, List.length_nil]; omega)) (by (simp only [List.length_map, List.length_nil]; omega)) rfl Taken.no) rfl rfl (S' := (115, _) :: (114, .dead) :: _) rfl ?_
      refine SL.mv rfl rfl ?_
      refine SL.memS (O.buildSlice 116 (rows := [c].map eN) rfl rfl Try.underlying32 hi3 hz3 hs3 (by decide) rfl (by decide) rfl rfl rfl Taken.no) rfl rfl (S' := (116, .data 3 1 ([c].map eN)) :: _) rfl ?_
      refine SL.memS (O.app (k' := 117) rfl rfl (SlOf.own rfl rfl) Try.underlying32 hi3 hz3 hs3 rfl rfl (by exact app_map) (by rw [hb3]; (simp only [List.length_map, List.length_singleton]; omega)) (by (simp only [List.length_map, List.length_singleton]; omega)) rfl Taken.no) rfl rfl (S' := (117, _) :: (115, .dead) :: _) rfl ?_
      refine SL.freeze 117 rfl (F' := [(79, _)]) (⟨⟨_, rfl, rfl⟩, trivial⟩) ?_
      refine SL.memS (O.buildSlice 118 (rows := [(allR (atomsL n rs) i)[k]! ++ [c]].map eL1) rfl rfl Try.underlying68 hi32 hz32 hs32 (by decide) rfl (by decide) rfl rfl rfl Taken.no) rfl rfl (S' := (118, .data 32 1 ([(allR (atomsL n rs) i)[k]! ++ [c]].map eL1)) :: _) rfl ?_
      refine SL.memS (O.app (k' := 119) rfl rfl (SlOf.own rfl rfl) Try.underlying68 hi32 hz32 hs32 rfl rfl (by exact app_map) (by rw [hb32]; (simp only [List.length_map, List.length_singleton, List.length_append]; omega)) (by (simp only [List.length_map, List.length_singleton, List.length_append]; omega)) rfl Taken.no) rfl rfl (S' := (119, _) :: (113, .dead) :: _) rfl ?_
      refine SL.an rfl rfl (SL.nil (E.inn (E.to ?_)))
      refine W.pick (K:=[(1,_),(2,_),(3,_),(5,_),(6,_),(7,_),(8,_),(9,_),(10,_)]) (Z:=[(101,_),(104,_),(116,_),(118,_),(119,_)]) ⟨rfl,rfl,rfl,rfl,rfl,rfl,rfl,rfl,rfl,trivial⟩ ⟨rfl,rfl,rfl,rfl,rfl,trivial⟩ ?_
      refine W.region (SL.mv rfl rfl ?_)
      refine SL.val (O.det (fun _ => by first | exact G.R.add64 rfl rfl (by omega) | exact G.R.add rfl rfl) rfl Taken.no) ?_
      refine SL.an rfl rfl (SL.nil ?_)
      refine E.again ((c + 1)) (rn [(113, 119)]) ?_ ?_ rfl (fixL_spec rfl) ?_ ?_
      · exact (SubF.cons rfl (SubF.cons rfl (SubF.cons rfl (SubF.cons rfl (SubF.cons rfl (SubF.cons rfl (SubF.cons rfl (SubF.cons rfl (SubF.cons rfl SubF.nil)))))))))
      · exact (SubS.val rfl (by (try dsimp only); first | exact sb_data (by rw [chQ_y hQ, ← List.append_assoc]) | exact sb_data (by rw [chQ_no hQ]) | exact sb_data (by rw [chQ_y (decide_eq_true (.inl (by omega))), ← List.append_assoc])) (SubS.cons rfl (SubS.cons rfl SubS.nil)))
      ·try dsimp only
       omega
      · (try dsimp only); omega
     have hQ : toQ i (allR (atomsL n rs) i)[k]! c = false := decide_eq_false (fun q => by omega)
     refine W.skip (E.inn (E.to (W.region (SL.mv rfl rfl ?_))))
     refine SL.val (O.det (fun _ => by first | exact G.R.add64 rfl rfl (by omega) | exact G.R.add rfl rfl) rfl Taken.no) ?_
     refine SL.an rfl rfl (SL.nil ?_)
     refine E.again ((c + 1)) (rn []) ?_ ?_ rfl (fixL_spec rfl) ?_ ?_
     · exact (SubF.cons rfl (SubF.cons rfl (SubF.cons rfl (SubF.cons rfl (SubF.cons rfl (SubF.cons rfl (SubF.cons rfl (SubF.cons rfl (SubF.cons rfl SubF.nil)))))))))
     · exact (SubS.val rfl (by (try dsimp only); first | exact sb_data (by rw [chQ_y hQ, ← List.append_assoc]) | exact sb_data (by rw [chQ_no hQ]) | exact sb_data (by rw [chQ_y (decide_eq_true (.inl (by omega))), ← List.append_assoc])) (SubS.cons rfl (SubS.cons rfl SubS.nil)))
     ·try dsimp only
      omega
     · (try dsimp only); omega
    first | have hg5p := G.gA7 hg5 | have hg5p := G.gA8 hg5 | have hg5p := hg5
    refine SL.sk rfl rfl rfl hg5 (SL.sk rfl rfl rfl hg5 (SL.sk rfl rfl rfl hg5 (SL.sk rfl rfl rfl hg5 (SL.sk rfl rfl rfl hg5 (SL.sk rfl rfl rfl hg5 ?_)))))
    refine SL.val (O.pick_t rfl (G.ne_f hg5) rfl rfl Taken.no) ?_
    refine E.fo ?_
    refine W.cond_t rfl ?_
    refine W.region (SL.mv rfl rfl ?_)
    refine SL.memS (O.buildSlice 120 (rows := ([] : List Nat).map eN) rfl rfl Try.underlying32 hi3 hz3 hs3 (by decide) rfl (by decide) rfl rfl rfl Taken.no) rfl rfl (S' := (120, .data 3 1 (([] : List Nat).map eN)) :: _) rfl ?_
    refine SL.mv rfl rfl ?_
    refine SL.memS (O.app (k' := 121) rfl rfl (SlOf.fz rfl (by decide)) Try.underlying32 hi3 hz3 hs3 rfl rfl (by exact List.nil_append _) (by rw [hb3]; (simp only [List.length_map, List.length_nil]; omega)) (by (simp only [List.length_map, List.length_nil]; omega)) rfl Taken.no) rfl rfl (S' := (121, _) :: (120, .dead) :: _) rfl ?_
    refine SL.mv rfl rfl ?_
    refine SL.memS (O.buildSlice 122 (rows := [c].map eN) rfl rfl Try.underlying32 hi3 hz3 hs3 (by decide) rfl (by decide) rfl rfl rfl Taken.no) rfl rfl (S' := (122, .data 3 1 ([c].map eN)) :: _) rfl ?_
    refine SL.memS (O.app (k' := 123) rfl rfl (SlOf.own rfl rfl) Try.underlying32 hi3 hz3 hs3 rfl rfl (by exact app_map) (by rw [hb3]; (simp only [List.length_map, List.length_singleton]; omega)) (by (simp only [List.length_map, List.length_singleton]; omega)) rfl Taken.no) rfl rfl (S' := (123, _) :: (121, .dead) :: _) rfl ?_
    refine SL.freeze 123 rfl (F' := [(79, _)]) (⟨⟨_, rfl, rfl⟩, trivial⟩) ?_
    refine SL.memS (O.buildSlice 124 (rows := [(allR (atomsL n rs) i)[k]! ++ [c]].map eL1) rfl rfl Try.underlying68 hi32 hz32 hs32 (by decide) rfl (by decide) rfl rfl rfl Taken.no) rfl rfl (S' := (124, .data 32 1 ([(allR (atomsL n rs) i)[k]! ++ [c]].map eL1)) :: _) rfl ?_
    refine SL.memS (O.app (k' := 125) rfl rfl (SlOf.own rfl rfl) Try.underlying68 hi32 hz32 hs32 rfl rfl (by exact app_map) (by rw [hb32]; (simp only [List.length_map, List.length_singleton, List.length_append]; omega)) (by (simp only [List.length_map, List.length_singleton, List.length_append]; omega)) rfl Taken.no) rfl rfl (S' := (125, _) :: (113, .dead) :: _) rfl ?_
    refine SL.an rfl rfl (SL.nil (E.inn (E.to ?_)))
    refine W.pick (K:=[(1,_),(2,_),(3,_),(5,_),(6,_),(7,_),(8,_),(9,_),(10,_)]) (Z:=[(101,_),(104,_),(122,_),(124,_),(125,_)]) ⟨rfl,rfl,rfl,rfl,rfl,rfl,rfl,rfl,rfl,trivial⟩ ⟨rfl,rfl,rfl,rfl,rfl,trivial⟩ ?_
    refine W.region (SL.mv rfl rfl ?_)
    refine SL.val (O.det (fun _ => by first | exact G.R.add64 rfl rfl (by omega) | exact G.R.add rfl rfl) rfl Taken.no) ?_
    refine SL.an rfl rfl (SL.nil ?_)
    refine E.again ((c + 1)) (rn [(113, 125)]) ?_ ?_ rfl (fixL_spec rfl) ?_ ?_
    · exact (SubF.cons rfl (SubF.cons rfl (SubF.cons rfl (SubF.cons rfl (SubF.cons rfl (SubF.cons rfl (SubF.cons rfl (SubF.cons rfl (SubF.cons rfl SubF.nil)))))))))
    · exact (SubS.val rfl (by (try dsimp only); first | exact sb_data (by rw [chQ_y hQ, ← List.append_assoc]) | exact sb_data (by rw [chQ_no hQ]) | exact sb_data (by rw [chQ_y (decide_eq_true (.inl (by omega))), ← List.append_assoc])) (SubS.cons rfl (SubS.cons rfl SubS.nil)))
    ·try dsimp only
     omega
    · (try dsimp only); omega
   refine W.exit (E.th (E.th (E.hit (E.inn (E.to (W.region (SL.mv rfl rfl ?_)))))))
   refine SL.val (O.det (fun _ => by first | exact G.R.add64 rfl rfl (by omega) | exact G.R.add rfl rfl) rfl Taken.no) ?_
   refine SL.an rfl rfl (SL.nil ?_)
   refine E.again ((k + 1)) (rn [(105, 113)]) ?_ ?_ rfl (fixL_spec rfl) ?_ ?_
   · exact (SubF.cons rfl (SubF.cons rfl (SubF.cons rfl (SubF.cons rfl (SubF.cons rfl (SubF.cons rfl (SubF.cons rfl SubF.nil)))))))
   · exact (SubS.val rfl (by (try dsimp only); first | exact sb_data (by rw [flat_s hkl, stepA_n hAi]) | exact sb_data (by rw [flat_s hkl, stepA_y hAi, show c = i + 1 by omega])) (SubS.cons rfl (SubS.cons rfl SubS.nil)))
   ·try dsimp only
    omega
   · (try dsimp only); omega
  refine W.exit (E.th (E.th (E.hit (E.to (W.region (SL.mv rfl rfl (SL.an rfl rfl (SL.nil (E.inn (E.to (W.region (SL.mv rfl rfl ?_))))))))))))
  refine SL.val (O.det (fun _ => by first | exact G.R.add64 rfl rfl (by omega) | exact G.R.add rfl rfl) rfl Taken.no) ?_
  refine SL.an rfl rfl (SL.nil ?_)
  refine E.again ((i + 1)) (rn [(104, 105)]) ?_ ?_ rfl (fixL_spec rfl) ?_ ?_
  · exact (SubF.cons rfl (SubF.cons rfl (SubF.cons rfl (SubF.cons rfl (SubF.cons rfl SubF.nil)))))
  · exact (SubS.val rfl (by (try dsimp only); exact sb_data (by rw [show k = (allR (atomsL n rs) i).length by omega, List.take_length]; rfl)) (SubS.cons rfl SubS.nil))
  ·try dsimp only
   omega
  · (try dsimp only); omega
 refine W.exit (E.th (E.th (E.hit (E.to (W.rg (SL.an rfl rfl (E.fo (W.seq (W.rg (SL.an rfl rfl (E.fo (W.block ?_))))))))))))
 refine W.adopt 11 127 32 1 (by decide) rfl rfl rfl ?_
 refine W.loopx1 (fun (q : Nat) => [(12, vI (q : Int)), (11, .own 126)]) (fun (q : Nat) => [(126, .data 32 1 ((((allR (atomsL n rs) i).take q).filter (permB n ps rs)).map eL1))]) (fun (q : Nat) => q ≤ (allR (atomsL n rs) i).length) (fun (q : Nat) => (allR (atomsL n rs) i).length - q) (0) (rn [(126, 127)]) (.cons (t := 1) rfl (.cons (t := 2) rfl (.cons (t := 5) rfl .nil))) (.cons (t := 101) rfl (.cons (t := 104) rfl .nil)) rfl ?_ ?_ rfl rfl ?_ ?_
 · exact (SubF.cons rfl (SubF.cons rfl SubF.nil))
 · exact (SubS.val rfl (by exact sb_data (by rw [List.take_zero]; rfl)) SubS.nil)
 ·skip
  omega
 intro q hinv
 have hq := hinv
 have hfl := List.length_filter_le (permB n ps rs) ((allR (atomsL n rs) i).take q)
 rw [List.length_take] at hfl
 refine W.seq (W.rg (SL.mv rfl rfl (SL.mv rfl rfl ?_)))
 refine SL.val (O.lenE (SlOf.own rfl rfl) (by first | exact List.length_map _ | rfl) Try.underlying68 rfl Taken.no) ?_
 refine SL.val (O.det (fun _ => G.R.lss rfl rfl) rfl Taken.no) ?_
 refine E.fo ?_
 first | refine W.cond_d rfl (fun hc7 => ?_) (fun hc7 => ?_) | refine W.cond_nd rfl (fun hc7 => ?_) (fun hc7 => ?_) | refine W.cond rfl (fun hc7 => ?_) (fun hc7 => ?_)
 ·skip
  refine W.skip (E.to (W.seq (W.block (W.seq ?_))))
  refine W.draw [⟨[101], [], [], []⟩, ⟨[], [], [], [104]⟩, ⟨[], [], [], []⟩, ⟨[104], [], [], []⟩, ⟨[104], [], [], []⟩, ⟨[], [], [], []⟩] rfl (by kernel_rfl) (by kernel_rfl) rfl rfl ?_
  refine WH.val (O.ldN (m := 3) (PtI.ref rfl rfl) (js := [_, _, _]) rfl (Nat.le_of_ble_eq_true rfl) Try.underlying25 rfl (by kernel_rfl) rfl Taken.no) rfl rfl ?_
  refine WH.mv rfl rfl rfl (WH.mv rfl rfl rfl ?_)
  refine WH.val (O.idx_own (i := q) rfl rfl rfl (rfl) (by rw [List.length_map]; omega) Try.underlying68 hi32 hs32 rfl Taken.no) rfl rfl ?_
  refine WH.val (O.ld1 (PtI.ofU (PtU.el rfl rfl (row_get (by omega)))) rfl Try.underlying32 rfl rfl Taken.no) rfl rfl ?_
  refine WH.val (O.callp rfl rfl rfl (refPermN_h (m := (allR (atomsL n rs) i)[q]!) hok) (.cons (ArgOk.aggU (.cons (ArgOk.same rfl) (.cons (ArgOk.same rfl) (.cons (ArgOk.same rfl) .nil)))) (.cons (ArgOk.same rfl) .nil)) hcallOk20 rfl Taken.no) rfl rfl ?_
  refine WH.nil (E.to ?_)
  first | refine W.cond_d rfl (fun hc8 => ?_) (fun hc8 => ?_) | refine W.cond_nd rfl (fun hc8 => ?_) (fun hc8 => ?_) | refine W.cond rfl (fun hc8 => ?_) (fun hc8 => ?_)
  ·skip
   have hP : permB n ps rs (allR (atomsL n rs) i)[q]! = true := by first | assumption | exact decide_eq_true (by assumption)
   refine W.region (SL.mv rfl rfl (SL.mv rfl rfl (SL.mv rfl rfl ?_)))
   refine SL.val (O.idx_own (i := q) rfl rfl rfl (rfl) (by rw [List.length_map]; omega) Try.underlying68 hi32 hs32 rfl Taken.no) ?_
   refine SL.val (O.ld1 (PtI.ofU (PtU.el rfl rfl (row_get (by omega)))) rfl Try.underlying32 rfl rfl Taken.no) ?_
   refine SL.memS (O.buildSlice 128 (rows := [(allR (atomsL n rs) i)[q]!].map eL1) rfl rfl Try.underlying68 hi32 hz32 hs32 (by decide) rfl (by decide) rfl rfl rfl Taken.no) rfl rfl (S' := (128, .data 32 1 ([(allR (atomsL n rs) i)[q]!].map eL1)) :: _) rfl ?_
   refine SL.memS (O.app (k' := 129) rfl rfl (SlOf.own rfl rfl) Try.underlying68 hi32 hz32 hs32 rfl rfl (by exact app_map) (by rw [hb32]; (simp only [List.length_map, List.length_singleton]; omega)) (by (simp only [List.length_map, List.length_singleton]; omega)) rfl Taken.no) rfl rfl (S' := (129, _) :: (126, .dead) :: _) rfl ?_
   refine SL.an rfl rfl (SL.nil (E.inn (E.to (W.region (SL.mv rfl rfl ?_)))))
   refine SL.val (O.det (fun _ => by first | exact G.R.add64 rfl rfl (by omega) | exact G.R.add rfl rfl) rfl Taken.no) ?_
   refine SL.an rfl rfl (SL.nil ?_)
   refine E.again ((q + 1)) (rn [(126, 129)]) ?_ ?_ rfl (fixL_spec rfl) ?_ ?_
   · exact (SubF.cons rfl (SubF.cons rfl (SubF.cons rfl (SubF.cons rfl (SubF.cons rfl SubF.nil)))))
   · exact (SubS.val rfl (by (try dsimp only); first | exact sb_data (by rw [filt_s (by omega), if_pos hP]) | exact sb_data (by rw [filt_s (by omega), if_neg (by rw [hP]; decide), List.append_nil])) (SubS.cons rfl (SubS.cons rfl SubS.nil)))
   ·try dsimp only
    omega
   · (try dsimp only); omega
  have hP : permB n ps rs (allR (atomsL n rs) i)[q]! = false := by first | assumption | exact decide_eq_false (by assumption)
  refine W.skip (E.inn (E.to (W.region (SL.mv rfl rfl ?_))))
  refine SL.val (O.det (fun _ => by first | exact G.R.add64 rfl rfl (by omega) | exact G.R.add rfl rfl) rfl Taken.no) ?_
  refine SL.an rfl rfl (SL.nil ?_)
  refine E.again ((q + 1)) (rn []) ?_ ?_ rfl (fixL_spec rfl) ?_ ?_
  · exact (SubF.cons rfl (SubF.cons rfl (SubF.cons rfl (SubF.cons rfl (SubF.cons rfl SubF.nil)))))
  · exact (SubS.val rfl (by (try dsimp only); first | exact sb_data (by rw [filt_s (by omega), if_pos hP]) | exact sb_data (by rw [filt_s (by omega), if_neg (by rw [hP]; decide), List.append_nil])) (SubS.cons rfl (SubS.cons rfl SubS.nil)))
  ·try dsimp only
   omega
  · (try dsimp only); omega
 refine W.exit (E.th (E.th (E.hit (E.to (W.rg (SL.mv rfl rfl (SL.an rfl rfl (E.fo (W.ret ?_)))))))))
 refine E.freeze 126 rfl (F' := [(2, _)]) (⟨⟨_, rfl, rfl⟩, trivial⟩) ?_
 refine E.fin (rs := [_]) (rn []) (.inl rfl) rfl (.cons (ResOne.tmp rfl) .nil) ?_ ?_ rfl (fixL_spec rfl)
 ·skip
  have hin : i = n := by omega
  rw [show q = (allR (atomsL n rs) i).length by omega, List.take_length, hin]; rfl
 · exact SubS.nil

set_option maxRecDepth 8000 in
theorem check34_ok {n : Nat} {ps : List Pr} {rs : List Ru} (hok : (Prob.mk (n : Int) ps rs).ok) (h8 : (selfs n (atomsL n rs)).length ≤ 8) :
    Con Try.prog 38 [vA [uI (n : Int), .sl 3 (ps.map ePr), .sl 3 (rs.map eRu)]] [] (vI 0) [] := by
 refine Con.enterL (n := 13) Try.func38 rfl rfl rfl (fun τ w ok vs hin => ?_)
 have hl0_1 := hin.lenA (i := 0) (j := 1) rfl rfl
 try rw [List.length_map] at hl0_1
 have hl0_2 := hin.lenA (i := 0) (j := 2) rfl rfl
 try rw [List.length_map] at hl0_2
 clear hin
 refine W.rg ?_
 refine SL.memS (O.box (is := [_, _, _]) 101 rfl rfl (by simp) rfl rfl Taken.no) rfl rfl (S' := (101, _) :: _) rfl ?_
 refine SL.an rfl rfl (E.fo (W.seq (W.rg ?_)))
 refine SL.val (O.ldN (m := 3) (PtI.ref rfl rfl) (js := [_, _, _]) rfl (Nat.le_of_ble_eq_true rfl) Try.underlying25 rfl (by kernel_rfl) rfl Taken.no) ?_
 refine SL.val (O.callp rfl rfl rfl (refvalid_h (N := (n : Int)) (ps := ps) (rs := rs)) (.cons (ArgOk.aggU (.cons (ArgOk.same rfl) (.cons (ArgOk.same rfl) (.cons (ArgOk.same rfl) .nil)))) .nil) hcallOk33 rfl Taken.no) ?_
 refine SL.as (i' := vI 0) 5 rfl (by rw [Prob.err_0 hok]) ?_
 refine SL.an rfl rfl (E.fo (W.rg (SL.mv rfl rfl ?_)))
 refine SL.val (O.det (fun _ => G.R.mv (G.R.neq rfl rfl) (congrArg Value.bool (decide_eq_false (by decide)))) rfl Taken.no) ?_
 refine E.fo ?_
 refine W.cond_f rfl ?_
 refine W.skip (E.to (W.seq (W.rg ?_)))
 refine SL.val (O.ldN (m := 3) (PtI.ref rfl rfl) (js := [_, _, _]) rfl (Nat.le_of_ble_eq_true rfl) Try.underlying25 rfl (by kernel_rfl) rfl Taken.no) ?_
 refine SL.val (O.callp rfl rfl rfl (names_h hok) (.cons (ArgOk.aggU (.cons (ArgOk.same rfl) (.cons (ArgOk.same rfl) (.cons (ArgOk.same rfl) .nil)))) .nil) hcallOk34 rfl Taken.no) ?_
 refine SL.val (O.lenE (SlOf.fz rfl (by decide)) (by first | exact List.length_map _ | rfl) Try.underlying32 rfl Taken.no) ?_
 refine SL.val (O.det (fun _ => G.R.mv (G.R.gtr rfl rfl) (congrArg Value.bool (decide_eq_false (by omega)))) rfl Taken.no) ?_
 refine E.fo ?_
 refine W.cond_f rfl ?_
 refine W.skip (E.to (W.rg (SL.an rfl rfl (E.fo (W.ret ?_)))))
 refine E.fin (rs := [_]) (rn []) (.inl rfl) rfl (.cons (ResOne.tmp rfl) .nil) ?_ ?_ rfl (fixL_spec rfl)
 ·skip
  rfl
 · exact SubS.nil

set_option maxRecDepth 8000 in
theorem check34_many {n : Nat} {ps : List Pr} {rs : List Ru} (hok : (Prob.mk (n : Int) ps rs).ok) (h8 : 8 < (selfs n (atomsL n rs)).length) :
    Con Try.prog 38 [vA [uI (n : Int), .sl 3 (ps.map ePr), .sl 3 (rs.map eRu)]] [] (vI 3) [] := by
 refine Con.enterL (n := 13) Try.func38 rfl rfl rfl (fun τ w ok vs hin => ?_)
 have hl0_1 := hin.lenA (i := 0) (j := 1) rfl rfl
 try rw [List.length_map] at hl0_1
 have hl0_2 := hin.lenA (i := 0) (j := 2) rfl rfl
 try rw [List.length_map] at hl0_2
 clear hin
 refine W.rg ?_
 refine SL.memS (O.box (is := [_, _, _]) 101 rfl rfl (by simp) rfl rfl Taken.no) rfl rfl (S' := (101, _) :: _) rfl ?_
 refine SL.an rfl rfl (E.fo (W.seq (W.rg ?_)))
 refine SL.val (O.ldN (m := 3) (PtI.ref rfl rfl) (js := [_, _, _]) rfl (Nat.le_of_ble_eq_true rfl) Try.underlying25 rfl (by kernel_rfl) rfl Taken.no) ?_
 refine SL.val (O.callp rfl rfl rfl (refvalid_h (N := (n : Int)) (ps := ps) (rs := rs)) (.cons (ArgOk.aggU (.cons (ArgOk.same rfl) (.cons (ArgOk.same rfl) (.cons (ArgOk.same rfl) .nil)))) .nil) hcallOk33 rfl Taken.no) ?_
 refine SL.as (i' := vI 0) 5 rfl (by rw [Prob.err_0 hok]) ?_
 refine SL.an rfl rfl (E.fo (W.rg (SL.mv rfl rfl ?_)))
 refine SL.val (O.det (fun _ => G.R.mv (G.R.neq rfl rfl) (congrArg Value.bool (decide_eq_false (by decide)))) rfl Taken.no) ?_
 refine E.fo ?_
 refine W.cond_f rfl ?_
 refine W.skip (E.to (W.seq (W.rg ?_)))
 refine SL.val (O.ldN (m := 3) (PtI.ref rfl rfl) (js := [_, _, _]) rfl (Nat.le_of_ble_eq_true rfl) Try.underlying25 rfl (by kernel_rfl) rfl Taken.no) ?_
 refine SL.val (O.callp rfl rfl rfl (names_h hok) (.cons (ArgOk.aggU (.cons (ArgOk.same rfl) (.cons (ArgOk.same rfl) (.cons (ArgOk.same rfl) .nil)))) .nil) hcallOk34 rfl Taken.no) ?_
 refine SL.val (O.lenE (SlOf.fz rfl (by decide)) (by first | exact List.length_map _ | rfl) Try.underlying32 rfl Taken.no) ?_
 refine SL.val (O.det (fun _ => G.R.mv (G.R.gtr rfl rfl) (congrArg Value.bool (decide_eq_true (by omega)))) rfl Taken.no) ?_
 refine E.fo ?_
 refine W.cond_t rfl ?_
 refine W.rg (SL.an rfl rfl (E.fo (W.ret (E.thr ?_))))
 refine E.fin (rs := [_]) (rn []) (.inl rfl) rfl (.cons (ResOne.tmp rfl) .nil) ?_ ?_ rfl (fixL_spec rfl)
 ·skip
  rfl
 · exact SubS.nil


set_option maxRecDepth 8000 in
theorem less_h {a b : List Nat} (hab : a.length = b.length) :
    Con Try.prog 24 [vL 1 (a.map eN), vL 1 (b.map eN)] [] (vB (lexB a b)) [] := by
 obtain ⟨i3, hi3, hz3, hs3, hb3⟩ := hinf3
 refine Con.enterL (n := 30) Try.func24 rfl rfl rfl (fun τ w ok vs hin => ?_)
 have hl0 := hin.len (i := 0) rfl
 try rw [List.length_map] at hl0
 have hl1 := hin.len (i := 1) rfl
 try rw [List.length_map] at hl1
 clear hin
 refine W.rg (SL.an rfl rfl (E.fo (W.seq (W.rg (SL.an rfl rfl (E.fo (W.block ?_)))))))
 refine W.loopx1 (fun (k : Nat) => [(5, vI (k : Int))]) (fun (k : Nat) => []) (fun (k : Nat) => k ≤ a.length ∧ ∀ i, i < k → a[i]! = b[i]!) (fun (k : Nat) => a.length - k) (0) (rn []) (.cons (t := 0) rfl (.cons (t := 1) rfl .nil)) .nil rfl ?_ ?_ rfl rfl ?_ ?_
 · exact (SubF.cons rfl SubF.nil)
 · exact SubS.nil
 ·skip
  exact ⟨by omega, fun i h => by omega⟩
 intro k hinv
 obtain ⟨hk, hp⟩ := hinv
 refine W.seq (W.rg (SL.mv rfl rfl (SL.mv rfl rfl ?_)))
 refine SL.val (O.lenE (SlOf.fz rfl (by decide)) (by first | exact List.length_map _ | rfl) Try.underlying32 rfl Taken.no) ?_
 refine SL.val (O.det (fun _ => G.R.lss rfl rfl) rfl Taken.no) ?_
 refine E.fo ?_
 first | refine W.cond_d rfl (fun hc1 => ?_) (fun hc1 => ?_) | refine W.cond_nd rfl (fun hc1 => ?_) (fun hc1 => ?_) | refine W.cond rfl (fun hc1 => ?_) (fun hc1 => ?_)
 ·skip
  refine W.skip (E.to (W.seq (W.block (W.seq ?_))))
  refine W.draw [⟨[], [], [], []⟩, ⟨[], [], [], []⟩, ⟨[], [], [], []⟩, ⟨[], [], [], []⟩, ⟨[], [], [], []⟩, ⟨[], [], [], []⟩, ⟨[], [], [], []⟩, ⟨[], [], [], []⟩, ⟨[], [], [], []⟩] rfl (by kernel_rfl) (by kernel_rfl) rfl rfl ?_
  refine WH.mv rfl rfl rfl (WH.mv rfl rfl rfl ?_)
  refine WH.val (O.idx_fz rfl rfl (rfl) (row_get (by omega)) Try.underlying32 hi3 hs3 rfl Taken.no) rfl rfl ?_
  refine WH.val (O.ld1 (PtI.ofU (PtU.fz rfl)) rfl Try.underlying3 rfl rfl Taken.no) rfl rfl ?_
  refine WH.mv rfl rfl rfl (WH.mv rfl rfl rfl ?_)
  refine WH.val (O.idx_fz rfl rfl (rfl) (row_get (by omega)) Try.underlying32 hi3 hs3 rfl Taken.no) rfl rfl ?_
  refine WH.val (O.ld1 (PtI.ofU (PtU.fz rfl)) rfl Try.underlying3 rfl rfl Taken.no) rfl rfl ?_
  refine WH.val (O.det (fun _ => G.R.neq rfl rfl) rfl Taken.no) rfl rfl ?_
  refine WH.nil (E.to ?_)
  first | refine W.cond_d rfl (fun hc2 => ?_) (fun hc2 => ?_) | refine W.cond_nd rfl (fun hc2 => ?_) (fun hc2 => ?_) | refine W.cond rfl (fun hc2 => ?_) (fun hc2 => ?_)
  ·skip
   refine W.seq ?_
   refine W.draw [⟨[], [], [], []⟩, ⟨[], [], [], []⟩, ⟨[], [], [], []⟩, ⟨[], [], [], []⟩, ⟨[], [], [], []⟩, ⟨[], [], [], []⟩, ⟨[], [], [], []⟩, ⟨[], [], [], []⟩, ⟨[], [], [], []⟩, ⟨[], [], [], []⟩] rfl (by kernel_rfl) (by kernel_rfl) rfl rfl ?_
   refine WH.mv rfl rfl rfl (WH.mv rfl rfl rfl ?_)
   refine WH.val (O.idx_fz rfl rfl (rfl) (row_get (by omega)) Try.underlying32 hi3 hs3 rfl Taken.no) rfl rfl ?_
   refine WH.val (O.ld1 (PtI.ofU (PtU.fz rfl)) rfl Try.underlying3 rfl rfl Taken.no) rfl rfl ?_
   refine WH.mv rfl rfl rfl (WH.mv rfl rfl rfl ?_)
   refine WH.val (O.idx_fz rfl rfl (rfl) (row_get (by omega)) Try.underlying32 hi3 hs3 rfl Taken.no) rfl rfl ?_
   refine WH.val (O.ld1 (PtI.ofU (PtU.fz rfl)) rfl Try.underlying3 rfl rfl Taken.no) rfl rfl ?_
   refine WH.val (O.det (fun _ => G.R.lss rfl rfl) rfl Taken.no) rfl rfl ?_
   refine WH.val (O.assign rfl rfl Taken.no) rfl rfl ?_
   refine WH.nil (E.to ?_)
   refine W.pick (K:=[(0,_),(1,_),(4,_),(5,_)]) (Z:=[]) ⟨rfl,rfl,rfl,rfl,trivial⟩ trivial ?_
   refine W.ret ?_
   refine E.inr ?_
   refine E.thr (E.thr ?_)
   refine E.inr ?_
   refine E.thr ?_
   refine E.fin (rs := [_]) (rn []) (.inl rfl) rfl (.cons (ResOne.tmp rfl) .nil) ?_ ?_ rfl (fixL_spec rfl)
   ·skip
    exact iv_bool (by rw [lexB_here (k := k) (by omega) (by omega) hp (by omega)]; exact dec_iff (by omega))
   · exact SubS.nil
  refine W.skip (E.inn (E.to (W.region (SL.mv rfl rfl ?_))))
  refine SL.val (O.det (fun _ => by first | exact G.R.add64 rfl rfl (by omega) | exact G.R.add rfl rfl) rfl Taken.no) ?_
  refine SL.an rfl rfl (SL.nil ?_)
  refine E.again ((k + 1)) (rn []) ?_ ?_ rfl (fixL_spec rfl) ?_ ?_
  · exact (SubF.cons rfl (SubF.cons rfl (SubF.cons rfl SubF.nil)))
  · exact SubS.nil
  ·try dsimp only
   exact ⟨by omega, fun j hj => by rcases Nat.lt_succ_iff_lt_or_eq.1 hj with h | h; exact hp j h; subst h; omega⟩
  · (try dsimp only); omega
 refine W.exit (E.th (E.th (E.hit (E.to (W.rg (SL.an rfl rfl (E.fo (W.ret ?_))))))))
 refine E.fin (rs := [_]) (rn []) (.inl rfl) rfl (.cons (ResOne.tmp rfl) .nil) ?_ ?_ rfl (fixL_spec rfl)
 ·skip
  exact iv_bool (lexB_same (k := k) (by omega) (by omega) hp)
 · exact SubS.nil




set_option maxRecDepth 8000 in
theorem refCount_ok {n : Nat} {ps : List Pr} {rs : List Ru} (hok : (Prob.mk (n : Int) ps rs).ok) (h8 : (selfs n (atomsL n rs)).length ≤ 8) (hn9 : n ≤ 9) :
    Con Try.prog 17 [vA [uI (n : Int), .sl 3 (ps.map ePr), .sl 3 (rs.map eRu)]] [] (.tup [vI ((allL n ps rs).length : Int), vI 0]) [] := by
 have hf := hok.1
 refine Con.enterL (n := 13) Try.func17 rfl rfl rfl (fun τ w ok vs hin => ?_)
 have hl0_1 := hin.lenA (i := 0) (j := 1) rfl rfl
 try rw [List.length_map] at hl0_1
 have hl0_2 := hin.lenA (i := 0) (j := 2) rfl rfl
 try rw [List.length_map] at hl0_2
 clear hin
 refine W.rg ?_
 refine SL.memS (O.box (is := [_, _, _]) 101 rfl rfl (by simp) rfl rfl Taken.no) rfl rfl (S' := (101, _) :: _) rfl ?_
 refine SL.an rfl rfl (SL.an rfl rfl (E.fo (W.seq (W.rg ?_))))
 refine SL.val (O.ldN (m := 3) (PtI.ref rfl rfl) (js := [_, _, _]) rfl (Nat.le_of_ble_eq_true rfl) Try.underlying25 rfl (by kernel_rfl) rfl Taken.no) ?_
 refine SL.val (O.callp rfl rfl rfl (check34_ok hok h8) (.cons (ArgOk.aggU (.cons (ArgOk.same rfl) (.cons (ArgOk.same rfl) (.cons (ArgOk.same rfl) .nil)))) .nil) hcallOk38 rfl Taken.no) ?_
 refine SL.an rfl rfl (E.fo (W.rg (SL.mv rfl rfl ?_)))
 refine SL.val (O.det (fun _ => G.R.mv (G.R.neq rfl rfl) (congrArg Value.bool (decide_eq_false (by decide)))) rfl Taken.no) ?_
 refine E.fo ?_
 refine W.cond_f rfl ?_
 refine W.skip (E.to (W.rg ?_))
 refine SL.val (O.ldN (m := 3) (PtI.ref rfl rfl) (js := [_, _, _]) rfl (Nat.le_of_ble_eq_true rfl) Try.underlying25 rfl (by kernel_rfl) rfl Taken.no) ?_
 refine SL.val (O.callp rfl rfl rfl (refAll_h hok hn9) (.cons (ArgOk.aggU (.cons (ArgOk.same rfl) (.cons (ArgOk.same rfl) (.cons (ArgOk.same rfl) .nil)))) .nil) hcallOk39 rfl Taken.no) ?_
 refine SL.val (O.lenE (SlOf.fz rfl (by decide)) (by first | exact List.length_map _ | rfl) Try.underlying68 rfl Taken.no) ?_
 refine SL.an rfl rfl (SL.an rfl rfl (E.fo (W.ret ?_)))
 refine E.fin (rs := [_, _]) (rn []) (.inl rfl) rfl (.cons (ResOne.tmp rfl) (.cons (ResOne.tmp rfl) .nil)) ?_ ?_ rfl (fixL_spec rfl)
 ·skip
  rfl
 · exact SubS.nil

set_option maxRecDepth 8000 in
theorem refCount_many {n : Nat} {ps : List Pr} {rs : List Ru} (hok : (Prob.mk (n : Int) ps rs).ok) (h8 : 8 < (selfs n (atomsL n rs)).length) :
    Con Try.prog 17 [vA [uI (n : Int), .sl 3 (ps.map ePr), .sl 3 (rs.map eRu)]] [] (.tup [vI 0, vI 3]) [] := by
 refine Con.enterL (n := 13) Try.func17 rfl rfl rfl (fun τ w ok vs hin => ?_)
 have hl0_1 := hin.lenA (i := 0) (j := 1) rfl rfl
 try rw [List.length_map] at hl0_1
 have hl0_2 := hin.lenA (i := 0) (j := 2) rfl rfl
 try rw [List.length_map] at hl0_2
 clear hin
 refine W.rg ?_
 refine SL.memS (O.box (is := [_, _, _]) 101 rfl rfl (by simp) rfl rfl Taken.no) rfl rfl (S' := (101, _) :: _) rfl ?_
 refine SL.an rfl rfl (SL.an rfl rfl (E.fo (W.seq (W.rg ?_))))
 refine SL.val (O.ldN (m := 3) (PtI.ref rfl rfl) (js := [_, _, _]) rfl (Nat.le_of_ble_eq_true rfl) Try.underlying25 rfl (by kernel_rfl) rfl Taken.no) ?_
 refine SL.val (O.callp rfl rfl rfl (check34_many hok h8) (.cons (ArgOk.aggU (.cons (ArgOk.same rfl) (.cons (ArgOk.same rfl) (.cons (ArgOk.same rfl) .nil)))) .nil) hcallOk38 rfl Taken.no) ?_
 refine SL.an rfl rfl (E.fo (W.rg (SL.mv rfl rfl ?_)))
 refine SL.val (O.det (fun _ => G.R.mv (G.R.neq rfl rfl) (congrArg Value.bool (decide_eq_true (by decide)))) rfl Taken.no) ?_
 refine E.fo ?_
 refine W.cond_t rfl ?_
 refine W.rg (SL.mv rfl rfl (SL.an rfl rfl (SL.an rfl rfl (E.fo (W.ret (E.thr ?_))))))
 refine E.fin (rs := [_, _]) (rn []) (.inl rfl) rfl (.cons (ResOne.tmp rfl) (.cons (ResOne.tmp rfl) .nil)) ?_ ?_ rfl (fixL_spec rfl)
 ·skip
  rfl
 · exact SubS.nil







set_option maxRecDepth 8000 in
theorem few34_ok {n : Nat} {ps : List Pr} {rs : List Ru} (hok : (Prob.mk (n : Int) ps rs).ok) :
    Con Try.prog 10 [vA [uI (n : Int), .sl 3 (ps.map ePr), .sl 3 (rs.map eRu)]] [] (vB (decide ((((n : Int) ≤ 9 ∨ 200 < (n : Int)) ∧ ps.length ≤ 40 ∧ (rs.length ≤ 12 ∨ rs.length = 401)) ∧ ((selfs n (atomsL n rs)).length ≤ 6 ∨ 8 < (selfs n (atomsL n rs)).length)))) [] := by
 refine Con.enterL (n := 19) Try.func10 rfl rfl rfl (fun τ w ok vs hin => ?_)
 have hl0_1 := hin.lenA (i := 0) (j := 1) rfl rfl
 try rw [List.length_map] at hl0_1
 have hl0_2 := hin.lenA (i := 0) (j := 2) rfl rfl
 try rw [List.length_map] at hl0_2
 clear hin
 refine W.rg ?_
 refine SL.memS (O.box (is := [_, _, _]) 101 rfl rfl (by simp) rfl rfl Taken.no) rfl rfl (S' := (101, _) :: _) rfl ?_
 refine SL.an rfl rfl (E.fo (W.seq (W.rg ?_)))
 refine SL.val (O.ldN (m := 3) (PtI.ref rfl rfl) (js := [_, _, _]) rfl (Nat.le_of_ble_eq_true rfl) Try.underlying25 rfl (by kernel_rfl) rfl Taken.no) ?_
 refine SL.val (O.callp rfl rfl rfl (few_h (N := (n : Int)) (ps := ps) (rs := rs)) (.cons (ArgOk.aggU (.cons (ArgOk.same rfl) (.cons (ArgOk.same rfl) (.cons (ArgOk.same rfl) .nil)))) .nil) hcallOk32 rfl Taken.no) ?_
 refine SL.val (O.det (fun _ => G.R.not rfl) rfl Taken.no) ?_
 refine E.fo ?_
 first | refine W.cond_d rfl (fun hc1 => ?_) (fun hc1 => ?_) | refine W.cond_nd rfl (fun hc1 => ?_) (fun hc1 => ?_) | refine W.cond rfl (fun hc1 => ?_) (fun hc1 => ?_)
 ·skip
  refine W.rg (SL.an rfl rfl (E.fo (W.ret (E.thr ?_))))
  refine E.fin (rs := [_]) (rn []) (.inl rfl) rfl (.cons (ResOne.tmp rfl) .nil) ?_ ?_ rfl (fixL_spec rfl)
  ·skip
   first | exact iv_bool (dec_f (by omega)) | exact iv_bool (dec_t (by omega)) | exact iv_bool (dec_iff (by omega))
  · exact SubS.nil
 refine W.skip (E.to (W.rg (SL.an rfl rfl (E.fo (W.seq (W.rg ?_))))))
 refine SL.val (O.ldN (m := 3) (PtI.ref rfl rfl) (js := [_, _, _]) rfl (Nat.le_of_ble_eq_true rfl) Try.underlying25 rfl (by kernel_rfl) rfl Taken.no) ?_
 refine SL.val (O.callp rfl rfl rfl (refvalid_h (N := (n : Int)) (ps := ps) (rs := rs)) (.cons (ArgOk.aggU (.cons (ArgOk.same rfl) (.cons (ArgOk.same rfl) (.cons (ArgOk.same rfl) .nil)))) .nil) hcallOk33 rfl Taken.no) ?_
 refine SL.as (i' := vI 0) 8 rfl (by rw [Prob.err_0 hok]) ?_
 refine SL.val (O.det (fun _ => G.R.mv (G.R.eql rfl rfl) (congrArg Value.bool (decide_eq_true (by rfl)))) rfl Taken.no) ?_
 refine E.fo ?_
 refine W.cond_t rfl ?_
 refine W.region ?_
 refine SL.val (O.ldN (m := 3) (PtI.ref rfl rfl) (js := [_, _, _]) rfl (Nat.le_of_ble_eq_true rfl) Try.underlying25 rfl (by kernel_rfl) rfl Taken.no) ?_
 refine SL.val (O.callp rfl rfl rfl (names_h hok) (.cons (ArgOk.aggU (.cons (ArgOk.same rfl) (.cons (ArgOk.same rfl) (.cons (ArgOk.same rfl) .nil)))) .nil) hcallOk34 rfl Taken.no) ?_
 refine SL.val (O.lenE (SlOf.fz rfl (by decide)) (by first | exact List.length_map _ | rfl) Try.underlying32 rfl Taken.no) ?_
 refine SL.an rfl rfl (E.fo (W.rg (SL.mv rfl rfl ?_)))
 refine SL.val (O.det (fun _ => G.R.leq rfl rfl) rfl Taken.no) ?_
 refine SL.mv rfl rfl ?_
 refine SL.case (j := 2) (g := 15) (want := false) rfl rfl (fun hg2 => ?_) (fun hg2 => ?_)
 ·skip
  first | have hg2p := G.gA3 hg2 | have hg2p := G.gA4 hg2 | have hg2p := hg2
  refine SL.val (O.move rfl rfl (Taken.yes rfl rfl hg2)) ?_
  refine SL.val (O.det (fun _ => G.R.gtr rfl rfl) rfl (Taken.yes rfl rfl hg2)) ?_
  refine SL.val (O.pick_f rfl hg2 rfl rfl Taken.no) ?_
  refine SL.an rfl rfl (E.fo (W.ret ?_))
  refine E.fin (rs := [_]) (rn []) (.inl rfl) rfl (.cons (ResOne.tmp rfl) .nil) ?_ ?_ rfl (fixL_spec rfl)
  ·skip
   first | exact iv_bool (dec_f (by omega)) | exact iv_bool (dec_t (by omega)) | exact iv_bool (dec_iff (by omega))
  · exact SubS.nil
 first | have hg2p := G.gA7 hg2 | have hg2p := G.gA8 hg2 | have hg2p := hg2
 refine SL.sk rfl rfl rfl hg2 (SL.sk rfl rfl rfl hg2 ?_)
 refine SL.val (O.pick_t rfl (G.ne_f hg2) rfl rfl Taken.no) ?_
 refine SL.an rfl rfl (E.fo (W.ret ?_))
 refine E.fin (rs := [_]) (rn []) (.inl rfl) rfl (.cons (ResOne.tmp rfl) .nil) ?_ ?_ rfl (fixL_spec rfl)
 ·skip
  first | exact iv_bool (dec_f (by omega)) | exact iv_bool (dec_t (by omega)) | exact iv_bool (dec_iff (by omega))
 · exact SubS.nil

set_option maxRecDepth 8000 in
theorem few34_bad {N : Int} {ps : List Pr} {rs : List Ru} (hok : ¬ (Prob.mk N ps rs).ok) :
    Con Try.prog 10 [vA [uI N, .sl 3 (ps.map ePr), .sl 3 (rs.map eRu)]] [] (vB (decide ((N ≤ 9 ∨ 200 < N) ∧ ps.length ≤ 40 ∧ (rs.length ≤ 12 ∨ rs.length = 401)))) [] := by
 have he : (Prob.mk N ps rs).err ≠ 0 := fun q => hok (Prob.err_iff.1 q)
 refine Con.enterL (n := 19) Try.func10 rfl rfl rfl (fun τ w ok vs hin => ?_)
 have hl0_1 := hin.lenA (i := 0) (j := 1) rfl rfl
 try rw [List.length_map] at hl0_1
 have hl0_2 := hin.lenA (i := 0) (j := 2) rfl rfl
 try rw [List.length_map] at hl0_2
 clear hin
 refine W.rg ?_
 refine SL.memS (O.box (is := [_, _, _]) 101 rfl rfl (by simp) rfl rfl Taken.no) rfl rfl (S' := (101, _) :: _) rfl ?_
 refine SL.an rfl rfl (E.fo (W.seq (W.rg ?_)))
 refine SL.val (O.ldN (m := 3) (PtI.ref rfl rfl) (js := [_, _, _]) rfl (Nat.le_of_ble_eq_true rfl) Try.underlying25 rfl (by kernel_rfl) rfl Taken.no) ?_
 refine SL.val (O.callp rfl rfl rfl (few_h (N := N) (ps := ps) (rs := rs)) (.cons (ArgOk.aggU (.cons (ArgOk.same rfl) (.cons (ArgOk.same rfl) (.cons (ArgOk.same rfl) .nil)))) .nil) hcallOk32 rfl Taken.no) ?_
 refine SL.val (O.det (fun _ => G.R.not rfl) rfl Taken.no) ?_
 refine E.fo ?_
 first | refine W.cond_d rfl (fun hc1 => ?_) (fun hc1 => ?_) | refine W.cond_nd rfl (fun hc1 => ?_) (fun hc1 => ?_) | refine W.cond rfl (fun hc1 => ?_) (fun hc1 => ?_)
 ·skip
  refine W.rg (SL.an rfl rfl (E.fo (W.ret (E.thr ?_))))
  refine E.fin (rs := [_]) (rn []) (.inl rfl) rfl (.cons (ResOne.tmp rfl) .nil) ?_ ?_ rfl (fixL_spec rfl)
  ·skip
   first | exact iv_bool (dec_f (by assumption)) | exact iv_bool (dec_t (by assumption)) | exact iv_bool (dec_iff (by omega))
  · exact SubS.nil
 refine W.skip (E.to (W.rg (SL.an rfl rfl (E.fo (W.seq (W.rg ?_))))))
 refine SL.val (O.ldN (m := 3) (PtI.ref rfl rfl) (js := [_, _, _]) rfl (Nat.le_of_ble_eq_true rfl) Try.underlying25 rfl (by kernel_rfl) rfl Taken.no) ?_
 refine SL.val (O.callp rfl rfl rfl (refvalid_h (N := N) (ps := ps) (rs := rs)) (.cons (ArgOk.aggU (.cons (ArgOk.same rfl) (.cons (ArgOk.same rfl) (.cons (ArgOk.same rfl) .nil)))) .nil) hcallOk33 rfl Taken.no) ?_
 refine SL.val (O.det (fun _ => G.R.mv (G.R.eql rfl rfl) (congrArg Value.bool (decide_eq_false (by exact he)))) rfl Taken.no) ?_
 refine E.fo ?_
 refine W.cond_f rfl ?_
 refine W.skip (E.to (W.rg (SL.mv rfl rfl ?_)))
 refine SL.val (O.det (fun _ => G.R.mv (G.R.leq rfl rfl) (congrArg Value.bool (decide_eq_true (by decide)))) rfl Taken.no) ?_
 refine SL.mv rfl rfl ?_
 have hg2 : true ≠ false := by decide
 refine SL.sk rfl rfl rfl hg2 (SL.sk rfl rfl rfl hg2 ?_)
 refine SL.val (O.pick_t rfl rfl rfl rfl Taken.no) ?_
 refine SL.an rfl rfl (E.fo (W.ret ?_))
 refine E.fin (rs := [_]) (rn []) (.inl rfl) rfl (.cons (ResOne.tmp rfl) .nil) ?_ ?_ rfl (fixL_spec rfl)
 ·skip
  first | exact iv_bool (dec_f (by assumption)) | exact iv_bool (dec_t (by assumption)) | exact iv_bool (dec_iff (by omega))
 · exact SubS.nil

end Go.Proofs.Ytbkbeplddddgeaa
end
section
namespace Go.D33
open Go Go.RowKit Go.H
theorem ex_8 : (selfs 3 (atomsL 3 [])).length ≤ 8 := by decide +kernel
theorem ex_b : (stB 3 exP []).best = [0, 0, 2] ∧ (stB 3 exP []).most = 5 := by decide +kernel
theorem ex_bd : bndL [] (atomsL 3 []) exP = 9 := by decide +kernel
theorem ex_c : (allL 3 exP []).length = 4 := by decide +kernel
theorem lexB_irr : ∀ a : List Nat, lexB a a = false
  | [] => rfl
  | x :: a => by rw [lexB, if_pos rfl]; exact lexB_irr a
theorem lexB_trans : ∀ {a b c : List Nat}, lexB a b = true → lexB b c = true → lexB a c = true
  | [], _, _, h, _ => by simp [lexB] at h
  | _ :: _, [], _, h, _ => by simp [lexB] at h
  | _ :: _, _ :: _, [], _, h => by simp [lexB] at h
  | x :: a, y :: b, z :: c, h1, h2 => by
    rw [lexB] at h1 h2 ⊢
    by_cases e1 : x = y
    · rw [if_pos e1] at h1
      by_cases e2 : y = z
      · rw [if_pos e2] at h2; rw [if_pos (e1.trans e2)]; exact lexB_trans h1 h2
      · rw [if_neg e2] at h2; rw [if_neg (by omega), e1]; exact h2
    · rw [if_neg e1] at h1
      have q1 := of_decide_eq_true h1
      by_cases e2 : y = z
      · rw [if_neg (by omega)]; exact decide_eq_true (by omega)
      · rw [if_neg e2] at h2
        have q2 := of_decide_eq_true h2
        rw [if_neg (by omega)]; exact decide_eq_true (by omega)
def GEs (ps : List Pr) (s : BS) (m : List Nat) : Prop := valR m ps ≤ s.most ∧ (valR m ps = s.most → lexB m s.best = false)
def wfS (n : Nat) (ps : List Pr) (s : BS) : Prop := s.any = true ∧ s.best.length = n ∧ s.most = valR s.best ps
theorem bsF_ge {n : Nat} {ps : List Pr} {s : BS} {x : List Nat} (hs : wfS n ps s) (hx : x.length = n) : wfS n ps (bsF ps s x) ∧ (∀ m, GEs ps s m → GEs ps (bsF ps s x) m) ∧ GEs ps (bsF ps s x) x := by
  obtain ⟨h1, h2, h3⟩ := hs
  have el : x.length = s.best.length := by rw [hx, h2]
  unfold bsF
  by_cases hw : bsW ps s x = true
  · rw [if_pos hw]
    unfold bsW at hw
    rw [h1] at hw
    simp only [Bool.not_true, Bool.false_or, Bool.or_eq_true, Bool.and_eq_true, decide_eq_true_eq] at hw
    refine ⟨⟨rfl, hx, rfl⟩, fun m hm => ⟨?_, fun e => ?_⟩, ⟨Int.le_refl _, fun _ => lexB_irr x⟩⟩
    · show valR m ps ≤ valR x ps
      have := hm.1
      rcases hw with q | ⟨q, _⟩ <;> omega
    · have e : valR m ps = valR x ps := e
      show lexB m x = false
      rcases hw with q | ⟨q1, q2⟩
      · have := hm.1; omega
      · have q2 := (cmpL_lex el).1 q2
        cases hl : lexB m x with
        | false => rfl
        | true => have := hm.2 (by omega); rw [lexB_trans hl q2] at this; cases this
  · rw [if_neg hw]
    unfold bsW at hw
    rw [h1] at hw
    simp only [Bool.not_true, Bool.false_or, Bool.or_eq_true, Bool.and_eq_true, decide_eq_true_eq] at hw
    refine ⟨⟨h1, h2, h3⟩, fun _ h => h, ⟨?_, fun e => ?_⟩⟩
    · exact Int.not_lt.1 fun q => hw (.inl q)
    · cases hl : lexB x s.best with
      | false => rfl
      | true => exact absurd (.inr ⟨e, (cmpL_lex el).2 hl⟩) hw
theorem fold_ge {n : Nat} {ps : List Pr} : ∀ {l : List (List Nat)} {s : BS}, (∀ m ∈ l, m.length = n) → wfS n ps s → wfS n ps (l.foldl (bsF ps) s) ∧ (∀ m, GEs ps s m → GEs ps (l.foldl (bsF ps) s) m) ∧ ∀ m ∈ l, GEs ps (l.foldl (bsF ps) s) m
  | [], _, _, h => ⟨h, fun _ q => q, fun _ q => by cases q⟩
  | x :: l, s, hl, h => by
    obtain ⟨a1, a2, a3⟩ := bsF_ge h (hl x (by simp))
    obtain ⟨b1, b2, b3⟩ := fold_ge (l := l) (s := bsF ps s x) (fun m hm => hl m (by simp [hm])) a1
    refine ⟨b1, fun m hm => b2 m (a2 m hm), fun m hm => ?_⟩
    rcases List.mem_cons.1 hm with q | q
    · subst q; exact b2 m a3
    · exact b3 m q
section
variable {n : Nat} {ps : List Pr} {rs : List Ru}
theorem stB_spec (hok : (Prob.mk (n : Int) ps rs).ok) : (stB n ps rs).best ∈ allL n ps rs ∧ (stB n ps rs).most = valR (stB n ps rs).best ps ∧ ∀ m ∈ allL n ps rs, GEs ps (stB n ps rs) m := by
  have hf := hok.1
  have h0 : 0 < (allL n ps rs).length := List.length_pos_iff.2 (allL_ne hok)
  have hm := stK_mem (n := n) (ps := ps) (rs := rs) h0 h0
  rw [stK_n] at hm
  have hall : ∀ m ∈ allL n ps rs, m.length = n := fun m q => allL_len hf q
  unfold stB at hm ⊢
  refine ⟨hm, ?_⟩
  clear hm
  cases e : allL n ps rs with
  | nil => rw [e] at h0; simp at h0
  | cons x l =>
    have hx : x.length = n := hall x (by rw [e]; simp)
    obtain ⟨b1, b2, b3⟩ := fold_ge (ps := ps) (l := l) (s := ⟨true, valR x ps, x⟩) (fun m q => hall m (by rw [e]; simp [q])) ⟨rfl, hx, rfl⟩
    refine ⟨b1.2.2, fun m q => ?_⟩
    rcases List.mem_cons.1 q with z | z
    · subst z; exact b2 m ⟨Int.le_refl _, fun _ => lexB_irr m⟩
    · exact b3 m z
theorem stB_perm (hok : (Prob.mk (n : Int) ps rs).ok) : isP n (stB n ps rs).best ∧ permR n ps rs (stB n ps rs).best := (mem_allL hok.1).1 (stB_spec hok).1
theorem stB_ge (hok : (Prob.mk (n : Int) ps rs).ok) {m : List Nat} (h1 : isP n m) (h2 : permR n ps rs m) : GEs ps (stB n ps rs) m := (stB_spec hok).2.2 m ((mem_allL hok.1).2 ⟨h1, h2⟩)
theorem ap_zero (hf : (Prob.mk (n : Int) ps rs).formed) {m : List Nat} {s : Stp} (hm : isP n m) (hp : permR n ps rs m) (h : apE n ps rs (m.map fun x : Nat => (x : Int)) s = 0) : isP n (apL n ps rs (m.map fun x : Nat => (x : Int)) s) ∧ permR n ps rs (apL n ps rs (m.map fun x : Nat => (x : Int)) s) := by
  have hps := permS_cast.2 ⟨hm, hp⟩
  by_cases q : posR n (barL rs) (atomsL n rs) m s
  · rw [(ap_yes hps q).1]; exact res_perm hf hm hp q
  · rw [(ap_no hps q).2.2] at h; cases h
end
end Go.D33
end
section
namespace Go.Proofs.Ytbkbeplddddgeaa
open Go Go.RowKit Go.H Go.D33

theorem hcallOk9 : G.callOk Try.prog 9 = true := by kernel_rfl
theorem hcallOk10 : G.callOk Try.prog 10 = true := by kernel_rfl
theorem hcallOk11 : G.callOk Try.prog 11 = true := by kernel_rfl
theorem hcallOk14 : G.callOk Try.prog 14 = true := by kernel_rfl
theorem hcallOk16 : G.callOk Try.prog 16 = true := by kernel_rfl
theorem hcallOk17 : G.callOk Try.prog 17 = true := by kernel_rfl

set_option maxRecDepth 8000 in
set_option maxHeartbeats 1600000 in
theorem awake34_h  :
    Con Try.prog 9 [] [] (vB true) [] := by
 obtain ⟨i3, hi3, hz3, hs3, hb3⟩ := hinf3
 obtain ⟨i61, hi61, hz61, hs61, hb61⟩ := hinf61
 refine Con.enterL (n := 57) Try.func9 rfl rfl rfl (fun τ w ok vs hin => ?_)
 clear hin
 refine W.rg (SL.an rfl rfl (E.fo (W.rg ?_)))
 refine SL.val (O.build (res := [_, _, _]) (z := .agg #[.int .i64 0, .int .i64 0, .int .i64 0]) (places := [(0, 1), (1, 1), (2, 1)]) rfl rfl Try.underlying61 (by kernel_rfl) (fun _ => by kernel_rfl) rfl rfl Taken.no) ?_
 refine SL.val (O.build (res := [_, _, _]) (z := .agg #[.int .i64 0, .int .i64 0, .int .i64 0]) (places := [(0, 1), (1, 1), (2, 1)]) rfl rfl Try.underlying61 (by kernel_rfl) (fun _ => by kernel_rfl) rfl rfl Taken.no) ?_
 refine SL.val (O.build (res := [_, _, _]) (z := .agg #[.int .i64 0, .int .i64 0, .int .i64 0]) (places := [(0, 1), (1, 1), (2, 1)]) rfl rfl Try.underlying61 (by kernel_rfl) (fun _ => by kernel_rfl) rfl rfl Taken.no) ?_
 refine SL.memS (O.buildSlice 101 (rows := exP.map ePr) rfl rfl Try.underlying28 hi61 hz61 hs61 (by decide) rfl (by decide) rfl rfl rfl Taken.no) rfl rfl (S' := (101, .data 61 3 (exP.map ePr)) :: _) rfl ?_
 refine SL.freeze 101 rfl (F' := [(12, _)]) (⟨⟨_, rfl, rfl⟩, trivial⟩) ?_
 refine SL.val (O.build (res := [_, _, _]) (z := .agg #[.int .i64 0, .slice none 0 0, .slice none 0 0]) (places := [(0, 1), (1, 1), (2, 1)]) rfl rfl Try.underlying30 (by kernel_rfl) (fun _ => by kernel_rfl) rfl rfl Taken.no) ?_
 refine SL.memS (O.alloc (z := .agg #[.int .i64 0, .slice none 0 0, .slice none 0 0]) (is := [.u (.sc (.int .i64 0)), .u (.sc (.slice none 0 0)), .u (.sc (.slice none 0 0))]) 102 (by kernel_rfl) rfl rfl rfl Taken.no) rfl rfl (S' := (102, _) :: _) rfl ?_
 refine SL.effS (O.st_ref (m := 3) rfl rfl rfl (js := [_, _, _]) rfl rfl (by kernel_rfl) (by simp) (Nat.le_of_ble_eq_true rfl) rfl (is' := [_, _, _]) rfl Taken.no) (S' := (102, _) :: _) rfl ?_
 refine E.fo (W.rg ?_)
 refine SL.val (O.ldN (m := 3) (PtI.ref rfl rfl) (js := [_, _, _]) rfl (Nat.le_of_ble_eq_true rfl) Try.underlying30 rfl (by kernel_rfl) rfl Taken.no) ?_
 refine SL.memS (O.call (rn []) [] rfl rfl rfl (bestC_ok ex_ok ex_8) (.cons (ArgOk.aggU (.cons (ArgOk.same rfl) (.cons (ArgOk.same rfl) (.cons ArgOk.nil .nil)))) .nil) SubS.nil rfl rfl rfl rfl rfl (.inl rfl) hcallOk12 (r' := .tup [.u _, .u _, .u _]) rfl rfl Taken.no) rfl rfl (S' := _) rfl ?_
 refine SL.as (i' := .tup [vL 1 (([0, 0, 2] : List Nat).map eN), vI 5, vI 0]) 16 rfl (by rw [ex_b.1, ex_b.2]) ?_
 refine SL.mv rfl rfl ?_
 refine SL.val (O.extract rfl rfl rfl Taken.no) ?_
 refine SL.val (O.extract rfl rfl rfl Taken.no) ?_
 refine SL.val (O.extract rfl rfl rfl Taken.no) ?_
 refine SL.an rfl rfl (SL.an rfl rfl (SL.an rfl rfl (E.fo (W.rg ?_))))
 refine SL.val (O.ldN (m := 3) (PtI.ref rfl rfl) (js := [_, _, _]) rfl (Nat.le_of_ble_eq_true rfl) Try.underlying30 rfl (by kernel_rfl) rfl Taken.no) ?_
 refine SL.memS (O.call (rn []) [] rfl rfl rfl (boundC_ok ex_ok (by decide)) (.cons (ArgOk.aggU (.cons (ArgOk.same rfl) (.cons (ArgOk.same rfl) (.cons ArgOk.nil .nil)))) .nil) SubS.nil rfl rfl rfl rfl rfl (.inl rfl) hcallOk14 (r' := .tup [.u _, .u _]) rfl rfl Taken.no) rfl rfl (S' := _) rfl ?_
 refine SL.as (i' := .tup [vI 9, vI 0]) 22 rfl (by rw [ex_bd]) ?_
 refine SL.mv rfl rfl ?_
 refine SL.val (O.extract rfl rfl rfl Taken.no) ?_
 refine SL.val (O.extract rfl rfl rfl Taken.no) ?_
 refine SL.an rfl rfl (SL.an rfl rfl (E.fo ?_))
 refine W.pick (K:=[(0,_),(1,_),(2,_),(3,_),(4,_),(5,_),(6,_)]) (Z:=[(102,_)]) ⟨rfl,rfl,rfl,rfl,rfl,rfl,rfl,trivial⟩ ⟨rfl,trivial⟩ ?_
 refine W.rg ?_
 refine SL.val (O.ldN (m := 3) (PtI.ref rfl rfl) (js := [_, _, _]) rfl (Nat.le_of_ble_eq_true rfl) Try.underlying30 rfl (by kernel_rfl) rfl Taken.no) ?_
 refine SL.memS (O.call (rn []) [] rfl rfl rfl (countC_ok ex_ok ex_8 (by rw [ex_c]; decide)) (.cons (ArgOk.aggU (.cons (ArgOk.same rfl) (.cons (ArgOk.same rfl) (.cons ArgOk.nil .nil)))) .nil) SubS.nil rfl rfl rfl rfl rfl (.inl rfl) hcallOk16 (r' := .tup [.u _, .u _]) rfl rfl Taken.no) rfl rfl (S' := _) rfl ?_
 refine SL.as (i' := .tup [vI 4, vI 0]) 27 rfl (by rw [ex_c]; rfl) ?_
 refine SL.mv rfl rfl ?_
 refine SL.val (O.extract rfl rfl rfl Taken.no) ?_
 refine SL.val (O.extract rfl rfl rfl Taken.no) ?_
 refine SL.an rfl rfl (SL.an rfl rfl (E.fo (W.rg (SL.mv rfl rfl ?_))))
 refine SL.val (O.det (fun _ => G.R.mv (G.R.eql rfl rfl) (congrArg Value.bool (decide_eq_true (by rfl)))) rfl Taken.no) ?_
 refine SL.mv rfl rfl ?_
 have hg1 : true = true := by decide
 refine SL.val (O.move rfl rfl (Taken.yes rfl rfl hg1)) ?_
 refine SL.val (O.det (fun _ => G.R.mv (G.R.eql rfl rfl) (congrArg Value.bool (decide_eq_true (by rfl)))) rfl (Taken.yes rfl rfl hg1)) ?_
 refine SL.val (O.pick_t rfl rfl rfl rfl Taken.no) ?_
 refine SL.mv rfl rfl ?_
 have hg2 : true = true := by decide
 refine SL.val (O.move rfl rfl (Taken.yes rfl rfl hg2)) ?_
 refine SL.val (O.det (fun _ => G.R.mv (G.R.eql rfl rfl) (congrArg Value.bool (decide_eq_true (by rfl)))) rfl (Taken.yes rfl rfl hg2)) ?_
 refine SL.val (O.pick_t rfl rfl rfl rfl Taken.no) ?_
 refine SL.mv rfl rfl ?_
 have hg3 : true = true := by decide
 refine SL.val (O.move rfl rfl (Taken.yes rfl rfl hg3)) ?_
 refine SL.val (O.det (fun _ => G.R.mv (G.R.eql rfl rfl) (congrArg Value.bool (decide_eq_true (by rfl)))) rfl (Taken.yes rfl rfl hg3)) ?_
 refine SL.val (O.pick_t rfl rfl rfl rfl Taken.no) ?_
 refine SL.mv rfl rfl ?_
 have hg4 : true = true := by decide
 refine SL.val (O.move rfl rfl (Taken.yes rfl rfl hg4)) ?_
 refine SL.val (O.det (fun _ => G.R.mv (G.R.eql rfl rfl) (congrArg Value.bool (decide_eq_true (by rfl)))) rfl (Taken.yes rfl rfl hg4)) ?_
 refine SL.val (O.pick_t rfl rfl rfl rfl Taken.no) ?_
 refine SL.mv rfl rfl ?_
 have hg5 : true = true := by decide
 refine SL.val (O.move rfl rfl (Taken.yes rfl rfl hg5)) ?_
 refine SL.val (O.det (fun _ => G.R.mv (G.R.eql rfl rfl) (congrArg Value.bool (decide_eq_true (by rfl)))) rfl (Taken.yes rfl rfl hg5)) ?_
 refine SL.val (O.pick_t rfl rfl rfl rfl Taken.no) ?_
 refine SL.mv rfl rfl ?_
 have hg6 : true = true := by decide
 refine SL.val (O.move rfl rfl (Taken.yes rfl rfl hg6)) ?_
 refine SL.memS (O.buildSlice 103 (rows := ([0, 0, 2] : List Nat).map eN) rfl rfl Try.underlying32 hi3 hz3 hs3 (by decide) rfl (by decide) rfl rfl rfl (Taken.yes rfl rfl hg6)) rfl rfl (S' := (103, .data 3 1 (([0, 0, 2] : List Nat).map eN)) :: _) rfl ?_
 refine SL.memS (O.call (rn []) [103] rfl rfl rfl (same_h (a := [0, 0, 2]) (b := [0, 0, 2])) (.cons (ArgOk.same rfl) (.cons (ArgOk.own rfl rfl) .nil)) SubS.nil rfl rfl rfl rfl rfl (.inr ⟨rfl, fun x hx => by simp at hx⟩) hcallOk18 (r' := .u _) rfl rfl (Taken.yes rfl rfl hg6)) rfl rfl (S' := _) rfl ?_
 refine SL.as (i' := vB true) 55 rfl (by exact iv_bool (dec_t rfl)) ?_
 refine SL.val (O.pick_t rfl rfl rfl rfl Taken.no) ?_
 refine SL.an rfl rfl (E.fo ?_)
 refine W.pick (K:=[(0,_)]) (Z:=[(102,_),(103,_)]) ⟨rfl,trivial⟩ ⟨rfl,rfl,trivial⟩ ?_
 refine W.ret ?_
 refine E.fin (rs := [_]) (rn []) (.inl rfl) rfl (.cons (ResOne.tmp rfl) .nil) ?_ ?_ rfl (fixL_spec rfl)
 ·skip
  rfl
 · exact SubS.nil











set_option maxRecDepth 8000 in
theorem valid34_y {n : Nat} {ps : List Pr} {rs : List Ru} (hok : (Prob.mk (n : Int) ps rs).ok) (hfew : ((n : Int) ≤ 9 ∨ 200 < (n : Int)) ∧ ps.length ≤ 40 ∧ (rs.length ≤ 12 ∨ rs.length = 401)) (h6 : (selfs n (atomsL n rs)).length ≤ 6) :
    Con Try.prog 19 [vA [uI (n : Int), .sl 3 (ps.map ePr), .sl 3 (rs.map eRu)]] [] (vB true) [] := by
 have hf := hok.1
 have hn2 : (n : Int) ≤ 200 := hf.2.1
 have hr4 : rs.length ≤ 400 := hf.2.2.1
 have hn9 : n ≤ 9 := by omega
 have h8 : (selfs n (atomsL n rs)).length ≤ 8 := by omega
 have hnm : (selfs n (atomsL n rs)).length ≤ 6 ∨ 8 < (selfs n (atomsL n rs)).length := by omega
 have hlb := allL_9 (ps := ps) (rs := rs) hn9
 refine Con.enterL (n := 20) Try.func19 rfl rfl rfl (fun τ w ok vs hin => ?_)
 have hl0_1 := hin.lenA (i := 0) (j := 1) rfl rfl
 try rw [List.length_map] at hl0_1
 have hl0_2 := hin.lenA (i := 0) (j := 2) rfl rfl
 try rw [List.length_map] at hl0_2
 clear hin
 refine W.rg ?_
 refine SL.memS (O.box (is := [_, _, _]) 101 rfl rfl (by simp) rfl rfl Taken.no) rfl rfl (S' := (101, _) :: _) rfl ?_
 refine SL.an rfl rfl (E.fo (W.seq (W.rg ?_)))
 refine SL.val (O.ldN (m := 3) (PtI.ref rfl rfl) (js := [_, _, _]) rfl (Nat.le_of_ble_eq_true rfl) Try.underlying25 rfl (by kernel_rfl) rfl Taken.no) ?_
 refine SL.val (O.callp rfl rfl rfl (few34_ok hok) (.cons (ArgOk.aggU (.cons (ArgOk.same rfl) (.cons (ArgOk.same rfl) (.cons (ArgOk.same rfl) .nil)))) .nil) hcallOk10 rfl Taken.no) ?_
 refine SL.as (i' := vB true) 6 rfl (by exact iv_bool (dec_t ⟨hfew, hnm⟩)) ?_
 refine SL.val (O.det (fun _ => G.R.mv (G.R.not rfl) rfl) rfl Taken.no) ?_
 refine SL.mv rfl rfl ?_
 have hg1 : false = false := by decide
 refine SL.val (O.ldN (m := 3) (PtI.ref rfl rfl) (js := [_, _, _]) rfl (Nat.le_of_ble_eq_true rfl) Try.underlying25 rfl (by kernel_rfl) rfl (Taken.yes rfl rfl hg1)) ?_
 refine SL.val (O.callp rfl rfl rfl (refvalid_h (N := (n : Int)) (ps := ps) (rs := rs)) (.cons (ArgOk.aggU (.cons (ArgOk.same rfl) (.cons (ArgOk.same rfl) (.cons (ArgOk.same rfl) .nil)))) .nil) hcallOk33 rfl (Taken.yes rfl rfl hg1)) ?_
 refine SL.as (i' := vI 0) 10 rfl (by rw [Prob.err_0 hok]) ?_
 refine SL.val (O.det (fun _ => G.R.mv (G.R.neq rfl rfl) (congrArg Value.bool (decide_eq_false (by decide)))) rfl (Taken.yes rfl rfl hg1)) ?_
 refine SL.val (O.pick_f rfl rfl rfl rfl Taken.no) ?_
 refine E.fo ?_
 refine W.cond_f rfl ?_
 refine W.skip (E.to (W.rg ?_))
 refine SL.val (O.ldN (m := 3) (PtI.ref rfl rfl) (js := [_, _, _]) rfl (Nat.le_of_ble_eq_true rfl) Try.underlying25 rfl (by kernel_rfl) rfl Taken.no) ?_
 refine SL.memS (O.call (rn []) [] rfl rfl rfl (refCount_ok hok h8 hn9) (.cons (ArgOk.aggU (.cons (ArgOk.same rfl) (.cons (ArgOk.same rfl) (.cons (ArgOk.same rfl) .nil)))) .nil) SubS.nil rfl rfl rfl rfl rfl (.inl rfl) hcallOk17 (r' := .tup [.u _, .u _]) rfl rfl Taken.no) rfl rfl (S' := _) rfl ?_
 refine SL.mv rfl rfl ?_
 refine SL.val (O.extract rfl rfl rfl Taken.no) ?_
 refine SL.val (O.extract rfl rfl rfl Taken.no) ?_
 refine SL.an rfl rfl (SL.an rfl rfl (E.fo (W.rg (SL.mv rfl rfl ?_))))
 refine SL.val (O.det (fun _ => G.R.mv (G.R.eql rfl rfl) (congrArg Value.bool (decide_eq_true (by rfl)))) rfl Taken.no) ?_
 refine SL.an rfl rfl (E.fo (W.ret ?_))
 refine E.fin (rs := [_]) (rn []) (.inl rfl) rfl (.cons (ResOne.tmp rfl) .nil) ?_ ?_ rfl (fixL_spec rfl)
 ·skip
  rfl
 · exact SubS.nil

set_option maxRecDepth 8000 in
theorem valid34_m {n : Nat} {ps : List Pr} {rs : List Ru} (hok : (Prob.mk (n : Int) ps rs).ok) (hfew : ((n : Int) ≤ 9 ∨ 200 < (n : Int)) ∧ ps.length ≤ 40 ∧ (rs.length ≤ 12 ∨ rs.length = 401)) (h8 : 8 < (selfs n (atomsL n rs)).length) :
    Con Try.prog 19 [vA [uI (n : Int), .sl 3 (ps.map ePr), .sl 3 (rs.map eRu)]] [] (vB false) [] := by
 have hf := hok.1
 have hn2 : (n : Int) ≤ 200 := hf.2.1
 have hr4 : rs.length ≤ 400 := hf.2.2.1
 have hn9 : n ≤ 9 := by omega
 have hnm : (selfs n (atomsL n rs)).length ≤ 6 ∨ 8 < (selfs n (atomsL n rs)).length := by omega
 refine Con.enterL (n := 20) Try.func19 rfl rfl rfl (fun τ w ok vs hin => ?_)
 have hl0_1 := hin.lenA (i := 0) (j := 1) rfl rfl
 try rw [List.length_map] at hl0_1
 have hl0_2 := hin.lenA (i := 0) (j := 2) rfl rfl
 try rw [List.length_map] at hl0_2
 clear hin
 refine W.rg ?_
 refine SL.memS (O.box (is := [_, _, _]) 101 rfl rfl (by simp) rfl rfl Taken.no) rfl rfl (S' := (101, _) :: _) rfl ?_
 refine SL.an rfl rfl (E.fo (W.seq (W.rg ?_)))
 refine SL.val (O.ldN (m := 3) (PtI.ref rfl rfl) (js := [_, _, _]) rfl (Nat.le_of_ble_eq_true rfl) Try.underlying25 rfl (by kernel_rfl) rfl Taken.no) ?_
 refine SL.val (O.callp rfl rfl rfl (few34_ok hok) (.cons (ArgOk.aggU (.cons (ArgOk.same rfl) (.cons (ArgOk.same rfl) (.cons (ArgOk.same rfl) .nil)))) .nil) hcallOk10 rfl Taken.no) ?_
 refine SL.as (i' := vB true) 6 rfl (by exact iv_bool (dec_t ⟨hfew, hnm⟩)) ?_
 refine SL.val (O.det (fun _ => G.R.mv (G.R.not rfl) rfl) rfl Taken.no) ?_
 refine SL.mv rfl rfl ?_
 have hg1 : false = false := by decide
 refine SL.val (O.ldN (m := 3) (PtI.ref rfl rfl) (js := [_, _, _]) rfl (Nat.le_of_ble_eq_true rfl) Try.underlying25 rfl (by kernel_rfl) rfl (Taken.yes rfl rfl hg1)) ?_
 refine SL.val (O.callp rfl rfl rfl (refvalid_h (N := (n : Int)) (ps := ps) (rs := rs)) (.cons (ArgOk.aggU (.cons (ArgOk.same rfl) (.cons (ArgOk.same rfl) (.cons (ArgOk.same rfl) .nil)))) .nil) hcallOk33 rfl (Taken.yes rfl rfl hg1)) ?_
 refine SL.as (i' := vI 0) 10 rfl (by rw [Prob.err_0 hok]) ?_
 refine SL.val (O.det (fun _ => G.R.mv (G.R.neq rfl rfl) (congrArg Value.bool (decide_eq_false (by decide)))) rfl (Taken.yes rfl rfl hg1)) ?_
 refine SL.val (O.pick_f rfl rfl rfl rfl Taken.no) ?_
 refine E.fo ?_
 refine W.cond_f rfl ?_
 refine W.skip (E.to (W.rg ?_))
 refine SL.val (O.ldN (m := 3) (PtI.ref rfl rfl) (js := [_, _, _]) rfl (Nat.le_of_ble_eq_true rfl) Try.underlying25 rfl (by kernel_rfl) rfl Taken.no) ?_
 refine SL.memS (O.call (rn []) [] rfl rfl rfl (refCount_many hok h8) (.cons (ArgOk.aggU (.cons (ArgOk.same rfl) (.cons (ArgOk.same rfl) (.cons (ArgOk.same rfl) .nil)))) .nil) SubS.nil rfl rfl rfl rfl rfl (.inl rfl) hcallOk17 (r' := .tup [.u _, .u _]) rfl rfl Taken.no) rfl rfl (S' := _) rfl ?_
 refine SL.mv rfl rfl ?_
 refine SL.val (O.extract rfl rfl rfl Taken.no) ?_
 refine SL.val (O.extract rfl rfl rfl Taken.no) ?_
 refine SL.an rfl rfl (SL.an rfl rfl (E.fo (W.rg (SL.mv rfl rfl ?_))))
 refine SL.val (O.det (fun _ => G.R.mv (G.R.eql rfl rfl) (congrArg Value.bool (decide_eq_false (by decide)))) rfl Taken.no) ?_
 refine SL.an rfl rfl (E.fo (W.ret ?_))
 refine E.fin (rs := [_]) (rn []) (.inl rfl) rfl (.cons (ResOne.tmp rfl) .nil) ?_ ?_ rfl (fixL_spec rfl)
 ·skip
  rfl
 · exact SubS.nil

set_option maxRecDepth 8000 in
theorem valid34_b {N : Int} {ps : List Pr} {rs : List Ru} (hok : ¬ (Prob.mk N ps rs).ok) (hfew : (N ≤ 9 ∨ 200 < N) ∧ ps.length ≤ 40 ∧ (rs.length ≤ 12 ∨ rs.length = 401)) :
    Con Try.prog 19 [vA [uI N, .sl 3 (ps.map ePr), .sl 3 (rs.map eRu)]] [] (vB false) [] := by
 have he : (Prob.mk N ps rs).err ≠ 0 := fun q => hok (Prob.err_iff.1 q)
 refine Con.enterL (n := 20) Try.func19 rfl rfl rfl (fun τ w ok vs hin => ?_)
 have hl0_1 := hin.lenA (i := 0) (j := 1) rfl rfl
 try rw [List.length_map] at hl0_1
 have hl0_2 := hin.lenA (i := 0) (j := 2) rfl rfl
 try rw [List.length_map] at hl0_2
 clear hin
 refine W.rg ?_
 refine SL.memS (O.box (is := [_, _, _]) 101 rfl rfl (by simp) rfl rfl Taken.no) rfl rfl (S' := (101, _) :: _) rfl ?_
 refine SL.an rfl rfl (E.fo (W.seq (W.rg ?_)))
 refine SL.val (O.ldN (m := 3) (PtI.ref rfl rfl) (js := [_, _, _]) rfl (Nat.le_of_ble_eq_true rfl) Try.underlying25 rfl (by kernel_rfl) rfl Taken.no) ?_
 refine SL.val (O.callp rfl rfl rfl (few34_bad hok) (.cons (ArgOk.aggU (.cons (ArgOk.same rfl) (.cons (ArgOk.same rfl) (.cons (ArgOk.same rfl) .nil)))) .nil) hcallOk10 rfl Taken.no) ?_
 refine SL.as (i' := vB true) 6 rfl (by exact iv_bool (dec_t hfew)) ?_
 refine SL.val (O.det (fun _ => G.R.mv (G.R.not rfl) rfl) rfl Taken.no) ?_
 refine SL.mv rfl rfl ?_
 have hg1 : false = false := by decide
 refine SL.val (O.ldN (m := 3) (PtI.ref rfl rfl) (js := [_, _, _]) rfl (Nat.le_of_ble_eq_true rfl) Try.underlying25 rfl (by kernel_rfl) rfl (Taken.yes rfl rfl hg1)) ?_
 refine SL.val (O.callp rfl rfl rfl (refvalid_h (N := N) (ps := ps) (rs := rs)) (.cons (ArgOk.aggU (.cons (ArgOk.same rfl) (.cons (ArgOk.same rfl) (.cons (ArgOk.same rfl) .nil)))) .nil) hcallOk33 rfl (Taken.yes rfl rfl hg1)) ?_
 refine SL.val (O.det (fun _ => G.R.mv (G.R.neq rfl rfl) (congrArg Value.bool (decide_eq_true (by exact he)))) rfl (Taken.yes rfl rfl hg1)) ?_
 refine SL.val (O.pick_f rfl rfl rfl rfl Taken.no) ?_
 refine E.fo ?_
 refine W.cond_t rfl ?_
 refine W.rg (SL.an rfl rfl (E.fo (W.ret (E.thr ?_))))
 refine E.fin (rs := [_]) (rn []) (.inl rfl) rfl (.cons (ResOne.tmp rfl) .nil) ?_ ?_ rfl (fixL_spec rfl)
 ·skip
  rfl
 · exact SubS.nil

set_option maxRecDepth 8000 in
theorem valid34_n {N : Int} {ps : List Pr} {rs : List Ru} (hv : Con Try.prog 10 [vA [uI N, .sl 3 (ps.map ePr), .sl 3 (rs.map eRu)]] [] (vB false) []) :
    Con Try.prog 19 [vA [uI N, .sl 3 (ps.map ePr), .sl 3 (rs.map eRu)]] [] (vB false) [] := by
 refine Con.enterL (n := 20) Try.func19 rfl rfl rfl (fun τ w ok vs hin => ?_)
 have hl0_1 := hin.lenA (i := 0) (j := 1) rfl rfl
 try rw [List.length_map] at hl0_1
 have hl0_2 := hin.lenA (i := 0) (j := 2) rfl rfl
 try rw [List.length_map] at hl0_2
 clear hin
 refine W.rg ?_
 refine SL.memS (O.box (is := [_, _, _]) 101 rfl rfl (by simp) rfl rfl Taken.no) rfl rfl (S' := (101, _) :: _) rfl ?_
 refine SL.an rfl rfl (E.fo (W.seq (W.rg ?_)))
 refine SL.val (O.ldN (m := 3) (PtI.ref rfl rfl) (js := [_, _, _]) rfl (Nat.le_of_ble_eq_true rfl) Try.underlying25 rfl (by kernel_rfl) rfl Taken.no) ?_
 refine SL.val (O.callp rfl rfl rfl (hv) (.cons (ArgOk.aggU (.cons (ArgOk.same rfl) (.cons (ArgOk.same rfl) (.cons (ArgOk.same rfl) .nil)))) .nil) hcallOk10 rfl Taken.no) ?_
 refine SL.as (i' := vB false) 6 rfl (by rfl) ?_
 refine SL.val (O.det (fun _ => G.R.mv (G.R.not rfl) rfl) rfl Taken.no) ?_
 refine SL.mv rfl rfl ?_
 have hg1 : true ≠ false := by decide
 refine SL.sk rfl rfl rfl hg1 (SL.sk rfl rfl rfl hg1 (SL.sk rfl rfl rfl hg1 ?_))
 refine SL.val (O.pick_t rfl rfl rfl rfl Taken.no) ?_
 refine E.fo ?_
 refine W.cond_t rfl ?_
 refine W.rg (SL.an rfl rfl (E.fo (W.ret (E.thr ?_))))
 refine E.fin (rs := [_]) (rn []) (.inl rfl) rfl (.cons (ResOne.tmp rfl) .nil) ?_ ?_ rfl (fixL_spec rfl)
 ·skip
  rfl
 · exact SubS.nil

theorem valid34_h {N : Int} {ps : List Pr} {rs : List Ru} (h : ¬ ((Prob.mk N ps rs).ok ∧ ((N ≤ 9 ∨ 200 < N) ∧ ps.length ≤ 40 ∧ (rs.length ≤ 12 ∨ rs.length = 401)) ∧ (selfs N.toNat (atomsL N.toNat rs)).length ≤ 6)) : Con Try.prog 19 [vA [uI N, .sl 3 (ps.map ePr), .sl 3 (rs.map eRu)]] [] (vB false) [] := by
  by_cases hok : (Prob.mk N ps rs).ok
  · obtain ⟨n, rfl⟩ : ∃ n : Nat, N = (n : Int) := ⟨N.toNat, Prob.nat hok.1⟩
    by_cases hfew : ((n : Int) ≤ 9 ∨ 200 < (n : Int)) ∧ ps.length ≤ 40 ∧ (rs.length ≤ 12 ∨ rs.length = 401)
    · by_cases h8 : 8 < (selfs n (atomsL n rs)).length
      · exact valid34_m hok hfew h8
      · refine valid34_n ?_
        have h2 := few34_ok hok
        rwa [decide_eq_false (fun q => h ⟨hok, hfew, by show (selfs n (atomsL n rs)).length ≤ 6; omega⟩)] at h2
    · refine valid34_n ?_
      have h := few34_ok hok
      rwa [decide_eq_false (fun q => hfew q.1)] at h
  · by_cases hfew : (N ≤ 9 ∨ 200 < N) ∧ ps.length ≤ 40 ∧ (rs.length ≤ 12 ∨ rs.length = 401)
    · exact valid34_b hok hfew
    · refine valid34_n ?_
      have h := few34_bad hok
      rwa [decide_eq_false hfew] at h

end Go.Proofs.Ytbkbeplddddgeaa
end
section
namespace Go.Proofs.Ytbkbeplddddgeaa
open Go Go.RowKit Go.H Go.D33

theorem hinf47 : ∃ i, Try.prog.info? 47 = some i ∧ i.zero = some (.agg #[.bool false, .int .i64 0, .int .i64 0]) ∧ i.size = 3 ∧ i.bytes = 24 := G.info_of (by kernel_rfl)
theorem hcallOk19 : G.callOk Try.prog 19 = true := by kernel_rfl
theorem hcallOk23 : G.callOk Try.prog 23 = true := by kernel_rfl

theorem refApplyN_h {n : Nat} {ps : List Pr} {rs : List Ru} {m : List Nat} {u : Bool} {f t : Int} (hok : (Prob.mk (n : Int) ps rs).ok) (hpl : ps.length ≤ 1000000) : Con Try.prog 23 [vA [uI (n : Int), .sl 3 (ps.map ePr), .sl 3 (rs.map eRu)], vL 1 (m.map eN), vA [uB u, uI f, uI t]] [] (.tup [vL 1 ((apL n ps rs (m.map fun x : Nat => (x : Int)) ⟨u, f, t⟩).map eN), vI (apV n ps rs (m.map fun x : Nat => (x : Int)) ⟨u, f, t⟩), vI (apE n ps rs (m.map fun x : Nat => (x : Int)) ⟨u, f, t⟩)]) [] := by
  have h := refApply_ok (l := m.map fun x : Nat => (x : Int)) (u := u) (f := f) (t := t) hok hpl
  rw [eI_eN] at h
  exact h

set_option maxRecDepth 8000 in
set_option maxHeartbeats 3200000 in
theorem optimumGreatest_y {n : Nat} {ps : List Pr} {rs : List Ru} {ss : List Stp} (hok : (Prob.mk (n : Int) ps rs).ok) (hfew : ((n : Int) ≤ 9 ∨ 200 < (n : Int)) ∧ ps.length ≤ 40 ∧ (rs.length ≤ 12 ∨ rs.length = 401)) (h6 : (selfs n (atomsL n rs)).length ≤ 6) :
    Con Try.prog 4 [vA [uI (n : Int), .sl 3 (ps.map ePr), .sl 3 (rs.map eRu)], vL 3 (ss.map eStp)] [] (vB true) [] := by
 have hf := hok.1
 have hn2 : (n : Int) ≤ 200 := hf.2.1
 have hr4 : rs.length ≤ 400 := hf.2.2.1
 have hn9 : n ≤ 9 := by omega
 have h8 : (selfs n (atomsL n rs)).length ≤ 8 := by omega
 have hnm : (selfs n (atomsL n rs)).length ≤ 6 ∨ 8 < (selfs n (atomsL n rs)).length := by omega
 have hlb := allL_9 (ps := ps) (rs := rs) hn9
 obtain ⟨i47, hi47, hz47, hs47, hb47⟩ := hinf47
 refine Con.enterL (n := 102) Try.func4 rfl rfl rfl (fun τ w ok vs hin => ?_)
 have hl0_1 := hin.lenA (i := 0) (j := 1) rfl rfl
 try rw [List.length_map] at hl0_1
 have hl0_2 := hin.lenA (i := 0) (j := 2) rfl rfl
 try rw [List.length_map] at hl0_2
 have hl1 := hin.len (i := 1) rfl
 try rw [List.length_map] at hl1
 clear hin
 refine W.rg ?_
 refine SL.memS (O.box (is := [_, _, _]) 101 rfl rfl (by simp) rfl rfl Taken.no) rfl rfl (S' := (101, _) :: _) rfl ?_
 refine SL.an rfl rfl (E.fo (W.seq (W.rg ?_)))
 refine SL.val (O.callp rfl rfl rfl (awake34_h) .nil hcallOk9 rfl Taken.no) ?_
 refine SL.as (i' := vB true) 19 rfl (by rfl) ?_
 refine SL.val (O.det (fun _ => G.R.mv (G.R.not rfl) rfl) rfl Taken.no) ?_
 refine SL.mv rfl rfl ?_
 have hg1 : false = false := by decide
 refine SL.val (O.ldN (m := 3) (PtI.ref rfl rfl) (js := [_, _, _]) rfl (Nat.le_of_ble_eq_true rfl) Try.underlying25 rfl (by kernel_rfl) rfl (Taken.yes rfl rfl hg1)) ?_
 refine SL.val (O.callp rfl rfl rfl (valid34_y hok hfew h6) (.cons (ArgOk.aggU (.cons (ArgOk.same rfl) (.cons (ArgOk.same rfl) (.cons (ArgOk.same rfl) .nil)))) .nil) hcallOk19 rfl (Taken.yes rfl rfl hg1)) ?_
 refine SL.as (i' := vB true) 23 rfl (by rfl) ?_
 refine SL.val (O.det (fun _ => G.R.mv (G.R.not rfl) rfl) rfl (Taken.yes rfl rfl hg1)) ?_
 refine SL.val (O.pick_f rfl rfl rfl rfl Taken.no) ?_
 refine SL.mv rfl rfl ?_
 have hg2 : false = false := by decide
 refine SL.val (O.move rfl rfl (Taken.yes rfl rfl hg2)) ?_
 refine SL.val (O.lenE (SlOf.fz rfl (by decide)) (by first | exact List.length_map _ | rfl) Try.underlying41 rfl (Taken.yes rfl rfl hg2)) ?_
 refine SL.val (O.det (fun _ => G.R.gtr rfl rfl) rfl (Taken.yes rfl rfl hg2)) ?_
 refine SL.val (O.pick_f rfl rfl rfl rfl Taken.no) ?_
 refine E.fo ?_
 first | refine W.cond_d rfl (fun hc3 => ?_) (fun hc3 => ?_) | refine W.cond_nd rfl (fun hc3 => ?_) (fun hc3 => ?_) | refine W.cond rfl (fun hc3 => ?_) (fun hc3 => ?_)
 ·skip
  refine W.rg ?_
  refine SL.val (O.callp rfl rfl rfl (awake34_h) .nil hcallOk9 rfl Taken.no) ?_
  refine SL.as (i' := vB true) 31 rfl (by rfl) ?_
  refine SL.an rfl rfl (E.fo (W.ret (E.thr ?_)))
  refine E.fin (rs := [_]) (rn []) (.inl rfl) rfl (.cons (ResOne.tmp rfl) .nil) ?_ ?_ rfl (fixL_spec rfl)
  ·skip
   rfl
  · exact SubS.nil
 refine W.skip (E.to (W.rg ?_))
 refine SL.val (O.ldN (m := 3) (PtI.ref rfl rfl) (js := [_, _, _]) rfl (Nat.le_of_ble_eq_true rfl) Try.underlying25 rfl (by kernel_rfl) rfl Taken.no) ?_
 refine SL.memS (O.call (rn []) [] rfl rfl rfl (own_h (by omega) (by omega)) (.cons (ArgOk.aggU (.cons (ArgOk.same rfl) (.cons (ArgOk.same rfl) (.cons (ArgOk.same rfl) .nil)))) .nil) SubS.nil rfl rfl rfl rfl rfl (.inl rfl) hcallOk11 (r' := .agg [.u _, .u _, .u _]) rfl rfl Taken.no) rfl rfl (S' := _) rfl ?_
 refine SL.memS (O.call (rn []) [] rfl rfl rfl (bestC_ok hok h8) (.cons (ArgOk.aggU (.cons (ArgOk.same rfl) (.cons (ArgOk.same rfl) (.cons (ArgOk.same rfl) .nil)))) .nil) SubS.nil rfl rfl rfl rfl rfl (.inl rfl) hcallOk12 (r' := .tup [.u _, .u _, .u _]) rfl rfl Taken.no) rfl rfl (S' := _) rfl ?_
 refine SL.mv rfl rfl ?_
 refine SL.val (O.extract rfl rfl rfl Taken.no) ?_
 refine SL.val (O.extract rfl rfl rfl Taken.no) ?_
 refine SL.val (O.extract rfl rfl rfl Taken.no) ?_
 refine SL.an rfl rfl (SL.an rfl rfl (SL.an rfl rfl (E.fo ?_)))
 refine W.pick (K:=[(1,_),(2,_),(4,_),(5,_),(6,_),(7,_)]) (Z:=[(101,_)]) ⟨rfl,rfl,rfl,rfl,rfl,rfl,trivial⟩ ⟨rfl,trivial⟩ ?_
 refine W.seq (W.rg (SL.mv rfl rfl ?_))
 refine SL.val (O.det (fun _ => G.R.mv (G.R.neq rfl rfl) (congrArg Value.bool (decide_eq_false (by decide)))) rfl Taken.no) ?_
 refine SL.mv rfl rfl ?_
 have hg4 : false = false := by decide
 refine SL.val (O.ldN (m := 3) (PtI.ref rfl rfl) (js := [_, _, _]) rfl (Nat.le_of_ble_eq_true rfl) Try.underlying25 rfl (by kernel_rfl) rfl (Taken.yes rfl rfl hg4)) ?_
 refine SL.val (O.move rfl rfl (Taken.yes rfl rfl hg4)) ?_
 refine SL.val (O.callp rfl rfl rfl (refPermN_h (m := (stB n ps rs).best) hok) (.cons (ArgOk.aggU (.cons (ArgOk.same rfl) (.cons (ArgOk.same rfl) (.cons (ArgOk.same rfl) .nil)))) (.cons (ArgOk.same rfl) .nil)) hcallOk20 rfl (Taken.yes rfl rfl hg4)) ?_
 refine SL.as (i' := vB true) 44 rfl (by exact iv_bool (permB_iff.2 (stB_perm hok))) ?_
 refine SL.val (O.det (fun _ => G.R.mv (G.R.not rfl) rfl) rfl (Taken.yes rfl rfl hg4)) ?_
 refine SL.val (O.pick_f rfl rfl rfl rfl Taken.no) ?_
 refine E.fo ?_
 refine W.cond_f rfl ?_
 refine W.skip (E.to (W.seq (W.rg ?_)))
 refine SL.val (O.ldN (m := 3) (PtI.ref rfl rfl) (js := [_, _, _]) rfl (Nat.le_of_ble_eq_true rfl) Try.underlying25 rfl (by kernel_rfl) rfl Taken.no) ?_
 refine SL.mv rfl rfl ?_
 refine SL.memS (O.call (rn []) [] rfl rfl rfl (refValN_h (m := (stB n ps rs).best) hok (stB_perm hok).1 (by omega)) (.cons (ArgOk.aggU (.cons (ArgOk.same rfl) (.cons (ArgOk.same rfl) (.cons (ArgOk.same rfl) .nil)))) (.cons (ArgOk.same rfl) .nil)) SubS.nil rfl rfl rfl rfl rfl (.inl rfl) hcallOk21 (r' := .tup [.u _, .u _]) rfl rfl Taken.no) rfl rfl (S' := _) rfl ?_
 refine SL.as (i' := .tup [vI (stB n ps rs).most, vI 0]) 50 rfl (by rw [(stB_spec hok).2.1]) ?_
 refine SL.mv rfl rfl ?_
 refine SL.val (O.extract rfl rfl rfl Taken.no) ?_
 refine SL.val (O.extract rfl rfl rfl Taken.no) ?_
 refine SL.an rfl rfl (SL.an rfl rfl (E.fo (W.rg (SL.mv rfl rfl ?_))))
 refine SL.val (O.det (fun _ => G.R.mv (G.R.neq rfl rfl) (congrArg Value.bool (decide_eq_false (by decide)))) rfl Taken.no) ?_
 refine SL.mv rfl rfl ?_
 have hg5 : false = false := by decide
 refine SL.val (O.move rfl rfl (Taken.yes rfl rfl hg5)) ?_
 refine SL.val (O.move rfl rfl (Taken.yes rfl rfl hg5)) ?_
 refine SL.val (O.det (fun _ => G.R.mv (G.R.neq rfl rfl) (congrArg Value.bool (decide_eq_false (by simp)))) rfl (Taken.yes rfl rfl hg5)) ?_
 refine SL.val (O.pick_f rfl rfl rfl rfl Taken.no) ?_
 refine E.fo ?_
 refine W.pick (K:=[(1,_),(2,_),(4,_),(5,_),(6,_),(59,_)]) (Z:=[(101,_)]) ⟨rfl,rfl,rfl,rfl,rfl,rfl,trivial⟩ ⟨rfl,trivial⟩ ?_
 refine W.cond_f rfl ?_
 refine W.skip (E.to (W.rg ?_))
 refine SL.val (O.ldN (m := 3) (PtI.ref rfl rfl) (js := [_, _, _]) rfl (Nat.le_of_ble_eq_true rfl) Try.underlying25 rfl (by kernel_rfl) rfl Taken.no) ?_
 refine SL.memS (O.call (rn []) [] rfl rfl rfl (refAtoms_ok hok) (.cons (ArgOk.aggU (.cons (ArgOk.same rfl) (.cons (ArgOk.same rfl) (.cons (ArgOk.same rfl) .nil)))) .nil) SubS.nil rfl rfl rfl rfl rfl (.inl rfl) hcallOk22 (r' := .tup [.u _, .u _]) rfl rfl Taken.no) rfl rfl (S' := _) rfl ?_
 refine SL.mv rfl rfl ?_
 refine SL.val (O.extract rfl rfl rfl Taken.no) ?_
 refine SL.val (O.extract rfl rfl rfl Taken.no) ?_
 refine SL.an rfl rfl (SL.an rfl rfl (E.fo (W.seq (W.rg (SL.mv rfl rfl ?_)))))
 refine SL.val (O.lenE (SlOf.fz rfl (by decide)) (by first | exact List.length_map _ | rfl) Try.underlying41 rfl Taken.no) ?_
 refine SL.mv rfl rfl (E.fo (W.block ?_))
 refine W.loopx2 (fun (k : Nat) (m : List Nat) => [(67, vI (k : Int)), (10, vL 1 (m.map eN))]) (fun (k : Nat) (m : List Nat) => []) (fun (k : Nat) (m : List Nat) => k ≤ ss.length ∧ isP n m ∧ permR n ps rs m) (fun (k : Nat) (m : List Nat) => ss.length - k) (0) (atomsL n rs) (rn []) (.cons (t := 2) rfl (.cons (t := 5) rfl (.cons (t := 6) rfl (.cons (t := 65) rfl (.cons (t := 66) rfl .nil))))) (.cons (t := 101) rfl .nil) rfl ?_ ?_ rfl rfl ?_ ?_
 · exact (SubF.cons rfl (SubF.cons rfl SubF.nil))
 · exact SubS.nil
 ·skip
  exact ⟨by omega, (atoms_perm hok).1, (atoms_perm hok).2⟩
 intro k m hinv
 obtain ⟨hk, hQ, hpr⟩ := hinv
 refine W.rg ?_
 refine SL.val (O.det (fun _ => G.R.lss rfl rfl) rfl Taken.no) ?_
 refine E.fo (W.seq ?_)
 first | refine W.cond_d rfl (fun hc6 => ?_) (fun hc6 => ?_) | refine W.cond_nd rfl (fun hc6 => ?_) (fun hc6 => ?_) | refine W.cond rfl (fun hc6 => ?_) (fun hc6 => ?_)
 ·skip
  refine W.skip (E.to (W.seq (W.block (W.rg ?_))))
  refine SL.val (O.idx_fz rfl rfl (rfl) (row_get (by omega)) Try.underlying41 hi47 hs47 rfl Taken.no) ?_
  refine SL.val (O.ldU (m := 3) (PtU.fz rfl) rfl Try.underlying47 rfl (by kernel_rfl) rfl Taken.no) ?_
  refine SL.memS (O.alloc (z := .agg #[.bool false, .int .i64 0, .int .i64 0]) (is := [.u (.sc (.bool false)), .u (.sc (.int .i64 0)), .u (.sc (.int .i64 0))]) 102 (by kernel_rfl) rfl rfl rfl Taken.no) rfl rfl (S' := (102, _) :: _) rfl ?_
  refine SL.effS (O.st_ref (m := 3) rfl rfl rfl (js := [_, _, _]) rfl rfl (by kernel_rfl) (by simp) (Nat.le_of_ble_eq_true rfl) rfl (is' := [_, _, _]) rfl Taken.no) (S' := (102, _) :: _) rfl ?_
  refine E.fo (W.seq (W.rg ?_))
  refine SL.val (O.ldN (m := 3) (PtI.ref rfl rfl) (js := [_, _, _]) rfl (Nat.le_of_ble_eq_true rfl) Try.underlying25 rfl (by kernel_rfl) rfl Taken.no) ?_
  refine SL.mv rfl rfl ?_
  refine SL.val (O.ldN (m := 3) (PtI.ref rfl rfl) (js := [_, _, _]) rfl (Nat.le_of_ble_eq_true rfl) Try.underlying47 rfl (by kernel_rfl) rfl Taken.no) ?_
  refine SL.memS (O.call (rn []) [] rfl rfl rfl (refApplyN_h (m := m) (u := ss[k]!.u) (f := ss[k]!.f) (t := ss[k]!.t) hok (by omega)) (.cons (ArgOk.aggU (.cons (ArgOk.same rfl) (.cons (ArgOk.same rfl) (.cons (ArgOk.same rfl) .nil)))) (.cons (ArgOk.same rfl) (.cons (ArgOk.aggU (.cons (ArgOk.same rfl) (.cons (ArgOk.same rfl) (.cons (ArgOk.same rfl) .nil)))) .nil))) SubS.nil rfl rfl rfl rfl rfl (.inl rfl) hcallOk23 (r' := .tup [.u _, .u _, .u _]) rfl rfl Taken.no) rfl rfl (S' := _) rfl ?_
  refine SL.mv rfl rfl ?_
  refine SL.val (O.extract rfl rfl rfl Taken.no) ?_
  refine SL.val (O.extract rfl rfl rfl Taken.no) ?_
  refine SL.val (O.extract rfl rfl rfl Taken.no) ?_
  refine SL.an rfl rfl (SL.an rfl rfl (SL.an rfl rfl (E.fo (W.rg (SL.mv rfl rfl ?_)))))
  refine SL.val (O.det (fun _ => G.R.eql rfl rfl) rfl Taken.no) ?_
  refine E.fo ?_
  first | refine W.cond_d rfl (fun hc7 => ?_) (fun hc7 => ?_) | refine W.cond_nd rfl (fun hc7 => ?_) (fun hc7 => ?_) | refine W.cond rfl (fun hc7 => ?_) (fun hc7 => ?_)
  ·skip
   have hap := ap_zero hf hQ hpr (show apE n ps rs (m.map fun x : Nat => (x : Int)) ss[k]! = 0 by assumption)
   have hge := stB_ge hok hap.1 hap.2
   have hg1 := hge.1
   refine W.region (SL.mv rfl rfl (SL.an rfl rfl (E.fo ?_)))
   refine W.pick (K:=[(2,_),(5,_),(6,_),(10,_),(65,_),(66,_),(67,_)]) (Z:=[(101,_),(102,_)]) ⟨rfl,rfl,rfl,rfl,rfl,rfl,rfl,trivial⟩ ⟨rfl,rfl,trivial⟩ ?_
   refine W.rg ?_
   refine SL.val (O.ldN (m := 3) (PtI.ref rfl rfl) (js := [_, _, _]) rfl (Nat.le_of_ble_eq_true rfl) Try.underlying25 rfl (by kernel_rfl) rfl Taken.no) ?_
   refine SL.mv rfl rfl ?_
   refine SL.memS (O.call (rn []) [] rfl rfl rfl (refValN_h (m := (apL n ps rs (m.map fun x : Nat => (x : Int)) ss[k]!)) hok hap.1 (by omega)) (.cons (ArgOk.aggU (.cons (ArgOk.same rfl) (.cons (ArgOk.same rfl) (.cons (ArgOk.same rfl) .nil)))) (.cons (ArgOk.same rfl) .nil)) SubS.nil rfl rfl rfl rfl rfl (.inl rfl) hcallOk21 (r' := .tup [.u _, .u _]) rfl rfl Taken.no) rfl rfl (S' := _) rfl ?_
   refine SL.mv rfl rfl ?_
   refine SL.val (O.extract rfl rfl rfl Taken.no) ?_
   refine SL.val (O.extract rfl rfl rfl Taken.no) ?_
   refine SL.an rfl rfl (SL.an rfl rfl (E.fo (W.rg (SL.mv rfl rfl (SL.mv rfl rfl ?_)))))
   refine SL.val (O.det (fun _ => G.R.mv (G.R.gtr rfl rfl) (congrArg Value.bool (decide_eq_false (by omega)))) rfl Taken.no) ?_
   refine SL.mv rfl rfl ?_
   have hg8 : false = false := by decide
   refine SL.val (O.move rfl rfl (Taken.yes rfl rfl hg8)) ?_
   refine SL.val (O.move rfl rfl (Taken.yes rfl rfl hg8)) ?_
   refine SL.val (O.det (fun _ => G.R.eql rfl rfl) rfl (Taken.yes rfl rfl hg8)) ?_
   refine SL.val (O.move rfl rfl (Taken.yes rfl rfl hg8)) ?_
   refine SL.case (j := 7) (g := 95) (want := true) rfl rfl (fun hg9 => ?_) (fun hg9 => ?_)
   ·skip
    first | have hg9p := G.gA1 hg9 | have hg9p := G.gA2 hg9 | have hg9p := hg9
    refine SL.val (O.move rfl rfl (Taken.yes rfl rfl hg9)) ?_
    refine SL.val (O.move rfl rfl (Taken.yes rfl rfl hg9)) ?_
    refine SL.val (O.callp rfl rfl rfl (less_h (a := (apL n ps rs (m.map fun x : Nat => (x : Int)) ss[k]!)) (b := (stB n ps rs).best) (by rw [hap.1.1, (stB_perm hok).1.1])) (.cons (ArgOk.same rfl) (.cons (ArgOk.same rfl) .nil)) hcallOk24 rfl (Taken.yes rfl rfl hg9)) ?_
    refine SL.as (i' := vB false) 98 rfl (by exact iv_bool (hge.2 (by omega))) ?_
    refine SL.val (O.pick_t rfl hg9 rfl rfl (Taken.yes rfl rfl hg8)) ?_
    refine SL.val (O.pick_f rfl rfl rfl rfl Taken.no) ?_
    refine E.fo ?_
    refine W.pick (K:=[(2,_),(5,_),(6,_),(10,_),(65,_),(66,_),(67,_),(100,_)]) (Z:=[(101,_),(102,_)]) ⟨rfl,rfl,rfl,rfl,rfl,rfl,rfl,rfl,trivial⟩ ⟨rfl,rfl,trivial⟩ ?_
    refine W.cond_f rfl ?_
    refine W.skip (E.inn (E.to (W.region ?_)))
    refine SL.val (O.det (fun _ => by first | exact G.R.add64 rfl rfl (by omega) | exact G.R.add rfl rfl) rfl Taken.no) ?_
    refine SL.mv rfl rfl (SL.nil ?_)
    refine E.again ((k + 1), ((apL n ps rs (m.map fun x : Nat => (x : Int)) ss[k]!))) (rn []) ?_ ?_ rfl (fixL_spec rfl) ?_ ?_
    · exact (SubF.cons rfl (SubF.cons rfl (SubF.cons rfl (SubF.cons rfl (SubF.cons rfl (SubF.cons rfl (SubF.cons rfl SubF.nil)))))))
    · exact (SubS.cons rfl SubS.nil)
    ·try dsimp only
     exact ⟨by omega, hap.1, hap.2⟩
    · (try dsimp only); omega
   first | have hg9p := G.gA5 hg9 | have hg9p := G.gA6 hg9 | have hg9p := hg9
   refine SL.sk rfl rfl rfl hg9 (SL.sk rfl rfl rfl hg9 (SL.sk rfl rfl rfl hg9 ?_))
   refine SL.val (O.pick_f rfl (G.ne_t hg9) rfl rfl (Taken.yes rfl rfl hg8)) ?_
   refine SL.val (O.pick_f rfl rfl rfl rfl Taken.no) ?_
   refine E.fo ?_
   refine W.pick (K:=[(2,_),(5,_),(6,_),(10,_),(65,_),(66,_),(67,_),(100,_)]) (Z:=[(101,_),(102,_)]) ⟨rfl,rfl,rfl,rfl,rfl,rfl,rfl,rfl,trivial⟩ ⟨rfl,rfl,trivial⟩ ?_
   refine W.cond_f rfl ?_
   refine W.skip (E.inn (E.to (W.region ?_)))
   refine SL.val (O.det (fun _ => by first | exact G.R.add64 rfl rfl (by omega) | exact G.R.add rfl rfl) rfl Taken.no) ?_
   refine SL.mv rfl rfl (SL.nil ?_)
   refine E.again ((k + 1), ((apL n ps rs (m.map fun x : Nat => (x : Int)) ss[k]!))) (rn []) ?_ ?_ rfl (fixL_spec rfl) ?_ ?_
   · exact (SubF.cons rfl (SubF.cons rfl (SubF.cons rfl (SubF.cons rfl (SubF.cons rfl (SubF.cons rfl (SubF.cons rfl SubF.nil)))))))
   · exact (SubS.cons rfl SubS.nil)
   ·try dsimp only
    exact ⟨by omega, hap.1, hap.2⟩
   · (try dsimp only); omega
  have hge := stB_ge hok hQ hpr
  have hg1 := hge.1
  refine W.skip (E.to (W.rg ?_))
  refine SL.val (O.ldN (m := 3) (PtI.ref rfl rfl) (js := [_, _, _]) rfl (Nat.le_of_ble_eq_true rfl) Try.underlying25 rfl (by kernel_rfl) rfl Taken.no) ?_
  refine SL.mv rfl rfl ?_
  refine SL.memS (O.call (rn []) [] rfl rfl rfl (refValN_h (m := m) hok hQ (by omega)) (.cons (ArgOk.aggU (.cons (ArgOk.same rfl) (.cons (ArgOk.same rfl) (.cons (ArgOk.same rfl) .nil)))) (.cons (ArgOk.same rfl) .nil)) SubS.nil rfl rfl rfl rfl rfl (.inl rfl) hcallOk21 (r' := .tup [.u _, .u _]) rfl rfl Taken.no) rfl rfl (S' := _) rfl ?_
  refine SL.mv rfl rfl ?_
  refine SL.val (O.extract rfl rfl rfl Taken.no) ?_
  refine SL.val (O.extract rfl rfl rfl Taken.no) ?_
  refine SL.an rfl rfl (SL.an rfl rfl (E.fo ?_))
  refine W.pick (K:=[(2,_),(5,_),(6,_),(10,_),(17,_),(65,_),(66,_),(67,_)]) (Z:=[(101,_),(102,_)]) ⟨rfl,rfl,rfl,rfl,rfl,rfl,rfl,rfl,trivial⟩ ⟨rfl,rfl,trivial⟩ ?_
  refine W.rg (SL.mv rfl rfl (SL.mv rfl rfl ?_))
  refine SL.val (O.det (fun _ => G.R.mv (G.R.gtr rfl rfl) (congrArg Value.bool (decide_eq_false (by omega)))) rfl Taken.no) ?_
  refine SL.mv rfl rfl ?_
  have hg10 : false = false := by decide
  refine SL.val (O.move rfl rfl (Taken.yes rfl rfl hg10)) ?_
  refine SL.val (O.move rfl rfl (Taken.yes rfl rfl hg10)) ?_
  refine SL.val (O.det (fun _ => G.R.eql rfl rfl) rfl (Taken.yes rfl rfl hg10)) ?_
  refine SL.val (O.move rfl rfl (Taken.yes rfl rfl hg10)) ?_
  refine SL.case (j := 7) (g := 95) (want := true) rfl rfl (fun hg11 => ?_) (fun hg11 => ?_)
  ·skip
   first | have hg11p := G.gA1 hg11 | have hg11p := G.gA2 hg11 | have hg11p := hg11
   refine SL.val (O.move rfl rfl (Taken.yes rfl rfl hg11)) ?_
   refine SL.val (O.move rfl rfl (Taken.yes rfl rfl hg11)) ?_
   refine SL.val (O.callp rfl rfl rfl (less_h (a := m) (b := (stB n ps rs).best) (by rw [hQ.1, (stB_perm hok).1.1])) (.cons (ArgOk.same rfl) (.cons (ArgOk.same rfl) .nil)) hcallOk24 rfl (Taken.yes rfl rfl hg11)) ?_
   refine SL.as (i' := vB false) 98 rfl (by exact iv_bool (hge.2 (by omega))) ?_
   refine SL.val (O.pick_t rfl hg11 rfl rfl (Taken.yes rfl rfl hg10)) ?_
   refine SL.val (O.pick_f rfl rfl rfl rfl Taken.no) ?_
   refine E.fo ?_
   refine W.cond_f rfl ?_
   refine W.skip (E.inn (E.to (W.region ?_)))
   refine SL.val (O.det (fun _ => by first | exact G.R.add64 rfl rfl (by omega) | exact G.R.add rfl rfl) rfl Taken.no) ?_
   refine SL.mv rfl rfl (SL.nil ?_)
   refine E.again ((k + 1), (m)) (rn []) ?_ ?_ rfl (fixL_spec rfl) ?_ ?_
   · exact (SubF.cons rfl (SubF.cons rfl (SubF.cons rfl (SubF.cons rfl (SubF.cons rfl (SubF.cons rfl (SubF.cons rfl SubF.nil)))))))
   · exact (SubS.cons rfl SubS.nil)
   ·try dsimp only
    exact ⟨by omega, hQ, hpr⟩
   · (try dsimp only); omega
  first | have hg11p := G.gA5 hg11 | have hg11p := G.gA6 hg11 | have hg11p := hg11
  refine SL.sk rfl rfl rfl hg11 (SL.sk rfl rfl rfl hg11 (SL.sk rfl rfl rfl hg11 ?_))
  refine SL.val (O.pick_f rfl (G.ne_t hg11) rfl rfl (Taken.yes rfl rfl hg10)) ?_
  refine SL.val (O.pick_f rfl rfl rfl rfl Taken.no) ?_
  refine E.fo ?_
  refine W.cond_f rfl ?_
  refine W.skip (E.inn (E.to (W.region ?_)))
  refine SL.val (O.det (fun _ => by first | exact G.R.add64 rfl rfl (by omega) | exact G.R.add rfl rfl) rfl Taken.no) ?_
  refine SL.mv rfl rfl (SL.nil ?_)
  refine E.again ((k + 1), (m)) (rn []) ?_ ?_ rfl (fixL_spec rfl) ?_ ?_
  · exact (SubF.cons rfl (SubF.cons rfl (SubF.cons rfl (SubF.cons rfl (SubF.cons rfl (SubF.cons rfl (SubF.cons rfl SubF.nil)))))))
  · exact (SubS.cons rfl SubS.nil)
  ·try dsimp only
   exact ⟨by omega, hQ, hpr⟩
  · (try dsimp only); omega
 refine W.exit (E.th (E.th (E.hit (E.to (W.rg (SL.an rfl rfl (E.fo (W.ret ?_))))))))
 refine E.fin (rs := [_]) (rn []) (.inl rfl) rfl (.cons (ResOne.tmp rfl) .nil) ?_ ?_ rfl (fixL_spec rfl)
 ·skip
  rfl
 · exact SubS.nil

set_option maxRecDepth 8000 in
set_option maxHeartbeats 3200000 in
theorem optimumGreatest_n {N : Int} {ps : List Pr} {rs : List Ru} {ss : List Stp} (hv : Con Try.prog 19 [vA [uI N, .sl 3 (ps.map ePr), .sl 3 (rs.map eRu)]] [] (vB false) []) :
    Con Try.prog 4 [vA [uI N, .sl 3 (ps.map ePr), .sl 3 (rs.map eRu)], vL 3 (ss.map eStp)] [] (vB true) [] := by
 refine Con.enterL (n := 102) Try.func4 rfl rfl rfl (fun τ w ok vs hin => ?_)
 have hl0_1 := hin.lenA (i := 0) (j := 1) rfl rfl
 try rw [List.length_map] at hl0_1
 have hl0_2 := hin.lenA (i := 0) (j := 2) rfl rfl
 try rw [List.length_map] at hl0_2
 have hl1 := hin.len (i := 1) rfl
 try rw [List.length_map] at hl1
 clear hin
 refine W.rg ?_
 refine SL.memS (O.box (is := [_, _, _]) 101 rfl rfl (by simp) rfl rfl Taken.no) rfl rfl (S' := (101, _) :: _) rfl ?_
 refine SL.an rfl rfl (E.fo (W.seq (W.rg ?_)))
 refine SL.val (O.callp rfl rfl rfl (awake34_h) .nil hcallOk9 rfl Taken.no) ?_
 refine SL.as (i' := vB true) 19 rfl (by rfl) ?_
 refine SL.val (O.det (fun _ => G.R.mv (G.R.not rfl) rfl) rfl Taken.no) ?_
 refine SL.mv rfl rfl ?_
 have hg1 : false = false := by decide
 refine SL.val (O.ldN (m := 3) (PtI.ref rfl rfl) (js := [_, _, _]) rfl (Nat.le_of_ble_eq_true rfl) Try.underlying25 rfl (by kernel_rfl) rfl (Taken.yes rfl rfl hg1)) ?_
 refine SL.val (O.callp rfl rfl rfl (hv) (.cons (ArgOk.aggU (.cons (ArgOk.same rfl) (.cons (ArgOk.same rfl) (.cons (ArgOk.same rfl) .nil)))) .nil) hcallOk19 rfl (Taken.yes rfl rfl hg1)) ?_
 refine SL.as (i' := vB false) 23 rfl (by rfl) ?_
 refine SL.val (O.det (fun _ => G.R.mv (G.R.not rfl) rfl) rfl (Taken.yes rfl rfl hg1)) ?_
 refine SL.val (O.pick_f rfl rfl rfl rfl Taken.no) ?_
 refine SL.mv rfl rfl ?_
 have hg2 : true ≠ false := by decide
 refine SL.sk rfl rfl rfl hg2 (SL.sk rfl rfl rfl hg2 (SL.sk rfl rfl rfl hg2 ?_))
 refine SL.val (O.pick_t rfl rfl rfl rfl Taken.no) ?_
 refine E.fo ?_
 refine W.cond_t rfl ?_
 refine W.rg ?_
 refine SL.val (O.callp rfl rfl rfl (awake34_h) .nil hcallOk9 rfl Taken.no) ?_
 refine SL.as (i' := vB true) 31 rfl (by rfl) ?_
 refine SL.an rfl rfl (E.fo (W.ret (E.thr ?_)))
 refine E.fin (rs := [_]) (rn []) (.inl rfl) rfl (.cons (ResOne.tmp rfl) .nil) ?_ ?_ rfl (fixL_spec rfl)
 ·skip
  rfl
 · exact SubS.nil

theorem optimumGreatest_h {N : Int} {ps : List Pr} {rs : List Ru} {ss : List Stp} : Con Try.prog 4 [vA [uI N, .sl 3 (ps.map ePr), .sl 3 (rs.map eRu)], vL 3 (ss.map eStp)] [] (vB true) [] := by
  by_cases h : (Prob.mk N ps rs).ok ∧ ((N ≤ 9 ∨ 200 < N) ∧ ps.length ≤ 40 ∧ (rs.length ≤ 12 ∨ rs.length = 401)) ∧ (selfs N.toNat (atomsL N.toNat rs)).length ≤ 6
  · obtain ⟨hok, hfew, h6⟩ := h
    obtain ⟨n, rfl⟩ : ∃ n : Nat, N = (n : Int) := ⟨N.toNat, Prob.nat hok.1⟩
    exact optimumGreatest_y hok hfew h6
  · exact optimumGreatest_n (valid34_h h)








end Go.Proofs.Ytbkbeplddddgeaa
end
