/-
  What the proof rests on: part 11 of 12.
-/
import Derived.Test.YtbkbeplddddgeaaOptimumPartsP10
section
namespace Go.Proofs.Ytbkbeplddddgeaa
open Go Go.RowKit Go.H Go.D33

theorem hcallOk50 : G.callOk Try.prog 50 = true := by kernel_rfl
theorem hcallOk51 : G.callOk Try.prog 51 = true := by kernel_rfl
theorem hcallOk52 : G.callOk Try.prog 52 = true := by kernel_rfl

set_option maxRecDepth 8000 in
theorem sub1_h {N : Int} {ps : List Pr} {rs : List Ru} {x : Int} :
    Con Try.prog 52 [vI x, .u (.ptr [uI N, .sl 3 (ps.map ePr), .sl 3 (rs.map eRu)])] [] (vB (decide (x < 0 ∨ N ≤ x))) [] := by
 refine Con.enterL (n := 12) Try.func52 rfl rfl rfl (fun τ w ok vs hin => ?_)
 clear hin
 refine W.rg (SL.an rfl rfl (E.fo (W.rg (SL.mv rfl rfl ?_))))
 refine SL.val (O.det (fun _ => G.R.lss rfl rfl) rfl Taken.no) ?_
 refine SL.mv rfl rfl ?_
 refine SL.case (j := 2) (g := 6) (want := false) rfl rfl (fun hg1 => ?_) (fun hg1 => ?_)
 ·skip
  first | have hg1p := G.gA3 hg1 | have hg1p := G.gA4 hg1 | have hg1p := hg1
  refine SL.val (O.move rfl rfl (Taken.yes rfl rfl hg1)) ?_
  refine SL.val (O.fld_fz rfl Try.underlying30 rfl (m := 0) (by kernel_rfl) rfl rfl (Taken.yes rfl rfl hg1)) ?_
  refine SL.val (O.ld1 (PtI.ofU (PtU.fz rfl)) rfl Try.underlying3 rfl rfl (Taken.yes rfl rfl hg1)) ?_
  refine SL.val (O.det (fun _ => G.R.geq rfl rfl) rfl (Taken.yes rfl rfl hg1)) ?_
  refine SL.val (O.pick_f rfl hg1 rfl rfl Taken.no) ?_
  refine SL.an rfl rfl (E.fo (W.ret ?_))
  refine E.fin (rs := [_]) (rn []) (.inl rfl) rfl (.cons (ResOne.tmp rfl) .nil) ?_ ?_ rfl (fixL_spec rfl)
  ·skip
   first | exact iv_bool (dec_iff (by omega)) | exact iv_bool (dec_t (by omega)) | exact iv_bool (dec_f (by omega))
  · exact SubS.nil
 first | have hg1p := G.gA7 hg1 | have hg1p := G.gA8 hg1 | have hg1p := hg1
 refine SL.sk rfl rfl rfl hg1 (SL.sk rfl rfl rfl hg1 (SL.sk rfl rfl rfl hg1 (SL.sk rfl rfl rfl hg1 ?_)))
 refine SL.val (O.pick_t rfl (G.ne_f hg1) rfl rfl Taken.no) ?_
 refine SL.an rfl rfl (E.fo (W.ret ?_))
 refine E.fin (rs := [_]) (rn []) (.inl rfl) rfl (.cons (ResOne.tmp rfl) .nil) ?_ ?_ rfl (fixL_spec rfl)
 ·skip
  first | exact iv_bool (dec_iff (by omega)) | exact iv_bool (dec_t (by omega)) | exact iv_bool (dec_f (by omega))
 · exact SubS.nil

set_option maxRecDepth 8000 in
set_option maxHeartbeats 1600000 in
theorem sub_ok {N : Int} {ps : List Pr} {rs : List Ru} {us : List Int} (hok : (Prob.mk N ps rs).ok) (hp_ : ps.length ≤ 1000000) (hr_ : rs.length ≤ 1000000) (hu_ : us.length ≤ 1000000) :
    Con Try.prog 28 [vA [uI N, .sl 3 (ps.map ePr), .sl 3 (rs.map eRu)], vL 1 (us.map eI)] [] (.tup [.agg [vI (sbN N us), vL 3 ((sbP N us ps).map ePr), vL 3 ((sbR N us rs).map eRu)], vI (subE N us)]) [] := by
 obtain ⟨i3, hi3, hz3, hs3, hb3⟩ := hinf3
 obtain ⟨i51, hi51, hz51, hs51, hb51⟩ := hinf51
 obtain ⟨i61, hi61, hz61, hs61, hb61⟩ := hinf61
 refine Con.enterL (n := 133) Try.func28 rfl rfl rfl (fun τ w ok vs hin => ?_)
 have hl0_1 := hin.lenA (i := 0) (j := 1) rfl rfl
 try rw [List.length_map] at hl0_1
 have hl0_2 := hin.lenA (i := 0) (j := 2) rfl rfl
 try rw [List.length_map] at hl0_2
 have hl1 := hin.len (i := 1) rfl
 try rw [List.length_map] at hl1
 clear hin
 refine W.rg ?_
 refine SL.memS (O.box (is := [_, _, _]) 101 rfl rfl (by simp) rfl rfl Taken.no) rfl rfl (S' := (101, _) :: _) rfl ?_
 refine SL.memS (O.alloc (z := .agg #[.int .i64 0, .slice none 0 0, .slice none 0 0]) (is := [.u (.sc (.int .i64 0)), .u (.sc (.slice none 0 0)), .u (.sc (.slice none 0 0))]) 102 (by kernel_rfl) rfl rfl rfl Taken.no) rfl rfl (S' := (102, _) :: _) rfl ?_
 refine SL.an rfl rfl (E.fo (W.seq (W.rg ?_)))
 refine SL.val (O.ldN (m := 3) (PtI.ref rfl rfl) (js := [_, _, _]) rfl (Nat.le_of_ble_eq_true rfl) Try.underlying30 rfl (by kernel_rfl) rfl Taken.no) ?_
 refine SL.val (O.callp rfl rfl rfl (valid_h (N := N) (ps := ps) (rs := rs)) (.cons (ArgOk.aggU (.cons (ArgOk.same rfl) (.cons (ArgOk.same rfl) (.cons (ArgOk.same rfl) .nil)))) .nil) hcallOk50 rfl Taken.no) ?_
 refine SL.as (i' := vI 0) 24 rfl (by rw [Prob.err_0 hok]) ?_
 refine SL.an rfl rfl (E.fo (W.rg (SL.mv rfl rfl ?_)))
 refine SL.val (O.det (fun _ => G.R.mv (G.R.neq rfl rfl) (congrArg Value.bool (decide_eq_false (by decide)))) rfl Taken.no) ?_
 refine E.fo ?_
 refine W.cond_f rfl ?_
 refine W.skip (E.to (W.rg ?_))
 refine SL.memS (O.makeMap 103 rfl Taken.no) rfl rfl (S' := (103, .mp []) :: _) rfl ?_
 refine SL.an rfl rfl (E.fo (W.seq (W.rg (SL.mv rfl rfl ?_))))
 refine SL.val (O.lenE (SlOf.fz rfl (by decide)) (by first | exact List.length_map _ | rfl) Try.underlying32 rfl Taken.no) ?_
 refine SL.mv rfl rfl (E.fo (W.block ?_))
 refine W.loopx1 (fun (k : Nat) => [(32, vI (k : Int)), (7, .own 104)]) (fun (k : Nat) => [(104, .mp (mpE (fun a : Int => Value.int .i64 a) (fun a : Int => Value.int .i64 a) (pl us k)))]) (fun (k : Nat) => k ≤ us.length ∧ ∀ i, i < k → 0 < i → us[i - 1]! < us[i]!) (fun (k : Nat) => us.length - k) (0) (rn [(104, 103)]) (.cons (t := 1) rfl (.cons (t := 2) rfl (.cons (t := 4) rfl (.cons (t := 30) rfl (.cons (t := 31) rfl .nil))))) (.cons (t := 101) rfl (.cons (t := 102) rfl .nil)) rfl ?_ ?_ rfl rfl ?_ ?_
 · exact (SubF.cons rfl (SubF.cons rfl SubF.nil))
 · exact (SubS.cons rfl SubS.nil)
 ·skip
  exact ⟨by omega, fun i h => by omega⟩
 intro k hinv
 obtain ⟨hk, hp⟩ := hinv
 refine W.rg ?_
 refine SL.val (O.det (fun _ => G.R.lss rfl rfl) rfl Taken.no) ?_
 refine E.fo (W.seq ?_)
 first | refine W.cond_d rfl (fun hc1 => ?_) (fun hc1 => ?_) | refine W.cond_nd rfl (fun hc1 => ?_) (fun hc1 => ?_) | refine W.cond rfl (fun hc1 => ?_) (fun hc1 => ?_)
 ·skip
  refine W.skip (E.to (W.seq (W.block (W.rg (SL.mv rfl rfl ?_)))))
  refine SL.val (O.idx_fz rfl rfl (rfl) (row_get (by omega)) Try.underlying32 hi3 hs3 rfl Taken.no) ?_
  refine SL.val (O.ld1 (PtI.ofU (PtU.fz rfl)) rfl Try.underlying3 rfl rfl Taken.no) ?_
  refine SL.an rfl rfl (SL.an rfl rfl (E.fo (W.seq (W.rg (SL.mv rfl rfl ?_)))))
  refine SL.val (O.det (fun _ => G.R.gtr rfl rfl) rfl Taken.no) ?_
  refine SL.mv rfl rfl ?_
  refine SL.case (j := 2) (g := 39) (want := true) rfl rfl (fun hg2 => ?_) (fun hg2 => ?_)
  ·skip
   first | have hg2p := G.gA1 hg2 | have hg2p := G.gA2 hg2 | have hg2p := hg2
   refine SL.val (O.move rfl rfl (Taken.yes rfl rfl hg2)) ?_
   refine SL.val (O.move rfl rfl (Taken.yes rfl rfl hg2)) ?_
   refine SL.val (O.move rfl rfl (Taken.yes rfl rfl hg2)) ?_
   refine SL.val (O.det (fun _ => by first | exact G.R.sub64 rfl rfl (by omega) | exact G.R.sub rfl rfl) rfl (Taken.yes rfl rfl hg2)) ?_
   refine SL.val (O.idx_fz (i := (k - 1)) rfl rfl (by omega) (row_get (by omega)) Try.underlying32 hi3 hs3 rfl (Taken.yes rfl rfl hg2)) ?_
   refine SL.val (O.ld1 (PtI.ofU (PtU.fz rfl)) rfl Try.underlying3 rfl rfl (Taken.yes rfl rfl hg2)) ?_
   refine SL.val (O.det (fun _ => G.R.leq rfl rfl) rfl (Taken.yes rfl rfl hg2)) ?_
   refine SL.val (O.pick_t rfl hg2 rfl rfl Taken.no) ?_
   refine E.fo ?_
   first | refine W.cond_d rfl (fun hc3 => ?_) (fun hc3 => ?_) | refine W.cond_nd rfl (fun hc3 => ?_) (fun hc3 => ?_) | refine W.cond rfl (fun hc3 => ?_) (fun hc3 => ?_)
   ·skip
    refine W.rg ?_
    refine SL.val (O.build (res := [_, _, _]) (z := .agg #[.int .i64 0, .slice none 0 0, .slice none 0 0]) (places := [(0, 1), (1, 1), (2, 1)]) rfl rfl Try.underlying30 (by kernel_rfl) (fun _ => by kernel_rfl) rfl rfl Taken.no) ?_
    refine SL.effS (O.st_ref (m := 3) rfl rfl rfl (js := [_, _, _]) rfl rfl (by kernel_rfl) (by simp) (Nat.le_of_ble_eq_true rfl) rfl (is' := [_, _, _]) rfl Taken.no) (S' := (102, _) :: _) rfl ?_
    refine SL.an rfl rfl (E.fo ?_)
    refine W.pick (K:=[(1,_),(2,_),(4,_),(5,_),(7,_),(8,_),(9,_),(30,_),(31,_),(32,_)]) (Z:=[(101,_),(102,_),(104,_)]) ⟨rfl,rfl,rfl,rfl,rfl,rfl,rfl,rfl,rfl,rfl,trivial⟩ ⟨rfl,rfl,rfl,trivial⟩ ?_
    refine W.ret (E.thr ?_)
    refine E.inr ?_
    refine E.thr (E.thr ?_)
    refine E.inr ?_
    refine E.thr ?_
    refine E.nilslC 102 1 3 (is' := [_, _, _]) rfl rfl rfl ?_
    refine E.nilslC 102 2 3 (is' := [_, _, _]) rfl rfl rfl ?_
    refine E.fin (rs := [_, _]) (rn []) (.inl rfl) rfl (.cons (ResOne.cellN (m := 3) (PtI.ref rfl rfl) (js := [_, _, _]) rfl (Nat.le_of_ble_eq_true rfl) Try.underlying30 rfl (by kernel_rfl)) (.cons (ResOne.tmp rfl) .nil)) ?_ ?_ rfl (fixL_spec rfl)
    ·skip
     have hna : ¬ ascU us := fun q => by have := q k (by omega) (by omega); omega
     rw [(sb_n (fun q => hna q.1) ps rs).1, (sb_n (N := N) (fun q => hna q.1) ps rs).2.1, (sb_n (N := N) (fun q => hna q.1) ps rs).2.2, subE_19 hna]; rfl
    · exact SubS.nil
   refine W.skip (E.to (W.region (SL.mv rfl rfl (SL.mv rfl rfl (SL.mv rfl rfl ?_)))))
   refine SL.effS (O.mapUpdate (kf := (fun a : Int => Value.int .i64 a)) (vf := (fun a : Int => Value.int .i64 a)) (l := pl us k) (b := us[k]!) (u := (k : Int)) rfl rfl rfl rfl Try.underlying80 (KeyOk.int Try.underlying3) Taken.no) (S' := (104, _) :: _) rfl ?_
   refine SL.nil (E.inn (E.to ?_))
   refine W.pick (K:=[(1,_),(2,_),(4,_),(7,_),(30,_),(31,_),(32,_)]) (Z:=[(101,_),(102,_),(104,_)]) ⟨rfl,rfl,rfl,rfl,rfl,rfl,rfl,trivial⟩ ⟨rfl,rfl,rfl,trivial⟩ ?_
   refine W.region ?_
   refine SL.val (O.det (fun _ => by first | exact G.R.add64 rfl rfl (by omega) | exact G.R.add rfl rfl) rfl Taken.no) ?_
   refine SL.mv rfl rfl (SL.nil ?_)
   refine E.again ((k + 1)) (rn []) ?_ ?_ rfl (fixL_spec rfl) ?_ ?_
   · exact (SubF.cons rfl (SubF.cons rfl (SubF.cons rfl (SubF.cons rfl (SubF.cons rfl (SubF.cons rfl (SubF.cons rfl SubF.nil)))))))
   · exact (SubS.cons rfl (SubS.cons rfl (SubS.cons rfl SubS.nil)))
   ·try dsimp only
    exact ⟨by omega, fun j hj h0 => by rcases Nat.lt_succ_iff_lt_or_eq.1 hj with h | h; exact hp j h h0; subst h; omega⟩
   · (try dsimp only); omega
  first | have hg2p := G.gA5 hg2 | have hg2p := G.gA6 hg2 | have hg2p := hg2
  refine SL.sk rfl rfl rfl hg2 (SL.sk rfl rfl rfl hg2 (SL.sk rfl rfl rfl hg2 (SL.sk rfl rfl rfl hg2 (SL.sk rfl rfl rfl hg2 (SL.sk rfl rfl rfl hg2 (SL.sk rfl rfl rfl hg2 ?_))))))
  refine SL.val (O.pick_f rfl (G.ne_t hg2) rfl rfl Taken.no) ?_
  refine E.fo ?_
  refine W.cond_f rfl ?_
  refine W.skip (E.to (W.region (SL.mv rfl rfl (SL.mv rfl rfl (SL.mv rfl rfl ?_)))))
  refine SL.effS (O.mapUpdate (kf := (fun a : Int => Value.int .i64 a)) (vf := (fun a : Int => Value.int .i64 a)) (l := pl us k) (b := us[k]!) (u := (k : Int)) rfl rfl rfl rfl Try.underlying80 (KeyOk.int Try.underlying3) Taken.no) (S' := (104, _) :: _) rfl ?_
  refine SL.nil (E.inn (E.to ?_))
  refine W.pick (K:=[(1,_),(2,_),(4,_),(7,_),(30,_),(31,_),(32,_)]) (Z:=[(101,_),(102,_),(104,_)]) ⟨rfl,rfl,rfl,rfl,rfl,rfl,rfl,trivial⟩ ⟨rfl,rfl,rfl,trivial⟩ ?_
  refine W.region ?_
  refine SL.val (O.det (fun _ => by first | exact G.R.add64 rfl rfl (by omega) | exact G.R.add rfl rfl) rfl Taken.no) ?_
  refine SL.mv rfl rfl (SL.nil ?_)
  refine E.again ((k + 1)) (rn []) ?_ ?_ rfl (fixL_spec rfl) ?_ ?_
  · exact (SubF.cons rfl (SubF.cons rfl (SubF.cons rfl (SubF.cons rfl (SubF.cons rfl (SubF.cons rfl (SubF.cons rfl SubF.nil)))))))
  · exact (SubS.cons rfl (SubS.cons rfl (SubS.cons rfl SubS.nil)))
  ·try dsimp only
   exact ⟨by omega, fun j hj h0 => by rcases Nat.lt_succ_iff_lt_or_eq.1 hj with h | h; exact hp j h h0; subst h; omega⟩
  · (try dsimp only); omega
 refine W.exit (E.th (E.th (E.hit (E.to (W.seq (W.seq ?_))))))
 have hku : k = us.length := by omega
 have hasc : ascU us := fun i hi => hp i (by omega)
 rw [hku]
 refine W.region (SL.mv rfl rfl ?_)
 refine SL.val (O.makeFunc rfl rfl rfl Taken.no) ?_
 refine SL.memS (O.call (rn []) [101] rfl rfl rfl (containsFuncI (q := us) (f := 52) (caps := [.ptr [uI N, .sl 3 (ps.map ePr), .sl 3 (rs.map eRu)]]) (pr := fun x => decide (x < 0 ∨ N ≤ x)) hcallOk52 (fun x hx => sub1_h)) (.cons (ArgOk.same rfl) (.cons (ArgOk.cloU .nil (.cons (ArgOk.ref rfl rfl rfl) .nil)) .nil)) SubS.nil rfl rfl rfl rfl rfl (.inr ⟨rfl, fun x hx => by simp at hx⟩) hcallOk51 (r' := .u _) rfl rfl Taken.no) rfl rfl (S' := _) rfl ?_
 refine E.fo ?_
 first | refine W.cond_d rfl (fun hc4 => ?_) (fun hc4 => ?_) | refine W.cond_nd rfl (fun hc4 => ?_) (fun hc4 => ?_) | refine W.cond rfl (fun hc4 => ?_) (fun hc4 => ?_)
 ·skip
  refine W.rg ?_
  refine SL.val (O.build (res := [_, _, _]) (z := .agg #[.int .i64 0, .slice none 0 0, .slice none 0 0]) (places := [(0, 1), (1, 1), (2, 1)]) rfl rfl Try.underlying30 (by kernel_rfl) (fun _ => by kernel_rfl) rfl rfl Taken.no) ?_
  refine SL.effS (O.st_ref (m := 3) rfl rfl rfl (js := [_, _, _]) rfl rfl (by kernel_rfl) (by simp) (Nat.le_of_ble_eq_true rfl) rfl (is' := [_, _, _]) rfl Taken.no) (S' := (102, _) :: _) rfl ?_
  refine SL.an rfl rfl (E.fo (W.ret (E.thr ?_)))
  refine E.nilslC 102 1 3 (is' := [_, _, _]) rfl rfl rfl ?_
  refine E.nilslC 102 2 3 (is' := [_, _, _]) rfl rfl rfl ?_
  refine E.fin (rs := [_, _]) (rn []) (.inl rfl) rfl (.cons (ResOne.cellN (m := 3) (PtI.ref rfl rfl) (js := [_, _, _]) rfl (Nat.le_of_ble_eq_true rfl) Try.underlying30 rfl (by kernel_rfl)) (.cons (ResOne.tmp rfl) .nil)) ?_ ?_ rfl (fixL_spec rfl)
  ·skip
   have hnr : ¬ rngU N us := fun q => by obtain ⟨x, hx, e⟩ := any_iff.2 (show 0 ≤ idxF (fun x => decide (x < 0 ∨ N ≤ x)) us by assumption); obtain ⟨i, hi, rfl⟩ := List.getElem_of_mem hx; have := q i hi; rw [getElem!_pos us i hi] at this; have e2 := of_decide_eq_true e; omega
   rw [(sb_n (fun q => hnr q.2) ps rs).1, (sb_n (fun q => hnr q.2) ps rs).2.1, (sb_n (fun q => hnr q.2) ps rs).2.2, subE_2 hasc hnr]; rfl
  · exact SubS.nil
 have h0n : ¬ 0 ≤ idxF (fun x => decide (x < 0 ∨ N ≤ x)) us := by assumption
 have hrng : rngU N us := fun i hi => by (have h1 : ¬ (us[i]! < 0 ∨ N ≤ us[i]!) := fun q => h0n (any_iff.1 ⟨us[i]!, mem_at hi, decide_eq_true q⟩)); omega
 have hoku : okU N us := ⟨hasc, hrng⟩
 refine W.skip (E.to (W.rg (SL.mv rfl rfl ?_)))
 refine SL.val (O.lenE (SlOf.fz rfl (by decide)) (by first | exact List.length_map _ | rfl) Try.underlying32 rfl Taken.no) ?_
 refine SL.val (O.build (res := [_, _, _]) (z := .agg #[.int .i64 0, .slice none 0 0, .slice none 0 0]) (places := [(0, 1), (1, 1), (2, 1)]) rfl rfl Try.underlying30 (by kernel_rfl) (fun _ => by kernel_rfl) rfl rfl Taken.no) ?_
 refine SL.memS (O.alloc (z := .agg #[.int .i64 0, .slice none 0 0, .slice none 0 0]) (is := [.u (.sc (.int .i64 0)), .u (.sc (.slice none 0 0)), .u (.sc (.slice none 0 0))]) 105 (by kernel_rfl) rfl rfl rfl Taken.no) rfl rfl (S' := (105, _) :: _) rfl ?_
 refine SL.effS (O.st_ref (m := 3) rfl rfl rfl (js := [_, _, _]) rfl rfl (by kernel_rfl) (by simp) (Nat.le_of_ble_eq_true rfl) rfl (is' := [_, _, _]) rfl Taken.no) (S' := (105, _) :: _) rfl ?_
 refine E.fo (W.seq (W.rg ?_))
 refine SL.val (O.fld_ref (o' := 1) rfl Try.underlying30 rfl (m := 0) (by kernel_rfl) rfl rfl Taken.no) ?_
 refine SL.val (O.ld1 (PtI.ref rfl rfl) rfl Try.underlying28 rfl rfl Taken.no) ?_
 refine SL.val (O.lenE (SlOf.fz rfl (by decide)) (by first | exact List.length_map _ | rfl) Try.underlying28 rfl Taken.no) ?_
 refine SL.mv rfl rfl (E.fo (W.block ?_))
 refine W.adoptC 105 1 107 61 3 (is' := [_, _, _]) (by decide) rfl rfl rfl rfl rfl ?_
 refine W.loopx1 (fun (k : Nat) => [(63, vI (k : Int))]) (fun (k : Nat) => [(106, .data 61 3 ((subP us (ps.take k)).map ePr)), (105, .cells 30 [vI (us.length : Int), .own 106, .u (.sc (.slice none 0 0))])]) (fun (k : Nat) => k ≤ ps.length) (fun (k : Nat) => ps.length - k) (0) (rn [(106, 107)]) (.cons (t := 2) rfl (.cons (t := 4) rfl (.cons (t := 7) rfl (.cons (t := 10) rfl (.cons (t := 61) rfl (.cons (t := 62) rfl .nil)))))) (.cons (t := 101) rfl (.cons (t := 102) rfl (.cons (t := 104) rfl .nil))) rfl ?_ ?_ rfl rfl ?_ ?_
 · exact (SubF.cons rfl SubF.nil)
 · exact (SubS.cons rfl (SubS.cons rfl SubS.nil))
 ·skip
  omega
 intro k hinv
 have hk := hinv
 have hfl := subP_len us ps k
 refine W.rg ?_
 refine SL.val (O.det (fun _ => G.R.lss rfl rfl) rfl Taken.no) ?_
 refine E.fo (W.seq ?_)
 first | refine W.cond_d rfl (fun hc5 => ?_) (fun hc5 => ?_) | refine W.cond_nd rfl (fun hc5 => ?_) (fun hc5 => ?_) | refine W.cond rfl (fun hc5 => ?_) (fun hc5 => ?_)
 ·skip
  have hpa := pl_at hasc ps[k]!.a
  have hpb := pl_at hasc ps[k]!.b
  refine W.skip (E.to (W.seq (W.block (W.rg ?_))))
  refine SL.val (O.idx_fz (i := k) rfl rfl (rfl) (row_get (by omega)) Try.underlying28 hi61 hs61 rfl Taken.no) ?_
  refine SL.val (O.ldU (m := 3) (PtU.fz rfl) rfl Try.underlying61 rfl (by kernel_rfl) rfl Taken.no) ?_
  refine SL.memS (O.alloc (z := .agg #[.int .i64 0, .int .i64 0, .int .i64 0]) (is := [.u (.sc (.int .i64 0)), .u (.sc (.int .i64 0)), .u (.sc (.int .i64 0))]) 108 (by kernel_rfl) rfl rfl rfl Taken.no) rfl rfl (S' := (108, _) :: _) rfl ?_
  refine SL.effS (O.st_ref (m := 3) rfl rfl rfl (js := [_, _, _]) rfl rfl (by kernel_rfl) (by simp) (Nat.le_of_ble_eq_true rfl) rfl (is' := [_, _, _]) rfl Taken.no) (S' := (108, _) :: _) rfl ?_
  refine E.fo (W.rg (SL.mv rfl rfl ?_))
  refine SL.val (O.fld_ref (o' := 0) rfl Try.underlying61 rfl (m := 0) (by kernel_rfl) rfl rfl Taken.no) ?_
  refine SL.val (O.ld1 (PtI.ref rfl rfl) rfl Try.underlying3 rfl rfl Taken.no) ?_
  refine SL.val (O.lookup2 (kf := (fun a : Int => Value.int .i64 a)) (vf := (fun a : Int => Value.int .i64 a)) (l := (pl us us.length)) (b := ps[k]!.a) (z := 0) rfl rfl rfl Try.underlying80 (KeyOk.int Try.underlying3) (by kernel_rfl) rfl Taken.no) ?_
  refine SL.mv rfl rfl ?_
  refine SL.val (O.extract rfl rfl rfl Taken.no) ?_
  refine SL.val (O.extract rfl rfl rfl Taken.no) ?_
  refine SL.an rfl rfl (SL.an rfl rfl (E.fo (W.rg (SL.mv rfl rfl ?_))))
  refine SL.val (O.fld_ref (o' := 1) rfl Try.underlying61 rfl (m := 0) (by kernel_rfl) rfl rfl Taken.no) ?_
  refine SL.val (O.ld1 (PtI.ref rfl rfl) rfl Try.underlying3 rfl rfl Taken.no) ?_
  refine SL.val (O.lookup2 (kf := (fun a : Int => Value.int .i64 a)) (vf := (fun a : Int => Value.int .i64 a)) (l := (pl us us.length)) (b := ps[k]!.b) (z := 0) rfl rfl rfl Try.underlying80 (KeyOk.int Try.underlying3) (by kernel_rfl) rfl Taken.no) ?_
  refine SL.mv rfl rfl ?_
  refine SL.val (O.extract rfl rfl rfl Taken.no) ?_
  refine SL.val (O.extract rfl rfl rfl Taken.no) ?_
  refine SL.an rfl rfl (SL.an rfl rfl (E.fo ?_))
  refine W.pick (K:=[(2,_),(4,_),(7,_),(10,_),(12,_),(13,_),(14,_),(15,_),(16,_),(61,_),(62,_),(63,_)]) (Z:=[(101,_),(102,_),(104,_),(105,_),(106,_),(108,_)]) ⟨rfl,rfl,rfl,rfl,rfl,rfl,rfl,rfl,rfl,rfl,rfl,rfl,trivial⟩ ⟨rfl,rfl,rfl,rfl,rfl,rfl,trivial⟩ ?_
  refine W.rg (SL.mv rfl rfl (SL.mv rfl rfl ?_))
  refine SL.case (j := 1) (g := 82) (want := true) rfl rfl (fun hg6 => ?_) (fun hg6 => ?_)
  ·skip
   first | have hg6p := G.gA1 hg6 | have hg6p := G.gA2 hg6 | have hg6p := hg6
   refine SL.val (O.move rfl rfl (Taken.yes rfl rfl hg6)) ?_
   refine SL.val (O.pick_t rfl hg6 rfl rfl Taken.no) ?_
   refine E.fo ?_
   first | refine W.cond_d rfl (fun hc7 => ?_) (fun hc7 => ?_) | refine W.cond_nd rfl (fun hc7 => ?_) (fun hc7 => ?_) | refine W.cond rfl (fun hc7 => ?_) (fun hc7 => ?_)
   ·skip
    have h1 : 0 ≤ atF us ps[k]!.a := of_decide_eq_true (hpa.1.symm.trans (by assumption))
    have h2 : 0 ≤ atF us ps[k]!.b := of_decide_eq_true (hpb.1.symm.trans (by assumption))
    refine W.region ?_
    refine SL.val (O.fld_ref (o' := 1) rfl Try.underlying30 rfl (m := 0) (by kernel_rfl) rfl rfl Taken.no) ?_
    refine SL.val (O.ld1 (PtI.ref rfl rfl) rfl Try.underlying28 rfl rfl Taken.no) ?_
    refine SL.mv rfl rfl (SL.mv rfl rfl ?_)
    refine SL.val (O.fld_ref (o' := 2) rfl Try.underlying61 rfl (m := 0) (by kernel_rfl) rfl rfl Taken.no) ?_
    refine SL.val (O.ld1 (PtI.ref rfl rfl) rfl Try.underlying3 rfl rfl Taken.no) ?_
    refine SL.val (O.build (res := [_, _, _]) (z := .agg #[.int .i64 0, .int .i64 0, .int .i64 0]) (places := [(0, 1), (1, 1), (2, 1)]) rfl rfl Try.underlying61 (by kernel_rfl) (fun _ => by kernel_rfl) rfl rfl Taken.no) ?_
    refine SL.memS (O.buildSlice 109 (rows := [Pr.mk (atF us ps[k]!.a) (atF us ps[k]!.b) ps[k]!.w].map ePr) rfl rfl Try.underlying28 hi61 hz61 hs61 (by decide) rfl (by decide) rfl (by show _ = [[uI (atF us ps[k]!.a), uI (atF us ps[k]!.b), uI ps[k]!.w]]; rw [← hpa.2 h1, ← hpb.2 h2]; rfl) rfl Taken.no) rfl rfl (S' := (109, .data 61 3 ([Pr.mk (atF us ps[k]!.a) (atF us ps[k]!.b) ps[k]!.w].map ePr)) :: _) rfl ?_
    refine SL.memS (O.app (k' := 110) rfl rfl (SlOf.own rfl rfl) Try.underlying28 hi61 hz61 hs61 rfl rfl (by exact app_map) (by rw [hb61]; (simp only [List.length_map, List.length_singleton]; omega)) (by (simp only [List.length_map, List.length_singleton]; omega)) rfl Taken.no) rfl rfl (S' := (110, _) :: (106, .dead) :: _) rfl ?_
    refine SL.val (O.fld_ref (o' := 1) rfl Try.underlying30 rfl (m := 0) (by kernel_rfl) rfl rfl Taken.no) ?_
    refine SL.effS (O.st_ref (m := 1) rfl rfl rfl (js := [_]) rfl rfl (by kernel_rfl) (by simp) (Nat.le_of_ble_eq_true rfl) rfl (is' := [_, _, _]) rfl Taken.no) (S' := (105, _) :: _) rfl ?_
    refine SL.nil (E.inn (E.to ?_))
    refine W.pick (K:=[(2,_),(4,_),(7,_),(10,_),(61,_),(62,_),(63,_)]) (Z:=[(101,_),(102,_),(104,_),(105,_),(108,_),(109,_),(110,_)]) ⟨rfl,rfl,rfl,rfl,rfl,rfl,rfl,trivial⟩ ⟨rfl,rfl,rfl,rfl,rfl,rfl,rfl,trivial⟩ ?_
    refine W.region ?_
    refine SL.val (O.det (fun _ => by first | exact G.R.add64 rfl rfl (by omega) | exact G.R.add rfl rfl) rfl Taken.no) ?_
    refine SL.mv rfl rfl (SL.nil ?_)
    refine E.again ((k + 1)) (rn [(106, 110)]) ?_ ?_ rfl (fixL_spec rfl) ?_ ?_
    · exact (SubF.cons rfl (SubF.cons rfl (SubF.cons rfl (SubF.cons rfl (SubF.cons rfl (SubF.cons rfl (SubF.cons rfl SubF.nil)))))))
    · exact (SubS.val rfl (by (try dsimp only); first | exact sb_data (by rw [subP_y (by omega) h1 h2]) | exact sb_data (by rw [subP_n (by omega) hno])) (SubS.cons rfl (SubS.cons rfl (SubS.cons rfl (SubS.cons rfl SubS.nil)))))
    ·try dsimp only
     omega
    · (try dsimp only); omega
   have hno : ¬ (0 ≤ atF us ps[k]!.a ∧ 0 ≤ atF us ps[k]!.b) := fun q => by have q1 := hpa.1.trans (decide_eq_true q.1); have q2 := hpb.1.trans (decide_eq_true q.2); (simp_all <;> omega)
   refine W.skip (E.inn (E.to (W.region ?_)))
   refine SL.val (O.det (fun _ => by first | exact G.R.add64 rfl rfl (by omega) | exact G.R.add rfl rfl) rfl Taken.no) ?_
   refine SL.mv rfl rfl (SL.nil ?_)
   refine E.again ((k + 1)) (rn []) ?_ ?_ rfl (fixL_spec rfl) ?_ ?_
   · exact (SubF.cons rfl (SubF.cons rfl (SubF.cons rfl (SubF.cons rfl (SubF.cons rfl (SubF.cons rfl (SubF.cons rfl SubF.nil)))))))
   · exact (SubS.val rfl (by (try dsimp only); first | exact sb_data (by rw [subP_y (by omega) h1 h2]) | exact sb_data (by rw [subP_n (by omega) hno])) (SubS.cons rfl (SubS.cons rfl (SubS.cons rfl (SubS.cons rfl SubS.nil)))))
   ·try dsimp only
    omega
   · (try dsimp only); omega
  first | have hg6p := G.gA5 hg6 | have hg6p := G.gA6 hg6 | have hg6p := hg6
  have hno : ¬ (0 ≤ atF us ps[k]!.a ∧ 0 ≤ atF us ps[k]!.b) := fun q => by have q1 := hpa.1.trans (decide_eq_true q.1); (simp_all <;> omega)
  refine SL.sk rfl rfl rfl hg6 ?_
  refine SL.val (O.pick_f rfl (G.ne_t hg6) rfl rfl Taken.no) ?_
  refine E.fo ?_
  refine W.cond_f rfl ?_
  refine W.skip (E.inn (E.to (W.region ?_)))
  refine SL.val (O.det (fun _ => by first | exact G.R.add64 rfl rfl (by omega) | exact G.R.add rfl rfl) rfl Taken.no) ?_
  refine SL.mv rfl rfl (SL.nil ?_)
  refine E.again ((k + 1)) (rn []) ?_ ?_ rfl (fixL_spec rfl) ?_ ?_
  · exact (SubF.cons rfl (SubF.cons rfl (SubF.cons rfl (SubF.cons rfl (SubF.cons rfl (SubF.cons rfl (SubF.cons rfl SubF.nil)))))))
  · exact (SubS.val rfl (by (try dsimp only); first | exact sb_data (by rw [subP_y (by omega) h1 h2]) | exact sb_data (by rw [subP_n (by omega) hno])) (SubS.cons rfl (SubS.cons rfl (SubS.cons rfl (SubS.cons rfl SubS.nil)))))
  ·try dsimp only
   omega
  · (try dsimp only); omega
 refine W.exit (E.th (E.th (E.hit (E.to (W.seq (W.seq ?_))))))
 have hkp : k = ps.length := by omega
 rw [hkp, List.take_length]
 refine W.region ?_
 refine SL.val (O.fld_ref (o' := 2) rfl Try.underlying30 rfl (m := 0) (by kernel_rfl) rfl rfl Taken.no) ?_
 refine SL.val (O.ld1 (PtI.ref rfl rfl) rfl Try.underlying23 rfl rfl Taken.no) ?_
 refine SL.val (O.lenE (SlOf.fz rfl (by decide)) (by first | exact List.length_map _ | rfl) Try.underlying23 rfl Taken.no) ?_
 refine SL.mv rfl rfl (E.fo (W.block ?_))
 refine W.adoptC 105 2 113 51 3 (is' := [_, _, _]) (by decide) rfl rfl rfl rfl rfl ?_
 refine W.loopx1 (fun (k : Nat) => [(99, vI (k : Int))]) (fun (k : Nat) => [(111, .data 61 3 ((subP us ps).map ePr)), (112, .data 51 3 ((subR us (rs.take k)).map eRu)), (105, .cells 30 [vI (us.length : Int), .own 111, .own 112])]) (fun (k : Nat) => k ≤ rs.length) (fun (k : Nat) => rs.length - k) (0) (rn [(111, 106), (112, 113)]) (.cons (t := 4) rfl (.cons (t := 7) rfl (.cons (t := 10) rfl (.cons (t := 97) rfl (.cons (t := 98) rfl .nil))))) (.cons (t := 101) rfl (.cons (t := 102) rfl (.cons (t := 104) rfl .nil))) rfl ?_ ?_ rfl rfl ?_ ?_
 · exact (SubF.cons rfl SubF.nil)
 · exact (SubS.cons rfl (SubS.cons rfl (SubS.cons rfl SubS.nil)))
 ·skip
  omega
 intro k hinv
 have hk := hinv
 have hfl := subR_len us rs k
 refine W.rg ?_
 refine SL.val (O.det (fun _ => G.R.lss rfl rfl) rfl Taken.no) ?_
 refine E.fo (W.seq ?_)
 first | refine W.cond_d rfl (fun hc8 => ?_) (fun hc8 => ?_) | refine W.cond_nd rfl (fun hc8 => ?_) (fun hc8 => ?_) | refine W.cond rfl (fun hc8 => ?_) (fun hc8 => ?_)
 ·skip
  have hpa := pl_at hasc rs[k]!.a
  have hpb := pl_at hasc rs[k]!.b
  refine W.skip (E.to (W.seq (W.block (W.rg ?_))))
  refine SL.val (O.idx_fz (i := k) rfl rfl (rfl) (row_get (by omega)) Try.underlying23 hi51 hs51 rfl Taken.no) ?_
  refine SL.val (O.ldU (m := 3) (PtU.fz rfl) rfl Try.underlying51 rfl (by kernel_rfl) rfl Taken.no) ?_
  refine SL.memS (O.alloc (z := .agg #[.int .i64 0, .int .i64 0, .int .i64 0]) (is := [.u (.sc (.int .i64 0)), .u (.sc (.int .i64 0)), .u (.sc (.int .i64 0))]) 114 (by kernel_rfl) rfl rfl rfl Taken.no) rfl rfl (S' := (114, _) :: _) rfl ?_
  refine SL.effS (O.st_ref (m := 3) rfl rfl rfl (js := [_, _, _]) rfl rfl (by kernel_rfl) (by simp) (Nat.le_of_ble_eq_true rfl) rfl (is' := [_, _, _]) rfl Taken.no) (S' := (114, _) :: _) rfl ?_
  refine E.fo (W.rg (SL.mv rfl rfl ?_))
  refine SL.val (O.fld_ref (o' := 1) rfl Try.underlying51 rfl (m := 0) (by kernel_rfl) rfl rfl Taken.no) ?_
  refine SL.val (O.ld1 (PtI.ref rfl rfl) rfl Try.underlying3 rfl rfl Taken.no) ?_
  refine SL.val (O.lookup2 (kf := (fun a : Int => Value.int .i64 a)) (vf := (fun a : Int => Value.int .i64 a)) (l := (pl us us.length)) (b := rs[k]!.a) (z := 0) rfl rfl rfl Try.underlying80 (KeyOk.int Try.underlying3) (by kernel_rfl) rfl Taken.no) ?_
  refine SL.mv rfl rfl ?_
  refine SL.val (O.extract rfl rfl rfl Taken.no) ?_
  refine SL.val (O.extract rfl rfl rfl Taken.no) ?_
  refine SL.an rfl rfl (SL.an rfl rfl (E.fo (W.rg (SL.mv rfl rfl ?_))))
  refine SL.val (O.fld_ref (o' := 2) rfl Try.underlying51 rfl (m := 0) (by kernel_rfl) rfl rfl Taken.no) ?_
  refine SL.val (O.ld1 (PtI.ref rfl rfl) rfl Try.underlying3 rfl rfl Taken.no) ?_
  refine SL.val (O.lookup2 (kf := (fun a : Int => Value.int .i64 a)) (vf := (fun a : Int => Value.int .i64 a)) (l := (pl us us.length)) (b := rs[k]!.b) (z := 0) rfl rfl rfl Try.underlying80 (KeyOk.int Try.underlying3) (by kernel_rfl) rfl Taken.no) ?_
  refine SL.mv rfl rfl ?_
  refine SL.val (O.extract rfl rfl rfl Taken.no) ?_
  refine SL.val (O.extract rfl rfl rfl Taken.no) ?_
  refine SL.an rfl rfl (SL.an rfl rfl (E.fo ?_))
  refine W.pick (K:=[(4,_),(7,_),(10,_),(18,_),(19,_),(20,_),(21,_),(22,_),(97,_),(98,_),(99,_)]) (Z:=[(101,_),(102,_),(104,_),(105,_),(111,_),(112,_),(114,_)]) ⟨rfl,rfl,rfl,rfl,rfl,rfl,rfl,rfl,rfl,rfl,rfl,trivial⟩ ⟨rfl,rfl,rfl,rfl,rfl,rfl,rfl,trivial⟩ ?_
  refine W.rg (SL.mv rfl rfl (SL.mv rfl rfl ?_))
  refine SL.case (j := 1) (g := 118) (want := true) rfl rfl (fun hg9 => ?_) (fun hg9 => ?_)
  ·skip
   first | have hg9p := G.gA1 hg9 | have hg9p := G.gA2 hg9 | have hg9p := hg9
   refine SL.val (O.move rfl rfl (Taken.yes rfl rfl hg9)) ?_
   refine SL.val (O.pick_t rfl hg9 rfl rfl Taken.no) ?_
   refine E.fo ?_
   first | refine W.cond_d rfl (fun hc10 => ?_) (fun hc10 => ?_) | refine W.cond_nd rfl (fun hc10 => ?_) (fun hc10 => ?_) | refine W.cond rfl (fun hc10 => ?_) (fun hc10 => ?_)
   ·skip
    have h1 : 0 ≤ atF us rs[k]!.a := of_decide_eq_true (hpa.1.symm.trans (by assumption))
    have h2 : 0 ≤ atF us rs[k]!.b := of_decide_eq_true (hpb.1.symm.trans (by assumption))
    refine W.region ?_
    refine SL.val (O.fld_ref (o' := 2) rfl Try.underlying30 rfl (m := 0) (by kernel_rfl) rfl rfl Taken.no) ?_
    refine SL.val (O.ld1 (PtI.ref rfl rfl) rfl Try.underlying23 rfl rfl Taken.no) ?_
    refine SL.val (O.fld_ref (o' := 0) rfl Try.underlying51 rfl (m := 0) (by kernel_rfl) rfl rfl Taken.no) ?_
    refine SL.val (O.ld1 (PtI.ref rfl rfl) rfl Try.underlying3 rfl rfl Taken.no) ?_
    refine SL.mv rfl rfl (SL.mv rfl rfl ?_)
    refine SL.val (O.build (res := [_, _, _]) (z := .agg #[.int .i64 0, .int .i64 0, .int .i64 0]) (places := [(0, 1), (1, 1), (2, 1)]) rfl rfl Try.underlying51 (by kernel_rfl) (fun _ => by kernel_rfl) rfl rfl Taken.no) ?_
    refine SL.memS (O.buildSlice 115 (rows := [Ru.mk rs[k]!.k (atF us rs[k]!.a) (atF us rs[k]!.b)].map eRu) rfl rfl Try.underlying23 hi51 hz51 hs51 (by decide) rfl (by decide) rfl (by show _ = [[uI rs[k]!.k, uI (atF us rs[k]!.a), uI (atF us rs[k]!.b)]]; rw [← hpa.2 h1, ← hpb.2 h2]; rfl) rfl Taken.no) rfl rfl (S' := (115, .data 51 3 ([Ru.mk rs[k]!.k (atF us rs[k]!.a) (atF us rs[k]!.b)].map eRu)) :: _) rfl ?_
    refine SL.memS (O.app (k' := 116) rfl rfl (SlOf.own rfl rfl) Try.underlying23 hi51 hz51 hs51 rfl rfl (by exact app_map) (by rw [hb51]; (simp only [List.length_map, List.length_singleton]; omega)) (by (simp only [List.length_map, List.length_singleton]; omega)) rfl Taken.no) rfl rfl (S' := (116, _) :: (112, .dead) :: _) rfl ?_
    refine SL.val (O.fld_ref (o' := 2) rfl Try.underlying30 rfl (m := 0) (by kernel_rfl) rfl rfl Taken.no) ?_
    refine SL.effS (O.st_ref (m := 1) rfl rfl rfl (js := [_]) rfl rfl (by kernel_rfl) (by simp) (Nat.le_of_ble_eq_true rfl) rfl (is' := [_, _, _]) rfl Taken.no) (S' := (105, _) :: _) rfl ?_
    refine SL.nil (E.inn (E.to ?_))
    refine W.pick (K:=[(4,_),(7,_),(10,_),(97,_),(98,_),(99,_)]) (Z:=[(101,_),(102,_),(104,_),(105,_),(111,_),(114,_),(115,_),(116,_)]) ⟨rfl,rfl,rfl,rfl,rfl,rfl,trivial⟩ ⟨rfl,rfl,rfl,rfl,rfl,rfl,rfl,rfl,trivial⟩ ?_
    refine W.region ?_
    refine SL.val (O.det (fun _ => by first | exact G.R.add64 rfl rfl (by omega) | exact G.R.add rfl rfl) rfl Taken.no) ?_
    refine SL.mv rfl rfl (SL.nil ?_)
    refine E.again ((k + 1)) (rn [(112, 116)]) ?_ ?_ rfl (fixL_spec rfl) ?_ ?_
    · exact (SubF.cons rfl (SubF.cons rfl (SubF.cons rfl (SubF.cons rfl (SubF.cons rfl (SubF.cons rfl SubF.nil))))))
    · exact (SubS.cons rfl (SubS.val rfl (by (try dsimp only); first | exact sb_data (by rw [subR_y (by omega) h1 h2]) | exact sb_data (by rw [subR_n (by omega) hno])) (SubS.cons rfl (SubS.cons rfl (SubS.cons rfl (SubS.cons rfl SubS.nil))))))
    ·try dsimp only
     omega
    · (try dsimp only); omega
   have hno : ¬ (0 ≤ atF us rs[k]!.a ∧ 0 ≤ atF us rs[k]!.b) := fun q => by have q1 := hpa.1.trans (decide_eq_true q.1); have q2 := hpb.1.trans (decide_eq_true q.2); (simp_all <;> omega)
   refine W.skip (E.inn (E.to (W.region ?_)))
   refine SL.val (O.det (fun _ => by first | exact G.R.add64 rfl rfl (by omega) | exact G.R.add rfl rfl) rfl Taken.no) ?_
   refine SL.mv rfl rfl (SL.nil ?_)
   refine E.again ((k + 1)) (rn []) ?_ ?_ rfl (fixL_spec rfl) ?_ ?_
   · exact (SubF.cons rfl (SubF.cons rfl (SubF.cons rfl (SubF.cons rfl (SubF.cons rfl (SubF.cons rfl SubF.nil))))))
   · exact (SubS.cons rfl (SubS.val rfl (by (try dsimp only); first | exact sb_data (by rw [subR_y (by omega) h1 h2]) | exact sb_data (by rw [subR_n (by omega) hno])) (SubS.cons rfl (SubS.cons rfl (SubS.cons rfl (SubS.cons rfl SubS.nil))))))
   ·try dsimp only
    omega
   · (try dsimp only); omega
  first | have hg9p := G.gA5 hg9 | have hg9p := G.gA6 hg9 | have hg9p := hg9
  have hno : ¬ (0 ≤ atF us rs[k]!.a ∧ 0 ≤ atF us rs[k]!.b) := fun q => by have q1 := hpa.1.trans (decide_eq_true q.1); (simp_all <;> omega)
  refine SL.sk rfl rfl rfl hg9 ?_
  refine SL.val (O.pick_f rfl (G.ne_t hg9) rfl rfl Taken.no) ?_
  refine E.fo ?_
  refine W.cond_f rfl ?_
  refine W.skip (E.inn (E.to (W.region ?_)))
  refine SL.val (O.det (fun _ => by first | exact G.R.add64 rfl rfl (by omega) | exact G.R.add rfl rfl) rfl Taken.no) ?_
  refine SL.mv rfl rfl (SL.nil ?_)
  refine E.again ((k + 1)) (rn []) ?_ ?_ rfl (fixL_spec rfl) ?_ ?_
  · exact (SubF.cons rfl (SubF.cons rfl (SubF.cons rfl (SubF.cons rfl (SubF.cons rfl (SubF.cons rfl SubF.nil))))))
  · exact (SubS.cons rfl (SubS.val rfl (by (try dsimp only); first | exact sb_data (by rw [subR_y (by omega) h1 h2]) | exact sb_data (by rw [subR_n (by omega) hno])) (SubS.cons rfl (SubS.cons rfl (SubS.cons rfl (SubS.cons rfl SubS.nil))))))
  ·try dsimp only
   omega
  · (try dsimp only); omega
 refine W.exit (E.th (E.th (E.hit (E.to (W.rg ?_)))))
 refine SL.val (O.ldN (m := 3) (PtI.ref rfl rfl) (js := [_, _, _]) rfl (Nat.le_of_ble_eq_true rfl) Try.underlying30 rfl (by kernel_rfl) rfl Taken.no) ?_
 refine SL.effS (O.st_ref (m := 3) rfl rfl rfl (js := [_, _, _]) rfl rfl (by kernel_rfl) (by simp) (Nat.le_of_ble_eq_true rfl) rfl (is' := [_, _, _]) rfl Taken.no) (S' := (102, _) :: _) rfl ?_
 refine SL.an rfl rfl (E.fo (W.ret ?_))
 refine E.freezeC 102 1 111 (is' := [_, _, _]) rfl rfl rfl rfl ?_
 refine E.freezeC 102 2 112 (is' := [_, _, _]) rfl rfl rfl rfl ?_
 refine E.fin (rs := [_, _]) (rn []) (.inl rfl) rfl (.cons (ResOne.cellN (m := 3) (PtI.ref rfl rfl) (js := [_, _, _]) rfl (Nat.le_of_ble_eq_true rfl) Try.underlying30 rfl (by kernel_rfl)) (.cons (ResOne.tmp rfl) .nil)) ?_ ?_ rfl (fixL_spec rfl)
 ·skip
  (rw [show k = rs.length by omega, List.take_length, (sb_y hoku ps rs).1, (sb_y hoku ps rs).2.1, (sb_y hoku ps rs).2.2.1, (sb_y hoku ps rs).2.2.2]; rfl)
 · exact SubS.nil


end Go.Proofs.Ytbkbeplddddgeaa
end
section
namespace Go.Proofs.Ytbkbeplddddgeaa
open Go Go.RowKit Go.H Go.D33





end Go.Proofs.Ytbkbeplddddgeaa
end
section
namespace Go.Proofs.Ytbkbeplddddgeaa
open Go Go.RowKit Go.H Go.D33

theorem hcallOk20 : G.callOk Try.prog 20 = true := by kernel_rfl



end Go.Proofs.Ytbkbeplddddgeaa
end
section
namespace Go.D33
open Go Go.RowKit Go.H
def exP : List Pr := [⟨0, 1, 5⟩, ⟨0, 2, -6⟩, ⟨1, 2, 4⟩]
def exR : List Ru := [⟨1, 2, 1⟩]
theorem ex_ok : (Prob.mk ((3 : Nat) : Int) exP []).ok := ⟨by decide +kernel, by decide +kernel⟩
def prV (x : Pr) : List Value := [.int .i64 x.a, .int .i64 x.b, .int .i64 x.w]
def ruV (x : Ru) : List Value := [.int .i64 x.k, .int .i64 x.a, .int .i64 x.b]
def stV (x : Stp) : List Value := [.bool x.u, .int .i64 x.f, .int .i64 x.t]
theorem Pr.ext {a b : Pr} (h1 : a.a = b.a) (h2 : a.b = b.b) (h3 : a.w = b.w) : a = b := by cases a; cases b; simp_all
instance : DecidableEq Pr := fun a b => if h : a.a = b.a ∧ a.b = b.b ∧ a.w = b.w then .isTrue (Pr.ext h.1 h.2.1 h.2.2) else .isFalse fun e => h (by subst e; exact ⟨rfl, rfl, rfl⟩)
theorem Ru.ext {a b : Ru} (h1 : a.k = b.k) (h2 : a.a = b.a) (h3 : a.b = b.b) : a = b := by cases a; cases b; simp_all
instance : DecidableEq Ru := fun a b => if h : a.k = b.k ∧ a.a = b.a ∧ a.b = b.b then .isTrue (Ru.ext h.1 h.2.1 h.2.2) else .isFalse fun e => h (by subst e; exact ⟨rfl, rfl, rfl⟩)
theorem valI_eq {n : Nat} {ps : List Pr} {rs : List Ru} (hf : (Prob.mk (n : Int) ps rs).formed) (l : List Int) : valI n (wF ps) l = valSI n ps l := by
  by_cases h : isPart n l
  · obtain ⟨m, rfl⟩ := cast_of fun i hi => (h.2 i hi).1
    have hp := isPart_cast.1 h
    rw [(valI_y (w := wF ps) hp).1, (valSI_y (ps := ps) hp).1, val_eq hf hp]
  · rw [(valI_n h).1, (valSI_n h).1]
end Go.D33
end
section
namespace Go.D33
open Go Go.RowKit Go.H
section
variable {n : Nat} {ps : List Pr} {rs ts : List Ru} {m : List Nat} {s : Stp}
def resp (n : Nat) (rs : List Ru) (lab : List Nat) : Prop := ∀ i j, i < n → j < n → (atomsL n rs)[i]! = (atomsL n rs)[j]! → lab[i]! = lab[j]!
structure Alike (n : Nat) (ps : List Pr) (rs ts : List Ru) : Prop where
  atm : atomsL n ts = atomsL n rs
  con : ∀ lab, resp n rs lab → connL n ps ts lab = connL n ps rs lab
  cl : ∀ lab, resp n rs lab → clash (barL ts) lab = clash (barL rs) lab
theorem alike_next (hf : (Prob.mk (n : Int) ps rs).formed) (h : Alike n ps rs ts) (hm : isP n m) (hp : permR n ps rs m) : nextR n ps ts m = nextR n ps rs m ∧ ∀ s, preR n (atomsL n rs) m s → resR n ps ts m s = resR n ps rs m s := by
  have hl : ∀ s, preR n (atomsL n rs) m s → resp n rs (labL n (atomsL n rs) m s) := fun s h1 i j hi hj e => lab_at hf hm hp ((pre_iff hm hp.2.1).2 h1) hi hj e
  have hres : ∀ s, preR n (atomsL n rs) m s → resR n ps ts m s = resR n ps rs m s := fun s h1 => by
    unfold resR
    rw [h.atm, h.con _ (hl s h1)]
  refine ⟨?_, hres⟩
  unfold nextR
  refine best_congr fun s _ => ⟨?_, fun q => ?_⟩
  · unfold posR
    rw [h.atm]
    exact ⟨fun q => ⟨q.1, by rw [← h.cl _ (hl s q.1)]; exact q.2⟩, fun q => ⟨q.1, by rw [h.cl _ (hl s q.1)]; exact q.2⟩⟩
  · have q1 := q.1
    rw [h.atm] at q1
    unfold gnR
    rw [hres s q1]
def swp (t r : Ru) : Prop := t.k = r.k ∧ ((t.a = r.a ∧ t.b = r.b) ∨ (t.a = r.b ∧ t.b = r.a))
def fol (n : Nat) (rs : List Ru) (t : Ru) : Prop := (t.k = 1 ∧ ∃ i, i < n ∧ (atomsL n rs)[i]! ≠ i ∧ t.a = (i : Int) ∧ t.b = ((atomsL n rs)[i]! : Nat)) ∨ (t.k = 2 ∧ ∃ r ∈ rs, r.k = 2 ∧ t.a = ((atomsL n rs)[r.a.toNat]! : Nat) ∧ t.b = ((atomsL n rs)[r.b.toNat]! : Nat))
end
end Go.D33
end
section
namespace Go.D33
open Go Go.RowKit Go.H
def ltS (a b : Stp) : Prop := (a.u = false ∧ b.u = true) ∨ (a.u = b.u ∧ (a.f < b.f ∨ (a.f = b.f ∧ a.t < b.t)))
theorem ltS_asymm {a b : Stp} (h : ltS a b) : ¬ ltS b a := by
  rintro (q | q) <;> rcases h with h | h
  · rw [h.1] at q; cases q.2
  · rw [h.1, q.1] at q; cases q.2
  · rw [h.1, h.2] at q; cases q.1
  · omega
theorem ltS_tri (a b : Stp) : a = b ∨ ltS a b ∨ ltS b a := by
  obtain ⟨u, f, t⟩ := a
  obtain ⟨u', f', t'⟩ := b
  by_cases hu : u = u'
  · subst hu
    rcases Int.lt_trichotomy f f' with h | h | h
    · exact .inr (.inl (.inr ⟨rfl, .inl h⟩))
    · subst h
      rcases Int.lt_trichotomy t t' with h | h | h
      · exact .inr (.inl (.inr ⟨rfl, .inr ⟨rfl, h⟩⟩))
      · subst h; exact .inl rfl
      · exact .inr (.inr (.inr ⟨rfl, .inr ⟨rfl, h⟩⟩))
    · exact .inr (.inr (.inr ⟨rfl, .inl h⟩))
  · cases u <;> cases u'
    · exact absurd rfl hu
    · exact .inr (.inl (.inl ⟨rfl, rfl⟩))
    · exact .inr (.inr (.inl ⟨rfl, rfl⟩))
    · exact absurd rfl hu
theorem rowS_in {n : Nat} {u : Bool} {f : Nat} {s : Stp} (h : s ∈ rowS n u f) : s.u = u ∧ s.f = (f : Int) := by
  obtain ⟨t, _, rfl⟩ := List.mem_map.1 h
  exact ⟨rfl, rfl⟩
theorem kindS_in {n : Nat} {u : Bool} {k : Nat} {s : Stp} (h : s ∈ kindS n u k) : s.u = u ∧ s.f < (k : Int) := by
  obtain ⟨l, hl, hs⟩ := List.mem_flatten.1 h
  obtain ⟨f, hf, rfl⟩ := List.mem_map.1 hl
  have := rowS_in hs
  have h2 := List.mem_range.1 hf
  exact ⟨this.1, by rw [this.2]; omega⟩
theorem places_asc (n : Nat) : (places (List.range n)).Pairwise (· < ·) := by
  unfold places
  refine List.pairwise_cons.2 ⟨fun t ht => ?_, ?_⟩
  · obtain ⟨x, _, rfl⟩ := List.mem_map.1 ht
    omega
  · rw [List.pairwise_map]
    exact (List.pairwise_lt_range (n := n)).imp fun h => by omega
theorem kindS_asc (n : Nat) (u : Bool) : ∀ k, (kindS n u k).Pairwise ltS
  | 0 => List.Pairwise.nil
  | k + 1 => by
    rw [kindS_s, List.pairwise_append]
    refine ⟨kindS_asc n u k, ?_, fun a ha b hb => ?_⟩
    · unfold rowS
      rw [List.pairwise_map]
      exact (places_asc n).imp fun h => .inr ⟨rfl, .inr ⟨rfl, h⟩⟩
    · have h1 := kindS_in ha
      have h2 := rowS_in hb
      exact .inr ⟨h1.1.trans h2.1.symm, .inl (by rw [h2.2]; exact h1.2)⟩
theorem allS_asc (n : Nat) : (allS n).Pairwise ltS := by
  unfold allS
  rw [List.pairwise_append]
  exact ⟨kindS_asc n false n, kindS_asc n true n, fun a ha b hb => .inl ⟨(kindS_in ha).1, (kindS_in hb).1⟩⟩
section
variable {ok : Stp → Prop} [DecidablePred ok] {g : Stp → Int}
theorem best_first' {l : List Stp} (hl : l.Pairwise ltS) : ∀ k, k ≤ l.length → 0 < (bestF ok g (l.take k)).2 → ∀ x ∈ l.take k, ok x → ltS x (bestF ok g (l.take k)).1 → g x < (bestF ok g (l.take k)).2 := by
  intro k
  induction k with
  | zero => intro _ _ x hx; rw [List.take_zero] at hx; cases hx
  | succ k ih =>
    intro hk h0 x hx hok hlt
    have hk' : k < l.length := hk
    obtain ⟨s1, s2, s3, _⟩ := best_spec (ok := ok) (g := g) (l.take k)
    rw [best_s hk'] at h0 hlt ⊢
    have hs : (l.take (k + 1)).Pairwise ltS := hl.sublist (List.take_sublist _ _)
    rw [snocP hk'] at hs hx
    by_cases hp : ok l[k]! ∧ (bestF ok g (l.take k)).2 < g l[k]!
    · rw [pick_y hp.1 hp.2] at h0 hlt ⊢
      rcases List.mem_append.1 hx with q | q
      · have := s3 x q hok
        show g x < g l[k]!
        omega
      · rw [List.mem_singleton.1 q] at hlt
        exact absurd hlt (ltS_asymm hlt)
    · rw [pick_n hp] at h0 hlt ⊢
      rcases List.mem_append.1 hx with q | q
      · exact ih (by omega) h0 x q hok hlt
      · rw [List.mem_singleton.1 q] at hlt
        have := (List.pairwise_append.1 hs).2.2 _ (s2 h0).1 l[k]! (by simp)
        exact absurd hlt (ltS_asymm this)
theorem best_first {l : List Stp} (hl : l.Pairwise ltS) (h0 : 0 < (bestF ok g l).2) : ∀ x ∈ l, ok x → ltS x (bestF ok g l).1 → g x < (bestF ok g l).2 := by
  have := best_first' (ok := ok) (g := g) hl l.length (Nat.le_refl _)
  rw [List.take_length] at this
  exact this h0
theorem best_char {l : List Stp} (hl : l.Pairwise ltS) {s : Stp} (hs : s ∈ l) (hok : ok s) (hg : 0 < g s) (hmax : ∀ x ∈ l, ok x → g x ≤ g s) (hfirst : ∀ x ∈ l, ok x → ltS x s → g x < g s) : bestF ok g l = (s, g s) := by
  obtain ⟨s1, s2, s3, _⟩ := best_spec (ok := ok) (g := g) l
  have h1 := s3 s hs hok
  obtain ⟨t1, t2, t3⟩ := s2 (by omega)
  have h2 := hmax _ t1 t2
  have e : (bestF ok g l).2 = g s := by omega
  rcases ltS_tri (bestF ok g l).1 s with q | q | q
  · exact Prod.ext q e
  · have := hfirst _ t1 t2 q
    omega
  · have := best_first hl (by omega) s hs hok q
    omega
end
structure Emb (n k : Nat) (ps : List Pr) (rs : List Ru) (us : List Nat) (ps' : List Pr) (rs' : List Ru) : Prop where
  len : us.length = k
  asc : ∀ i j, i < j → j < k → us[i]! < us[j]!
  lt : ∀ i, i < k → us[i]! < n
  cl : ∀ i y, i < k → y < n → mF (lF ps) rs us[i]! y = true → y ∈ us
  lk : ∀ i j, i < k → j < k → mF (lF ps') rs' i j = mF (lF ps) rs us[i]! us[j]!
  mu : ∀ i j, i < k → j < k → mu rs' i j = mu rs us[i]! us[j]!
  can : ∀ i j, i < k → j < k → ((∃ x ∈ barL rs', x.a.toNat = i ∧ x.b.toNat = j) ↔ ∃ x ∈ barL rs, x.a.toNat = us[i]! ∧ x.b.toNat = us[j]!)
  val : ∀ (q q' : Nat → Nat → Prop) [∀ a b, Decidable (q a b)] [∀ a b, Decidable (q' a b)], (∀ i j, i < k → j < k → (q' i j ↔ q us[i]! us[j]!)) → sumQ q' ps' = sumQ (fun a b => (a ∈ us ∧ b ∈ us) ∧ q a b) ps
namespace Emb
variable {n k : Nat} {ps ps' : List Pr} {rs rs' : List Ru} {us : List Nat}
theorem inj (E : Emb n k ps rs us ps' rs') {i j : Nat} (hi : i < k) (hj : j < k) (e : us[i]! = us[j]!) : i = j := by
  rcases Nat.lt_trichotomy i j with h | h | h
  · have := E.asc i j h hj; omega
  · exact h
  · have := E.asc j i h hi; omega
theorem mono (E : Emb n k ps rs us ps' rs') {i j : Nat} (hi : i < k) (hj : j < k) : us[i]! ≤ us[j]! ↔ i ≤ j := by
  rcases Nat.lt_trichotomy i j with h | h | h
  · have := E.asc i j h hj; omega
  · subst h; simp
  · have := E.asc j i h hi; omega
theorem mem (E : Emb n k ps rs us ps' rs') {x : Nat} : x ∈ us ↔ ∃ i, i < k ∧ x = us[i]! := by
  constructor
  · intro h
    obtain ⟨i, hi, rfl⟩ := List.getElem_of_mem h
    exact ⟨i, by rw [← E.len]; exact hi, (getElem!_pos us i hi).symm⟩
  · rintro ⟨i, hi, rfl⟩
    exact mem_at (by rw [E.len]; exact hi)
theorem at_ (E : Emb n k ps rs us ps' rs') {i : Nat} (hi : i < k) : us[i]! ∈ us := E.mem.2 ⟨i, hi, rfl⟩
theorem lkc (E : Emb n k ps rs us ps' rs') {x y : Nat} (hx : x < n) (hy : y < n) (h : mF (lF ps) rs x y = true) : x ∈ us ↔ y ∈ us := by
  constructor
  · intro q
    obtain ⟨i, hi, rfl⟩ := E.mem.1 q
    exact E.cl i y hi hy h
  · intro q
    obtain ⟨i, hi, rfl⟩ := E.mem.1 q
    rw [lk_sym] at h
    exact E.cl i x hi hx h
theorem cn (E : Emb n k ps rs us ps' rs') {R R' : Nat → Nat → Prop} (hcl : ∀ x y, R x y → (x ∈ us ↔ y ∈ us)) (hR : ∀ i j, i < k → j < k → (R' i j ↔ R us[i]! us[j]!)) {x y : Nat} (g : Cn R x y) :
    (x ∈ us ↔ y ∈ us) ∧ ∀ i j, i < k → j < k → x = us[i]! → y = us[j]! → Cn R' i j := by
  induction g with
  | base h => exact ⟨hcl _ _ h, fun i j hi hj e1 e2 => .base ((hR i j hi hj).2 (by rw [← e1, ← e2]; exact h))⟩
  | refl x => exact ⟨Iff.rfl, fun i j hi hj e1 e2 => by rw [E.inj hi hj (e1.symm.trans e2)]; exact .refl j⟩
  | symm _ ih => exact ⟨ih.1.symm, fun i j hi hj e1 e2 => (ih.2 j i hj hi e2 e1).symm⟩
  | trans _ _ ih ih' =>
    refine ⟨ih.1.trans ih'.1, fun i j hi hj e1 e2 => ?_⟩
    obtain ⟨l, hl, e⟩ := E.mem.1 (ih.1.1 (by rw [e1]; exact E.at_ hi))
    exact (ih.2 i l hi hl e1 e).trans (ih'.2 l j hl hj e e2)
theorem comp (E : Emb n k ps rs us ps' rs') {R R' : Nat → Nat → Prop} {l l' : List Nat} (hcl : ∀ x y, R x y → (x ∈ us ↔ y ∈ us)) (hR : ∀ i j, i < k → j < k → (R' i j ↔ R us[i]! us[j]!)) (h : Comp n R l) (h' : Comp k R' l') {i : Nat} (hi : i < k) : l[us[i]!]! = us[l'[i]!]! := by
  have hin := E.lt i hi
  have c1 := h.cn _ hin
  have q := (E.cn hcl hR c1).1.1 (E.at_ hi)
  obtain ⟨j, hj, e⟩ := E.mem.1 q
  have c2 := (E.cn hcl hR c1).2 i j hi hj rfl e
  have l1 : l'[i]! ≤ j := by rw [h'.same c2]; exact h'.le j hj
  have hl := h'.lt hi
  have c3 : Cn R us[i]! us[l'[i]!]! := by
    have key : ∀ {x y : Nat}, Cn R' x y → x < k → Cn R us[x]! us[y]! ∧ y < k := fun {x y} g => by
      have hb : ∀ {x y}, Cn R' x y → (x < k ↔ y < k) := fun {x y} g => by
        have := Cn.keep (f := fun x => decide (x < k)) (fun i j r => by rw [decide_eq_true (h'.bnd i j r).1, decide_eq_true (h'.bnd i j r).2]) g
        simpa using this
      intro hx
      refine ⟨?_, (hb g).1 hx⟩
      induction g with
      | base r => have := h'.bnd _ _ r; exact .base ((hR _ _ this.1 this.2).1 r)
      | refl x => exact .refl _
      | symm g ih => exact (ih ((hb g).2 hx)).symm
      | trans g _ ih ih' => exact (ih hx).trans (ih' ((hb g).1 hx))
    exact (key (h'.cn i hi) hi).1
  have l2 : l[us[i]!]! ≤ us[l'[i]!]! := by rw [h.same c3]; exact h.le _ (E.lt _ hl)
  have l3 := (E.mono hl hj).2 l1
  rw [e] at l2 ⊢
  omega
end Emb
theorem comp_on {n : Nat} {R S : Nat → Nat → Prop} {l m : List Nat} (O : Nat → Prop) (hO : ∀ x y, R x y → (O x ↔ O y)) (hO' : ∀ x y, S x y → (O x ↔ O y)) (hRS : ∀ x y, O x → O y → (R x y ↔ S x y)) (h : Comp n R l) (h' : Comp n S m) {x : Nat} (hx : x < n) (ho : O x) : l[x]! = m[x]! := by
  have c1 := ((h.cn x hx).inside (R' := S) hO fun i j r o => (hRS i j o ((hO i j r).1 o)).1 r).2 ho
  have c2 := ((h'.cn x hx).inside (R' := R) hO' fun i j r o => (hRS i j o ((hO' i j r).1 o)).2 r).2 ho
  have l1 : l[x]! ≤ m[x]! := by rw [h.same c2]; exact h.le _ (h'.lt hx)
  have l2 : m[x]! ≤ l[x]! := by rw [h'.same c1]; exact h'.le _ (h.lt hx)
  omega
def embS (us : List Nat) (s : Stp) : Stp := ⟨s.u, (us[s.f.toNat]! : Nat), if s.t < 0 then s.t else (us[s.t.toNat]! : Nat)⟩
def RelE (us : List Nat) (k : Nat) (m m' : List Nat) : Prop := ∀ i, i < k → m[us[i]!]! = us[m'[i]!]!
section
variable {n k : Nat} {ps ps' : List Pr} {rs rs' : List Ru} {us m m' : List Nat} {s : Stp}
theorem inC_cl (E : Emb n k ps rs us ps' rs') {lab : List Nat} : ∀ x y, inC n ps rs lab x y → (x ∈ us ↔ y ∈ us) := fun _ _ q => E.lkc q.2.2.1 q.2.2.2 q.1
theorem perm_cl (E : Emb n k ps rs us ps' rs') (hf : (Prob.mk (n : Int) ps rs).formed) (hp : permR n ps rs m) {x y : Nat} (hx : x < n) (hy : y < n) (e : m[x]! = m[y]!) : x ∈ us ↔ y ∈ us :=
  (E.cn (R := inC n ps rs m) (R' := fun i j => inC n ps rs m us[i]! us[j]!) (inC_cl E) (fun _ _ _ _ => Iff.rfl) (((perm_comp hf hp).iff hx hy).1 e)).1
theorem name_cl (E : Emb n k ps rs us ps' rs') (hf : (Prob.mk (n : Int) ps rs).formed) (hm : isP n m) (hp : permR n ps rs m) {x : Nat} (hx : x < n) : x ∈ us ↔ m[x]! ∈ us := by
  have h := hm.2 x hx
  exact perm_cl E hf hp hx (by omega) h.2.symm
theorem atoms_emb (E : Emb n k ps rs us ps' rs') (hf : (Prob.mk (n : Int) ps rs).formed) (hf' : (Prob.mk (k : Int) ps' rs').formed) : RelE us k (atomsL n rs) (atomsL k rs') := fun i hi => by
  rw [atoms_eq hf, atoms_eq hf']
  refine E.comp (R := fun i j => mu rs i j = true ∧ i < n ∧ j < n) (R' := fun i j => mu rs' i j = true ∧ i < k ∧ j < k) (fun x y q => ?_) (fun i j hi hj => ?_) (comp_parts (mu_sym rs)) (comp_parts (mu_sym rs')) hi
  · refine E.lkc q.2.1 q.2.2 ?_
    rcases (mF_iff rs).1 q.1 with h | h
    · cases h
    · exact (mF_iff rs).2 (.inr h)
  · rw [E.mu i j hi hj]
    exact ⟨fun q => ⟨q.1, E.lt i hi, E.lt j hj⟩, fun q => ⟨q.1, hi, hj⟩⟩
structure Two (n k : Nat) (ps : List Pr) (rs : List Ru) (us : List Nat) (ps' : List Pr) (rs' : List Ru) (m m' : List Nat) : Prop where
  E : Emb n k ps rs us ps' rs'
  ok : (Prob.mk (n : Int) ps rs).ok
  ok' : (Prob.mk (k : Int) ps' rs').ok
  hm : isP n m
  hp : permR n ps rs m
  hm' : isP k m'
  hp' : permR k ps' rs' m'
  rel : RelE us k m m'
namespace Two
theorem eqm (T : Two n k ps rs us ps' rs' m m') {i j : Nat} (hi : i < k) (hj : j < k) : m[us[i]!]! = m[us[j]!]! ↔ m'[i]! = m'[j]! := by
  have h1 := (T.hm'.2 i hi).1
  have h2 := (T.hm'.2 j hj).1
  rw [T.rel i hi, T.rel j hj]
  exact ⟨T.E.inj (by omega) (by omega), fun e => by rw [e]⟩
theorem eqn (T : Two n k ps rs us ps' rs' m m') {i j : Nat} (hi : i < k) (hj : j < k) : m[us[i]!]! = us[j]! ↔ m'[i]! = j := by
  have h1 := (T.hm'.2 i hi).1
  rw [T.rel i hi]
  exact ⟨T.E.inj (by omega) hj, fun e => by rw [e]⟩
theorem eqa (T : Two n k ps rs us ps' rs' m m') {i j : Nat} (hi : i < k) (hj : j < k) : (atomsL n rs)[us[i]!]! = us[j]! ↔ (atomsL k rs')[i]! = j := by
  have ha := atoms_comp T.ok'.1
  rw [atoms_emb T.E T.ok.1 T.ok'.1 i hi]
  exact ⟨T.E.inj (ha.lt hi) hj, fun e => by rw [e]⟩
theorem rng (T : Two n k ps rs us ps' rs' m m') (h : rngF k s) : rngF n (embS us s) ∧ (embS us s).f.toNat = us[s.f.toNat]! ∧ (0 ≤ s.t → (embS us s).t.toNat = us[s.t.toNat]! ∧ 0 ≤ (embS us s).t) ∧ (s.t < 0 → (embS us s).t < 0) := by
  obtain ⟨h1, h2, h3, h4, h5⟩ := h
  have e1 : (embS us s).f = (us[s.f.toNat]! : Nat) := rfl
  have e2 : (embS us s).t = if s.t < 0 then s.t else (us[s.t.toNat]! : Nat) := rfl
  have e3 : (embS us s).u = s.u := rfl
  have l1 := T.E.lt s.f.toNat (by omega)
  unfold rngF
  rw [e1, e2, e3]
  by_cases ht : s.t < 0
  · rw [if_pos ht]
    exact ⟨⟨by omega, by omega, by omega, by omega, h5⟩, by omega, fun q => by omega, fun _ => ht⟩
  · have l2 := T.E.lt s.t.toNat (by omega)
    rw [if_neg ht]
    exact ⟨⟨by omega, by omega, by omega, by omega, fun q => by omega⟩, by omega, fun q => ⟨by omega, by omega⟩, fun q => absurd q ht⟩
theorem g0 (T : Two n k ps rs us ps' rs' m m') (h : rngF k s) {i : Nat} (hi : i < k) : us[i]! ∈ g0L m (atomsL n rs) (embS us s) ↔ i ∈ g0L m' (atomsL k rs') s := by
  obtain ⟨_, r1, r2, r3⟩ := T.rng h
  obtain ⟨h1, h2, h3, h4, h5⟩ := h
  have hf : s.f.toNat < k := by omega
  have e0 := T.eqm hi hf
  have e1 := T.eqa hi hf
  have hl := T.E.lt i hi
  have e2 : (0 ≤ (embS us s).t ∧ m[us[i]!]! = (embS us s).t.toNat) ↔ (0 ≤ s.t ∧ m'[i]! = s.t.toNat) := by
    by_cases ht : s.t < 0
    · have := r3 ht
      exact ⟨fun q => by omega, fun q => by omega⟩
    · have r := r2 (by omega)
      rw [r.1, T.eqn hi (show s.t.toNat < k by omega)]
      exact ⟨fun q => ⟨by omega, q.2⟩, fun q => ⟨r.2, q.2⟩⟩
  cases hu : s.u with
  | true =>
    rw [mem_g0u T.hm.1 (show (embS us s).u = true from hu), mem_g0u T.hm'.1 hu, r1, e0, e2]
    exact ⟨fun q => ⟨hi, q.2⟩, fun q => ⟨hl, q.2⟩⟩
  | false =>
    rw [mem_g0m T.hm.1 (show (embS us s).u = false from hu), mem_g0m T.hm'.1 hu, r1, e0, e1, e2]
    exact ⟨fun q => ⟨hi, q.2⟩, fun q => ⟨hl, q.2⟩⟩
theorem g0_out (T : Two n k ps rs us ps' rs' m m') (h : rngF k s) {x : Nat} (hx : x ∉ us) : x ∉ g0L m (atomsL n rs) (embS us s) := by
  obtain ⟨_, r1, r2, r3⟩ := T.rng h
  obtain ⟨h1, h2, h3, h4, h5⟩ := h
  have hf : s.f.toNat < k := by omega
  have key : x < n → m[x]! = m[us[s.f.toNat]!]! → False := fun hxn e => hx ((perm_cl T.E T.ok.1 T.hp hxn (T.E.lt _ hf) e).2 (T.E.at_ hf))
  have key2 : x < n → 0 ≤ (embS us s).t → m[x]! = (embS us s).t.toNat → False := fun hxn q e => by
    by_cases ht : s.t < 0
    · have := r3 ht; omega
    · have r := r2 (by omega)
      rw [r.1] at e
      exact hx ((name_cl T.E T.ok.1 T.hm T.hp hxn).2 (by rw [e]; exact T.E.at_ (by omega)))
  intro q
  cases hu : s.u with
  | true =>
    rw [mem_g0u T.hm.1 (show (embS us s).u = true from hu), r1] at q
    rcases q.2 with z | z
    · exact key q.1 z
    · exact key2 q.1 z.1 z.2
  | false =>
    rw [mem_g0m T.hm.1 (show (embS us s).u = false from hu), r1] at q
    rcases q.2 with z | z
    · exact key2 q.1 z.1 z.2
    · exact key q.1 z.1
theorem pre (T : Two n k ps rs us ps' rs' m m') (h : rngF k s) : preR n (atomsL n rs) m (embS us s) ↔ preR k (atomsL k rs') m' s := by
  obtain ⟨r0, r1, r2, r3⟩ := T.rng h
  have hr := h
  obtain ⟨h1, h2, h3, h4, h5⟩ := h
  have hf : s.f.toNat < k := by omega
  have eo : othR n (atomsL n rs) m us[s.f.toNat]! = true ↔ othR k (atomsL k rs') m' s.f.toNat = true := by
    unfold othR
    rw [List.any_eq_true, List.any_eq_true]
    constructor
    · rintro ⟨x, hx, q⟩
      have hx := List.mem_range.1 hx
      have q := of_decide_eq_true q
      obtain ⟨i, hi, e⟩ := T.E.mem.1 ((perm_cl T.E T.ok.1 T.hp hx (T.E.lt _ hf) q.1).2 (T.E.at_ hf))
      rw [e] at q
      exact ⟨i, List.mem_range.2 hi, decide_eq_true ⟨(T.eqm hi hf).1 q.1, fun z => q.2 ((T.eqa hi hf).2 z)⟩⟩
    · rintro ⟨i, hi, q⟩
      have hi := List.mem_range.1 hi
      have q := of_decide_eq_true q
      exact ⟨us[i]!, List.mem_range.2 (T.E.lt i hi), decide_eq_true ⟨(T.eqm hi hf).2 q.1, fun z => q.2 ((T.eqa hi hf).1 z)⟩⟩
  have ef : us[s.f.toNat]! < us[s.t.toNat]! ∧ 0 ≤ s.t ↔ s.f < s.t := by
    by_cases ht : s.t < 0
    · exact ⟨fun q => by omega, fun q => by omega⟩
    · have := T.E.mono (i := s.t.toNat) (j := s.f.toNat) (by omega) hf
      constructor
      · intro q; omega
      · intro q; exact ⟨by omega, by omega⟩
  have et : (embS us s).f < (embS us s).t ↔ s.f < s.t := by
    rw [← ef]
    by_cases ht : s.t < 0
    · have := r3 ht
      have := r0.1
      exact ⟨fun q => by omega, fun q => by omega⟩
    · have r := r2 (by omega)
      have := r0.1
      constructor
      · intro q; exact ⟨by omega, by omega⟩
      · intro q; omega
  unfold preR
  rw [r1, T.eqn hf hf, T.eqa hf hf, et]
  have eu : (embS us s).u = s.u := rfl
  rw [eu]
  by_cases ht : s.t < 0
  · have q := r3 ht
    constructor
    · rintro ⟨_, _, z2, z3⟩
      exact ⟨hr, fun w => by omega, z2, fun hu => ⟨(z3 hu).1, fun w => by omega, fun _ => eo.1 ((z3 hu).2.2 q)⟩⟩
    · rintro ⟨_, _, z2, z3⟩
      exact ⟨r0, fun w => by omega, z2, fun hu => ⟨(z3 hu).1, fun w => by omega, fun _ => eo.2 ((z3 hu).2.2 ht)⟩⟩
  · have r := r2 (by omega)
    have htk : s.t.toNat < k := by omega
    rw [r.1, T.eqn htk htk, ne_eq, ne_eq, T.eqn hf htk]
    constructor
    · rintro ⟨_, z1, z2, z3⟩
      exact ⟨hr, fun _ => z1 r.2, z2, fun hu => ⟨(z3 hu).1, fun _ => (z3 hu).2.1 r.2, fun w => absurd w ht⟩⟩
    · rintro ⟨_, z1, z2, z3⟩
      exact ⟨r0, fun _ => z1 (by omega), z2, fun hu => ⟨(z3 hu).1, fun _ => (z3 hu).2.1 (by omega), fun w => by omega⟩⟩
theorem preF_ (T : Two n k ps rs us ps' rs' m m') (h : rngF k s) : preF n (atomsL n rs) m (embS us s) ↔ preF k (atomsL k rs') m' s := by
  rw [pre_iff T.hm T.hp.2.1, pre_iff T.hm' T.hp'.2.1]
  exact T.pre h
theorem pos (T : Two n k ps rs us ps' rs' m m') (h : rngF k s) : posR n (barL rs) (atomsL n rs) m (embS us s) ↔ posR k (barL rs') (atomsL k rs') m' s := by
  rw [← pos_iff T.ok.1 T.hm T.hp, ← pos_iff T.ok'.1 T.hm' T.hp']
  unfold posF
  rw [T.preF_ h]
  have e : (barL rs).any (hitR (g0L m (atomsL n rs) (embS us s))) = true ↔ (barL rs').any (hitR (g0L m' (atomsL k rs') s)) = true := by
    rw [List.any_eq_true, List.any_eq_true]
    constructor
    · rintro ⟨x, hx, q⟩
      have q := of_decide_eq_true q
      have ha : x.a.toNat ∈ us := Decidable.byContradiction fun z => T.g0_out h z q.1
      have hb : x.b.toNat ∈ us := Decidable.byContradiction fun z => T.g0_out h z q.2
      obtain ⟨i, hi, ei⟩ := T.E.mem.1 ha
      obtain ⟨j, hj, ej⟩ := T.E.mem.1 hb
      obtain ⟨x', hx', e1, e2⟩ := (T.E.can i j hi hj).2 ⟨x, hx, ei, ej⟩
      rw [ei, ej, T.g0 h hi, T.g0 h hj] at q
      exact ⟨x', hx', decide_eq_true (by rw [e1, e2]; exact q)⟩
    · rintro ⟨x', hx', q⟩
      have q := of_decide_eq_true q
      have hb := bar_rng T.ok'.1 x' hx'
      obtain ⟨x, hx, e1, e2⟩ := (T.E.can _ _ (show x'.a.toNat < k by omega) (show x'.b.toNat < k by omega)).1 ⟨x', hx', rfl, rfl⟩
      refine ⟨x, hx, decide_eq_true ?_⟩
      rw [e1, e2, T.g0 h (by omega), T.g0 h (by omega)]
      exact q
  constructor
  · rintro ⟨q1, q2⟩
    refine ⟨q1, ?_⟩
    rw [Bool.eq_false_iff] at q2 ⊢
    exact fun z => q2 (e.2 z)
  · rintro ⟨q1, q2⟩
    refine ⟨q1, ?_⟩
    rw [Bool.eq_false_iff] at q2 ⊢
    exact fun z => q2 (e.1 z)
theorem lab (T : Two n k ps rs us ps' rs' m m') (h : preR k (atomsL k rs') m' s) {i j : Nat} (hi : i < k) (hj : j < k) : (labL n (atomsL n rs) m (embS us s))[us[i]!]! = (labL n (atomsL n rs) m (embS us s))[us[j]!]! ↔ (labL k (atomsL k rs') m' s)[i]! = (labL k (atomsL k rs') m' s)[j]! := by
  have g1 := grp_of T.hm T.hp.2.1 ((pre_iff T.hm T.hp.2.1).2 ((T.pre h.1).2 h))
  have g2 := grp_of T.hm' T.hp'.2.1 ((pre_iff T.hm' T.hp'.2.1).2 h)
  rw [g1.lab _ _ (T.E.lt i hi) (T.E.lt j hj), g2.lab _ _ hi hj, T.g0 h.1 hi, T.g0 h.1 hj, T.eqm hi hj]
theorem res (T : Two n k ps rs us ps' rs' m m') (h : preR k (atomsL k rs') m' s) : RelE us k (resR n ps rs m (embS us s)) (resR k ps' rs' m' s) := fun i hi => by
  refine T.E.comp (inC_cl T.E) (fun i j hi hj => ?_) (res_comp T.ok.1 m (embS us s)) (res_comp T.ok'.1 m' s) hi
  unfold inC
  rw [T.E.lk i j hi hj, T.lab h hi hj]
  exact ⟨fun q => ⟨q.1, q.2.1, T.E.lt i hi, T.E.lt j hj⟩, fun q => ⟨q.1, q.2.1, hi, hj⟩⟩
theorem res_out (T : Two n k ps rs us ps' rs' m m') (h : preR k (atomsL k rs') m' s) {x : Nat} (hx : x < n) (ho : x ∉ us) : (resR n ps rs m (embS us s))[x]! = m[x]! := by
  have g1 := grp_of T.hm T.hp.2.1 ((pre_iff T.hm T.hp.2.1).2 ((T.pre h.1).2 h))
  refine comp_on (fun x => x ∉ us) (fun x y q => not_congr (inC_cl T.E x y q)) (fun x y q => not_congr (inC_cl T.E x y q)) (fun x y ox oy => ?_) (res_comp T.ok.1 m (embS us s)) (perm_comp T.ok.1 T.hp) hx ho
  unfold inC
  constructor
  · rintro ⟨q1, q2, q3, q4⟩
    rcases (g1.lab _ _ q3 q4).1 q2 with z | z
    · exact absurd z.1 (T.g0_out h.1 ox)
    · exact ⟨q1, z.2.2, q3, q4⟩
  · rintro ⟨q1, q2, q3, q4⟩
    exact ⟨q1, (g1.lab _ _ q3 q4).2 (.inr ⟨T.g0_out h.1 ox, T.g0_out h.1 oy, q2⟩), q3, q4⟩
theorem gain (T : Two n k ps rs us ps' rs' m m') (h : posR k (barL rs') (atomsL k rs') m' s) : gnR n ps rs m (embS us s) = gnR k ps' rs' m' s := by
  have hr := T.res h.1
  have hp2 := res_perm T.ok.1 T.hm T.hp ((T.pos h.1.1).2 h)
  have hp3 := res_perm T.ok'.1 T.hm' T.hp' h
  unfold gnR
  rw [valR_sum, valR_sum, valR_sum, valR_sum]
  rw [T.E.val (fun a b => (resR n ps rs m (embS us s))[a]! = (resR n ps rs m (embS us s))[b]!) (fun a b => (resR k ps' rs' m' s)[a]! = (resR k ps' rs' m' s)[b]!) fun i j hi hj => ?_,
    T.E.val (fun a b => m[a]! = m[b]!) (fun a b => m'[a]! = m'[b]!) fun i j hi hj => (T.eqm hi hj).symm]
  · refine sumQ_four fun x hx => ?_
    obtain ⟨ha, hb⟩ := pr_lt T.ok.1 hx
    by_cases qa : x.a.toNat ∈ us
    · by_cases qb : x.b.toNat ∈ us
      · exact .inl ⟨⟨fun e => ⟨⟨qa, qb⟩, e⟩, fun e => e.2⟩, ⟨fun e => ⟨⟨qa, qb⟩, e⟩, fun e => e.2⟩⟩
      · exact .inl ⟨⟨fun e => absurd ((perm_cl T.E T.ok.1 hp2.2 ha hb e).1 qa) qb, fun e => e.2⟩, ⟨fun e => absurd ((perm_cl T.E T.ok.1 T.hp ha hb e).1 qa) qb, fun e => e.2⟩⟩
    · by_cases qb : x.b.toNat ∈ us
      · exact .inl ⟨⟨fun e => absurd ((perm_cl T.E T.ok.1 hp2.2 ha hb e).2 qb) qa, fun e => e.2⟩, ⟨fun e => absurd ((perm_cl T.E T.ok.1 T.hp ha hb e).2 qb) qa, fun e => e.2⟩⟩
      · refine .inr ⟨?_, ⟨fun e => absurd e.1.1 qa, fun e => absurd e.1.1 qa⟩⟩
        rw [T.res_out h.1 ha qa, T.res_out h.1 hb qb]
  · have l1 := (hp3.1.2 i hi).1
    have l2 := (hp3.1.2 j hj).1
    rw [hr i hi, hr j hj]
    exact ⟨fun e => by rw [e], T.E.inj (by omega) (by omega)⟩
end Two
end
end Go.D33
end
section
namespace Go.D33
open Go Go.RowKit Go.H
section
variable {n k : Nat} {ps ps' : List Pr} {rs rs' : List Ru} {us m m' : List Nat} {s : Stp}
theorem preR_lt (h : preR n (atomsL n rs) m s) : s.f.toNat < n ∧ (0 ≤ s.t → s.t.toNat < n) := by
  obtain ⟨⟨h1, h2, h3, h4, _⟩, _⟩ := h
  exact ⟨by omega, fun _ => by omega⟩
theorem res_same (hf : (Prob.mk (n : Int) ps rs).formed) (hp : permR n ps rs m) (hl : ∀ x y, x < n → y < n → mF (lF ps) rs x y = true → ((labL n (atomsL n rs) m s)[x]! = (labL n (atomsL n rs) m s)[y]! ↔ m[x]! = m[y]!)) : resR n ps rs m s = m := by
  refine (res_comp hf m s).uniq ((perm_comp hf hp).congr (fun x y q => ⟨q.2.2.1, q.2.2.2⟩) (fun x y q => ?_) fun x y q => ?_)
  · exact .base ⟨q.1, (hl x y q.2.2.1 q.2.2.2 q.1).1 q.2.1, q.2.2.1, q.2.2.2⟩
  · exact .base ⟨q.1, (hl x y q.2.2.1 q.2.2.2 q.1).2 q.2.1, q.2.2.1, q.2.2.2⟩
theorem cross (E : Emb n k ps rs us ps' rs') (hok : (Prob.mk (n : Int) ps rs).ok) (hm : isP n m) (hp : permR n ps rs m) (h : posR n (barL rs) (atomsL n rs) m s) (ht : 0 ≤ s.t) (hx : ¬ (s.f.toNat ∈ us ↔ s.t.toNat ∈ us)) :
    gnR n ps rs m s = 0 ∨ ∃ s0, posR n (barL rs) (atomsL n rs) m s0 ∧ ltS s0 s ∧ gnR n ps rs m s0 = gnR n ps rs m s := by
  have hf := hok.1
  have hml := hm.1
  have hpF := (pre_iff hm hp.2.1).2 h.1
  have g := grp_of hm hp.2.1 hpF
  have hln := preR_lt h.1
  have hmt := h.1.2.1 ht
  have hft : m[s.f.toNat]! ≠ s.t.toNat := (hpF.2.1 ht).2
  -- who is with the one, who with the other
  have cF : ∀ {x}, x < n → m[x]! = m[s.f.toNat]! → (x ∈ us ↔ s.f.toNat ∈ us) := fun {x} hxn e => perm_cl E hf hp hxn hln.1 e
  have cT : ∀ {x}, x < n → m[x]! = s.t.toNat → (x ∈ us ↔ s.t.toNat ∈ us) := fun {x} hxn e => perm_cl E hf hp hxn (hln.2 ht) (by rw [hmt]; exact e)
  by_cases hcase : s.u = true ∨ othR n (atomsL n rs) m s.f.toNat = false
  · left
    have hg0 : ∀ {x}, x < n → (x ∈ g0L m (atomsL n rs) s ↔ (m[x]! = m[s.f.toNat]! ∨ m[x]! = s.t.toNat)) := fun {x} hxn => by
      cases hu : s.u with
      | true =>
        rw [mem_g0u hml hu]
        exact ⟨fun q => q.2.elim .inl fun z => .inr z.2, fun q => ⟨hxn, q.elim .inl fun z => .inr ⟨ht, z⟩⟩⟩
      | false =>
        have hno : othR n (atomsL n rs) m s.f.toNat = false := hcase.resolve_left (by rw [hu]; decide)
        unfold othR at hno
        rw [List.any_eq_false] at hno
        rw [mem_g0m hml hu]
        constructor
        · rintro ⟨_, q | q⟩
          · exact .inr q.2
          · exact .inl q.1
        · rintro (q | q)
          · refine ⟨hxn, .inr ⟨q, Decidable.byContradiction fun z => hno x (List.mem_range.2 hxn) (decide_eq_true ⟨q, z⟩)⟩⟩
          · exact ⟨hxn, .inl ⟨ht, q⟩⟩
    have hr : resR n ps rs m s = m := res_same hf hp fun x y hxn hyn hlk => by
      have hc := E.lkc hxn hyn hlk
      rw [g.lab x y hxn hyn, hg0 hxn, hg0 hyn]
      constructor
      · rintro (⟨q1, q2⟩ | q)
        · rcases q1 with q1 | q1 <;> rcases q2 with q2 | q2
          · omega
          · exact absurd ((cF hxn q1).symm.trans (hc.trans (cT hyn q2))) hx
          · exact absurd (((cF hyn q2).symm.trans (hc.symm.trans (cT hxn q1)))) hx
          · omega
        · exact q.2.2
      · intro e
        by_cases q : m[x]! = m[s.f.toNat]! ∨ m[x]! = s.t.toNat
        · exact .inl ⟨q, by rw [← e]; exact q⟩
        · exact .inr ⟨q, by rw [← e]; exact q, e⟩
    unfold gnR
    rw [hr]; omega
  · right
    have hu : s.u = false := by
      cases hu : s.u with
      | true => exact absurd (.inl hu) hcase
      | false => rfl
    have ho : othR n (atomsL n rs) m s.f.toNat = true := by
      cases ho : othR n (atomsL n rs) m s.f.toNat with
      | true => rfl
      | false => exact absurd (.inr ho) hcase
    obtain ⟨s0, hs0⟩ : ∃ s0 : Stp, s0 = ⟨false, s.f, -1⟩ := ⟨_, rfl⟩
    have e1 : s0.f = s.f := by rw [hs0]
    have e2 : s0.t = -1 := by rw [hs0]
    have e3 : s0.u = false := by rw [hs0]
    have h4 := h.1.2.2.2 hu
    have hp0 : preR n (atomsL n rs) m s0 := by
      have q := h.1.1
      refine ⟨⟨by rw [e1]; exact q.1, by rw [e1]; exact q.2.1, by rw [e2]; omega, by rw [e2]; omega, fun _ => e3⟩, fun z => by omega, fun z => (by rw [e3] at z; cases z), fun _ => ⟨by rw [e1]; exact h4.1, fun z => by omega, fun _ => by rw [e1]; exact ho⟩⟩
    have hpF0 := (pre_iff hm hp.2.1).2 hp0
    have g' := grp_of hm hp.2.1 hpF0
    have hg1 : ∀ {x}, x < n → (x ∈ g0L m (atomsL n rs) s ↔ (m[x]! = s.t.toNat ∨ (m[x]! = m[s.f.toNat]! ∧ (atomsL n rs)[x]! = s.f.toNat))) := fun {x} hxn => by
      rw [mem_g0m hml hu]
      exact ⟨fun q => q.2.elim (fun z => .inl z.2) .inr, fun q => ⟨hxn, q.elim (fun z => .inl ⟨ht, z⟩) .inr⟩⟩
    have hg2 : ∀ {x}, x < n → (x ∈ g0L m (atomsL n rs) s0 ↔ (m[x]! = m[s.f.toNat]! ∧ (atomsL n rs)[x]! = s.f.toNat)) := fun {x} hxn => by
      rw [mem_g0m hml e3, e1, e2]
      exact ⟨fun q => q.2.elim (fun z => absurd z.1 (by omega)) id, fun q => ⟨hxn, .inr q⟩⟩
    have hr : resR n ps rs m s = resR n ps rs m s0 := by
      refine (res_comp hf m s).uniq ((res_comp hf m s0).congr (fun x y q => ⟨q.2.2.1, q.2.2.2⟩) (fun x y q => ?_) fun x y q => ?_)
      · obtain ⟨q1, q2, hxn, hyn⟩ := q
        have hc := E.lkc hxn hyn q1
        refine .base ⟨q1, (g'.lab x y hxn hyn).2 ?_, hxn, hyn⟩
        rw [hg2 hxn, hg2 hyn]
        rcases (g.lab x y hxn hyn).1 q2 with ⟨a, b⟩ | ⟨a, b, e⟩
        · rw [hg1 hxn] at a
          rw [hg1 hyn] at b
          rcases a with a | a <;> rcases b with b | b
          · exact .inr ⟨fun z => hft (by omega), fun z => hft (by omega), by omega⟩
          · exact absurd ((cF hyn b.1).symm.trans (hc.symm.trans (cT hxn a))) hx
          · exact absurd ((cF hxn a.1).symm.trans (hc.trans (cT hyn b))) hx
          · exact .inl ⟨a, b⟩
        · rw [hg1 hxn] at a
          rw [hg1 hyn] at b
          exact .inr ⟨fun z => a (.inr z), fun z => b (.inr z), e⟩
      · obtain ⟨q1, q2, hxn, hyn⟩ := q
        refine .base ⟨q1, (g.lab x y hxn hyn).2 ?_, hxn, hyn⟩
        rw [hg1 hxn, hg1 hyn]
        rcases (g'.lab x y hxn hyn).1 q2 with ⟨a, b⟩ | ⟨a, b, e⟩
        · rw [hg2 hxn] at a
          rw [hg2 hyn] at b
          exact .inl ⟨.inr a, .inr b⟩
        · rw [hg2 hxn] at a
          rw [hg2 hyn] at b
          by_cases z : m[x]! = s.t.toNat
          · exact .inl ⟨.inl z, .inl (by rw [← e]; exact z)⟩
          · exact .inr ⟨fun w => w.elim z a, fun w => w.elim (fun v => z (by rw [e]; exact v)) b, e⟩
    refine ⟨s0, (pos_iff hf hm hp).1 ⟨hpF0, ?_⟩, ?_, ?_⟩
    · rw [List.any_eq_false]
      intro x hxb q
      have q := of_decide_eq_true q
      have hb := bar_rng hf x hxb
      rw [hg2 (by omega), hg2 (by omega)] at q
      have hcl := hp.1
      unfold clash at hcl
      rw [List.any_eq_false] at hcl
      exact hcl x hxb (decide_eq_true (by show m[x.a.toNat]! = m[x.b.toNat]!; omega))
    · exact .inr ⟨by rw [e3, hu], .inr ⟨e1, by omega⟩⟩
    · unfold gnR
      rw [hr]
theorem outside (E : Emb n k ps rs us ps' rs') (hok : (Prob.mk (n : Int) ps rs).ok) (hm : isP n m) (hp : permR n ps rs m) (h : preR n (atomsL n rs) m s) (hF : s.f.toNat ∉ us) (hT : 0 ≤ s.t → s.t.toNat ∉ us) {x : Nat} (hxn : x < n) (hx : x ∈ us) : (resR n ps rs m s)[x]! = m[x]! := by
  have hf := hok.1
  have hml := hm.1
  have hpF := (pre_iff hm hp.2.1).2 h
  have g := grp_of hm hp.2.1 hpF
  have hln := preR_lt h
  have hg : ∀ {x}, x < n → x ∈ us → x ∉ g0L m (atomsL n rs) s := fun {x} hxn hx q => by
    have k1 : m[x]! = m[s.f.toNat]! → False := fun e => hF ((perm_cl E hf hp hxn hln.1 e).1 hx)
    have k2 : 0 ≤ s.t → m[x]! = s.t.toNat → False := fun ht e => hT ht ((perm_cl E hf hp hxn (hln.2 ht) (by rw [h.2.1 ht]; exact e)).1 hx)
    cases hu : s.u with
    | true =>
      rcases ((mem_g0u hml hu).1 q).2 with z | z
      · exact k1 z
      · exact k2 z.1 z.2
    | false =>
      rcases ((mem_g0m hml hu).1 q).2 with z | z
      · exact k2 z.1 z.2
      · exact k1 z.1
  refine comp_on (fun x => x ∈ us) (inC_cl E) (inC_cl E) (fun x y ox oy => ?_) (res_comp hf m s) (perm_comp hf hp) hxn hx
  unfold inC
  constructor
  · rintro ⟨q1, q2, q3, q4⟩
    rcases (g.lab _ _ q3 q4).1 q2 with z | z
    · exact absurd z.1 (hg q3 ox)
    · exact ⟨q1, z.2.2, q3, q4⟩
  · rintro ⟨q1, q2, q3, q4⟩
    exact ⟨q1, (g.lab _ _ q3 q4).2 (.inr ⟨hg q3 ox, hg q4 oy, q2⟩), q3, q4⟩
namespace Two
theorem in_all (T : Two n k ps rs us ps' rs' m m') (h : rngF k s) : embS us s ∈ allS n := by
  obtain ⟨r, _⟩ := T.rng h
  exact mem_allS.2 ⟨r.1, r.2.1, r.2.2.2.1, r.2.2.1⟩
theorem lt_ (T : Two n k ps rs us ps' rs' m m') {a b : Stp} (ha : rngF k a) (hb : rngF k b) (h : ltS a b) : ltS (embS us a) (embS us b) := by
  have a1 := ha.1; have a2 := ha.2.1; have a3 := ha.2.2.1; have a4 := ha.2.2.2.1
  have b1 := hb.1; have b2 := hb.2.1; have b3 := hb.2.2.1; have b4 := hb.2.2.2.1
  rcases h with h | ⟨h1, h2⟩
  · exact .inl h
  · refine .inr ⟨h1, ?_⟩
    show (((us[a.f.toNat]! : Nat) : Int) < (us[b.f.toNat]! : Nat)) ∨ (((us[a.f.toNat]! : Nat) : Int) = (us[b.f.toNat]! : Nat) ∧ (if a.t < 0 then a.t else (us[a.t.toNat]! : Nat)) < (if b.t < 0 then b.t else (us[b.t.toNat]! : Nat)))
    rcases h2 with h2 | ⟨h2, h3⟩
    · left
      have := T.E.asc a.f.toNat b.f.toNat (by omega) (by omega)
      omega
    · right
      refine ⟨by rw [h2], ?_⟩
      by_cases q1 : a.t < 0
      · rw [if_pos q1]
        by_cases q2 : b.t < 0
        · rw [if_pos q2]; exact h3
        · rw [if_neg q2]; omega
      · rw [if_neg q1, if_neg (by omega)]
        have := T.E.asc a.t.toNat b.t.toNat (by omega) (by omega)
        omega
theorem next (T : Two n k ps rs us ps' rs' m m') : ((nextR n ps rs m).2 = 0 → (nextR k ps' rs' m').2 = 0) ∧
    (¬ (nextR n ps rs m).2 = 0 → (¬ (nextR k ps' rs' m').2 = 0 ∧ RelE us k (resR n ps rs m (nextR n ps rs m).1) (resR k ps' rs' m' (nextR k ps' rs' m').1)) ∨ RelE us k (resR n ps rs m (nextR n ps rs m).1) m') := by
  obtain ⟨s1, s2, s3, _⟩ := next_spec n ps rs m
  obtain ⟨t1, t2, t3, _⟩ := next_spec k ps' rs' m'
  constructor
  · intro e
    rcases Int.lt_or_le 0 (nextR k ps' rs' m').2 with q | q
    · obtain ⟨q1, q2, q3⟩ := t2 q
      have hr := q2.1.1
      have := s3 _ (T.in_all hr) ((T.pos hr).2 q2)
      rw [T.gain q2] at this
      omega
    · omega
  · intro e
    have h0 : 0 < (nextR n ps rs m).2 := by omega
    obtain ⟨q1, q2, q3⟩ := s2 h0
    have hfirst := best_first (ok := posR n (barL rs) (atomsL n rs) m) (g := gnR n ps rs m) (allS_asc n) h0
    obtain ⟨s, hs⟩ : ∃ s, s = (nextR n ps rs m).1 := ⟨_, rfl⟩
    rw [← hs] at q1 q2 q3 ⊢
    have hr := q2.1.1
    have hln := preR_lt q2.1
    have nocross : 0 ≤ s.t → (s.f.toNat ∈ us ↔ s.t.toNat ∈ us) := fun ht => Decidable.byContradiction fun hx => by
      rcases cross T.E T.ok T.hm T.hp q2 ht hx with z | ⟨s0, z1, z2, z3⟩
      · omega
      · have hr0 := z1.1.1
        have := hfirst s0 (mem_allS.2 ⟨hr0.1, hr0.2.1, hr0.2.2.2.1, hr0.2.2.1⟩) z1 (by show ltS s0 (nextR n ps rs m).1; rw [← hs]; exact z2)
        have e5 : (bestF (posR n (barL rs) (atomsL n rs) m) (gnR n ps rs m) (allS n)).2 = (nextR n ps rs m).2 := rfl
        rw [e5] at this
        omega
    by_cases hF : s.f.toNat ∈ us
    · left
      obtain ⟨f', hf', ef⟩ := T.E.mem.1 hF
      -- the step of the closed set
      obtain ⟨s', hs', hrs'⟩ : ∃ s', embS us s' = s ∧ rngF k s' := by
        by_cases ht : s.t < 0
        · refine ⟨⟨s.u, (f' : Int), s.t⟩, ?_, ⟨by show (0 : Int) ≤ f'; omega, by show (f' : Int) < k; omega, by show s.t < (k : Int); omega, by show -1 ≤ s.t; have := hr.2.2.2.1; omega, fun z => hr.2.2.2.2 z⟩⟩
          obtain ⟨u, f, t⟩ := s
          show Stp.mk u ((us[((f' : Int)).toNat]! : Nat) : Int) (if t < 0 then t else _) = _
          rw [if_pos ht, Int.toNat_natCast, ← ef]
          have : 0 ≤ f := hr.1
          show Stp.mk u ((f.toNat : Nat) : Int) t = _
          rw [Int.toNat_of_nonneg this]
        · have hT := (nocross (by omega)).1 hF
          obtain ⟨t', ht', et⟩ := T.E.mem.1 hT
          refine ⟨⟨s.u, (f' : Int), (t' : Int)⟩, ?_, ⟨by show (0 : Int) ≤ f'; omega, by show (f' : Int) < k; omega, by show (t' : Int) < (k : Int); omega, by show -1 ≤ (t' : Int); omega, fun z => by have z : (t' : Int) < 0 := z; omega⟩⟩
          obtain ⟨u, f, t⟩ := s
          show Stp.mk u ((us[((f' : Int)).toNat]! : Nat) : Int) (if (t' : Int) < 0 then (t' : Int) else ((us[((t' : Int)).toNat]! : Nat) : Int)) = _
          rw [if_neg (by omega), Int.toNat_natCast, Int.toNat_natCast, ← ef, ← et]
          have h1 : 0 ≤ f := hr.1
          have h2 : 0 ≤ t := by have : ¬ t < 0 := ht; omega
          show Stp.mk u ((f.toNat : Nat) : Int) ((t.toNat : Nat) : Int) = _
          rw [Int.toNat_of_nonneg h1, Int.toNat_of_nonneg h2]
      have hpos' : posR k (barL rs') (atomsL k rs') m' s' := (T.pos hrs').1 (by rw [hs']; exact q2)
      have hg' : gnR k ps' rs' m' s' = (nextR n ps rs m).2 := by rw [← T.gain hpos', hs']; exact q3
      have hb : nextR k ps' rs' m' = (s', gnR k ps' rs' m' s') := by
        refine best_char (allS_asc k) (mem_allS.2 ⟨hrs'.1, hrs'.2.1, hrs'.2.2.2.1, hrs'.2.2.1⟩) hpos' (by omega) (fun x hx hxp => ?_) fun x hx hxp hlt => ?_
        · have := s3 _ (T.in_all hxp.1.1) ((T.pos hxp.1.1).2 hxp)
          rw [T.gain hxp] at this
          omega
        · have := hfirst _ (T.in_all hxp.1.1) ((T.pos hxp.1.1).2 hxp) (by show ltS (embS us x) (nextR n ps rs m).1; rw [← hs, ← hs']; exact T.lt_ hxp.1.1 hrs' hlt)
          rw [T.gain hxp] at this
          have e5 : (bestF (posR n (barL rs) (atomsL n rs) m) (gnR n ps rs m) (allS n)).2 = (nextR n ps rs m).2 := rfl
          rw [e5] at this
          omega
      rw [hb]
      refine ⟨by show ¬ gnR k ps' rs' m' s' = 0; omega, ?_⟩
      have := T.res hpos'.1
      rw [hs'] at this
      exact this
    · right
      intro i hi
      rw [outside T.E T.ok T.hm T.hp q2.1 hF (fun ht z => hF ((nocross ht).2 z)) (T.E.lt i hi) (T.E.at_ hi)]
      exact T.rel i hi
end Two
end
end Go.D33
end
section
namespace Go.D33
open Go Go.RowKit Go.H
section
variable {n k : Nat} {ps ps' : List Pr} {rs rs' : List Ru} {us m m' : List Nat} {s : Stp}
theorem emb_ok (E : Emb n k ps rs us ps' rs') (hf : (Prob.mk (n : Int) ps rs).formed) (hf' : (Prob.mk (k : Int) ps' rs').formed) (hb : clash (barL rs) (atomsL n rs) = false) : (Prob.mk (k : Int) ps' rs').ok := by
  refine ⟨hf', ?_⟩
  rw [bad_eq hf']
  unfold clash at hb ⊢
  rw [List.any_eq_false] at hb ⊢
  intro x' hx' e
  have e := of_decide_eq_true e
  have hr := bar_rng hf' x' hx'
  obtain ⟨x, hx, e1, e2⟩ := (E.can _ _ (show x'.a.toNat < k by omega) (show x'.b.toNat < k by omega)).1 ⟨x', hx', rfl, rfl⟩
  have ha := atoms_emb E hf hf'
  refine hb x hx (decide_eq_true ?_)
  rw [e1, e2, ha _ (by omega), ha _ (by omega), e]
abbrev cI (us : List Nat) : List Int := us.map fun x : Nat => (x : Int)
theorem at_us (ha : ∀ i j, i < j → j < us.length → us[i]! < us[j]!) {i : Nat} (hi : i < us.length) : atF (cI us) (us[i]! : Nat) = i := by
  have hg : ∀ {j}, j < us.length → (cI us)[j]! = (us[j]! : Nat) := fun {j} hj => cast_get hj
  have hl : (cI us).length = us.length := List.length_map _
  rcases atF_spec (cI us) (us[i]! : Nat) with ⟨j, hj, e, hm, e2⟩ | ⟨hn, _⟩
  · rw [e2]
    rw [hg (by omega)] at e
    rcases Nat.lt_trichotomy i j with h | h | h
    · have := ha i j h (by omega); omega
    · rw [h]
    · have := ha j i h hi; omega
  · exact absurd (hg hi) (hn i (by omega))
theorem at_some {x : Int} (h : 0 ≤ atF (cI us) x) : ∃ i, i < us.length ∧ x = (us[i]! : Nat) ∧ atF (cI us) x = i := by
  have hl : (cI us).length = us.length := List.length_map _
  rcases atF_spec (cI us) x with ⟨j, hj, e, hm, e2⟩ | ⟨_, e⟩
  · exact ⟨j, by omega, by rw [← e]; exact cast_get (by omega), e2⟩
  · omega
theorem mem_subP {y : Pr} : y ∈ subP (cI us) ps ↔ ∃ x ∈ ps, (0 ≤ atF (cI us) x.a ∧ 0 ≤ atF (cI us) x.b) ∧ y = ⟨atF (cI us) x.a, atF (cI us) x.b, x.w⟩ := by
  unfold subP
  rw [List.mem_filterMap]
  constructor
  · rintro ⟨x, hx, e⟩
    by_cases q : 0 ≤ atF (cI us) x.a ∧ 0 ≤ atF (cI us) x.b
    · rw [sp_y q.1 q.2] at e
      exact ⟨x, hx, q, (Option.some.inj e).symm⟩
    · rw [sp_n q] at e; cases e
  · rintro ⟨x, hx, q, rfl⟩
    exact ⟨x, hx, sp_y q.1 q.2⟩
theorem mem_subR {y : Ru} : y ∈ subR (cI us) rs ↔ ∃ x ∈ rs, (0 ≤ atF (cI us) x.a ∧ 0 ≤ atF (cI us) x.b) ∧ y = ⟨x.k, atF (cI us) x.a, atF (cI us) x.b⟩ := by
  unfold subR
  rw [List.mem_filterMap]
  constructor
  · rintro ⟨x, hx, e⟩
    by_cases q : 0 ≤ atF (cI us) x.a ∧ 0 ≤ atF (cI us) x.b
    · rw [sr_y q.1 q.2] at e
      exact ⟨x, hx, q, (Option.some.inj e).symm⟩
    · rw [sr_n q] at e; cases e
  · rintro ⟨x, hx, q, rfl⟩
    exact ⟨x, hx, sr_y q.1 q.2⟩
theorem asc_us_le : ∀ {us : List Nat}, (∀ i j, i < j → j < us.length → us[i]! < us[j]!) → (∀ i, i < us.length → us[i]! < n) → us.length ≤ n := by
  intro us ha hl
  have key : ∀ i, i < us.length → i ≤ us[i]! := by
    intro i
    induction i with
    | zero => intro _; omega
    | succ i ih => intro h; have := ih (by omega); have := ha i (i + 1) (by omega) h; omega
  rcases Nat.eq_zero_or_pos us.length with h | h
  · omega
  · have := key (us.length - 1) (by omega); have := hl (us.length - 1) (by omega); omega
theorem sub_formed (hf : (Prob.mk (n : Int) ps rs).formed) (ha : ∀ i j, i < j → j < us.length → us[i]! < us[j]!) (hl : ∀ i, i < us.length → us[i]! < n) : (Prob.mk (us.length : Int) (subP (cI us) ps) (subR (cI us) rs)).formed := by
  have hlen := asc_us_le ha hl
  have hn : (n : Int) ≤ 200 := hf.2.1
  have hr4 : rs.length ≤ 400 := hf.2.2.1
  have hpp : ps.Pairwise prAsc := by
    rw [List.pairwise_iff_getElem]
    intro i j hi hj hij
    have := asc_lt hf hij hj
    rw [getElem!_pos _ i hi, getElem!_pos _ j hj] at this
    exact this
  have hpr : ∀ y ∈ subP (cI us) ps, prOk (us.length : Int) y := fun y hy => by
    obtain ⟨x, hx, ⟨q1, q2⟩, rfl⟩ := mem_subP.1 hy
    have hx' : 0 ≤ x.a ∧ x.a < x.b ∧ x.b < (n : Int) ∧ -1000 ≤ x.w ∧ x.w ≤ 1000 := formed_pr hf hx
    obtain ⟨i, hi, e1, e2⟩ := at_some q1
    obtain ⟨j, hj, e3, e4⟩ := at_some q2
    unfold prOk
    show 0 ≤ atF (cI us) x.a ∧ atF (cI us) x.a < atF (cI us) x.b ∧ atF (cI us) x.b < (us.length : Int) ∧ -1000 ≤ x.w ∧ x.w ≤ 1000
    have hij : i < j := by
      rcases Nat.lt_trichotomy i j with h | h | h
      · exact h
      · rw [h] at e1; omega
      · have := ha j i h hi; omega
    omega
  have hpw : (subP (cI us) ps).Pairwise prAsc := by
    unfold subP
    refine List.Pairwise.filterMap (S := prAsc) (subPr (cI us)) (fun a a' h b hb b' hb' => ?_) hpp
    have get : ∀ {a b}, subPr (cI us) a = some b → (0 ≤ atF (cI us) a.a ∧ 0 ≤ atF (cI us) a.b) ∧ b = ⟨atF (cI us) a.a, atF (cI us) a.b, a.w⟩ := fun {a b} h => by
      by_cases q : 0 ≤ atF (cI us) a.a ∧ 0 ≤ atF (cI us) a.b
      · rw [sp_y q.1 q.2] at h
        exact ⟨q, (Option.some.inj h).symm⟩
      · rw [sp_n q] at h; cases h
    obtain ⟨⟨q1, q2⟩, rfl⟩ := get hb
    obtain ⟨⟨q3, q4⟩, rfl⟩ := get hb'
    obtain ⟨i, hi, e1, e2⟩ := at_some q1
    obtain ⟨j, hj, e3, e4⟩ := at_some q2
    obtain ⟨i', hi', e5, e6⟩ := at_some q3
    obtain ⟨j', hj', e7, e8⟩ := at_some q4
    unfold prAsc at h ⊢
    show atF (cI us) a.a < atF (cI us) a'.a ∨ (atF (cI us) a.a = atF (cI us) a'.a ∧ atF (cI us) a.b < atF (cI us) a'.b)
    have mono : ∀ {i j}, i < us.length → j < us.length → us[i]! < us[j]! → i < j := fun {i j} hi hj h => by
      rcases Nat.lt_trichotomy i j with z | z | z
      · exact z
      · subst z; omega
      · have := ha j i z hi; omega
    have inj : ∀ {i j}, i < us.length → j < us.length → us[i]! = us[j]! → i = j := fun {i j} hi hj h => by
      rcases Nat.lt_trichotomy i j with z | z | z
      · have := ha i j z hj; omega
      · exact z
      · have := ha j i z hi; omega
    rcases h with h | ⟨h1, h2⟩
    · left
      have := mono hi hi' (by omega)
      omega
    · right
      have z1 := inj hi hi' (by omega)
      have z2 := mono hj hj' (by omega)
      omega
  refine ⟨by show (0 : Int) ≤ us.length; omega, by show (us.length : Int) ≤ 200; omega, by have := List.length_filterMap_le (subRu (cI us)) rs; show (List.filterMap _ _).length ≤ 400; omega, fun i hi => ⟨hpr _ (mem_at hi), fun h0 => ?_⟩, fun i hi => ?_⟩
  · have hi' : i < (subP (cI us) ps).length := hi
    have := (List.pairwise_iff_getElem.1 hpw) (i - 1) i (by omega) hi' (by omega)
    show prAsc (subP (cI us) ps)[i - 1]! (subP (cI us) ps)[i]!
    rw [getElem!_pos _ (i - 1) (by omega), getElem!_pos _ i hi']
    exact this
  · obtain ⟨x, hx, ⟨q1, q2⟩, e⟩ := mem_subR.1 (mem_at (l := subR (cI us) rs) hi)
    show ruOk (us.length : Int) (subR (cI us) rs)[i]!
    rw [e]
    have hx' : (x.k = 1 ∨ x.k = 2) ∧ 0 ≤ x.a ∧ x.a < (n : Int) ∧ 0 ≤ x.b ∧ x.b < (n : Int) ∧ x.a ≠ x.b := formed_ru hf hx
    obtain ⟨i, hi, e1, e2⟩ := at_some q1
    obtain ⟨j, hj, e3, e4⟩ := at_some q2
    unfold ruOk
    show (x.k = 1 ∨ x.k = 2) ∧ 0 ≤ atF (cI us) x.a ∧ atF (cI us) x.a < (us.length : Int) ∧ 0 ≤ atF (cI us) x.b ∧ atF (cI us) x.b < (us.length : Int) ∧ atF (cI us) x.a ≠ atF (cI us) x.b
    have hij : i ≠ j := fun z => by rw [z] at e1; omega
    omega
theorem sub_emb (hf : (Prob.mk (n : Int) ps rs).formed) (ha : ∀ i j, i < j → j < us.length → us[i]! < us[j]!) (hl : ∀ i, i < us.length → us[i]! < n) (hc : ∀ i y, i < us.length → y < n → mF (lF ps) rs us[i]! y = true → y ∈ us) :
    Emb n us.length ps rs us (subP (cI us) ps) (subR (cI us) rs) := by
  have hat : ∀ {i}, i < us.length → atF (cI us) (us[i]! : Nat) = i := fun hi => at_us ha hi
  have hmust : ∀ {i j : Nat}, i < us.length → j < us.length → ((∃ r ∈ subR (cI us) rs, r.k ≠ 2 ∧ ((i = r.a.toNat ∧ j = r.b.toNat) ∨ (i = r.b.toNat ∧ j = r.a.toNat))) ↔ ∃ r ∈ rs, r.k ≠ 2 ∧ ((us[i]! = r.a.toNat ∧ us[j]! = r.b.toNat) ∨ (us[i]! = r.b.toNat ∧ us[j]! = r.a.toNat))) := fun {i j} hi hj => by
    constructor
    · rintro ⟨r, hr, hk, q⟩
      obtain ⟨x, hx, ⟨q1, q2⟩, rfl⟩ := mem_subR.1 hr
      obtain ⟨i', hi', e1, e2⟩ := at_some q1
      obtain ⟨j', hj', e3, e4⟩ := at_some q2
      refine ⟨x, hx, hk, ?_⟩
      have q' : (i = (atF (cI us) x.a).toNat ∧ j = (atF (cI us) x.b).toNat) ∨ (i = (atF (cI us) x.b).toNat ∧ j = (atF (cI us) x.a).toNat) := q
      rw [e2, e4, Int.toNat_natCast, Int.toNat_natCast] at q'
      rw [e1, e3, Int.toNat_natCast, Int.toNat_natCast]
      rcases q' with ⟨rfl, rfl⟩ | ⟨rfl, rfl⟩
      · exact .inl ⟨rfl, rfl⟩
      · exact .inr ⟨rfl, rfl⟩
    · rintro ⟨x, hx, hk, q⟩
      have hx' : (x.k = 1 ∨ x.k = 2) ∧ 0 ≤ x.a ∧ x.a < (n : Int) ∧ 0 ≤ x.b ∧ x.b < (n : Int) ∧ x.a ≠ x.b := formed_ru hf hx
      rcases q with ⟨z1, z2⟩ | ⟨z1, z2⟩
      · have ea : x.a = (us[i]! : Nat) := by omega
        have eb : x.b = (us[j]! : Nat) := by omega
        refine ⟨⟨x.k, i, j⟩, mem_subR.2 ⟨x, hx, ⟨by rw [ea, hat hi]; omega, by rw [eb, hat hj]; omega⟩, by rw [ea, eb, hat hi, hat hj]⟩, hk, .inl ⟨by show i = ((i : Int)).toNat; omega, by show j = ((j : Int)).toNat; omega⟩⟩
      · have ea : x.a = (us[j]! : Nat) := by omega
        have eb : x.b = (us[i]! : Nat) := by omega
        refine ⟨⟨x.k, j, i⟩, mem_subR.2 ⟨x, hx, ⟨by rw [ea, hat hj]; omega, by rw [eb, hat hi]; omega⟩, by rw [ea, eb, hat hi, hat hj]⟩, hk, .inr ⟨by show i = ((i : Int)).toNat; omega, by show j = ((j : Int)).toNat; omega⟩⟩
  refine ⟨rfl, ha, hl, hc, fun i j hi hj => ?_, fun i j hi hj => ?_, fun i j hi hj => ?_, fun q q' _ _ hq => ?_⟩
  · rw [Bool.eq_iff_iff, mF_iff, mF_iff, hmust hi hj]
    refine or_congr ?_ Iff.rfl
    rw [lF_iff, lF_iff]
    constructor
    · rintro ⟨y, hy, hw, q⟩
      obtain ⟨x, hx, ⟨q1, q2⟩, rfl⟩ := mem_subP.1 hy
      obtain ⟨i', hi', e1, e2⟩ := at_some q1
      obtain ⟨j', hj', e3, e4⟩ := at_some q2
      refine ⟨x, hx, hw, ?_⟩
      have q' : (i = (atF (cI us) x.a).toNat ∧ j = (atF (cI us) x.b).toNat) ∨ (i = (atF (cI us) x.b).toNat ∧ j = (atF (cI us) x.a).toNat) := q
      rw [e2, e4, Int.toNat_natCast, Int.toNat_natCast] at q'
      rw [e1, e3, Int.toNat_natCast, Int.toNat_natCast]
      rcases q' with ⟨rfl, rfl⟩ | ⟨rfl, rfl⟩
      · exact .inl ⟨rfl, rfl⟩
      · exact .inr ⟨rfl, rfl⟩
    · rintro ⟨x, hx, hw, q⟩
      have hx' : 0 ≤ x.a ∧ x.a < x.b ∧ x.b < (n : Int) ∧ -1000 ≤ x.w ∧ x.w ≤ 1000 := formed_pr hf hx
      rcases q with ⟨z1, z2⟩ | ⟨z1, z2⟩
      · have ea : x.a = (us[i]! : Nat) := by omega
        have eb : x.b = (us[j]! : Nat) := by omega
        refine ⟨⟨i, j, x.w⟩, mem_subP.2 ⟨x, hx, ⟨by rw [ea, hat hi]; omega, by rw [eb, hat hj]; omega⟩, by rw [ea, eb, hat hi, hat hj]⟩, hw, .inl ⟨by show i = ((i : Int)).toNat; omega, by show j = ((j : Int)).toNat; omega⟩⟩
      · have ea : x.a = (us[j]! : Nat) := by omega
        have eb : x.b = (us[i]! : Nat) := by omega
        refine ⟨⟨j, i, x.w⟩, mem_subP.2 ⟨x, hx, ⟨by rw [ea, hat hj]; omega, by rw [eb, hat hi]; omega⟩, by rw [ea, eb, hat hi, hat hj]⟩, hw, .inr ⟨by show i = ((i : Int)).toNat; omega, by show j = ((j : Int)).toNat; omega⟩⟩
  · unfold mu
    rw [Bool.eq_iff_iff, mF_iff, mF_iff, hmust hi hj]
  · constructor
    · rintro ⟨y, hy, e⟩
      obtain ⟨hy, hk⟩ := bar_in hy
      obtain ⟨x, hx, ⟨q1, q2⟩, rfl⟩ := mem_subR.1 hy
      obtain ⟨i', hi', e1, e2⟩ := at_some q1
      obtain ⟨j', hj', e3, e4⟩ := at_some q2
      have e' : (atF (cI us) x.a).toNat = i ∧ (atF (cI us) x.b).toNat = j := e
      rw [e2, e4, Int.toNat_natCast, Int.toNat_natCast] at e'
      obtain ⟨rfl, rfl⟩ := e'
      exact ⟨x, List.mem_filter.2 ⟨hx, decide_eq_true hk⟩, by rw [e1, Int.toNat_natCast], by rw [e3, Int.toNat_natCast]⟩
    · rintro ⟨x, hx, e1, e2⟩
      obtain ⟨hx, hk⟩ := bar_in hx
      have hx' : (x.k = 1 ∨ x.k = 2) ∧ 0 ≤ x.a ∧ x.a < (n : Int) ∧ 0 ≤ x.b ∧ x.b < (n : Int) ∧ x.a ≠ x.b := formed_ru hf hx
      have ea : x.a = (us[i]! : Nat) := by omega
      have eb : x.b = (us[j]! : Nat) := by omega
      exact ⟨⟨x.k, i, j⟩, List.mem_filter.2 ⟨mem_subR.2 ⟨x, hx, ⟨by rw [ea, hat hi]; omega, by rw [eb, hat hj]; omega⟩, by rw [ea, eb, hat hi, hat hj]⟩, decide_eq_true hk⟩, by show ((i : Int)).toNat = i; omega, by show ((j : Int)).toNat = j; omega⟩
  · have key : ∀ j, j ≤ ps.length → sumQ q' (subP (cI us) (ps.take j)) = sumQ (fun a b => (a ∈ us ∧ b ∈ us) ∧ q a b) (ps.take j) := by
      intro j
      induction j with
      | zero => intro _; rfl
      | succ j ih =>
        intro h
        have h' : j < ps.length := h
        have ih' := ih (by omega)
        have hx' : 0 ≤ ps[j]!.a ∧ ps[j]!.a < ps[j]!.b ∧ ps[j]!.b < (n : Int) ∧ -1000 ≤ ps[j]!.w ∧ ps[j]!.w ≤ 1000 := formed_pr hf (mem_at h')
        by_cases z : 0 ≤ atF (cI us) ps[j]!.a ∧ 0 ≤ atF (cI us) ps[j]!.b
        · obtain ⟨i1, hi1, e1, e2⟩ := at_some z.1
          obtain ⟨j1, hj1, e3, e4⟩ := at_some z.2
          rw [subP_y h' z.1 z.2, sumQ_s, snocP h', sumQ_s, ih']
          have : q' (atF (cI us) ps[j]!.a).toNat (atF (cI us) ps[j]!.b).toNat ↔ (ps[j]!.a.toNat ∈ us ∧ ps[j]!.b.toNat ∈ us) ∧ q ps[j]!.a.toNat ps[j]!.b.toNat := by
            rw [e2, e4, e1, e3, Int.toNat_natCast, Int.toNat_natCast, Int.toNat_natCast, Int.toNat_natCast, hq i1 j1 hi1 hj1]
            exact ⟨fun w => ⟨⟨mem_at hi1, mem_at hj1⟩, w⟩, fun w => w.2⟩
          show _ + (if q' (atF (cI us) ps[j]!.a).toNat (atF (cI us) ps[j]!.b).toNat then ps[j]!.w else 0) = _
          by_cases w : q' (atF (cI us) ps[j]!.a).toNat (atF (cI us) ps[j]!.b).toNat
          · rw [if_pos w, if_pos (this.1 w)]
          · rw [if_neg w, if_neg (fun v => w (this.2 v))]
        · rw [subP_n h' z, snocP h', sumQ_s, ih', if_neg]
          · omega
          · rintro ⟨⟨w1, w2⟩, _⟩
            obtain ⟨i1, hi1, e1⟩ := List.getElem_of_mem w1
            obtain ⟨j1, hj1, e2⟩ := List.getElem_of_mem w2
            rw [← getElem!_pos us i1 hi1] at e1
            rw [← getElem!_pos us j1 hj1] at e2
            have ea : ps[j]!.a = (us[i1]! : Nat) := by omega
            have eb : ps[j]!.b = (us[j1]! : Nat) := by omega
            exact z ⟨by rw [ea, hat hi1]; omega, by rw [eb, hat hj1]; omega⟩
    have := key ps.length (Nat.le_refl _)
    rwa [List.take_length] at this
end
end Go.D33
end
section
namespace Go.D33
open Go Go.RowKit Go.H
def shP (a : Nat) (x : Pr) : Pr := ⟨x.a + a, x.b + a, x.w⟩
def shR (a : Nat) (x : Ru) : Ru := ⟨x.k, x.a + a, x.b + a⟩
section
variable {a b : Nat} {pa pb : List Pr} {ra rb : List Ru}
theorem sumQ_0 {q : Nat → Nat → Prop} [∀ a b, Decidable (q a b)] {ps : List Pr} (h : ∀ x ∈ ps, ¬ q x.a.toNat x.b.toNat) : sumQ q ps = 0 := by
  have key : ∀ j, j ≤ ps.length → sumQ q (ps.take j) = 0 := by
    intro j
    induction j with
    | zero => intro _; rfl
    | succ j ih => intro hj; rw [snocP (show j < ps.length from hj), sumQ_s, ih (by omega), if_neg (h _ (mem_at hj))]; rfl
  have := key ps.length (Nat.le_refl _)
  rwa [List.take_length] at this
theorem sumQ_congr {q q' : Nat → Nat → Prop} [∀ a b, Decidable (q a b)] [∀ a b, Decidable (q' a b)] {ps qs : List Pr} (hl : ps.length = qs.length) (hw : ∀ i, i < ps.length → ps[i]!.w = qs[i]!.w) (h : ∀ i, i < ps.length → (q ps[i]!.a.toNat ps[i]!.b.toNat ↔ q' qs[i]!.a.toNat qs[i]!.b.toNat)) : sumQ q ps = sumQ q' qs := by
  have key : ∀ j, j ≤ ps.length → sumQ q (ps.take j) = sumQ q' (qs.take j) := by
    intro j
    induction j with
    | zero => intro _; rfl
    | succ j ih =>
      intro hj
      rw [snocP (show j < ps.length from hj), snocP (show j < qs.length by omega), sumQ_s, sumQ_s, ih (by omega), hw j hj]
      simp only [h j hj]
  have := key ps.length (Nat.le_refl _)
  rw [List.take_length, hl, List.take_length] at this
  exact this
end
end Go.D33
end
section
namespace Go.D33
open Go Go.RowKit Go.H
section
variable {n : Nat} {ps : List Pr} {rs : List Ru}
theorem cI_snoc (l : List Nat) (k : Nat) : (cI (l ++ [k])).map eI = (cI l).map eI ++ [((k : Nat) : Int)].map eI := by
  show ((l ++ [k]).map _).map eI = _
  rw [List.map_append, List.map_append]; rfl
def partU (_ : Nat) (prt : List Nat) (f k : Nat) : List Nat := (List.range k).filter fun u => decide (prt[u]! = f)
theorem partU_y {prt : List Nat} {f k : Nat} (e : prt[k]! = f) : partU n prt f (k + 1) = partU n prt f k ++ [k] := units_y e
theorem partU_n {prt : List Nat} {f k : Nat} (e : ¬ prt[k]! = f) : partU n prt f (k + 1) = partU n prt f k := units_n e
theorem partU_len (prt : List Nat) (f k : Nat) : (partU n prt f k).length ≤ k := by
  have := List.length_filter_le (fun u => decide (prt[u]! = f)) (List.range k)
  rw [List.length_range] at this
  exact this
theorem part_emb (hok : (Prob.mk (n : Int) ps rs).ok) (f : Nat) : Emb n (partU n (namedL n (partsL (mF (lF ps) rs) (List.range n))) f n).length ps rs (partU n (namedL n (partsL (mF (lF ps) rs) (List.range n))) f n) (subP (cI (partU n (namedL n (partsL (mF (lF ps) rs) (List.range n))) f n)) ps) (subR (cI (partU n (namedL n (partsL (mF (lF ps) rs) (List.range n))) f n)) rs) ∧
    okU (n : Int) (cI (partU n (namedL n (partsL (mF (lF ps) rs) (List.range n))) f n)) ∧ (Prob.mk ((partU n (namedL n (partsL (mF (lF ps) rs) (List.range n))) f n).length : Int) (subP (cI (partU n (namedL n (partsL (mF (lF ps) rs) (List.range n))) f n)) ps) (subR (cI (partU n (namedL n (partsL (mF (lF ps) rs) (List.range n))) f n)) rs)).ok := by
  have hc := comp_parts (n := n) (lk_sym ps rs)
  generalize namedL n (partsL (mF (lF ps) rs) (List.range n)) = prt at hc ⊢
  have hmem : ∀ {x}, x ∈ partU n prt f n ↔ x < n ∧ prt[x]! = f := fun {x} => by
    unfold partU
    rw [List.mem_filter, List.mem_range, decide_eq_true_eq]
  have hpw : (partU n prt f n).Pairwise (· < ·) := (List.pairwise_lt_range (n := n)).filter _
  have ha : ∀ i j, i < j → j < (partU n prt f n).length → (partU n prt f n)[i]! < (partU n prt f n)[j]! := fun i j hij hj => by
    have := (List.pairwise_iff_getElem.1 hpw) i j (by omega) hj hij
    rw [getElem!_pos _ i (by omega), getElem!_pos _ j hj]; exact this
  have hl : ∀ i, i < (partU n prt f n).length → (partU n prt f n)[i]! < n := fun i hi => (hmem.1 (mem_at hi)).1
  have E := sub_emb (us := partU n prt f n) hok.1 ha hl fun i y hi hy h => by
    have q := hmem.1 (mem_at hi)
    exact hmem.2 ⟨hy, by rw [← hc.rel _ _ ⟨h, q.1, hy⟩]; exact q.2⟩
  refine ⟨E, ⟨fun i hi h0 => ?_, fun i hi => ?_⟩, emb_ok E hok.1 (sub_formed hok.1 ha hl) (by rw [← bad_eq hok.1]; exact hok.2)⟩
  · have hi' : i < (partU n prt f n).length := by rw [List.length_map] at hi; exact hi
    rw [cast_get (by omega), cast_get hi']
    have := ha (i - 1) i (by omega) hi'
    omega
  · have hi' : i < (partU n prt f n).length := by rw [List.length_map] at hi; exact hi
    rw [cast_get hi']
    have := hl i hi'
    omega
def turned (x : Ru) : Ru := ⟨x.k, x.b, x.a⟩
def swF (t : Int) (l : List Ru) (k : Nat) : List Ru := (List.range l.length).map fun i => if i < k ∧ (t + i) % 2 = 0 then turned l[i]! else l[i]!
def mustF (atm : List Nat) (k : Nat) : List Ru := ((List.range k).filter fun i => decide (¬ atm[i]! = i)).map fun i : Nat => ⟨1, (i : Int), ((atm[i]! : Nat) : Int)⟩
def cantF (atm : List Nat) (rs : List Ru) : List Ru := (barL rs).map fun x => ⟨2, (atm[x.a.toNat]! : Nat), (atm[x.b.toNat]! : Nat)⟩
def rotF (rs : List Ru) (k : Nat) : List Ru := rs.drop k ++ rs.take k
def allF (t : Int) (n : Nat) (rs : List Ru) (k : Nat) : List Ru := swF t (rotF rs k) rs.length ++ mustF (atomsL n rs) n ++ cantF (atomsL n rs) rs
end
end Go.D33
end
section
namespace Go.D33
open Go Go.RowKit Go.H
theorem asc_ext : ∀ {a b : List Nat}, a.Pairwise (· < ·) → b.Pairwise (· < ·) → (∀ x, x ∈ a ↔ x ∈ b) → a = b
  | [], [], _, _, _ => rfl
  | [], y :: b, _, _, h => by have := (h y).2 (by simp); cases this
  | x :: a, [], _, _, h => by have := (h x).1 (by simp); cases this
  | x :: a, y :: b, ha, hb, h => by
    obtain ⟨a1, a2⟩ := List.pairwise_cons.1 ha
    obtain ⟨b1, b2⟩ := List.pairwise_cons.1 hb
    have e : x = y := by
      have hx := (h x).1 (by simp)
      have hy := (h y).2 (by simp)
      rcases List.mem_cons.1 hx with q | q
      · exact q
      · rcases List.mem_cons.1 hy with z | z
        · exact z.symm
        · have := b1 x q; have := a1 y z; omega
    subst e
    rw [asc_ext a2 b2 fun z => ?_]
    constructor
    · intro hz
      rcases List.mem_cons.1 ((h z).1 (List.mem_cons_of_mem _ hz)) with q | q
      · have := a1 z hz; omega
      · exact q
    · intro hz
      rcases List.mem_cons.1 ((h z).2 (List.mem_cons_of_mem _ hz)) with q | q
      · have := b1 z hz; omega
      · exact q
theorem filter_flatMap {α β : Type} (p : β → Bool) (f : α → List β) : ∀ l : List α, (l.flatMap f).filter p = l.flatMap fun x => (f x).filter p
  | [] => rfl
  | a :: l => by rw [List.flatMap_cons, List.filter_append, filter_flatMap p f l, List.flatMap_cons]
theorem flatMap_drop {α β : Type} {p q : α → Bool} {f : α → List β} (h : ∀ x, p x = true → q x = false → f x = []) : ∀ l : List α, (l.filter p).flatMap f = (l.filter fun x => p x && q x).flatMap f
  | [] => rfl
  | a :: l => by
    have ih := flatMap_drop h l
    rw [List.filter_cons, List.filter_cons]
    cases hp : p a with
    | false => simpa using ih
    | true =>
      cases hq : q a with
      | true => simp only [Bool.and_self, if_true, List.flatMap_cons, ih]
      | false => simp only [Bool.and_false, if_true, List.flatMap_cons, h a hp hq, List.nil_append, ih]; simp
theorem flatMap_congr {α β : Type} {f g : α → List β} : ∀ {l : List α}, (∀ x ∈ l, f x = g x) → l.flatMap f = l.flatMap g
  | [], _ => rfl
  | a :: l, h => by rw [List.flatMap_cons, List.flatMap_cons, h a (by simp), flatMap_congr fun x hx => h x (by simp [hx])]
def toQ (i : Nat) (l : List Nat) (to : Nat) : Bool := decide (to = i ∨ l[to]! = to)
def stepA (atm : List Nat) (i : Nat) (l : List Nat) : List (List Nat) := if atm[i]! = i then ((List.range (i + 1)).filter (toQ i l)).map (fun to => l ++ [to]) else [l ++ [l[atm[i]!]!]]
def allR (atm : List Nat) : Nat → List (List Nat)
  | 0 => [[]]
  | k + 1 => (allR atm k).flatMap (stepA atm k)
def genR (atm : List Nat) : Nat → Nat → List Nat → List (List Nat)
  | 0, _, l => [l]
  | d + 1, i, l => (stepA atm i l).flatMap (genR atm d (i + 1))
theorem allR_gen (atm : List Nat) : ∀ d k, (allR atm k).flatMap (genR atm d k) = allR atm (k + d)
  | 0, k => by
    show (allR atm k).flatMap (fun l => [l]) = _
    rw [Nat.add_zero]
    generalize allR atm k = L
    induction L with
    | nil => rfl
    | cons a L ih => rw [List.flatMap_cons, ih]; rfl
  | d + 1, k => by
    show (allR atm k).flatMap (fun l => (stepA atm k l).flatMap (genR atm d (k + 1))) = _
    rw [← List.flatMap_assoc]
    show (allR atm (k + 1)).flatMap (genR atm d (k + 1)) = _
    rw [allR_gen atm d (k + 1)]
    congr 1; omega
theorem allR_eq (atm : List Nat) (n : Nat) : allR atm n = genR atm n 0 [] := by
  have := allR_gen atm n 0
  rw [Nat.zero_add] at this
  rw [← this]
  show List.flatMap _ [[]] = _
  simp
def condA (atm x : List Nat) (u : Nat) : Prop := (atm[u]! = u → x[u]! ≤ u ∧ (x[u]! = u ∨ x[x[u]!]! = x[u]!)) ∧ (atm[u]! ≠ u → x[u]! = x[atm[u]!]!)
theorem get_pre {l : List Nat} {x : List Nat} {i v : Nat} (h : x.take i = l) (hv : v < i) (hx : i ≤ x.length) : x[v]! = l[v]! := by
  rw [← h, getElem!_pos _ v (by omega), getElem!_pos _ v (by rw [List.length_take]; omega), List.getElem_take]
theorem mem_stepA {atm l y : List Nat} {i : Nat} (hl : l.length = i) (ha : atm[i]! ≤ i) : y ∈ stepA atm i l ↔ y.length = i + 1 ∧ y.take i = l ∧ condA atm y i := by
  unfold stepA condA
  by_cases h : atm[i]! = i
  · rw [if_pos h, List.mem_map]
    constructor
    · rintro ⟨to, ht, rfl⟩
      obtain ⟨h1, h2⟩ := List.mem_filter.1 ht
      have h1 := List.mem_range.1 h1
      have h2 := of_decide_eq_true h2
      have e : (l ++ [to])[i]! = to := by rw [getElem!_pos _ i (by simp [hl]), List.getElem_append_right (by omega)]; simp [hl]
      refine ⟨by simp [hl], by rw [← hl, List.take_left'] ; rfl, fun _ => ?_, fun q => absurd h q⟩
      rw [e]
      refine ⟨by omega, ?_⟩
      rcases h2 with h2 | h2
      · exact .inl h2
      · by_cases q : to = i
        · exact .inl q
        · exact .inr (by rw [getElem!_pos (l ++ [to]) to (by rw [List.length_append, hl]; omega), List.getElem_append_left (by omega), ← getElem!_pos l to (by omega)]; exact h2)
    · rintro ⟨h1, h2, h3, _⟩
      have hy : y = l ++ [y[i]!] := by
        conv => lhs; rw [← List.take_append_drop i y, h2]
        congr 1
        rw [List.drop_eq_getElem_cons (by omega), List.drop_eq_nil_of_le (by omega), getElem!_pos y i (by omega)]
      obtain ⟨q1, q2⟩ := h3 h
      refine ⟨y[i]!, List.mem_filter.2 ⟨List.mem_range.2 (by omega), decide_eq_true ?_⟩, hy.symm⟩
      rcases q2 with q | q
      · exact .inl q
      · by_cases z : y[i]! = i
        · exact .inl z
        · exact .inr (by rw [← get_pre h2 (show y[i]! < i by omega) (by omega)]; exact q)
  · rw [if_neg h, List.mem_singleton]
    have hlt : atm[i]! < i := by omega
    constructor
    · rintro rfl
      have e : (l ++ [l[atm[i]!]!])[i]! = l[atm[i]!]! := by rw [getElem!_pos _ i (by simp [hl]), List.getElem_append_right (by omega)]; simp [hl]
      refine ⟨by simp [hl], by rw [← hl, List.take_left']; rfl, fun q => absurd q h, fun _ => ?_⟩
      rw [e, getElem!_pos (l ++ _) _ (by rw [List.length_append, hl]; omega), List.getElem_append_left (by omega), ← getElem!_pos l _ (by omega)]
    · rintro ⟨h1, h2, _, h3⟩
      have hy : y = l ++ [y[i]!] := by
        conv => lhs; rw [← List.take_append_drop i y, h2]
        congr 1
        rw [List.drop_eq_getElem_cons (by omega), List.drop_eq_nil_of_le (by omega), getElem!_pos y i (by omega)]
      rw [hy, h3 h, get_pre h2 hlt (by omega)]
theorem mem_genR {atm : List Nat} : ∀ {d i : Nat} {l x : List Nat}, l.length = i → (∀ u, i ≤ u → u < i + d → atm[u]! ≤ u) → (x ∈ genR atm d i l ↔ x.length = i + d ∧ x.take i = l ∧ ∀ u, i ≤ u → u < i + d → condA atm x u)
  | 0, i, l, x, hl, _ => by
    show x ∈ [l] ↔ _
    rw [List.mem_singleton]
    constructor
    · rintro rfl
      exact ⟨hl, by rw [← hl, List.take_length], fun u h1 h2 => by omega⟩
    · rintro ⟨h1, h2, _⟩
      rw [← h2, List.take_of_length_le (by omega)]
  | d + 1, i, l, x, hl, hat => by
    show x ∈ (stepA atm i l).flatMap (genR atm d (i + 1)) ↔ _
    rw [List.mem_flatMap]
    constructor
    · rintro ⟨y, hy, hx⟩
      obtain ⟨y1, y2, y3⟩ := (mem_stepA hl (hat i (Nat.le_refl _) (by omega))).1 hy
      obtain ⟨x1, x2, x3⟩ := (mem_genR y1 (fun u h1 h2 => hat u (by omega) (by omega))).1 hx
      refine ⟨by omega, by rw [← y2, ← x2, List.take_take, Nat.min_eq_left (by omega)], fun u h1 h2 => ?_⟩
      rcases Nat.eq_or_lt_of_le h1 with rfl | h1
      · have g : ∀ v, v ≤ i → x[v]! = y[v]! := fun v hv => get_pre x2 (by omega) (by omega)
        have hai := hat i (Nat.le_refl _) (by omega)
        unfold condA at y3 ⊢
        rw [g i (Nat.le_refl _), g atm[i]! hai]
        refine ⟨fun q => ?_, y3.2⟩
        have z := y3.1 q
        rw [g y[i]! z.1]
        exact z
      · exact x3 u h1 (by omega)
    · rintro ⟨h1, h2, h3⟩
      have hy1 : (x.take (i + 1)).length = i + 1 := by rw [List.length_take]; omega
      refine ⟨x.take (i + 1), (mem_stepA hl (hat i (Nat.le_refl _) (by omega))).2 ⟨hy1, by rw [List.take_take, Nat.min_eq_left (by omega)]; exact h2, ?_⟩, (mem_genR hy1 (fun u h1 h2 => hat u (by omega) (by omega))).2 ⟨by omega, rfl, fun u q1 q2 => h3 u (by omega) (by omega)⟩⟩
      have g : ∀ v, v ≤ i → x[v]! = (x.take (i + 1))[v]! := fun v hv => get_pre rfl (by omega) (by omega)
      have z := h3 i (Nat.le_refl _) (by omega)
      have hai := hat i (Nat.le_refl _) (by omega)
      unfold condA at z ⊢
      rw [g i (Nat.le_refl _), g atm[i]! hai] at z
      refine ⟨fun q => ?_, z.2⟩
      have w := z.1 q
      rw [← g (x.take (i + 1))[i]! w.1]
      exact w
theorem nodup_flatMap {α β : Type} {f : α → List β} : ∀ {l : List α}, l.Nodup → (∀ x ∈ l, (f x).Nodup) → (∀ x ∈ l, ∀ y ∈ l, ∀ z, z ∈ f x → z ∈ f y → x = y) → (l.flatMap f).Nodup
  | [], _, _, _ => List.nodup_nil
  | a :: l, h, h1, h2 => by
    obtain ⟨n1, n2⟩ := List.nodup_cons.1 h
    rw [List.flatMap_cons, List.nodup_append]
    refine ⟨h1 a (by simp), nodup_flatMap n2 (fun x hx => h1 x (by simp [hx])) fun x hx y hy z => h2 x (by simp [hx]) y (by simp [hy]) z, fun x hx y hy e => ?_⟩
    subst e
    obtain ⟨b, hb, hxb⟩ := List.mem_flatMap.1 hy
    have := h2 a (by simp) b (by simp [hb]) x hx hxb
    exact n1 (this ▸ hb)
theorem nodup_map {α β : Type} {f : α → β} (hf : ∀ x y, f x = f y → x = y) {l : List α} (h : l.Nodup) : (l.map f).Nodup := by
  unfold List.Nodup at h ⊢
  rw [List.pairwise_map]
  exact h.imp fun hne e => hne (hf _ _ e)
theorem stepA_nodup (atm : List Nat) (i : Nat) (l : List Nat) : (stepA atm i l).Nodup := by
  unfold stepA
  split
  · exact nodup_map (fun x y e => by simpa using e) ((List.nodup_range (n := i + 1)).filter _)
  · simp
theorem genR_nodup {atm : List Nat} : ∀ {d i : Nat} {l : List Nat}, l.length = i → (∀ u, i ≤ u → u < i + d → atm[u]! ≤ u) → (genR atm d i l).Nodup
  | 0, _, _, _, _ => by show List.Nodup [_]; simp
  | d + 1, i, l, hl, hat => by
    have hst : ∀ {y}, y ∈ stepA atm i l → y.length = i + 1 := fun {y} hy => ((mem_stepA hl (hat i (Nat.le_refl _) (by omega))).1 hy).1
    refine nodup_flatMap (stepA_nodup atm i l) (fun y hy => genR_nodup (hst hy) fun u h1 h2 => hat u (by omega) (by omega)) fun x hx y hy z hzx hzy => ?_
    have h1 := ((mem_genR (hst hx) fun u h1 h2 => hat u (by omega) (by omega)).1 hzx).2.1
    have h2 := ((mem_genR (hst hy) fun u h1 h2 => hat u (by omega) (by omega)).1 hzy).2.1
    rw [← h1, ← h2]
section
variable {n : Nat} {ps : List Pr} {rs : List Ru}
def permB (n : Nat) (ps : List Pr) (rs : List Ru) (m : List Nat) : Bool := decide (permS n ps rs (m.map fun x : Nat => (x : Int)))
theorem permB_iff {m : List Nat} : permB n ps rs m = true ↔ isP n m ∧ permR n ps rs m := by
  unfold permB
  rw [decide_eq_true_eq, permS_cast]
def allL (n : Nat) (ps : List Pr) (rs : List Ru) : List (List Nat) := (allR (atomsL n rs) n).filter (permB n ps rs)
theorem mem_allL (hf : (Prob.mk (n : Int) ps rs).formed) {m : List Nat} : m ∈ allL n ps rs ↔ isP n m ∧ permR n ps rs m := by
  unfold allL
  rw [List.mem_filter, permB_iff]
  refine ⟨fun q => q.2, fun q => ⟨?_, q⟩⟩
  have ha := atoms_comp hf
  rw [allR_eq]
  refine (mem_genR (d := n) (i := 0) (l := []) rfl fun u _ h => ha.le u (by omega)).2 ⟨by rw [Nat.zero_add]; exact q.1.1, rfl, fun u _ hu => ⟨fun _ => ?_, fun _ => q.2.2.1 u (by omega)⟩⟩
  have := q.1.2 u (by omega)
  exact ⟨this.1, .inr this.2⟩
theorem allL_nodup (hf : (Prob.mk (n : Int) ps rs).formed) : (allL n ps rs).Nodup := by
  have ha := atoms_comp hf
  unfold allL
  rw [allR_eq]
  exact (genR_nodup (d := n) (i := 0) (l := []) rfl fun u _ h => ha.le u (by omega)).filter _
theorem allL_ne (hok : (Prob.mk (n : Int) ps rs).ok) : allL n ps rs ≠ [] := fun e => by
  have := (mem_allL hok.1).2 (atoms_perm hok)
  rw [e] at this; cases this
def barB (rs : List Ru) (atm : List Nat) (a b : Nat) : Bool := rs.any fun x => decide (x.k = 2 ∧ ((atm[x.a.toNat]! = a ∧ atm[x.b.toNat]! = b) ∨ (atm[x.a.toNat]! = b ∧ atm[x.b.toNat]! = a)))
def barJ (rs : List Ru) (atm nm h : List Nat) (j k : Nat) : Bool := (List.range j).any fun i => decide (h[i]! = nm[k]!) && barB rs atm nm[i]! nm[j]!
def okA (nm h : List Nat) (j k : Nat) : Bool := decide (k = j ∨ h[k]! = nm[k]!)
def okK (rs : List Ru) (atm nm h : List Nat) (j k : Nat) : Bool := okA nm h j k && !barJ rs atm nm h j k
def genP (rs : List Ru) (atm nm : List Nat) : Nat → Nat → List Nat → List (List Nat)
  | 0, _, h => [h]
  | d + 1, j, h => ((List.range (j + 1)).filter (okK rs atm nm h j)).flatMap fun k => genP rs atm nm d (j + 1) (h ++ [nm[k]!])
def luL (atm nm : List Nat) (u : Nat) (h : List Nat) : List Nat := (List.range u).map fun v => h[nm.idxOf atm[v]!]!
def visP (n : Nat) (ps : List Pr) (rs : List Ru) (atm nm : List Nat) (d j : Nat) (h : List Nat) : List (List Nat) := ((genP rs atm nm d j h).map (luL atm nm n)).filter (permB n ps rs)
def visK (n : Nat) (ps : List Pr) (rs : List Ru) (atm nm : List Nat) (d j : Nat) (h : List Nat) (k : Nat) : List (List Nat) := ((List.range k).filter (okK rs atm nm h j)).flatMap fun k => visP n ps rs atm nm d (j + 1) (h ++ [nm[k]!])
theorem map_flatMap {α β γ : Type} (g : β → γ) (f : α → List β) : ∀ l : List α, (l.flatMap f).map g = l.flatMap fun x => (f x).map g
  | [] => rfl
  | a :: l => by rw [List.flatMap_cons, List.map_append, map_flatMap g f l, List.flatMap_cons]
theorem visP_s (atm nm : List Nat) (d j : Nat) (h : List Nat) : visP n ps rs atm nm (d + 1) j h = visK n ps rs atm nm d j h (j + 1) := by
  unfold visP visK
  rw [genP, map_flatMap, filter_flatMap]; rfl
theorem visK_y {atm nm : List Nat} {d j k : Nat} {h : List Nat} (e : okK rs atm nm h j k = true) : visK n ps rs atm nm d j h (k + 1) = visK n ps rs atm nm d j h k ++ visP n ps rs atm nm d (j + 1) (h ++ [nm[k]!]) := by
  unfold visK
  rw [List.range_succ, List.filter_append, List.flatMap_append]
  congr 1
  rw [List.filter_cons, if_pos e]; simp
theorem visK_n {atm nm : List Nat} {d j k : Nat} {h : List Nat} (e : okK rs atm nm h j k = false) : visK n ps rs atm nm d j h (k + 1) = visK n ps rs atm nm d j h k := by
  unfold visK
  rw [List.range_succ, List.filter_append, List.flatMap_append, List.filter_cons, if_neg (by rw [e]; decide)]; simp
theorem luL_len (atm nm : List Nat) (u : Nat) (h : List Nat) : (luL atm nm u h).length = u := by rw [luL, List.length_map, List.length_range]
theorem luL_get {atm nm h : List Nat} {u v : Nat} (hv : v < u) : (luL atm nm u h)[v]! = h[nm.idxOf atm[v]!]! := by rw [luL, get_map (by rw [List.length_range]; exact hv), range_get hv]
theorem luL_s (atm nm : List Nat) (u : Nat) (h : List Nat) : luL atm nm (u + 1) h = luL atm nm u h ++ [h[nm.idxOf atm[u]!]!] := by rw [luL, List.range_succ, List.map_append]; rfl
structure Nms (n : Nat) (atm nm : List Nat) : Prop where
  nm : nm = selfs n atm
  le : ∀ u, u < n → atm[u]! ≤ u
  idem : ∀ u, u < n → atm[atm[u]!]! = atm[u]!
namespace Nms
variable {atm nm h : List Nat}
theorem mem (N : Nms n atm nm) {x : Nat} : x ∈ nm ↔ x < n ∧ atm[x]! = x := by
  rw [N.nm, selfs, List.mem_filter, List.mem_range, decide_eq_true_eq]
theorem asc (N : Nms n atm nm) : nm.Pairwise (· < ·) := by rw [N.nm]; exact selfs_asc n atm
theorem mono (N : Nms n atm nm) {i j : Nat} (hij : i < j) (hj : j < nm.length) : nm[i]! < nm[j]! := by
  have := (List.pairwise_iff_getElem.1 N.asc) i j (by omega) hj hij
  rw [getElem!_pos _ i (by omega), getElem!_pos _ j hj]; exact this
theorem inj (N : Nms n atm nm) {i j : Nat} (hi : i < nm.length) (hj : j < nm.length) (e : nm[i]! = nm[j]!) : i = j := by
  rcases Nat.lt_trichotomy i j with q | q | q
  · have := N.mono q hj; omega
  · exact q
  · have := N.mono q hi; omega
theorem idx (_ : Nms n atm nm) {x : Nat} (hx : x ∈ nm) : nm.idxOf x < nm.length ∧ nm[nm.idxOf x]! = x := by
  have hlt : nm.idxOf x < nm.length := List.idxOf_lt_length_of_mem hx
  exact ⟨hlt, by rw [getElem!_pos nm _ hlt, List.getElem_idxOf hlt]⟩
theorem idxn (N : Nms n atm nm) {i : Nat} (hi : i < nm.length) : nm.idxOf nm[i]! = i := by
  have := N.idx (mem_at hi)
  exact N.inj this.1 hi this.2
theorem atmem (N : Nms n atm nm) {u : Nat} (hu : u < n) : atm[u]! ∈ nm := N.mem.2 ⟨by have := N.le u hu; omega, N.idem u hu⟩
theorem below (N : Nms n atm nm) {u : Nat} (hu : u ≤ n) : (selfs u atm).length ≤ nm.length ∧ (∀ i, i < nm.length → (nm[i]! < u ↔ i < (selfs u atm).length)) := by
  have key : ∀ d u, u + d = n → nm = selfs u atm ++ (List.range d).filterMap fun e => if atm[u + e]! = u + e then some (u + e) else none := by
    intro d
    induction d with
    | zero => intro u h; rw [N.nm, ← h]; simp
    | succ d ih =>
      intro u h
      rw [ih (u + 1) (by omega), List.range_succ_eq_map, List.filterMap_cons, List.filterMap_map]
      have e1 : (fun e => if atm[u + 1 + e]! = u + 1 + e then some (u + 1 + e) else none) = ((fun e => if atm[u + e]! = u + e then some (u + e) else none) ∘ Nat.succ) := by
        funext e
        show _ = if atm[u + (e + 1)]! = u + (e + 1) then some (u + (e + 1)) else none
        rw [show u + 1 + e = u + (e + 1) by omega]
      rw [e1]
      by_cases e : atm[u]! = u
      · rw [selfs_y e, List.append_assoc, show (if atm[u + 0]! = u + 0 then some (u + 0) else none) = some u from if_pos e]; rfl
      · rw [selfs_n e, show (if atm[u + 0]! = u + 0 then some (u + 0) else none) = none from if_neg e]
  obtain ⟨d, hd⟩ : ∃ d, u + d = n := ⟨n - u, by omega⟩
  have hk := key d u hd
  have hlen : (selfs u atm).length ≤ nm.length := by rw [hk, List.length_append]; omega
  refine ⟨hlen, fun i hi => ?_⟩
  constructor
  · intro h
    rcases Nat.lt_or_ge i (selfs u atm).length with q | q
    · exact q
    · have hm : nm[i]! ∈ (List.range d).filterMap fun e => if atm[u + e]! = u + e then some (u + e) else none := by
        rw [getElem!_pos nm i hi]
        have : nm[i] = (selfs u atm ++ (List.range d).filterMap fun e => if atm[u + e]! = u + e then some (u + e) else none)[i]'(by rw [← hk]; exact hi) := by congr 1
        rw [this, List.getElem_append_right q]
        exact List.getElem_mem _
      obtain ⟨e, _, he⟩ := List.mem_filterMap.1 hm
      split at he
      · have := Option.some.inj he; omega
      · cases he
  · intro h
    have hm : nm[i]! ∈ selfs u atm := by
      rw [getElem!_pos nm i hi]
      have : nm[i] = (selfs u atm ++ (List.range d).filterMap fun e => if atm[u + e]! = u + e then some (u + e) else none)[i]'(by rw [← hk]; exact hi) := by congr 1
      rw [this, List.getElem_append_left h]
      exact List.getElem_mem _
    unfold selfs at hm
    exact List.mem_range.1 (List.mem_filter.1 hm).1
theorem at_head (N : Nms n atm nm) {u : Nat} (hu : u < n) (e : atm[u]! = u) : (selfs u atm).length < nm.length ∧ nm[(selfs u atm).length]! = u := by
  have hm : u ∈ nm := N.mem.2 ⟨hu, e⟩
  obtain ⟨h1, h2⟩ := N.idx hm
  have hb := N.below (Nat.le_of_lt hu)
  have hb1 := N.below (u := u + 1) hu
  have e1 : (selfs (u + 1) atm).length = (selfs u atm).length + 1 := by rw [selfs_y e]; simp
  have q1 := (hb.2 _ h1)
  have q2 := (hb1.2 _ h1)
  rw [h2] at q1 q2
  have : nm.idxOf u = (selfs u atm).length := by
    have a1 : ¬ nm.idxOf u < (selfs u atm).length := fun z => by have := q1.2 z; omega
    have a2 : nm.idxOf u < (selfs u atm).length + 1 := by rw [← e1]; exact q2.1 (by omega)
    omega
  rw [← this]
  exact ⟨h1, h2⟩
end Nms
theorem genP_take {atm nm : List Nat} : ∀ {d j : Nat} {h y : List Nat}, h.length = j → y ∈ genP rs atm nm d j h → y.take j = h ∧ j ≤ y.length
  | 0, j, h, y, hl, hy => by
    rw [List.mem_singleton.1 (show y ∈ [h] from hy)]
    exact ⟨by rw [← hl, List.take_length], by omega⟩
  | d + 1, j, h, y, hl, hy => by
    obtain ⟨k, _, hy⟩ := List.mem_flatMap.1 hy
    obtain ⟨h1, h2⟩ := genP_take (show (h ++ [nm[k]!]).length = j + 1 by simp [hl]) hy
    refine ⟨?_, by omega⟩
    have : (y.take (j + 1)).take j = (h ++ [nm[k]!]).take j := by rw [h1]
    rw [List.take_take, Nat.min_eq_left (by omega), ← hl, List.take_left'] at this
    · rw [← hl]; exact this
    · rfl
def valH (nm h : List Nat) : Prop := ∀ k, k < h.length → ∃ k', k' ≤ k ∧ h[k]! = nm[k']! ∧ h[k']! = nm[k']!
theorem gen_eq {atm nm : List Nat} (N : Nms n atm nm) (hb : ∀ x ∈ rs, x.k = 2 → x.a.toNat < n ∧ x.b.toNat < n) : ∀ d u (h : List Nat), u + d = n → h.length = (selfs u atm).length → valH nm h →
    (genR atm d u (luL atm nm u h)).filter (permB n ps rs) = visP n ps rs atm nm (nm.length - (selfs u atm).length) (selfs u atm).length h := by
  intro d
  induction d with
  | zero =>
    intro u h hu hl hv
    have e : (selfs u atm).length = nm.length := by rw [N.nm, ← hu]; rfl
    rw [e, Nat.sub_self]
    have eu : u = n := by omega
    rw [eu]
    rfl
  | succ d ih =>
    intro u h hu hl hv
    have hun : u < n := by omega
    have hb0 := N.below (Nat.le_of_lt hun)
    show ((stepA atm u (luL atm nm u h)).flatMap (genR atm d (u + 1))).filter _ = _
    by_cases e : atm[u]! = u
    · obtain ⟨a1, a2⟩ := N.at_head hun e
      obtain ⟨j, hj⟩ : ∃ j, j = (selfs u atm).length := ⟨_, rfl⟩
      rw [← hj] at a1 a2 hl ⊢
      have ej : (selfs (u + 1) atm).length = j + 1 := by rw [selfs_y e, List.length_append, ← hj]; rfl
      have hidx : nm.idxOf u = j := by rw [← a2]; exact N.idxn a1
      have hbel : ∀ {i}, i < j → i < nm.length := fun h => by omega
      rw [show nm.length - j = (nm.length - (j + 1)) + 1 by omega, visP_s]
      unfold stepA
      rw [if_pos e, List.flatMap_map, filter_flatMap]
      -- the choices
      have hch : (List.range (u + 1)).filter (toQ u (luL atm nm u h)) = ((List.range (j + 1)).filter (okA nm h j)).map (fun k => nm[k]!) := by
        refine asc_ext ((List.pairwise_lt_range (n := u + 1)).filter _) ?_ fun x => ?_
        · rw [List.pairwise_map]
          have p0 : ((List.range (j + 1)).filter (okA nm h j)).Pairwise fun a b => a < b ∧ b < j + 1 := by
            have p1 : ((List.range (j + 1)).filter (okA nm h j)).Pairwise (· < ·) := (List.pairwise_lt_range (n := j + 1)).filter _
            refine (List.Pairwise.and_mem.1 p1).imp fun q => ⟨q.2.2, List.mem_range.1 (List.mem_filter.1 q.2.1).1⟩
          exact p0.imp fun q => N.mono q.1 (by omega)
        · rw [List.mem_filter, List.mem_range, List.mem_map]
          constructor
          · rintro ⟨h1, h2⟩
            have h2 := of_decide_eq_true h2
            by_cases q : x = u
            · exact ⟨j, List.mem_filter.2 ⟨List.mem_range.2 (by omega), decide_eq_true (.inl rfl)⟩, by rw [a2, q]⟩
            · have hxu : x < u := by omega
              have h2 := h2.resolve_left q
              rw [luL_get hxu] at h2
              have hax := N.atmem (show x < n by omega)
              obtain ⟨i1, i2⟩ := N.idx hax
              have hil : nm.idxOf atm[x]! < h.length := by
                rw [hl, hj, ← hb0.2 _ i1, i2]
                have := N.le x (by omega); omega
              obtain ⟨k', hk', v1, v2⟩ := hv _ hil
              refine ⟨k', List.mem_filter.2 ⟨List.mem_range.2 (by omega), decide_eq_true (.inr v2)⟩, by rw [← v1]; exact h2⟩
          · rintro ⟨k, hk, rfl⟩
            obtain ⟨k1, k2⟩ := List.mem_filter.1 hk
            have k1 := List.mem_range.1 k1
            have k2 := of_decide_eq_true k2
            by_cases q : k = j
            · subst q
              exact ⟨by omega, decide_eq_true (.inl a2)⟩
            · have hkj : k < j := by omega
              have hlt : nm[k]! < u := (hb0.2 k (hbel hkj)).2 (by omega)
              refine ⟨by omega, decide_eq_true (.inr ?_)⟩
              rw [luL_get hlt, (N.mem.1 (mem_at (hbel hkj))).2, N.idxn (hbel hkj)]
              exact k2.resolve_left q
      rw [hch, List.flatMap_map]
      have hnext : ∀ k ∈ (List.range (j + 1)).filter (okA nm h j), (genR atm d (u + 1) (luL atm nm u h ++ [nm[k]!])).filter (permB n ps rs) = visP n ps rs atm nm (nm.length - (j + 1)) (j + 1) (h ++ [nm[k]!]) := fun k hk => by
        obtain ⟨k1, k2⟩ := List.mem_filter.1 hk
        have k1 := List.mem_range.1 k1
        have k2 := of_decide_eq_true k2
        have hlast : (h ++ [nm[k]!])[j]! = nm[k]! := by rw [getElem!_pos _ j (by simp [hl]), List.getElem_append_right (by omega)]; simp [hl]
        have hold : ∀ {i}, i < j → (h ++ [nm[k]!])[i]! = h[i]! := fun {i} hi => by rw [getElem!_pos _ i (by simp; omega), List.getElem_append_left (by omega), ← getElem!_pos h i (by omega)]
        have el : luL atm nm u h ++ [nm[k]!] = luL atm nm (u + 1) (h ++ [nm[k]!]) := by
          rw [luL_s, e, hidx, hlast]
          congr 1
          unfold luL
          apply List.map_congr_left
          intro v hv
          have hv := List.mem_range.1 hv
          obtain ⟨i1, i2⟩ := N.idx (N.atmem (show v < n by omega))
          have : nm.idxOf atm[v]! < j := by
            rw [hj, ← hb0.2 _ i1, i2]
            have := N.le v (by omega); omega
          rw [hold this]
        have := ih (u + 1) (h ++ [nm[k]!]) (by omega) (by simp [hl, ej]) (fun i hi => by
          rw [List.length_append, hl] at hi
          by_cases q : i = j
          · subst q
            refine ⟨k, by omega, hlast, ?_⟩
            by_cases z : k = i
            · rw [z, ← z, show k = i from z]; rw [z] at hlast; exact hlast
            · rw [hold (by omega)]; exact k2.resolve_left z
          · have hij : i < j := by have : i < j + 1 := hi; omega
            obtain ⟨k', v0, v1, v2⟩ := hv i (by omega)
            exact ⟨k', v0, by rw [hold hij]; exact v1, by rw [hold (by omega)]; exact v2⟩)
        rw [ej] at this
        rw [el]; exact this
      rw [flatMap_congr hnext]
      unfold visK okK
      refine flatMap_drop (fun k hp hq => ?_) _
      -- a rule is broken
      have hbar : barJ rs atm nm h j k = true := by simpa using hq
      unfold barJ at hbar
      obtain ⟨i, hi, hx⟩ := List.any_eq_true.1 hbar
      have hi := List.mem_range.1 hi
      rw [Bool.and_eq_true] at hx
      have hx1 := of_decide_eq_true hx.1
      unfold barB at hx
      obtain ⟨x, hxr, hx2⟩ := List.any_eq_true.1 hx.2
      have hx2 := of_decide_eq_true hx2
      unfold visP
      rw [List.filter_eq_nil_iff]
      intro m hm hp2
      obtain ⟨y, hy, rfl⟩ := List.mem_map.1 hm
      obtain ⟨t1, t2⟩ := genP_take (show (h ++ [nm[k]!]).length = j + 1 by simp [hl]) hy
      have hcl := (permB_iff.1 hp2).2.1
      unfold clash at hcl
      rw [List.any_eq_false] at hcl
      refine hcl x (List.mem_filter.2 ⟨hxr, decide_eq_true hx2.1⟩) (decide_eq_true ?_)
      obtain ⟨b1, b2⟩ := hb x hxr hx2.1
      have g1 : y[i]! = nm[k]! := by
        rw [get_pre t1 (by omega) (by omega), getElem!_pos _ i (by simp; omega), List.getElem_append_left (by omega), ← getElem!_pos h i (by omega)]
        exact hx1
      have g2 : y[j]! = nm[k]! := by
        rw [get_pre t1 (by omega) (by omega), getElem!_pos _ j (by simp [hl]), List.getElem_append_right (by omega)]
        simp [hl]
      rw [luL_get b1, luL_get b2]
      rcases hx2.2 with ⟨z1, z2⟩ | ⟨z1, z2⟩
      · rw [z1, z2, N.idxn (hbel hi), N.idxn a1, g1, g2]
      · rw [z1, z2, N.idxn (hbel hi), N.idxn a1, g1, g2]
    · have ej : (selfs (u + 1) atm).length = (selfs u atm).length := by rw [selfs_n e]
      unfold stepA
      rw [if_neg e]
      have hlt : atm[u]! < u := by have := N.le u hun; omega
      have el : luL atm nm u h ++ [(luL atm nm u h)[atm[u]!]!] = luL atm nm (u + 1) h := by
        rw [luL_s, luL_get hlt, N.idem u hun]
      rw [el]
      have := ih (u + 1) h (by omega) (by rw [ej]; exact hl) hv
      rw [ej] at this
      rw [← this]; simp
end
end Go.D33
end
section
namespace Go.D33
open Go Go.RowKit Go.H
def mpH (nm h : List Nat) : List (Int × Int) := (nm.zip h).map fun p => ((p.1 : Int), (p.2 : Int))
theorem mfind_sh {α β : Type} [DecidableEq α] (a : α) : ∀ (l : List (α × β)) (i j : Nat), (mfind a l i).map (·.2) = (mfind a l j).map (·.2)
  | [], _, _ => rfl
  | p :: r, i, j => by
    rw [mfind, mfind]
    split
    · rfl
    · exact mfind_sh a r _ _
theorem mfind_no {α β : Type} [DecidableEq α] {a : α} : ∀ {l : List (α × β)} {i : Nat}, (∀ p ∈ l, a ≠ p.1) → mfind a l i = none
  | [], _, _ => rfl
  | p :: r, i, h => by rw [mfind, if_neg (h p (by simp)), mfind_no fun q hq => h q (by simp [hq])]
theorem mpH_get : ∀ {nm h : List Nat} {i : Nat}, nm.Nodup → i < h.length → i < nm.length → mget (mpH nm h) (nm[i]! : Int) 0 = (h[i]! : Int)
  | [], _, _, _, _, h2 => by simp at h2
  | _ :: _, [], _, _, h1, _ => by simp at h1
  | x :: nm, y :: h, 0, _, _, _ => by simp [mget, mfind, mpH]
  | x :: nm, y :: h, i + 1, hn, h1, h2 => by
    obtain ⟨n1, n2⟩ := List.nodup_cons.1 hn
    have h2' : i < nm.length := by simpa using h2
    have ih := mpH_get (nm := nm) (h := h) (i := i) n2 (by simpa using h1) h2'
    have hne : ((x :: nm)[i + 1]! : Int) ≠ (x : Int) := fun e => n1 (by
      have e : (x :: nm)[i + 1]! = x := by exact_mod_cast e
      rw [← e]
      simpa using mem_at h2')
    unfold mget at ih ⊢
    show ((mfind _ (((x : Int), (y : Int)) :: mpH nm h) 0).map (·.2)).getD 0 = _
    rw [mfind, if_neg hne, mfind_sh _ _ _ 0]
    simpa using ih
theorem mpH_no {nm h : List Nat} {j : Nat} (hn : nm.Nodup) (hj : j < nm.length) (hl : h.length ≤ j) : mhas (mpH nm h) (nm[j]! : Int) = false := by
  unfold mhas
  rw [mfind_no fun p hp e => ?_]; · rfl
  obtain ⟨q, hq, rfl⟩ := List.mem_map.1 hp
  obtain ⟨i, hi, rfl⟩ := List.getElem_of_mem hq
  rw [List.length_zip] at hi
  have e : (nm[j]! : Int) = ((nm.zip h)[i].1 : Int) := e
  rw [List.getElem_zip] at e
  have e : nm[j]! = nm[i]'(by omega) := Int.ofNat_inj.1 e
  rw [getElem!_pos nm j hj] at e
  exact (List.pairwise_iff_getElem.1 hn) i j (by omega) hj (by omega) e.symm
theorem mpH_app {nm h : List Nat} {j : Nat} (v : Nat) (hj : j < nm.length) (hl : h.length = j) : mpH nm (h ++ [v]) = mpH nm h ++ [((nm[j]! : Int), (v : Int))] := by
  unfold mpH
  have e : nm.zip (h ++ [v]) = nm.zip h ++ [(nm[j]!, v)] := by
    apply List.ext_getElem
    · simp; omega
    · intro i h1 h2
      rw [List.length_zip, List.length_append, List.length_singleton] at h1
      rw [List.getElem_zip]
      by_cases q : i < h.length
      · rw [List.getElem_append_left q, List.getElem_append_left (by rw [List.length_zip]; omega), List.getElem_zip]
      · have : i = j := by omega
        subst this
        rw [List.getElem_append_right (by omega), List.getElem_append_right (by rw [List.length_zip]; omega)]
        simp [getElem!_pos nm i hj]
  rw [e, List.map_append]; rfl
theorem mpH_set {nm h e : List Nat} {j : Nat} (v : Nat) (hn : nm.Nodup) (hj : j < nm.length) (hl : h.length = j) (he : e.length ≤ 1) : mset (mpH nm (h ++ e)) (nm[j]! : Int) (v : Int) = mpH nm (h ++ [v]) := by
  have hno := mpH_no (h := h) hn hj (by omega)
  rw [mpH_app v hj hl]
  match e, he with
  | [], _ => rw [List.append_nil, mset_app hno]
  | [u], _ => rw [mpH_app u hj hl, mset_last hno]
theorem mpH_del {nm h e : List Nat} {j : Nat} (hn : nm.Nodup) (hj : j < nm.length) (hl : h.length = j) (he : e.length ≤ 1) : mdel (mpH nm (h ++ e)) (nm[j]! : Int) = mpH nm h := by
  have hno := mpH_no (h := h) hn hj (by omega)
  match e, he with
  | [], _ => rw [List.append_nil, mdel_no hno]
  | [u], _ => rw [mpH_app u hj hl, mdel_app hno]
def barQ (atm : List Nat) (a b : Nat) (x : Ru) : Bool := decide (x.k = 2 ∧ ((atm[x.a.toNat]! = a ∧ atm[x.b.toNat]! = b) ∨ (atm[x.a.toNat]! = b ∧ atm[x.b.toNat]! = a)))
def homQ (rs : List Ru) (atm nm h : List Nat) (j c x : Nat) : Bool := decide (mget (mpH nm h) (x : Int) 0 = (c : Int)) && barB rs atm x nm[j]!
theorem homQ_any {rs : List Ru} {atm nm h e : List Nat} {j k : Nat} (hn : nm.Nodup) (hj : j ≤ nm.length) (hl : h.length = j) : (nm.take j).any (homQ rs atm nm (h ++ e) j nm[k]!) = barJ rs atm nm h j k := by
  have e1 : nm.take j = (List.range j).map fun i => nm[i]! := by
    apply List.ext_getElem
    · simp; omega
    · intro i h1 h2
      have : i < nm.length := by rw [List.length_take] at h1; omega
      rw [List.getElem_take, List.getElem_map, List.getElem_range, getElem!_pos nm i this]
  rw [e1, List.any_map]
  unfold barJ
  have : ∀ l : List Nat, (∀ i ∈ l, i < j) → l.any ((homQ rs atm nm (h ++ e) j nm[k]!) ∘ fun i => nm[i]!) = l.any fun i => decide (h[i]! = nm[k]!) && barB rs atm nm[i]! nm[j]! := by
    intro l
    induction l with
    | nil => intro _; rfl
    | cons i l ih =>
      intro hb
      have hi := hb i (by simp)
      rw [List.any_cons, List.any_cons, ih fun x hx => hb x (by simp [hx])]
      congr 1
      show homQ rs atm nm (h ++ e) j nm[k]! nm[i]! = _
      unfold homQ
      rw [mpH_get hn (by rw [List.length_append]; omega) (by omega)]
      congr 1
      have : (h ++ e)[i]! = h[i]! := by rw [getElem!_pos (h ++ e) i (by rw [List.length_append]; omega), List.getElem_append_left (by omega), getElem!_pos h i (by omega)]
      rw [this]
      exact decide_eq_decide.2 (by omega)
  exact this _ fun i hi => List.mem_range.1 hi
theorem hom_at {nm h e : List Nat} {k : Nat} (hn : nm.Nodup) (hk : k < h.length) (hl : h.length ≤ nm.length) : mget (mpH nm (h ++ e)) (nm[k]! : Int) 0 = (h[k]! : Int) := by
  rw [mpH_get hn (by rw [List.length_append]; omega) (by omega)]
  rw [getElem!_pos (h ++ e) k (by rw [List.length_append]; omega), List.getElem_append_left (by omega), getElem!_pos h k (by omega)]
def cmpI (a b : Int) : Int := if a < b then -1 else if b < a then 1 else 0
theorem cmpI_lt {a b : Int} (h : a < b) : cmpI a b = -1 := by rw [cmpI, if_pos h]
theorem cmpI_gt {a b : Int} (h : b < a) : cmpI a b = 1 := by rw [cmpI, if_neg (by omega), if_pos h]
theorem cmpI_eq {a b : Int} (h : ¬ a < b) (k : ¬ b < a) : cmpI a b = 0 := by rw [cmpI, if_neg h, if_neg k]
theorem cmpI_zero {a b : Int} : cmpI a b = 0 ↔ a = b := by
  unfold cmpI
  split
  · exact ⟨fun h => absurd h (by decide), fun h => by omega⟩
  · split
    · exact ⟨fun h => absurd h (by decide), fun h => by omega⟩
    · exact ⟨fun _ => by omega, fun _ => rfl⟩
def cmpL : List Nat → List Nat → Int
  | [], [] => 0
  | [], _ :: _ => -1
  | _ :: _, [] => 1
  | a :: x, b :: y => if a = b then cmpL x y else cmpI (a : Int) (b : Int)
theorem cmpL_drop : ∀ {k : Nat} {a b : List Nat}, k ≤ a.length → k ≤ b.length → (∀ j, j < k → a[j]! = b[j]!) → cmpL a b = cmpL (a.drop k) (b.drop k)
  | 0, _, _, _, _, _ => rfl
  | k + 1, [], _, h, _, _ => by simp at h
  | k + 1, _ :: _, [], _, h, _ => by simp at h
  | k + 1, x :: a, y :: b, h1, h2, h => by
    have e : x = y := by simpa using h 0 (by omega)
    rw [cmpL, if_pos e, List.drop_succ_cons, List.drop_succ_cons]
    exact cmpL_drop (by simpa using h1) (by simpa using h2) fun j hj => by simpa using h (j + 1) (by omega)
theorem drop_at {a : List Nat} {k : Nat} (h : k < a.length) : a.drop k = a[k]! :: a.drop (k + 1) := by rw [List.drop_eq_getElem_cons h, getElem!_pos a k h]
theorem cmpL_long {a b : List Nat} {k : Nat} (h1 : k < a.length) (h2 : b.length = k) (h : ∀ j, j < k → a[j]! = b[j]!) : cmpL a b = 1 := by
  rw [cmpL_drop (by omega) (by omega) h, drop_at h1, List.drop_eq_nil_of_le (show b.length ≤ k by omega)]; rfl
theorem cmpL_here {a b : List Nat} {k : Nat} (h1 : k < a.length) (h2 : k < b.length) (h : ∀ j, j < k → a[j]! = b[j]!) (hne : cmpI (a[k]! : Int) (b[k]! : Int) ≠ 0) : cmpL a b = cmpI (a[k]! : Int) (b[k]! : Int) := by
  rw [cmpL_drop (by omega) (by omega) h, drop_at h1, drop_at h2, cmpL, if_neg fun e => hne (cmpI_zero.2 (by omega))]
theorem cmpL_short {a b : List Nat} {k : Nat} (h1 : a.length = k) (h2 : k < b.length) (h : ∀ j, j < k → a[j]! = b[j]!) : cmpL a b = -1 := by
  rw [cmpL_drop (by omega) (by omega) h, drop_at h2, List.drop_eq_nil_of_le (by omega)]; rfl
theorem cmpL_same {a b : List Nat} {k : Nat} (h1 : a.length = k) (h2 : b.length = k) (h : ∀ j, j < k → a[j]! = b[j]!) : cmpL a b = 0 := by
  rw [cmpL_drop (by omega) (by omega) h, List.drop_eq_nil_of_le (by omega), List.drop_eq_nil_of_le (by omega)]; rfl
def lexB : List Nat → List Nat → Bool
  | a :: x, b :: y => if a = b then lexB x y else decide (a < b)
  | _, _ => false
theorem cmpL_lex : ∀ {a b : List Nat}, a.length = b.length → (cmpL a b < 0 ↔ lexB a b = true)
  | [], [], _ => by simp [cmpL, lexB]
  | [], _ :: _, h => by simp at h
  | _ :: _, [], h => by simp at h
  | x :: a, y :: b, h => by
    rw [cmpL, lexB]
    by_cases e : x = y
    · rw [if_pos e, if_pos e]; exact cmpL_lex (by simpa using h)
    · rw [if_neg e, if_neg e, decide_eq_true_eq]
      rcases Nat.lt_or_ge x y with q | q
      · rw [cmpI_lt (by omega)]; exact ⟨fun _ => q, fun _ => by decide⟩
      · rw [cmpI_gt (by omega)]; exact ⟨fun h => absurd h (by decide), fun h => by omega⟩
theorem lexB_drop : ∀ {k : Nat} {a b : List Nat}, k ≤ a.length → k ≤ b.length → (∀ j, j < k → a[j]! = b[j]!) → lexB a b = lexB (a.drop k) (b.drop k)
  | 0, _, _, _, _, _ => rfl
  | k + 1, [], _, h, _, _ => by simp at h
  | k + 1, _ :: _, [], _, h, _ => by simp at h
  | k + 1, x :: a, y :: b, h1, h2, h => by
    have e : x = y := by simpa using h 0 (by omega)
    rw [lexB, if_pos e, List.drop_succ_cons, List.drop_succ_cons]
    exact lexB_drop (by simpa using h1) (by simpa using h2) fun j hj => by simpa using h (j + 1) (by omega)
theorem lexB_here {a b : List Nat} {k : Nat} (h1 : k < a.length) (h2 : k < b.length) (h : ∀ j, j < k → a[j]! = b[j]!) (hne : a[k]! ≠ b[k]!) : lexB a b = decide (a[k]! < b[k]!) := by
  rw [lexB_drop (by omega) (by omega) h, drop_at h1, drop_at h2, lexB, if_neg hne]
structure BS where
  any : Bool
  most : Int
  best : List Nat
section
variable (ps : List Pr)
def bsW (s : BS) (m : List Nat) : Bool := !s.any || (decide (valR m ps > s.most) || (decide (valR m ps = s.most) && decide (cmpL m s.best < 0)))
def bsF (s : BS) (m : List Nat) : BS := if bsW ps s m then ⟨true, valR m ps, m⟩ else s
end
section
variable {n : Nat} {ps : List Pr} {rs : List Ru}
theorem Nms.nodup {atm nm : List Nat} (N : Nms n atm nm) : nm.Nodup := N.asc.imp fun h => Nat.ne_of_lt h
theorem luL_look {atm nm h : List Nat} {u : Nat} (N : Nms n atm nm) (hu : u < n) (hl : h.length = nm.length) : mget (mpH nm h) (atm[u]! : Int) 0 = (h[nm.idxOf atm[u]!]! : Int) := by
  obtain ⟨h1, h2⟩ := N.idx (N.atmem hu)
  have := mpH_get (h := h) N.nodup (i := nm.idxOf atm[u]!) (by omega) h1
  rw [h2] at this
  exact this
theorem visP_0y {atm nm h : List Nat} {j : Nat} (e : permB n ps rs (luL atm nm n h) = true) : visP n ps rs atm nm 0 j h = [luL atm nm n h] := by
  show List.filter _ [luL atm nm n h] = _
  rw [List.filter_cons, if_pos e]; rfl
theorem visP_0n {atm nm h : List Nat} {j : Nat} (e : permB n ps rs (luL atm nm n h) = false) : visP n ps rs atm nm 0 j h = [] := by
  show List.filter _ [luL atm nm n h] = _
  rw [List.filter_cons, if_neg (by rw [e]; decide)]; rfl
theorem visK_mono {atm nm h : List Nat} {d j k : Nat} : ∀ {k' : Nat}, k ≤ k' → (visK n ps rs atm nm d j h k).length ≤ (visK n ps rs atm nm d j h k').length
  | 0, h => by rw [Nat.le_zero.1 h]; exact Nat.le_refl _
  | k' + 1, hk => by
    rcases Nat.eq_or_lt_of_le hk with e | q
    · rw [e]; exact Nat.le_refl _
    · have ih := visK_mono (k := k) (k' := k') (h := h) (atm := atm) (nm := nm) (d := d) (j := j) (by omega)
      cases e : okK rs atm nm h j k' with
      | true => rw [visK_y e, List.length_append]; omega
      | false => rw [visK_n e]; exact ih
theorem visK_le {atm nm h : List Nat} {d j k : Nat} (hk : k ≤ j) (e : okK rs atm nm h j k = true) : (visK n ps rs atm nm d j h k).length + (visP n ps rs atm nm d (j + 1) (h ++ [nm[k]!])).length ≤ (visP n ps rs atm nm (d + 1) j h).length := by
  rw [visP_s]
  have := visK_mono (n := n) (ps := ps) (rs := rs) (atm := atm) (nm := nm) (h := h) (d := d) (j := j) (k := k + 1) (k' := j + 1) (by omega)
  rw [visK_y e, List.length_append] at this
  exact this
theorem okK_y {atm nm h : List Nat} {j k : Nat} (h1 : k = j ∨ h[k]! = nm[k]!) (h2 : barJ rs atm nm h j k = false) : okK rs atm nm h j k = true := by
  unfold okK okA
  rw [h2, decide_eq_true h1]; rfl
theorem okK_no {atm nm h : List Nat} {j k : Nat} (h1 : ¬ (k = j ∨ h[k]! = nm[k]!)) : okK rs atm nm h j k = false := by
  unfold okK okA
  rw [decide_eq_false h1]; rfl
theorem okK_bar {atm nm h : List Nat} {j k : Nat} (h2 : barJ rs atm nm h j k = true) : okK rs atm nm h j k = false := by
  unfold okK
  rw [h2]; simp
theorem luL_set {atm nm h : List Nat} {u : Nat} (hu : u < n) : (luL atm nm u h ++ List.replicate (n - u) 0).set u (h[nm.idxOf atm[u]!]!) = luL atm nm (u + 1) h ++ List.replicate (n - (u + 1)) 0 := by
  rw [luL_s, show n - u = (n - (u + 1)) + 1 by omega, List.replicate_succ, List.set_append_right _ _ (by rw [luL_len]; exact Nat.le_refl _), luL_len, Nat.sub_self]
  simp
def bndA (rs : List Ru) (atm : List Nat) (s : Int) (x : Pr) : Int := if atm[x.a.toNat]! = atm[x.b.toNat]! ∨ (x.w > 0 ∧ barB rs atm atm[x.a.toNat]! atm[x.b.toNat]! = false) then s + x.w else s
def bndL (rs : List Ru) (atm : List Nat) (ps : List Pr) : Int := ps.foldl (bndA rs atm) 0
theorem bnd_s {atm : List Nat} {k : Nat} (h : k < ps.length) : bndL rs atm (ps.take (k + 1)) = bndA rs atm (bndL rs atm (ps.take k)) ps[k]! := by
  unfold bndL
  rw [List.take_add_one, List.getElem?_eq_getElem h, Option.toList, List.foldl_append, getElem!_pos ps k h]; rfl
theorem not_t {b : Bool} (h : (!b) = true) : b = false := by cases b; rfl; cases h
theorem not_f {b : Bool} (h : (!b) = false) : b = true := by cases b; cases h; rfl
theorem bnd_y1 {atm : List Nat} {k : Nat} (h : k < ps.length) (e : atm[ps[k]!.a.toNat]! = atm[ps[k]!.b.toNat]!) : bndL rs atm (ps.take (k + 1)) = bndL rs atm (ps.take k) + ps[k]!.w := by
  rw [bnd_s h]; exact if_pos (.inl e)
theorem bnd_y2 {atm : List Nat} {k : Nat} (h : k < ps.length) (e : ps[k]!.w > 0) (e2 : barB rs atm atm[ps[k]!.a.toNat]! atm[ps[k]!.b.toNat]! = false) : bndL rs atm (ps.take (k + 1)) = bndL rs atm (ps.take k) + ps[k]!.w := by
  rw [bnd_s h]; exact if_pos (.inr ⟨e, e2⟩)
theorem bnd_n {atm : List Nat} {k : Nat} (h : k < ps.length) (e : atm[ps[k]!.a.toNat]! ≠ atm[ps[k]!.b.toNat]!) (e2 : ps[k]!.w ≤ 0 ∨ barB rs atm atm[ps[k]!.a.toNat]! atm[ps[k]!.b.toNat]! = true) : bndL rs atm (ps.take (k + 1)) = bndL rs atm (ps.take k) := by
  rw [bnd_s h]
  refine if_neg ?_
  rintro (q | ⟨q1, q2⟩)
  · exact e q
  · rcases e2 with z | z
    · omega
    · rw [q2] at z; cases z
theorem bnd_b {atm : List Nat} (hw : ∀ x ∈ ps, -1000 ≤ x.w ∧ x.w ≤ 1000) : ∀ k, k ≤ ps.length → -1000 * (k : Int) ≤ bndL rs atm (ps.take k) ∧ bndL rs atm (ps.take k) ≤ 1000 * (k : Int)
  | 0, _ => by rw [List.take_zero]; show _ ≤ (0 : Int) ∧ (0 : Int) ≤ _; omega
  | k + 1, h => by
    have ih := bnd_b hw (atm := atm) k (by omega)
    have := hw ps[k]! (mem_at (by omega))
    rw [bnd_s (by omega)]
    unfold bndA
    split <;> omega
end
section
variable {n : Nat} {ps : List Pr} {rs : List Ru}
theorem ru_in (hf : (Prob.mk (n : Int) ps rs).formed) {x : Ru} (hx : x ∈ rs) : ruOk (n : Int) x := by
  obtain ⟨i, hi, rfl⟩ := List.getElem_of_mem hx
  have := hf.2.2.2.2 i hi
  rwa [getElem!_pos rs i hi] at this
theorem pr_in (hf : (Prob.mk (n : Int) ps rs).formed) {x : Pr} (hx : x ∈ ps) : prOk (n : Int) x := by
  obtain ⟨i, hi, rfl⟩ := List.getElem_of_mem hx
  have := (hf.2.2.2.1 i hi).1
  rwa [getElem!_pos ps i hi] at this
theorem atm_nms (hf : (Prob.mk (n : Int) ps rs).formed) : Nms n (atomsL n rs) (selfs n (atomsL n rs)) := by
  have ha := atoms_comp hf
  exact ⟨rfl, fun u h => ha.le u h, fun u h => ha.idem h⟩
theorem allL_vis (hf : (Prob.mk (n : Int) ps rs).formed) : visP n ps rs (atomsL n rs) (selfs n (atomsL n rs)) (selfs n (atomsL n rs)).length 0 [] = allL n ps rs := by
  have N := atm_nms hf
  have h := gen_eq (ps := ps) N (fun x hx hk => by
    have q := ru_in hf hx
    unfold ruOk at q
    omega) n 0 [] (by omega) rfl (fun k h => by simp at h)
  unfold allL
  rw [allR_eq]
  exact h.symm
def stB (n : Nat) (ps : List Pr) (rs : List Ru) : BS := (allL n ps rs).foldl (bsF ps) ⟨false, 0, []⟩
theorem bsF_any (s : BS) (m : List Nat) (h : s.any = true ∨ bsW ps s m = true) : (bsF ps s m).any = true := by
  unfold bsF
  split
  · rfl
  · rename_i q
    rcases h with h | h
    · exact h
    · exact absurd h q
theorem fold_any : ∀ {l : List (List Nat)} {s : BS}, s.any = true → (l.foldl (bsF ps) s).any = true
  | [], _, h => h
  | m :: l, s, h => fold_any (l := l) (s := bsF ps s m) (bsF_any s m (.inl h))
theorem fold_any1 {l : List (List Nat)} {s : BS} (hl : l ≠ []) : (l.foldl (bsF ps) s).any = true := by
  cases l with
  | nil => exact absurd rfl hl
  | cons m l =>
    refine fold_any (l := l) (s := bsF ps s m) ?_
    cases h : s.any with
    | true => exact bsF_any s m (.inl h)
    | false => exact bsF_any s m (.inr (by unfold bsW; rw [h]; rfl))
def stK (n : Nat) (ps : List Pr) (rs : List Ru) (k : Nat) : BS := ((allL n ps rs).take k).foldl (bsF ps) ⟨false, 0, []⟩
theorem stK_n : stK n ps rs (allL n ps rs).length = stB n ps rs := by rw [stK, List.take_length]; rfl
theorem fold_mem : ∀ {l : List (List Nat)} {s : BS} {p : List Nat → Prop}, (∀ m ∈ l, p m) → (s.any = true → p s.best) → ((l.foldl (bsF ps) s).any = true → p (l.foldl (bsF ps) s).best)
  | [], _, _, _, h => h
  | m :: l, s, p, hl, h => fold_mem (l := l) (s := bsF ps s m) (fun x hx => hl x (by simp [hx])) (by
    unfold bsF
    split
    · exact fun _ => hl m (by simp)
    · exact h)
theorem stK_mem {k : Nat} (hk : 0 < k) (hl : 0 < (allL n ps rs).length) : (stK n ps rs k).best ∈ allL n ps rs := by
  have h1 : (stK n ps rs k).any = true := fold_any1 (by intro e; have := congrArg List.length e; rw [List.length_take, List.length_nil] at this; omega)
  exact fold_mem (p := fun m => m ∈ allL n ps rs) (fun m hm => List.mem_of_mem_take hm) (fun h => by cases h) h1
theorem allL_len (hf : (Prob.mk (n : Int) ps rs).formed) {m : List Nat} (h : m ∈ allL n ps rs) : m.length = n := ((mem_allL hf).1 h).1.1
def facN : Nat → Nat
  | 0 => 1
  | k + 1 => (k + 1) * facN k
theorem flat_le {α β : Type} {f : α → List β} {b : Nat} : ∀ {l : List α}, (∀ x ∈ l, (f x).length ≤ b) → (l.flatMap f).length ≤ b * l.length
  | [], _ => by simp
  | a :: l, h => by
    have h1 := h a (by simp)
    have h2 := flat_le (f := f) (b := b) (l := l) fun x hx => h x (by simp [hx])
    rw [List.flatMap_cons, List.length_append, List.length_cons, Nat.mul_add, Nat.mul_one]; omega
theorem stepA_le (atm : List Nat) (i : Nat) (l : List Nat) : (stepA atm i l).length ≤ i + 1 := by
  unfold stepA
  split
  · rw [List.length_map]
    have := List.length_filter_le (toQ i l) (List.range (i + 1))
    rwa [List.length_range] at this
  · simp
theorem allR_le (atm : List Nat) : ∀ k, (allR atm k).length ≤ facN k
  | 0 => by simp [allR, facN]
  | k + 1 => Nat.le_trans (flat_le fun x _ => stepA_le atm k x) (Nat.mul_le_mul_left _ (allR_le atm k))
theorem fac_9 : ∀ k : Fin 10, facN k.val ≤ 362880 := by decide
theorem allR_9 (atm : List Nat) {k : Nat} (h : k ≤ 9) : (allR atm k).length ≤ 362880 := Nat.le_trans (allR_le atm k) (fac_9 ⟨k, by omega⟩)
theorem allL_9 (h : n ≤ 9) : (allL n ps rs).length ≤ 362880 := Nat.le_trans (List.length_filter_le _ _) (allR_9 _ h)
theorem flat_s {α β : Type} [Inhabited α] {f : α → List β} {l : List α} {k : Nat} (h : k < l.length) : (l.take (k + 1)).flatMap f = (l.take k).flatMap f ++ f l[k]! := by
  rw [List.take_add_one, List.getElem?_eq_getElem h, Option.toList, List.flatMap_append, getElem!_pos l k h]; simp
theorem filt_s {α : Type} [Inhabited α] {p : α → Bool} {l : List α} {k : Nat} (h : k < l.length) : (l.take (k + 1)).filter p = (l.take k).filter p ++ if p l[k]! then [l[k]!] else [] := by
  rw [List.take_add_one, List.getElem?_eq_getElem h, Option.toList, List.filter_append, getElem!_pos l k h, List.filter_cons]; rfl
theorem stepA_n {atm l : List Nat} {i : Nat} (h : ¬ atm[i]! = i) : stepA atm i l = [l ++ [l[atm[i]!]!]] := if_neg h
def chQ (i : Nat) (l : List Nat) (c : Nat) : List (List Nat) := ((List.range c).filter (toQ i l)).map fun to => l ++ [to]
theorem chQ_y {i c : Nat} {l : List Nat} (h : toQ i l c = true) : chQ i l (c + 1) = chQ i l c ++ [l ++ [c]] := by
  unfold chQ
  rw [List.range_succ, List.filter_append, List.map_append, List.filter_cons, if_pos h]; rfl
theorem chQ_no {i c : Nat} {l : List Nat} (h : toQ i l c = false) : chQ i l (c + 1) = chQ i l c := by
  unfold chQ
  rw [List.range_succ, List.filter_append, List.map_append, List.filter_cons, if_neg (by rw [h]; decide)]; simp
theorem stepA_y {atm l : List Nat} {i : Nat} (h : atm[i]! = i) : stepA atm i l = chQ i l (i + 1) := if_pos h
theorem chQ_le (i c : Nat) (l : List Nat) : (chQ i l c).length ≤ c := by
  unfold chQ
  rw [List.length_map]
  have := List.length_filter_le (toQ i l) (List.range c)
  rwa [List.length_range] at this
theorem allR_len (atm : List Nat) : ∀ k, ∀ m ∈ allR atm k, m.length = k
  | 0, m, h => by rw [List.mem_singleton.1 (show m ∈ [[]] from h)]; rfl
  | k + 1, m, h => by
    obtain ⟨l, hl, hm⟩ := List.mem_flatMap.1 (show m ∈ (allR atm k).flatMap (stepA atm k) from h)
    have := allR_len atm k l hl
    unfold stepA at hm
    split at hm
    · obtain ⟨x, _, rfl⟩ := List.mem_map.1 hm; simp [this]
    · rw [List.mem_singleton.1 hm]; simp [this]
theorem flat_9 {atm : List Nat} {i k : Nat} (hi : i < 9) : (((allR atm i).take k).flatMap (stepA atm i)).length ≤ 362880 * 9 := by
  refine Nat.le_trans (flat_le (b := 9) fun x _ => Nat.le_trans (stepA_le atm i x) (by omega)) ?_
  have h1 := allR_9 atm (k := i) (by omega)
  have h2 : ((allR atm i).take k).length ≤ (allR atm i).length := by rw [List.length_take]; omega
  omega
def frB (rs : List Ru) (atm : List Nat) (x : Pr) (j : Nat) : Bool := decide (x.w > 0) && !barB (rs.take j) atm atm[x.a.toNat]! atm[x.b.toNat]!
end
end Go.D33
end
section
namespace Go.Proofs.Ytbkbeplddddgeaa
open Go Go.RowKit Go.H Go.D33

theorem hcallOk41 : G.callOk Try.prog 41 = true := by kernel_rfl
theorem hcallOk62 : G.callOk Try.prog 62 = true := by kernel_rfl
theorem hcallOk64 : G.callOk Try.prog 64 = true := by kernel_rfl
theorem hcallOk66 : G.callOk Try.prog 66 = true := by kernel_rfl

theorem permN_h {n : Nat} {ps : List Pr} {rs : List Ru} {m : List Nat} (hok : (Prob.mk (n : Int) ps rs).ok) : Con Try.prog 49 [vA [uI (n : Int), .sl 3 (ps.map ePr), .sl 3 (rs.map eRu)], vL 1 (m.map eN)] [] (vB (permB n ps rs m)) [] := by
  have h := permC_ok (l := m.map fun x : Nat => (x : Int)) hok
  rw [eI_eN] at h
  have e : decide (permI n (mF (lF ps) rs) (barL rs) (namedL n (partsL (mu rs) (List.range n))) (m.map fun x : Nat => (x : Int))) = permB n ps rs m := decide_eq_decide.2 (permIS hok.1)
  rw [e] at h
  exact h
theorem valN_h {n : Nat} {ps : List Pr} {rs : List Ru} {m : List Nat} (hok : (Prob.mk (n : Int) ps rs).ok) (hm : isP n m) : Con Try.prog 30 [vA [uI (n : Int), .sl 3 (ps.map ePr), .sl 3 (rs.map eRu)], vL 1 (m.map eN)] [] (.tup [vI (valR m ps), vI 0]) [] := by
  have h := valueC_ok (l := m.map fun x : Nat => (x : Int)) hok
  rw [eI_eN, valI_eq hok.1, (valSI_y (ps := ps) hm).1, (valSI_y (ps := ps) hm).2] at h
  exact h
theorem ru_mem {n : Nat} {ps : List Pr} {rs : List Ru} (hf : (Prob.mk (n : Int) ps rs).formed) {x : Ru} (hx : x ∈ rs) : ruOk (n : Int) x := by
  obtain ⟨i, hi, rfl⟩ := List.getElem_of_mem hx
  have := hf.2.2.2.2 i hi
  rwa [getElem!_pos rs i hi] at this
theorem sb_mp {α β : Type} {kf : α → Value} {vf : β → Value} {l l' : List (α × β)} (h : l = l') : SB.mp (mpE kf vf l) = SB.mp (mpE kf vf l') := by rw [h]

set_option maxRecDepth 8000 in
theorem atomsOf_ok {n : Nat} {ps : List Pr} {rs : List Ru} (hok : (Prob.mk (n : Int) ps rs).ok) :
    Con Try.prog 40 [vA [uI (n : Int), .sl 3 (ps.map ePr), .sl 3 (rs.map eRu)]] [] (.tup [vL 1 ((atomsL n rs).map eN), vL 1 ((selfs n (atomsL n rs)).map eN), vI 0]) [] := by
 have hf := hok.1
 have hn2 : (n : Int) ≤ 200 := hf.2.1
 have hal : (atomsL n rs).length = n := by rw [atomsL, joins_len, List.length_range]
 obtain ⟨i3, hi3, hz3, hs3, hb3⟩ := hinf3
 refine Con.enterL (n := 30) Try.func40 rfl rfl rfl (fun τ w ok vs hin => ?_)
 have hl0_1 := hin.lenA (i := 0) (j := 1) rfl rfl
 try rw [List.length_map] at hl0_1
 have hl0_2 := hin.lenA (i := 0) (j := 2) rfl rfl
 try rw [List.length_map] at hl0_2
 clear hin
 refine W.rg ?_
 refine SL.memS (O.box (is := [_, _, _]) 101 rfl rfl (by simp) rfl rfl Taken.no) rfl rfl (S' := (101, _) :: _) rfl ?_
 refine SL.an rfl rfl (SL.an rfl rfl (SL.an rfl rfl (E.fo (W.rg ?_))))
 refine SL.val (O.ldN (m := 3) (PtI.ref rfl rfl) (js := [_, _, _]) rfl (Nat.le_of_ble_eq_true rfl) Try.underlying30 rfl (by kernel_rfl) rfl Taken.no) ?_
 refine SL.memS (O.call (rn []) [] rfl rfl rfl (atoms_ok hok) (.cons (ArgOk.aggU (.cons (ArgOk.same rfl) (.cons (ArgOk.same rfl) (.cons (ArgOk.same rfl) .nil)))) .nil) SubS.nil rfl rfl rfl rfl rfl (.inl rfl) hcallOk64 (r' := .tup [.u _, .u _]) rfl rfl Taken.no) rfl rfl (S' := _) rfl ?_
 rw [← atoms_eq hf]
 refine SL.mv rfl rfl ?_
 refine SL.val (O.extract rfl rfl rfl Taken.no) ?_
 refine SL.val (O.extract rfl rfl rfl Taken.no) ?_
 refine SL.an rfl rfl (SL.an rfl rfl (E.fo (W.seq (W.rg (SL.mv rfl rfl ?_)))))
 refine SL.val (O.lenE (SlOf.fz rfl (by decide)) (by first | exact List.length_map _ | rfl) Try.underlying32 rfl Taken.no) ?_
 refine SL.mv rfl rfl (E.fo (W.block ?_))
 refine W.adopt 3 103 3 1 (by decide) rfl rfl rfl ?_
 refine W.loopx1 (fun (k : Nat) => [(14, vI (k : Int)), (3, .own 102)]) (fun (k : Nat) => [(102, .data 3 1 ((selfs k (atomsL n rs)).map eN))]) (fun (k : Nat) => k ≤ n) (fun (k : Nat) => n - k) (0) (rn [(102, 103)]) (.cons (t := 2) rfl (.cons (t := 4) rfl (.cons (t := 12) rfl (.cons (t := 13) rfl .nil)))) (.cons (t := 101) rfl .nil) rfl ?_ ?_ rfl rfl ?_ ?_
 · exact (SubF.cons rfl (SubF.cons rfl SubF.nil))
 · exact (SubS.cons rfl SubS.nil)
 ·skip
  omega
 intro k hinv
 have hk := hinv
 have hsl := selfs_len k (atomsL n rs)
 refine W.rg ?_
 refine SL.val (O.det (fun _ => G.R.lss rfl rfl) rfl Taken.no) ?_
 refine E.fo (W.seq ?_)
 first | refine W.cond_d rfl (fun hc1 => ?_) (fun hc1 => ?_) | refine W.cond_nd rfl (fun hc1 => ?_) (fun hc1 => ?_) | refine W.cond rfl (fun hc1 => ?_) (fun hc1 => ?_)
 ·skip
  refine W.skip (E.to (W.seq (W.block (W.rg (SL.mv rfl rfl ?_)))))
  refine SL.val (O.idx_fz rfl rfl (rfl) (row_get (by omega)) Try.underlying32 hi3 hs3 rfl Taken.no) ?_
  refine SL.val (O.ld1 (PtI.ofU (PtU.fz rfl)) rfl Try.underlying3 rfl rfl Taken.no) ?_
  refine SL.an rfl rfl (SL.an rfl rfl (E.fo (W.rg (SL.mv rfl rfl (SL.mv rfl rfl ?_)))))
  refine SL.val (O.det (fun _ => G.R.eql rfl rfl) rfl Taken.no) ?_
  refine E.fo ?_
  first | refine W.cond_d rfl (fun hc2 => ?_) (fun hc2 => ?_) | refine W.cond_nd rfl (fun hc2 => ?_) (fun hc2 => ?_) | refine W.cond rfl (fun hc2 => ?_) (fun hc2 => ?_)
  ·skip
   refine W.region (SL.mv rfl rfl (SL.mv rfl rfl ?_))
   refine SL.memS (O.buildSlice 104 (rows := [(atomsL n rs)[k]!].map eN) rfl rfl Try.underlying32 hi3 hz3 hs3 (by decide) rfl (by decide) rfl rfl rfl Taken.no) rfl rfl (S' := (104, .data 3 1 ([(atomsL n rs)[k]!].map eN)) :: _) rfl ?_
   refine SL.memS (O.app (k' := 105) rfl rfl (SlOf.own rfl rfl) Try.underlying32 hi3 hz3 hs3 rfl rfl (by exact app_map) (by rw [hb3]; (simp only [List.length_map, List.length_singleton]; omega)) (by (simp only [List.length_map, List.length_singleton]; omega)) rfl Taken.no) rfl rfl (S' := (105, _) :: (102, .dead) :: _) rfl ?_
   refine SL.an rfl rfl (SL.nil (E.inn (E.to (W.region ?_))))
   refine SL.val (O.det (fun _ => by first | exact G.R.add64 rfl rfl (by omega) | exact G.R.add rfl rfl) rfl Taken.no) ?_
   refine SL.mv rfl rfl (SL.nil ?_)
   refine E.again ((k + 1)) (rn [(102, 105)]) ?_ ?_ rfl (fixL_spec rfl) ?_ ?_
   · exact (SubF.cons rfl (SubF.cons rfl (SubF.cons rfl (SubF.cons rfl (SubF.cons rfl (SubF.cons rfl SubF.nil))))))
   · exact (SubS.val rfl (by (try dsimp only); first | exact sb_data (by have e : (atomsL n rs)[k]! = k := (by omega); rw [selfs_y e, e]) | exact sb_data (by rw [selfs_n (by omega)])) (SubS.cons rfl SubS.nil))
   ·try dsimp only
    omega
   · (try dsimp only); omega
  refine W.skip (E.inn (E.to (W.region ?_)))
  refine SL.val (O.det (fun _ => by first | exact G.R.add64 rfl rfl (by omega) | exact G.R.add rfl rfl) rfl Taken.no) ?_
  refine SL.mv rfl rfl (SL.nil ?_)
  refine E.again ((k + 1)) (rn []) ?_ ?_ rfl (fixL_spec rfl) ?_ ?_
  · exact (SubF.cons rfl (SubF.cons rfl (SubF.cons rfl (SubF.cons rfl (SubF.cons rfl (SubF.cons rfl SubF.nil))))))
  · exact (SubS.val rfl (by (try dsimp only); first | exact sb_data (by have e : (atomsL n rs)[k]! = k := (by omega); rw [selfs_y e, e]) | exact sb_data (by rw [selfs_n (by omega)])) (SubS.cons rfl SubS.nil))
  ·try dsimp only
   omega
  · (try dsimp only); omega
 refine W.exit (E.th (E.th (E.hit (E.to (W.rg (SL.mv rfl rfl (SL.mv rfl rfl (SL.mv rfl rfl (SL.an rfl rfl (SL.an rfl rfl (SL.an rfl rfl (E.fo (W.ret ?_)))))))))))))
 refine E.freeze 102 rfl (F' := [(3, _)]) (⟨⟨_, rfl, rfl⟩, trivial⟩) ?_
 refine E.fin (rs := [_, _, _]) (rn []) (.inl rfl) rfl (.cons (ResOne.tmp rfl) (.cons (ResOne.tmp rfl) (.cons (ResOne.tmp rfl) .nil))) ?_ ?_ rfl (fixL_spec rfl)
 ·skip
  have hkn : k = n := by omega
  rw [hkn]; rfl
 · exact SubS.nil


set_option maxRecDepth 8000 in
theorem barred1_h {n : Nat} {atm : List Nat} {a b : Nat} {x : Ru} (hx : ruOk (n : Int) x) (hal : atm.length = n) :
    Con Try.prog 66 [vA (eRu x), .u (.ptr [.sl 1 (atm.map eN)]), .u (.ptr [uI (a : Int)]), .u (.ptr [uI (b : Int)])] [] (vB (barQ atm a b x)) [] := by
 unfold ruOk at hx
 obtain ⟨i3, hi3, hz3, hs3, hb3⟩ := hinf3
 refine Con.enterL (n := 41) Try.func66 rfl rfl rfl (fun τ w ok vs hin => ?_)
 clear hin
 refine W.rg ?_
 refine SL.memS (O.box (is := [_, _, _]) 101 rfl rfl (by simp) rfl rfl Taken.no) rfl rfl (S' := (101, _) :: _) rfl ?_
 refine SL.an rfl rfl (E.fo (W.seq ?_))
 refine W.draw [⟨[], [], [], []⟩, ⟨[], [], [], [101]⟩, ⟨[101], [], [], []⟩, ⟨[], [], [], []⟩, ⟨[], [], [], []⟩, ⟨[], [], [], []⟩, ⟨[], [], [], [101]⟩, ⟨[101], [], [], []⟩, ⟨[], [], [], []⟩, ⟨[], [], [], []⟩, ⟨[], [], [], []⟩, ⟨[], [], [], []⟩] rfl (by kernel_rfl) (by kernel_rfl) rfl rfl ?_
 refine WH.val (O.ld1 (PtI.ofU (PtU.fz rfl)) rfl Try.underlying32 rfl rfl Taken.no) rfl rfl ?_
 refine WH.val (O.fld_ref (o' := 1) rfl Try.underlying51 rfl (m := 0) (by kernel_rfl) rfl rfl Taken.no) rfl rfl ?_
 refine WH.val (O.ld1 (PtI.ref rfl rfl) rfl Try.underlying3 rfl rfl Taken.no) rfl rfl ?_
 refine WH.val (O.idx_fz (i := x.a.toNat) rfl rfl (by omega) (row_get (by omega)) Try.underlying32 hi3 hs3 rfl Taken.no) rfl rfl ?_
 refine WH.val (O.ld1 (PtI.ofU (PtU.fz rfl)) rfl Try.underlying3 rfl rfl Taken.no) rfl rfl ?_
 refine WH.val (O.ld1 (PtI.ofU (PtU.fz rfl)) rfl Try.underlying32 rfl rfl Taken.no) rfl rfl ?_
 refine WH.val (O.fld_ref (o' := 2) rfl Try.underlying51 rfl (m := 0) (by kernel_rfl) rfl rfl Taken.no) rfl rfl ?_
 refine WH.val (O.ld1 (PtI.ref rfl rfl) rfl Try.underlying3 rfl rfl Taken.no) rfl rfl ?_
 refine WH.val (O.idx_fz (i := x.b.toNat) rfl rfl (by omega) (row_get (by omega)) Try.underlying32 hi3 hs3 rfl Taken.no) rfl rfl ?_
 refine WH.val (O.ld1 (PtI.ofU (PtU.fz rfl)) rfl Try.underlying3 rfl rfl Taken.no) rfl rfl ?_
 refine WH.val (O.assign rfl rfl Taken.no) rfl rfl ?_
 refine WH.val (O.assign rfl rfl Taken.no) rfl rfl ?_
 refine WH.nil (E.to (W.rg ?_))
 refine SL.val (O.fld_ref (o' := 0) rfl Try.underlying51 rfl (m := 0) (by kernel_rfl) rfl rfl Taken.no) ?_
 refine SL.val (O.ld1 (PtI.ref rfl rfl) rfl Try.underlying3 rfl rfl Taken.no) ?_
 refine SL.val (O.det (fun _ => G.R.eql rfl rfl) rfl Taken.no) ?_
 refine SL.mv rfl rfl ?_
 refine SL.case (j := 3) (g := 21) (want := true) rfl rfl (fun hg1 => ?_) (fun hg1 => ?_)
 ·skip
  first | have hg1p := G.gA1 hg1 | have hg1p := G.gA2 hg1 | have hg1p := hg1
  refine SL.val (O.move rfl rfl (Taken.yes rfl rfl hg1)) ?_
  refine SL.val (O.ld1 (PtI.ofU (PtU.fz rfl)) rfl Try.underlying3 rfl rfl (Taken.yes rfl rfl hg1)) ?_
  refine SL.val (O.det (fun _ => G.R.eql rfl rfl) rfl (Taken.yes rfl rfl hg1)) ?_
  refine SL.val (O.move rfl rfl (Taken.yes rfl rfl hg1)) ?_
  refine SL.case (j := 7) (g := 25) (want := true) rfl rfl (fun hg2 => ?_) (fun hg2 => ?_)
  ·skip
   first | have hg2p := G.gA1 hg2 | have hg2p := G.gA2 hg2 | have hg2p := hg2
   refine SL.val (O.move rfl rfl (Taken.yes rfl rfl hg2)) ?_
   refine SL.val (O.ld1 (PtI.ofU (PtU.fz rfl)) rfl Try.underlying3 rfl rfl (Taken.yes rfl rfl hg2)) ?_
   refine SL.val (O.det (fun _ => G.R.eql rfl rfl) rfl (Taken.yes rfl rfl hg2)) ?_
   refine SL.val (O.pick_t rfl hg2 rfl rfl (Taken.yes rfl rfl hg1)) ?_
   refine SL.val (O.move rfl rfl (Taken.yes rfl rfl hg1)) ?_
   refine SL.case (j := 12) (g := 30) (want := false) rfl rfl (fun hg3 => ?_) (fun hg3 => ?_)
   ·skip
    first | have hg3p := G.gA3 hg3 | have hg3p := G.gA4 hg3 | have hg3p := hg3
    refine SL.val (O.move rfl rfl (Taken.yes rfl rfl hg3)) ?_
    refine SL.val (O.ld1 (PtI.ofU (PtU.fz rfl)) rfl Try.underlying3 rfl rfl (Taken.yes rfl rfl hg3)) ?_
    refine SL.val (O.det (fun _ => G.R.eql rfl rfl) rfl (Taken.yes rfl rfl hg3)) ?_
    refine SL.val (O.move rfl rfl (Taken.yes rfl rfl hg3)) ?_
    refine SL.case (j := 16) (g := 34) (want := true) rfl rfl (fun hg4 => ?_) (fun hg4 => ?_)
    ·skip
     first | have hg4p := G.gA1 hg4 | have hg4p := G.gA2 hg4 | have hg4p := hg4
     refine SL.val (O.move rfl rfl (Taken.yes rfl rfl hg4)) ?_
     refine SL.val (O.ld1 (PtI.ofU (PtU.fz rfl)) rfl Try.underlying3 rfl rfl (Taken.yes rfl rfl hg4)) ?_
     refine SL.val (O.det (fun _ => G.R.eql rfl rfl) rfl (Taken.yes rfl rfl hg4)) ?_
     refine SL.val (O.pick_t rfl hg4 rfl rfl (Taken.yes rfl rfl hg3)) ?_
     refine SL.val (O.pick_f rfl hg3 rfl rfl (Taken.yes rfl rfl hg1)) ?_
     refine SL.val (O.pick_t rfl hg1 rfl rfl Taken.no) ?_
     refine SL.an rfl rfl (E.fo ?_)
     refine W.pick (K:=[(5,_)]) (Z:=[(101,_)]) ⟨rfl,trivial⟩ ⟨rfl,trivial⟩ ?_
     refine W.ret ?_
     refine E.fin (rs := [_]) (rn []) (.inl rfl) rfl (.cons (ResOne.tmp rfl) .nil) ?_ ?_ rfl (fixL_spec rfl)
     ·skip
      first | exact iv_bool (by unfold barQ; exact dec_iff (by omega)) | exact iv_bool (by unfold barQ; exact dec_f (by omega)) | exact iv_bool (by unfold barQ; exact dec_t (by omega))
     · exact SubS.nil
    first | have hg4p := G.gA5 hg4 | have hg4p := G.gA6 hg4 | have hg4p := hg4
    refine SL.sk rfl rfl rfl hg4 (SL.sk rfl rfl rfl hg4 (SL.sk rfl rfl rfl hg4 ?_))
    refine SL.val (O.pick_f rfl (G.ne_t hg4) rfl rfl (Taken.yes rfl rfl hg3)) ?_
    refine SL.val (O.pick_f rfl hg3 rfl rfl (Taken.yes rfl rfl hg1)) ?_
    refine SL.val (O.pick_t rfl hg1 rfl rfl Taken.no) ?_
    refine SL.an rfl rfl (E.fo ?_)
    refine W.pick (K:=[(5,_)]) (Z:=[(101,_)]) ⟨rfl,trivial⟩ ⟨rfl,trivial⟩ ?_
    refine W.ret ?_
    refine E.fin (rs := [_]) (rn []) (.inl rfl) rfl (.cons (ResOne.tmp rfl) .nil) ?_ ?_ rfl (fixL_spec rfl)
    ·skip
     first | exact iv_bool (by unfold barQ; exact dec_iff (by omega)) | exact iv_bool (by unfold barQ; exact dec_f (by omega)) | exact iv_bool (by unfold barQ; exact dec_t (by omega))
    · exact SubS.nil
   first | have hg3p := G.gA7 hg3 | have hg3p := G.gA8 hg3 | have hg3p := hg3
   refine SL.sk rfl rfl rfl hg3 (SL.sk rfl rfl rfl hg3 (SL.sk rfl rfl rfl hg3 (SL.sk rfl rfl rfl hg3 ?_)))
   refine SL.skip (OpOk.not2 rfl rfl rfl) ?_
   refine SL.skip (OpOk.not2 rfl rfl rfl) ?_
   refine SL.skip (OpOk.not2 rfl rfl rfl) ?_
   refine SL.sk rfl rfl rfl hg3 ?_
   refine SL.val (O.pick_t rfl (G.ne_f hg3) rfl rfl (Taken.yes rfl rfl hg1)) ?_
   refine SL.val (O.pick_t rfl hg1 rfl rfl Taken.no) ?_
   refine SL.an rfl rfl (E.fo ?_)
   refine W.pick (K:=[(5,_)]) (Z:=[(101,_)]) ⟨rfl,trivial⟩ ⟨rfl,trivial⟩ ?_
   refine W.ret ?_
   refine E.fin (rs := [_]) (rn []) (.inl rfl) rfl (.cons (ResOne.tmp rfl) .nil) ?_ ?_ rfl (fixL_spec rfl)
   ·skip
    first | exact iv_bool (by unfold barQ; exact dec_iff (by omega)) | exact iv_bool (by unfold barQ; exact dec_f (by omega)) | exact iv_bool (by unfold barQ; exact dec_t (by omega))
   · exact SubS.nil
  first | have hg2p := G.gA5 hg2 | have hg2p := G.gA6 hg2 | have hg2p := hg2
  refine SL.sk rfl rfl rfl hg2 (SL.sk rfl rfl rfl hg2 (SL.sk rfl rfl rfl hg2 ?_))
  refine SL.val (O.pick_f rfl (G.ne_t hg2) rfl rfl (Taken.yes rfl rfl hg1)) ?_
  refine SL.val (O.move rfl rfl (Taken.yes rfl rfl hg1)) ?_
  have hg5 : false = false := by decide
  refine SL.val (O.move rfl rfl (Taken.yes rfl rfl hg5)) ?_
  refine SL.val (O.ld1 (PtI.ofU (PtU.fz rfl)) rfl Try.underlying3 rfl rfl (Taken.yes rfl rfl hg5)) ?_
  refine SL.val (O.det (fun _ => G.R.eql rfl rfl) rfl (Taken.yes rfl rfl hg5)) ?_
  refine SL.val (O.move rfl rfl (Taken.yes rfl rfl hg5)) ?_
  refine SL.case (j := 16) (g := 34) (want := true) rfl rfl (fun hg6 => ?_) (fun hg6 => ?_)
  ·skip
   first | have hg6p := G.gA1 hg6 | have hg6p := G.gA2 hg6 | have hg6p := hg6
   refine SL.val (O.move rfl rfl (Taken.yes rfl rfl hg6)) ?_
   refine SL.val (O.ld1 (PtI.ofU (PtU.fz rfl)) rfl Try.underlying3 rfl rfl (Taken.yes rfl rfl hg6)) ?_
   refine SL.val (O.det (fun _ => G.R.eql rfl rfl) rfl (Taken.yes rfl rfl hg6)) ?_
   refine SL.val (O.pick_t rfl hg6 rfl rfl (Taken.yes rfl rfl hg5)) ?_
   refine SL.val (O.pick_f rfl rfl rfl rfl (Taken.yes rfl rfl hg1)) ?_
   refine SL.val (O.pick_t rfl hg1 rfl rfl Taken.no) ?_
   refine SL.an rfl rfl (E.fo ?_)
   refine W.pick (K:=[(5,_)]) (Z:=[(101,_)]) ⟨rfl,trivial⟩ ⟨rfl,trivial⟩ ?_
   refine W.ret ?_
   refine E.fin (rs := [_]) (rn []) (.inl rfl) rfl (.cons (ResOne.tmp rfl) .nil) ?_ ?_ rfl (fixL_spec rfl)
   ·skip
    first | exact iv_bool (by unfold barQ; exact dec_iff (by omega)) | exact iv_bool (by unfold barQ; exact dec_f (by omega)) | exact iv_bool (by unfold barQ; exact dec_t (by omega))
   · exact SubS.nil
  first | have hg6p := G.gA5 hg6 | have hg6p := G.gA6 hg6 | have hg6p := hg6
  refine SL.sk rfl rfl rfl hg6 (SL.sk rfl rfl rfl hg6 (SL.sk rfl rfl rfl hg6 ?_))
  refine SL.val (O.pick_f rfl (G.ne_t hg6) rfl rfl (Taken.yes rfl rfl hg5)) ?_
  refine SL.val (O.pick_f rfl rfl rfl rfl (Taken.yes rfl rfl hg1)) ?_
  refine SL.val (O.pick_t rfl hg1 rfl rfl Taken.no) ?_
  refine SL.an rfl rfl (E.fo ?_)
  refine W.pick (K:=[(5,_)]) (Z:=[(101,_)]) ⟨rfl,trivial⟩ ⟨rfl,trivial⟩ ?_
  refine W.ret ?_
  refine E.fin (rs := [_]) (rn []) (.inl rfl) rfl (.cons (ResOne.tmp rfl) .nil) ?_ ?_ rfl (fixL_spec rfl)
  ·skip
   first | exact iv_bool (by unfold barQ; exact dec_iff (by omega)) | exact iv_bool (by unfold barQ; exact dec_f (by omega)) | exact iv_bool (by unfold barQ; exact dec_t (by omega))
  · exact SubS.nil
 first | have hg1p := G.gA5 hg1 | have hg1p := G.gA6 hg1 | have hg1p := hg1
 refine SL.sk rfl rfl rfl hg1 (SL.sk rfl rfl rfl hg1 (SL.sk rfl rfl rfl hg1 (SL.sk rfl rfl rfl hg1 ?_)))
 refine SL.skip (OpOk.not2 rfl rfl rfl) ?_
 refine SL.skip (OpOk.not2 rfl rfl rfl) ?_
 refine SL.skip (OpOk.not2 rfl rfl rfl) ?_
 refine SL.sk rfl rfl rfl hg1 (SL.sk rfl rfl rfl hg1 ?_)
 refine SL.skip (OpOk.not2 rfl rfl rfl) ?_
 refine SL.skip (OpOk.not2 rfl rfl rfl) ?_
 refine SL.skip (OpOk.not2 rfl rfl rfl) ?_
 refine SL.skip (OpOk.not2 rfl rfl rfl) ?_
 refine SL.skip (OpOk.not2 rfl rfl rfl) ?_
 refine SL.skip (OpOk.not2 rfl rfl rfl) ?_
 refine SL.skip (OpOk.not2 rfl rfl rfl) ?_
 refine SL.skip (OpOk.not2 rfl rfl rfl) ?_
 refine SL.sk rfl rfl rfl hg1 ?_
 refine SL.val (O.pick_f rfl (G.ne_t hg1) rfl rfl Taken.no) ?_
 refine SL.an rfl rfl (E.fo ?_)
 refine W.pick (K:=[(5,_)]) (Z:=[(101,_)]) ⟨rfl,trivial⟩ ⟨rfl,trivial⟩ ?_
 refine W.ret ?_
 refine E.fin (rs := [_]) (rn []) (.inl rfl) rfl (.cons (ResOne.tmp rfl) .nil) ?_ ?_ rfl (fixL_spec rfl)
 ·skip
  first | exact iv_bool (by unfold barQ; exact dec_iff (by omega)) | exact iv_bool (by unfold barQ; exact dec_f (by omega)) | exact iv_bool (by unfold barQ; exact dec_t (by omega))
 · exact SubS.nil

set_option maxRecDepth 8000 in
theorem barred_h {n : Nat} {ps : List Pr} {rs : List Ru} {atm : List Nat} {a b : Nat} (hf : (Prob.mk (n : Int) ps rs).formed) (hal : atm.length = n) :
    Con Try.prog 41 [vA [uI (n : Int), .sl 3 (ps.map ePr), .sl 3 (rs.map eRu)], vL 1 (atm.map eN), vI (a : Int), vI (b : Int)] [] (vB (barB rs atm a b)) [] := by
 refine Con.enterL (n := 13) Try.func41 rfl rfl rfl (fun τ w ok vs hin => ?_)
 have hl0_1 := hin.lenA (i := 0) (j := 1) rfl rfl
 try rw [List.length_map] at hl0_1
 have hl0_2 := hin.lenA (i := 0) (j := 2) rfl rfl
 try rw [List.length_map] at hl0_2
 have hl1 := hin.len (i := 1) rfl
 try rw [List.length_map] at hl1
 clear hin
 refine W.rg ?_
 refine SL.memS (O.box (is := [_, _, _]) 101 rfl rfl (by simp) rfl rfl Taken.no) rfl rfl (S' := (101, _) :: _) rfl ?_
 refine SL.memS (O.box (is := [_]) 102 rfl rfl (by simp) rfl rfl Taken.no) rfl rfl (S' := (102, _) :: _) rfl ?_
 refine SL.memS (O.box (is := [_]) 103 rfl rfl (by simp) rfl rfl Taken.no) rfl rfl (S' := (103, _) :: _) rfl ?_
 refine SL.memS (O.box (is := [_]) 104 rfl rfl (by simp) rfl rfl Taken.no) rfl rfl (S' := (104, _) :: _) rfl ?_
 refine SL.an rfl rfl (E.fo (W.rg ?_))
 refine SL.val (O.fld_ref (o' := 2) rfl Try.underlying30 rfl (m := 0) (by kernel_rfl) rfl rfl Taken.no) ?_
 refine SL.val (O.ld1 (PtI.ref rfl rfl) rfl Try.underlying23 rfl rfl Taken.no) ?_
 refine SL.val (O.makeFunc rfl rfl rfl Taken.no) ?_
 refine SL.memS (O.call (rn []) [102, 103, 104] rfl rfl rfl (containsFuncC (q := rs) (f := 66) (caps := [.ptr [.sl 1 (atm.map eN)], .ptr [uI (a : Int)], .ptr [uI (b : Int)]]) (pr := barQ atm a b) hcallOk66 (fun x hx => barred1_h (ru_mem hf hx) hal)) (.cons (ArgOk.same rfl) (.cons (ArgOk.cloU .nil (.cons (ArgOk.ref rfl rfl rfl) (.cons (ArgOk.ref rfl rfl rfl) (.cons (ArgOk.ref rfl rfl rfl) .nil)))) .nil)) SubS.nil rfl rfl rfl rfl rfl (.inr ⟨rfl, fun x hx => by simp at hx⟩) hcallOk65 (r' := .u _) rfl rfl Taken.no) rfl rfl (S' := _) rfl ?_
 refine SL.an rfl rfl (E.fo (W.ret ?_))
 refine E.fin (rs := [_]) (rn []) (.inl rfl) rfl (.cons (ResOne.tmp rfl) .nil) ?_ ?_ rfl (fixL_spec rfl)
 ·skip
  exact iv_bool any_any.symm
 · exact SubS.nil

set_option maxRecDepth 8000 in
theorem home_h {n : Nat} {ps : List Pr} {rs : List Ru} {atm nm g : List Nat} {c j : Nat} {x : Nat} (hf : (Prob.mk (n : Int) ps rs).formed) (hal : atm.length = n) (hj : j < nm.length) :
    Con Try.prog 62 [vI (x : Int), .ref 0 0, .ref 2 0, .u (.ptr [uI (n : Int), .sl 3 (ps.map ePr), .sl 3 (rs.map eRu)]), .u (.ptr [.sl 1 (atm.map eN)]), .u (.ptr [.sl 1 (nm.map eN)]), .ref 3 0] [(0, .cells 80 [.own 1]), (1, .mp (mpE (fun a : Int => Value.int .i64 a) (fun a : Int => Value.int .i64 a) (mpH nm g))), (2, .cells 3 [.u (uI (c : Int))]), (3, .cells 3 [.u (uI (j : Int))])] (vB (homQ rs atm nm g j c x)) [(0, .cells 80 [.own 1]), (1, .mp (mpE (fun a : Int => Value.int .i64 a) (fun a : Int => Value.int .i64 a) (mpH nm g))), (2, .cells 3 [.u (uI (c : Int))]), (3, .cells 3 [.u (uI (j : Int))])] := by
 obtain ⟨i3, hi3, hz3, hs3, hb3⟩ := hinf3
 refine Con.enterL (n := 24) Try.func62 rfl rfl rfl (fun τ w ok vs hin => ?_)
 clear hin
 refine W.rg (SL.an rfl rfl (E.fo (W.seq ?_)))
 refine W.draw [⟨[0], [], [], [1]⟩, ⟨[], [], [], []⟩, ⟨[1], [], [], []⟩, ⟨[2], [], [], []⟩, ⟨[], [], [], []⟩, ⟨[], [], [], []⟩, ⟨[], [], [], []⟩, ⟨[], [], [], []⟩, ⟨[], [], [], []⟩, ⟨[], [], [], []⟩, ⟨[3], [], [], []⟩, ⟨[], [], [], []⟩, ⟨[], [], [], []⟩, ⟨[], [], [], []⟩, ⟨[], [], [], []⟩, ⟨[], [], [], []⟩] rfl (by kernel_rfl) (by kernel_rfl) rfl rfl ?_
 refine WH.val (O.ld1 (PtI.ref rfl rfl) rfl Try.underlying80 rfl rfl Taken.no) rfl rfl ?_
 refine WH.mv rfl rfl rfl ?_
 refine WH.val (O.lookup (kf := (fun a : Int => Value.int .i64 a)) (vf := (fun a : Int => Value.int .i64 a)) (l := mpH nm g) (b := (x : Int)) (z := 0) rfl rfl rfl Try.underlying80 (KeyOk.int Try.underlying3) (by kernel_rfl) rfl Taken.no) rfl rfl ?_
 refine WH.val (O.ld1 (PtI.ref rfl rfl) rfl Try.underlying3 rfl rfl Taken.no) rfl rfl ?_
 refine WH.val (O.det (fun _ => G.R.eql rfl rfl) rfl Taken.no) rfl rfl ?_
 refine WH.mv rfl rfl rfl ?_
 refine WH.case (j := 5) (g := 14) (want := true) rfl rfl (fun hg1 => ?_) (fun hg1 => ?_)
 ·skip
  first | have hg1p := G.gA1 hg1 | have hg1p := G.gA2 hg1 | have hg1p := hg1
  refine WH.val (O.ldU (m := 3) (PtU.fz rfl) rfl Try.underlying30 rfl (by kernel_rfl) rfl (Taken.yes rfl rfl hg1)) rfl rfl ?_
  refine WH.val (O.ld1 (PtI.ofU (PtU.fz rfl)) rfl Try.underlying32 rfl rfl (Taken.yes rfl rfl hg1)) rfl rfl ?_
  refine WH.val (O.move rfl rfl (Taken.yes rfl rfl hg1)) rfl rfl ?_
  refine WH.val (O.ld1 (PtI.ofU (PtU.fz rfl)) rfl Try.underlying32 rfl rfl (Taken.yes rfl rfl hg1)) rfl rfl ?_
  refine WH.val (O.ld1 (PtI.ref rfl rfl) rfl Try.underlying3 rfl rfl (Taken.yes rfl rfl hg1)) rfl rfl ?_
  refine WH.val (O.idx_fz (i := j) rfl rfl (rfl) (row_get (by omega)) Try.underlying32 hi3 hs3 rfl (Taken.yes rfl rfl hg1)) rfl rfl ?_
  refine WH.val (O.ld1 (PtI.ofU (PtU.fz rfl)) rfl Try.underlying3 rfl rfl (Taken.yes rfl rfl hg1)) rfl rfl ?_
  refine WH.val (O.callp rfl rfl rfl (barred_h (atm := atm) (a := x) (b := nm[j]!) hf hal) (.cons (ArgOk.same rfl) (.cons (ArgOk.same rfl) (.cons (ArgOk.same rfl) (.cons (ArgOk.same rfl) .nil)))) hcallOk41 rfl (Taken.yes rfl rfl hg1)) rfl rfl ?_
  refine WH.val (O.pick_t rfl hg1 rfl rfl Taken.no) rfl rfl ?_
  refine WH.val (O.assign rfl rfl Taken.no) rfl rfl ?_
  refine WH.nil (E.to (W.ret ?_))
  refine E.fin (rs := [_]) (rn []) (.inl rfl) rfl (.cons (ResOne.tmp rfl) .nil) ?_ ?_ rfl (fixL_spec rfl)
  ·skip
   first | exact iv_bool (by unfold homQ; simp_all) | exact iv_bool (by unfold homQ; rw [decide_eq_true (by assumption)]; simp_all) | exact iv_bool (by unfold homQ; rw [decide_eq_false (by assumption)]; rfl)
  · exact (SubS.cons rfl (SubS.cons rfl (SubS.cons rfl (SubS.cons rfl SubS.nil))))
 first | have hg1p := G.gA5 hg1 | have hg1p := G.gA6 hg1 | have hg1p := hg1
 refine WH.sk rfl rfl rfl hg1 (WH.sk rfl rfl rfl hg1 (WH.sk rfl rfl rfl hg1 (WH.sk rfl rfl rfl hg1 (WH.sk rfl rfl rfl hg1 (WH.sk rfl rfl rfl hg1 (WH.sk rfl rfl rfl hg1 (WH.sk rfl rfl rfl hg1 ?_)))))))
 refine WH.val (O.pick_f rfl (G.ne_t hg1) rfl rfl Taken.no) rfl rfl ?_
 refine WH.val (O.assign rfl rfl Taken.no) rfl rfl ?_
 refine WH.nil (E.to (W.ret ?_))
 refine E.fin (rs := [_]) (rn []) (.inl rfl) rfl (.cons (ResOne.tmp rfl) .nil) ?_ ?_ rfl (fixL_spec rfl)
 ·skip
  first | exact iv_bool (by unfold homQ; simp_all) | exact iv_bool (by unfold homQ; rw [decide_eq_true (by assumption)]; simp_all) | exact iv_bool (by unfold homQ; rw [decide_eq_false (by assumption)]; rfl)
 · exact (SubS.cons rfl (SubS.cons rfl (SubS.cons rfl (SubS.cons rfl SubS.nil))))

set_option maxRecDepth 8000 in
theorem indexFuncH {n : Nat} {ps : List Pr} {rs : List Ru} {atm nm g : List Nat} {c j : Nat} {q : List Nat} (hf : (Prob.mk (n : Int) ps rs).formed) (hal : atm.length = n) (hj : j < nm.length) :
    Con Try.prog 70 [vL 1 (q.map eN), .clo (.func 62) [] [.ref 0 0, .ref 2 0, .u (.ptr [uI (n : Int), .sl 3 (ps.map ePr), .sl 3 (rs.map eRu)]), .u (.ptr [.sl 1 (atm.map eN)]), .u (.ptr [.sl 1 (nm.map eN)]), .ref 3 0]] [(0, .cells 80 [.own 1]), (1, .mp (mpE (fun a : Int => Value.int .i64 a) (fun a : Int => Value.int .i64 a) (mpH nm g))), (2, .cells 3 [.u (uI (c : Int))]), (3, .cells 3 [.u (uI (j : Int))])] (vI (idxF (homQ rs atm nm g j c) q)) [(0, .cells 80 [.own 1]), (1, .mp (mpE (fun a : Int => Value.int .i64 a) (fun a : Int => Value.int .i64 a) (mpH nm g))), (2, .cells 3 [.u (uI (c : Int))]), (3, .cells 3 [.u (uI (j : Int))])] := by
 obtain ⟨i3, hi3, hz3, hs3, hb3⟩ := hinf3
 refine Con.enterL (n := 19) Try.func70 rfl rfl rfl (fun τ w ok vs hin => ?_)
 have hl0 := hin.len (i := 0) rfl
 try rw [List.length_map] at hl0
 clear hin
 refine W.rg (SL.an rfl rfl (E.fo (W.seq (W.rg (SL.mv rfl rfl ?_)))))
 refine SL.val (O.lenE (SlOf.fz rfl (by decide)) (by first | exact List.length_map _ | rfl) Try.underlying32 rfl Taken.no) ?_
 refine SL.mv rfl rfl (E.fo (W.block ?_))
 refine W.loopx1 (fun (k : Nat) => [(8, vI (k : Int))]) (fun (k : Nat) => []) (fun (k : Nat) => k ≤ q.length ∧ ∀ i, i < k → (homQ rs atm nm g j c) q[i]! = false) (fun (k : Nat) => q.length - k) (0) (rn []) (.cons (t := 0) rfl (.cons (t := 1) rfl (.cons (t := 7) rfl .nil))) (.cons (t := 0) rfl (.cons (t := 1) rfl (.cons (t := 2) rfl (.cons (t := 3) rfl .nil)))) rfl ?_ ?_ rfl rfl ?_ ?_
 · exact (SubF.cons rfl SubF.nil)
 · exact SubS.nil
 ·skip
  exact ⟨by omega, fun i h => by omega⟩
 intro k hinv
 obtain ⟨hk, hp⟩ := hinv
 refine W.rg ?_
 refine SL.val (O.det (fun _ => G.R.lss rfl rfl) rfl Taken.no) ?_
 refine E.fo (W.seq ?_)
 first | refine W.cond_d rfl (fun hc1 => ?_) (fun hc1 => ?_) | refine W.cond_nd rfl (fun hc1 => ?_) (fun hc1 => ?_) | refine W.cond rfl (fun hc1 => ?_) (fun hc1 => ?_)
 ·skip
  refine W.skip (E.to (W.seq (W.block (W.rg (SL.mv rfl rfl (SL.an rfl rfl (E.fo (W.rg (SL.mv rfl rfl (SL.mv rfl rfl (SL.mv rfl rfl ?_)))))))))))
  refine SL.val (O.idx_fz rfl rfl (rfl) (row_get (by omega)) Try.underlying32 hi3 hs3 rfl Taken.no) ?_
  refine SL.val (O.ld1 (PtI.ofU (PtU.fz rfl)) rfl Try.underlying3 rfl rfl Taken.no) ?_
  refine SL.memS (O.call (rn [(0, 0), (1, 1), (2, 2), (3, 3)]) [] rfl rfl rfl (home_h (g := g) (c := c) (x := q[k]!) hf hal hj) (.cons (ArgOk.same rfl) (.cons (ArgOk.same rfl) (.cons (ArgOk.same rfl) (.cons (ArgOk.same rfl) (.cons (ArgOk.same rfl) (.cons (ArgOk.same rfl) (.cons (ArgOk.same rfl) .nil))))))) (SubS.cons rfl (SubS.cons rfl (SubS.cons rfl (SubS.cons rfl SubS.nil)))) rfl rfl rfl rfl rfl (.inl rfl) hcallOk62 (r' := .u _) rfl rfl Taken.no) rfl rfl (S' := (0, .cells _ [.own 1]) :: (1, .mp _) :: (2, .cells _ [.u _]) :: (3, .cells _ [.u _]) :: _) rfl ?_
  refine E.fo ?_
  first | refine W.cond_d rfl (fun hc2 => ?_) (fun hc2 => ?_) | refine W.cond_nd rfl (fun hc2 => ?_) (fun hc2 => ?_) | refine W.cond rfl (fun hc2 => ?_) (fun hc2 => ?_)
  ·skip
   refine W.rg (SL.mv rfl rfl (SL.an rfl rfl (E.fo (W.ret ?_))))
   refine E.inr ?_
   refine E.thr (E.thr ?_)
   refine E.inr ?_
   refine E.thr ?_
   refine E.fin (rs := [_]) (rn []) (.inl rfl) rfl (.cons (ResOne.tmp rfl) .nil) ?_ ?_ rfl (fixL_spec rfl)
   ·skip
    exact iv_int (idxF_here (p := homQ rs atm nm g j c) (by omega) hp (by first | assumption | exact decide_eq_true (by assumption)))
   · exact (SubS.cons rfl (SubS.cons rfl (SubS.cons rfl (SubS.cons rfl SubS.nil))))
  refine W.skip (E.inn (E.to (W.region ?_)))
  refine SL.val (O.det (fun _ => by first | exact G.R.add64 rfl rfl (by omega) | exact G.R.add rfl rfl) rfl Taken.no) ?_
  refine SL.mv rfl rfl (SL.nil ?_)
  refine E.again ((k + 1)) (rn []) ?_ ?_ rfl (fixL_spec rfl) ?_ ?_
  · exact (SubF.cons rfl (SubF.cons rfl (SubF.cons rfl (SubF.cons rfl SubF.nil))))
  · exact (SubS.cons rfl (SubS.cons rfl (SubS.cons rfl (SubS.cons rfl SubS.nil))))
  ·try dsimp only
   exact ⟨by omega, fun i hi => by rcases Nat.lt_succ_iff_lt_or_eq.1 hi with h | h; exact hp i h; subst h; simp_all⟩
  · (try dsimp only); omega
 refine W.exit (E.th (E.th (E.hit (E.to (W.rg (SL.an rfl rfl (E.fo (W.ret ?_))))))))
 refine E.fin (rs := [_]) (rn []) (.inl rfl) rfl (.cons (ResOne.tmp rfl) .nil) ?_ ?_ rfl (fixL_spec rfl)
 ·skip
  exact iv_int (idxF_none (p := homQ rs atm nm g j c) (by omega) hp)
 · exact (SubS.cons rfl (SubS.cons rfl (SubS.cons rfl (SubS.cons rfl SubS.nil))))

set_option maxRecDepth 8000 in
theorem containsFuncH {n : Nat} {ps : List Pr} {rs : List Ru} {atm nm g : List Nat} {c j : Nat} {q : List Nat} (hf : (Prob.mk (n : Int) ps rs).formed) (hal : atm.length = n) (hj : j < nm.length) :
    Con Try.prog 51 [vL 1 (q.map eN), .clo (.func 62) [] [.ref 0 0, .ref 2 0, .u (.ptr [uI (n : Int), .sl 3 (ps.map ePr), .sl 3 (rs.map eRu)]), .u (.ptr [.sl 1 (atm.map eN)]), .u (.ptr [.sl 1 (nm.map eN)]), .ref 3 0]] [(0, .cells 80 [.own 1]), (1, .mp (mpE (fun a : Int => Value.int .i64 a) (fun a : Int => Value.int .i64 a) (mpH nm g))), (2, .cells 3 [.u (uI (c : Int))]), (3, .cells 3 [.u (uI (j : Int))])] (vB (q.any (homQ rs atm nm g j c))) [(0, .cells 80 [.own 1]), (1, .mp (mpE (fun a : Int => Value.int .i64 a) (fun a : Int => Value.int .i64 a) (mpH nm g))), (2, .cells 3 [.u (uI (c : Int))]), (3, .cells 3 [.u (uI (j : Int))])] := by
 refine Con.enterL (n := 9) Try.func51 rfl rfl rfl (fun τ w ok vs hin => ?_)
 have hl0 := hin.len (i := 0) rfl
 try rw [List.length_map] at hl0
 clear hin
 refine W.rg (SL.an rfl rfl (E.fo (W.rg (SL.mv rfl rfl (SL.mv rfl rfl ?_)))))
 refine SL.memS (O.call (rn [(0, 0), (1, 1), (2, 2), (3, 3)]) [] rfl rfl rfl (indexFuncH (g := g) (c := c) (q := q) hf hal hj) (.cons (ArgOk.same rfl) (.cons (ArgOk.same rfl) .nil)) (SubS.cons rfl (SubS.cons rfl (SubS.cons rfl (SubS.cons rfl SubS.nil)))) rfl rfl rfl rfl rfl (.inl rfl) hcallOk70 (r' := .u _) rfl rfl Taken.no) rfl rfl (S' := (0, .cells _ [.own 1]) :: (1, .mp _) :: (2, .cells _ [.u _]) :: (3, .cells _ [.u _]) :: _) rfl ?_
 refine SL.val (O.det (fun _ => G.R.geq rfl rfl) rfl Taken.no) ?_
 refine SL.an rfl rfl (E.fo (W.ret ?_))
 refine E.fin (rs := [_]) (rn []) (.inl rfl) rfl (.cons (ResOne.tmp rfl) .nil) ?_ ?_ rfl (fixL_spec rfl)
 ·skip
  exact iv_bool any_any.symm
 · exact (SubS.cons rfl (SubS.cons rfl (SubS.cons rfl (SubS.cons rfl SubS.nil))))

end Go.Proofs.Ytbkbeplddddgeaa
end
section
namespace Go.Proofs.Ytbkbeplddddgeaa
open Go Go.RowKit Go.H Go.D33

theorem hcallOk30 : G.callOk Try.prog 30 = true := by kernel_rfl
theorem hcallOk36 : G.callOk Try.prog 36 = true := by kernel_rfl
theorem hcallOk37 : G.callOk Try.prog 37 = true := by kernel_rfl
theorem hcallOk42 : G.callOk Try.prog 42 = true := by kernel_rfl
theorem hcallOk49 : G.callOk Try.prog 49 = true := by kernel_rfl
theorem hcallOk61 : G.callOk Try.prog 61 = true := by kernel_rfl
theorem hcallOk63 : G.callOk Try.prog 63 = true := by kernel_rfl
theorem hcallOk77 : G.callOk Try.prog 77 = true := by kernel_rfl

set_option maxRecDepth 8000 in
theorem isNaN_h {a : Int} :
    Con Try.prog 77 [vI a] [] (vB false) [] := by
 refine Con.enterL (n := 6) Try.func77 rfl rfl rfl (fun τ w ok vs hin => ?_)
 clear hin
 refine W.rg (SL.an rfl rfl (E.fo (W.rg (SL.mv rfl rfl (SL.mv rfl rfl ?_)))))
 refine SL.val (O.det (fun _ => G.R.mv (G.R.neq rfl rfl) (congrArg Value.bool (decide_eq_false (by simp)))) rfl Taken.no) ?_
 refine SL.an rfl rfl (E.fo (W.ret ?_))
 refine E.fin (rs := [_]) (rn []) (.inl rfl) rfl (.cons (ResOne.tmp rfl) .nil) ?_ ?_ rfl (fixL_spec rfl)
 ·skip
  rfl
 · exact SubS.nil

set_option maxRecDepth 8000 in
theorem cmpCompare_h {a b : Int} :
    Con Try.prog 63 [vI a, vI b] [] (vI (cmpI a b)) [] := by
 refine Con.enterL (n := 20) Try.func63 rfl rfl rfl (fun τ w ok vs hin => ?_)
 clear hin
 refine W.rg (SL.an rfl rfl (E.fo (W.rg (SL.mv rfl rfl ?_))))
 refine SL.val (O.callp rfl rfl rfl (isNaN_h) (.cons (ArgOk.same rfl) .nil) hcallOk77 rfl Taken.no) ?_
 refine SL.an rfl rfl (E.fo (W.rg (SL.mv rfl rfl ?_)))
 refine SL.val (O.callp rfl rfl rfl (isNaN_h) (.cons (ArgOk.same rfl) .nil) hcallOk77 rfl Taken.no) ?_
 refine SL.an rfl rfl (E.fo (W.seq (W.rg (SL.mv rfl rfl (E.fo ?_)))))
 refine W.cond_f rfl ?_
 refine W.skip (E.to (W.seq (W.rg (SL.mv rfl rfl (E.fo ?_)))))
 refine W.cond_f rfl ?_
 refine W.skip (E.to (W.seq (W.rg (SL.mv rfl rfl (SL.mv rfl rfl ?_)))))
 refine SL.val (O.det (fun _ => G.R.lss rfl rfl) rfl Taken.no) ?_
 refine E.fo ?_
 first | refine W.cond_d rfl (fun hc1 => ?_) (fun hc1 => ?_) | refine W.cond_nd rfl (fun hc1 => ?_) (fun hc1 => ?_) | refine W.cond rfl (fun hc1 => ?_) (fun hc1 => ?_)
 ·skip
  refine W.rg (SL.an rfl rfl (E.fo (W.ret (E.thr ?_))))
  refine E.fin (rs := [_]) (rn []) (.inl rfl) rfl (.cons (ResOne.tmp rfl) .nil) ?_ ?_ rfl (fixL_spec rfl)
  ·skip
   exact iv_int (cmpI_lt (by assumption))
  · exact SubS.nil
 refine W.skip (E.to (W.seq (W.rg (SL.mv rfl rfl (SL.mv rfl rfl ?_)))))
 refine SL.val (O.det (fun _ => G.R.gtr rfl rfl) rfl Taken.no) ?_
 refine E.fo ?_
 first | refine W.cond_d rfl (fun hc2 => ?_) (fun hc2 => ?_) | refine W.cond_nd rfl (fun hc2 => ?_) (fun hc2 => ?_) | refine W.cond rfl (fun hc2 => ?_) (fun hc2 => ?_)
 ·skip
  refine W.rg (SL.an rfl rfl (E.fo (W.ret (E.thr ?_))))
  refine E.fin (rs := [_]) (rn []) (.inl rfl) rfl (.cons (ResOne.tmp rfl) .nil) ?_ ?_ rfl (fixL_spec rfl)
  ·skip
   exact iv_int (cmpI_gt (by assumption))
  · exact SubS.nil
 refine W.skip (E.to (W.rg (SL.an rfl rfl (E.fo (W.ret ?_)))))
 refine E.fin (rs := [_]) (rn []) (.inl rfl) rfl (.cons (ResOne.tmp rfl) .nil) ?_ ?_ rfl (fixL_spec rfl)
 ·skip
  exact iv_int (cmpI_eq (by assumption) (by assumption))
 · exact SubS.nil

set_option maxRecDepth 8000 in
theorem sCompare_h {x y : List Nat} :
    Con Try.prog 37 [vL 1 (x.map eN), vL 1 (y.map eN)] [] (vI (cmpL x y)) [] := by
 obtain ⟨i3, hi3, hz3, hs3, hb3⟩ := hinf3
 refine Con.enterL (n := 36) Try.func37 rfl rfl rfl (fun τ w ok vs hin => ?_)
 have hl0 := hin.len (i := 0) rfl
 try rw [List.length_map] at hl0
 have hl1 := hin.len (i := 1) rfl
 try rw [List.length_map] at hl1
 clear hin
 refine W.rg (SL.an rfl rfl (E.fo (W.seq (W.rg (SL.mv rfl rfl ?_)))))
 refine SL.val (O.lenE (SlOf.fz rfl (by decide)) (by first | exact List.length_map _ | rfl) Try.underlying32 rfl Taken.no) ?_
 refine SL.mv rfl rfl (E.fo (W.block ?_))
 refine W.loopx1 (fun (k : Nat) => [(11, vI (k : Int))]) (fun (k : Nat) => []) (fun (k : Nat) => k ≤ x.length ∧ k ≤ y.length ∧ ∀ i, i < k → x[i]! = y[i]!) (fun (k : Nat) => x.length - k) (0) (rn []) (.cons (t := 0) rfl (.cons (t := 1) rfl (.cons (t := 9) rfl (.cons (t := 10) rfl .nil)))) .nil rfl ?_ ?_ rfl rfl ?_ ?_
 · exact (SubF.cons rfl SubF.nil)
 · exact SubS.nil
 ·skip
  exact ⟨by omega, by omega, fun i h => by omega⟩
 intro k hinv
 obtain ⟨hk, hky, hp⟩ := hinv
 refine W.rg ?_
 refine SL.val (O.det (fun _ => G.R.lss rfl rfl) rfl Taken.no) ?_
 refine E.fo (W.seq ?_)
 first | refine W.cond_d rfl (fun hc1 => ?_) (fun hc1 => ?_) | refine W.cond_nd rfl (fun hc1 => ?_) (fun hc1 => ?_) | refine W.cond rfl (fun hc1 => ?_) (fun hc1 => ?_)
 ·skip
  refine W.skip (E.to (W.seq (W.block (W.rg (SL.mv rfl rfl ?_)))))
  refine SL.val (O.idx_fz rfl rfl (rfl) (row_get (by omega)) Try.underlying32 hi3 hs3 rfl Taken.no) ?_
  refine SL.val (O.ld1 (PtI.ofU (PtU.fz rfl)) rfl Try.underlying3 rfl rfl Taken.no) ?_
  refine SL.an rfl rfl (SL.an rfl rfl (E.fo (W.seq (W.rg (SL.mv rfl rfl (SL.mv rfl rfl ?_))))))
  refine SL.val (O.lenE (SlOf.fz rfl (by decide)) (by first | exact List.length_map _ | rfl) Try.underlying32 rfl Taken.no) ?_
  refine SL.val (O.det (fun _ => G.R.geq rfl rfl) rfl Taken.no) ?_
  refine E.fo ?_
  first | refine W.cond_d rfl (fun hc2 => ?_) (fun hc2 => ?_) | refine W.cond_nd rfl (fun hc2 => ?_) (fun hc2 => ?_) | refine W.cond rfl (fun hc2 => ?_) (fun hc2 => ?_)
  ·skip
   refine W.rg (SL.an rfl rfl (E.fo (W.ret (E.thr ?_))))
   refine E.inr ?_
   refine E.thr (E.thr ?_)
   refine E.inr ?_
   refine E.thr ?_
   refine E.fin (rs := [_]) (rn []) (.inl rfl) rfl (.cons (ResOne.tmp rfl) .nil) ?_ ?_ rfl (fixL_spec rfl)
   ·skip
    exact iv_int (cmpL_long (k := k) (by omega) (by omega) hp)
   · exact SubS.nil
  refine W.skip (E.to (W.rg (SL.mv rfl rfl (SL.mv rfl rfl ?_))))
  refine SL.val (O.idx_fz rfl rfl (rfl) (row_get (by omega)) Try.underlying32 hi3 hs3 rfl Taken.no) ?_
  refine SL.val (O.ld1 (PtI.ofU (PtU.fz rfl)) rfl Try.underlying3 rfl rfl Taken.no) ?_
  refine SL.an rfl rfl (E.fo (W.rg (SL.mv rfl rfl (SL.mv rfl rfl ?_))))
  refine SL.val (O.callp rfl rfl rfl (cmpCompare_h) (.cons (ArgOk.same rfl) (.cons (ArgOk.same rfl) .nil)) hcallOk63 rfl Taken.no) ?_
  refine SL.an rfl rfl (E.fo (W.rg (SL.mv rfl rfl ?_)))
  refine SL.val (O.det (fun _ => G.R.neq rfl rfl) rfl Taken.no) ?_
  refine E.fo ?_
  refine W.pick (K:=[(0,_),(1,_),(8,_),(9,_),(10,_),(11,_),(28,_)]) (Z:=[]) ⟨rfl,rfl,rfl,rfl,rfl,rfl,rfl,trivial⟩ trivial ?_
  first | refine W.cond_d rfl (fun hc3 => ?_) (fun hc3 => ?_) | refine W.cond_nd rfl (fun hc3 => ?_) (fun hc3 => ?_) | refine W.cond rfl (fun hc3 => ?_) (fun hc3 => ?_)
  ·skip
   refine W.rg (SL.mv rfl rfl (SL.an rfl rfl (E.fo (W.ret ?_))))
   refine E.inr ?_
   refine E.thr (E.thr ?_)
   refine E.inr ?_
   refine E.thr ?_
   refine E.fin (rs := [_]) (rn []) (.inl rfl) rfl (.cons (ResOne.tmp rfl) .nil) ?_ ?_ rfl (fixL_spec rfl)
   ·skip
    exact iv_int (cmpL_here (k := k) (by omega) (by omega) hp (by first | assumption | omega))
   · exact SubS.nil
  refine W.skip (E.inn (E.to (W.region ?_)))
  refine SL.val (O.det (fun _ => by first | exact G.R.add64 rfl rfl (by omega) | exact G.R.add rfl rfl) rfl Taken.no) ?_
  refine SL.mv rfl rfl (SL.nil ?_)
  refine E.again ((k + 1)) (rn []) ?_ ?_ rfl (fixL_spec rfl) ?_ ?_
  · exact (SubF.cons rfl (SubF.cons rfl (SubF.cons rfl (SubF.cons rfl (SubF.cons rfl SubF.nil)))))
  · exact SubS.nil
  ·try dsimp only
   have hz : cmpI (x[k]! : Int) (y[k]! : Int) = 0 := by first | assumption | omega | simp_all
   have hz2 := cmpI_zero.1 hz
   exact ⟨by omega, by omega, fun i hi => by rcases Nat.lt_succ_iff_lt_or_eq.1 hi with h | h; exact hp i h; subst h; omega⟩
  · (try dsimp only); omega
 refine W.exit (E.th (E.th (E.hit (E.to (W.seq (W.rg (SL.mv rfl rfl ?_)))))))
 refine SL.val (O.lenE (SlOf.fz rfl (by decide)) (by first | exact List.length_map _ | rfl) Try.underlying32 rfl Taken.no) ?_
 refine SL.mv rfl rfl ?_
 refine SL.val (O.lenE (SlOf.fz rfl (by decide)) (by first | exact List.length_map _ | rfl) Try.underlying32 rfl Taken.no) ?_
 refine SL.val (O.det (fun _ => G.R.lss rfl rfl) rfl Taken.no) ?_
 refine E.fo ?_
 first | refine W.cond_d rfl (fun hc4 => ?_) (fun hc4 => ?_) | refine W.cond_nd rfl (fun hc4 => ?_) (fun hc4 => ?_) | refine W.cond rfl (fun hc4 => ?_) (fun hc4 => ?_)
 ·skip
  refine W.rg (SL.an rfl rfl (E.fo (W.ret (E.thr ?_))))
  refine E.fin (rs := [_]) (rn []) (.inl rfl) rfl (.cons (ResOne.tmp rfl) .nil) ?_ ?_ rfl (fixL_spec rfl)
  ·skip
   exact iv_int (cmpL_short (k := k) (by omega) (by omega) hp)
  · exact SubS.nil
 refine W.skip (E.to (W.rg (SL.an rfl rfl (E.fo (W.ret ?_)))))
 refine E.fin (rs := [_]) (rn []) (.inl rfl) rfl (.cons (ResOne.tmp rfl) .nil) ?_ ?_ rfl (fixL_spec rfl)
 ·skip
  exact iv_int (cmpL_same (k := k) (by omega) (by omega) hp)
 · exact SubS.nil

set_option maxRecDepth 8000 in
theorem best1_h {ps : List Pr} {s : BS} {m : List Nat} :
    Con Try.prog 36 [vL 1 (m.map eN), vI (valR m ps), .ref 0 0, .ref 1 0, .ref 2 0] [(0, .cells 4 [.u (uB s.any)]), (1, .cells 3 [.u (uI s.most)]), (2, .cells 32 [.u (.sl 1 (s.best.map eN))])] (.tup []) [(0, .cells 4 [.u (uB (bsF ps s m).any)]), (1, .cells 3 [.u (uI (bsF ps s m).most)]), (2, .cells 32 [.u (.sl 1 ((bsF ps s m).best.map eN))])] := by
 refine Con.enterL (n := 27) Try.func36 rfl rfl rfl (fun τ w ok vs hin => ?_)
 have hl0 := hin.len (i := 0) rfl
 try rw [List.length_map] at hl0
 clear hin
 refine W.rg ?_
 refine SL.val (O.ld1 (PtI.ref rfl rfl) rfl Try.underlying4 rfl rfl Taken.no) ?_
 refine SL.val (O.det (fun _ => G.R.not rfl) rfl Taken.no) ?_
 refine SL.mv rfl rfl ?_
 refine SL.case (j := 2) (g := 9) (want := false) rfl rfl (fun hg1 => ?_) (fun hg1 => ?_)
 ·skip
  first | have hg1p := G.gA3 hg1 | have hg1p := G.gA4 hg1 | have hg1p := hg1
  refine SL.val (O.move rfl rfl (Taken.yes rfl rfl hg1)) ?_
  refine SL.val (O.ld1 (PtI.ref rfl rfl) rfl Try.underlying3 rfl rfl (Taken.yes rfl rfl hg1)) ?_
  refine SL.val (O.det (fun _ => G.R.gtr rfl rfl) rfl (Taken.yes rfl rfl hg1)) ?_
  refine SL.val (O.pick_f rfl hg1 rfl rfl Taken.no) ?_
  refine SL.mv rfl rfl ?_
  refine SL.case (j := 7) (g := 14) (want := false) rfl rfl (fun hg2 => ?_) (fun hg2 => ?_)
  ·skip
   first | have hg2p := G.gA3 hg2 | have hg2p := G.gA4 hg2 | have hg2p := hg2
   refine SL.val (O.move rfl rfl (Taken.yes rfl rfl hg2)) ?_
   refine SL.val (O.ld1 (PtI.ref rfl rfl) rfl Try.underlying3 rfl rfl (Taken.yes rfl rfl hg2)) ?_
   refine SL.val (O.det (fun _ => G.R.eql rfl rfl) rfl (Taken.yes rfl rfl hg2)) ?_
   refine SL.val (O.move rfl rfl (Taken.yes rfl rfl hg2)) ?_
   refine SL.case (j := 11) (g := 18) (want := true) rfl rfl (fun hg3 => ?_) (fun hg3 => ?_)
   ·skip
    first | have hg3p := G.gA1 hg3 | have hg3p := G.gA2 hg3 | have hg3p := hg3
    refine SL.val (O.move rfl rfl (Taken.yes rfl rfl hg3)) ?_
    refine SL.val (O.ld1 (PtI.ref rfl rfl) rfl Try.underlying32 rfl rfl (Taken.yes rfl rfl hg3)) ?_
    refine SL.val (O.callp rfl rfl rfl (sCompare_h (x := m) (y := s.best)) (.cons (ArgOk.same rfl) (.cons (ArgOk.same rfl) .nil)) hcallOk37 rfl (Taken.yes rfl rfl hg3)) ?_
    refine SL.val (O.det (fun _ => G.R.lss rfl rfl) rfl (Taken.yes rfl rfl hg3)) ?_
    refine SL.val (O.pick_t rfl hg3 rfl rfl (Taken.yes rfl rfl hg2)) ?_
    refine SL.val (O.pick_f rfl hg2 rfl rfl Taken.no) ?_
    refine E.fo ?_
    first | refine W.cond_d rfl (fun hc4 => ?_) (fun hc4 => ?_) | refine W.cond_nd rfl (fun hc4 => ?_) (fun hc4 => ?_) | refine W.cond rfl (fun hc4 => ?_) (fun hc4 => ?_)
    ·skip
     refine W.region (SL.mv rfl rfl (SL.mv rfl rfl ?_))
     refine SL.effS (O.st_ref (m := 1) rfl rfl rfl (js := [_]) rfl rfl (by kernel_rfl) (by simp) (Nat.le_of_ble_eq_true rfl) rfl (is' := [_]) rfl Taken.no) (S' := (2, _) :: _) rfl ?_
     refine SL.effS (O.st_ref (m := 1) rfl rfl rfl (js := [_]) rfl rfl (by kernel_rfl) (by simp) (Nat.le_of_ble_eq_true rfl) rfl (is' := [_]) rfl Taken.no) (S' := (1, _) :: _) rfl ?_
     refine SL.effS (O.st_ref (m := 1) rfl rfl rfl (js := [_]) rfl rfl (by kernel_rfl) (by simp) (Nat.le_of_ble_eq_true rfl) rfl (is' := [_]) rfl Taken.no) (S' := (0, _) :: _) rfl ?_
     refine SL.nil ?_
     refine E.fin (rs := []) (rn []) (.inr rfl) rfl .nil ?_ ?_ rfl (fixL_spec rfl)
     ·skip
      rfl
     · exact (SubS.val rfl (by first | (rw [show bsF ps s m = ⟨true, valR m ps, m⟩ from if_pos (by unfold bsW; simp_all)]; rfl) | (rw [show bsF ps s m = s from if_neg (by unfold bsW; simp_all)]; rfl)) (SubS.val rfl (by first | (rw [show bsF ps s m = ⟨true, valR m ps, m⟩ from if_pos (by unfold bsW; simp_all)]; rfl) | (rw [show bsF ps s m = s from if_neg (by unfold bsW; simp_all)]; rfl)) (SubS.val rfl (by first | (rw [show bsF ps s m = ⟨true, valR m ps, m⟩ from if_pos (by unfold bsW; simp_all)]; rfl) | (rw [show bsF ps s m = s from if_neg (by unfold bsW; simp_all)]; rfl)) SubS.nil)))
    refine W.skip ?_
    refine E.fin (rs := []) (rn []) (.inr rfl) rfl .nil ?_ ?_ rfl (fixL_spec rfl)
    ·skip
     rfl
    · exact (SubS.val rfl (by first | (rw [show bsF ps s m = ⟨true, valR m ps, m⟩ from if_pos (by unfold bsW; simp_all)]; rfl) | (rw [show bsF ps s m = s from if_neg (by unfold bsW; simp_all)]; rfl)) (SubS.val rfl (by first | (rw [show bsF ps s m = ⟨true, valR m ps, m⟩ from if_pos (by unfold bsW; simp_all)]; rfl) | (rw [show bsF ps s m = s from if_neg (by unfold bsW; simp_all)]; rfl)) (SubS.val rfl (by first | (rw [show bsF ps s m = ⟨true, valR m ps, m⟩ from if_pos (by unfold bsW; simp_all)]; rfl) | (rw [show bsF ps s m = s from if_neg (by unfold bsW; simp_all)]; rfl)) SubS.nil)))
   first | have hg3p := G.gA5 hg3 | have hg3p := G.gA6 hg3 | have hg3p := hg3
   refine SL.sk rfl rfl rfl hg3 (SL.sk rfl rfl rfl hg3 (SL.sk rfl rfl rfl hg3 (SL.sk rfl rfl rfl hg3 ?_)))
   refine SL.val (O.pick_f rfl (G.ne_t hg3) rfl rfl (Taken.yes rfl rfl hg2)) ?_
   refine SL.val (O.pick_f rfl hg2 rfl rfl Taken.no) ?_
   refine E.fo ?_
   refine W.cond_f rfl ?_
   refine W.skip ?_
   refine E.fin (rs := []) (rn []) (.inr rfl) rfl .nil ?_ ?_ rfl (fixL_spec rfl)
   ·skip
    rfl
   · exact (SubS.val rfl (by first | (rw [show bsF ps s m = ⟨true, valR m ps, m⟩ from if_pos (by unfold bsW; simp_all)]; rfl) | (rw [show bsF ps s m = s from if_neg (by unfold bsW; simp_all)]; rfl)) (SubS.val rfl (by first | (rw [show bsF ps s m = ⟨true, valR m ps, m⟩ from if_pos (by unfold bsW; simp_all)]; rfl) | (rw [show bsF ps s m = s from if_neg (by unfold bsW; simp_all)]; rfl)) (SubS.val rfl (by first | (rw [show bsF ps s m = ⟨true, valR m ps, m⟩ from if_pos (by unfold bsW; simp_all)]; rfl) | (rw [show bsF ps s m = s from if_neg (by unfold bsW; simp_all)]; rfl)) SubS.nil)))
  first | have hg2p := G.gA7 hg2 | have hg2p := G.gA8 hg2 | have hg2p := hg2
  refine SL.sk rfl rfl rfl hg2 (SL.sk rfl rfl rfl hg2 (SL.sk rfl rfl rfl hg2 (SL.sk rfl rfl rfl hg2 ?_)))
  refine SL.skip (OpOk.not2 rfl rfl rfl) ?_
  refine SL.skip (OpOk.not2 rfl rfl rfl) ?_
  refine SL.skip (OpOk.not2 rfl rfl rfl) ?_
  refine SL.skip (OpOk.not2 rfl rfl rfl) ?_
  refine SL.sk rfl rfl rfl hg2 ?_
  refine SL.val (O.pick_t rfl (G.ne_f hg2) rfl rfl Taken.no) ?_
  refine E.fo ?_
  refine W.cond_t rfl ?_
  refine W.region (SL.mv rfl rfl (SL.mv rfl rfl ?_))
  refine SL.effS (O.st_ref (m := 1) rfl rfl rfl (js := [_]) rfl rfl (by kernel_rfl) (by simp) (Nat.le_of_ble_eq_true rfl) rfl (is' := [_]) rfl Taken.no) (S' := (2, _) :: _) rfl ?_
  refine SL.effS (O.st_ref (m := 1) rfl rfl rfl (js := [_]) rfl rfl (by kernel_rfl) (by simp) (Nat.le_of_ble_eq_true rfl) rfl (is' := [_]) rfl Taken.no) (S' := (1, _) :: _) rfl ?_
  refine SL.effS (O.st_ref (m := 1) rfl rfl rfl (js := [_]) rfl rfl (by kernel_rfl) (by simp) (Nat.le_of_ble_eq_true rfl) rfl (is' := [_]) rfl Taken.no) (S' := (0, _) :: _) rfl ?_
  refine SL.nil ?_
  refine E.fin (rs := []) (rn []) (.inr rfl) rfl .nil ?_ ?_ rfl (fixL_spec rfl)
  ·skip
   rfl
  · exact (SubS.val rfl (by first | (rw [show bsF ps s m = ⟨true, valR m ps, m⟩ from if_pos (by unfold bsW; simp_all)]; rfl) | (rw [show bsF ps s m = s from if_neg (by unfold bsW; simp_all)]; rfl)) (SubS.val rfl (by first | (rw [show bsF ps s m = ⟨true, valR m ps, m⟩ from if_pos (by unfold bsW; simp_all)]; rfl) | (rw [show bsF ps s m = s from if_neg (by unfold bsW; simp_all)]; rfl)) (SubS.val rfl (by first | (rw [show bsF ps s m = ⟨true, valR m ps, m⟩ from if_pos (by unfold bsW; simp_all)]; rfl) | (rw [show bsF ps s m = s from if_neg (by unfold bsW; simp_all)]; rfl)) SubS.nil)))
 first | have hg1p := G.gA7 hg1 | have hg1p := G.gA8 hg1 | have hg1p := hg1
 refine SL.sk rfl rfl rfl hg1 (SL.sk rfl rfl rfl hg1 (SL.sk rfl rfl rfl hg1 ?_))
 refine SL.val (O.pick_t rfl (G.ne_f hg1) rfl rfl Taken.no) ?_
 refine SL.mv rfl rfl ?_
 have hg5 : true ≠ false := by decide
 refine SL.sk rfl rfl rfl hg5 (SL.sk rfl rfl rfl hg5 (SL.sk rfl rfl rfl hg5 (SL.sk rfl rfl rfl hg5 ?_)))
 refine SL.skip (OpOk.not2 rfl rfl rfl) ?_
 refine SL.skip (OpOk.not2 rfl rfl rfl) ?_
 refine SL.skip (OpOk.not2 rfl rfl rfl) ?_
 refine SL.skip (OpOk.not2 rfl rfl rfl) ?_
 refine SL.sk rfl rfl rfl hg5 ?_
 refine SL.val (O.pick_t rfl rfl rfl rfl Taken.no) ?_
 refine E.fo ?_
 refine W.cond_t rfl ?_
 refine W.region (SL.mv rfl rfl (SL.mv rfl rfl ?_))
 refine SL.effS (O.st_ref (m := 1) rfl rfl rfl (js := [_]) rfl rfl (by kernel_rfl) (by simp) (Nat.le_of_ble_eq_true rfl) rfl (is' := [_]) rfl Taken.no) (S' := (2, _) :: _) rfl ?_
 refine SL.effS (O.st_ref (m := 1) rfl rfl rfl (js := [_]) rfl rfl (by kernel_rfl) (by simp) (Nat.le_of_ble_eq_true rfl) rfl (is' := [_]) rfl Taken.no) (S' := (1, _) :: _) rfl ?_
 refine SL.effS (O.st_ref (m := 1) rfl rfl rfl (js := [_]) rfl rfl (by kernel_rfl) (by simp) (Nat.le_of_ble_eq_true rfl) rfl (is' := [_]) rfl Taken.no) (S' := (0, _) :: _) rfl ?_
 refine SL.nil ?_
 refine E.fin (rs := []) (rn []) (.inr rfl) rfl .nil ?_ ?_ rfl (fixL_spec rfl)
 ·skip
  rfl
 · exact (SubS.val rfl (by first | (rw [show bsF ps s m = ⟨true, valR m ps, m⟩ from if_pos (by unfold bsW; simp_all)]; rfl) | (rw [show bsF ps s m = s from if_neg (by unfold bsW; simp_all)]; rfl)) (SubS.val rfl (by first | (rw [show bsF ps s m = ⟨true, valR m ps, m⟩ from if_pos (by unfold bsW; simp_all)]; rfl) | (rw [show bsF ps s m = s from if_neg (by unfold bsW; simp_all)]; rfl)) (SubS.val rfl (by first | (rw [show bsF ps s m = ⟨true, valR m ps, m⟩ from if_pos (by unfold bsW; simp_all)]; rfl) | (rw [show bsF ps s m = s from if_neg (by unfold bsW; simp_all)]; rfl)) SubS.nil)))

set_option maxRecDepth 8000 in
theorem count1_h {c : Nat} {v : Int} {m : List Nat} (hc : c ≤ 1000000) :
    Con Try.prog 42 [vL 1 (m.map eN), vI v, .ref 0 0] [(0, .cells 3 [.u (uI ((c : Nat) : Int))])] (.tup []) [(0, .cells 3 [.u (uI (((c + 1) : Nat) : Int))])] := by
 refine Con.enterL (n := 7) Try.func42 rfl rfl rfl (fun τ w ok vs hin => ?_)
 have hl0 := hin.len (i := 0) rfl
 try rw [List.length_map] at hl0
 clear hin
 refine W.region ?_
 refine SL.val (O.ld1 (PtI.ref rfl rfl) rfl Try.underlying3 rfl rfl Taken.no) ?_
 refine SL.val (O.det (fun _ => by first | exact G.R.add64 rfl rfl (by omega) | exact G.R.add rfl rfl) rfl Taken.no) ?_
 refine SL.effS (O.st_ref (m := 1) rfl rfl rfl (js := [_]) rfl rfl (by kernel_rfl) (by simp) (Nat.le_of_ble_eq_true rfl) rfl (is' := [_]) rfl Taken.no) (S' := (0, _) :: _) rfl ?_
 refine SL.nil ?_
 refine E.fin (rs := []) (rn []) (.inr rfl) rfl .nil ?_ ?_ rfl (fixL_spec rfl)
 ·skip
  rfl
 · exact (SubS.cons rfl SubS.nil)

set_option maxRecDepth 8000 in
set_option maxHeartbeats 1600000 in
theorem eachB_step {n : Nat} {ps : List Pr} {rs : List Ru} {atm nm : List Nat} {d j : Nat} {h : List Nat} {s : BS} (hok : (Prob.mk (n : Int) ps rs).ok) (hal : atm.length = n) (N : Nms n atm nm) (hj : j + d = nm.length) (hhl : h.length = j) (ih : ∀ d', d = d' + 1 → ∀ (v : Nat) (t : BS), Con Try.prog 61 [vI ((j : Int) + 1), .u (.ptr [.sl 1 (nm.map eN)]), .u (.ptr [uI (n : Int), .sl 3 (ps.map ePr), .sl 3 (rs.map eRu)]), .u (.ptr [.sl 1 (atm.map eN)]), .ref 0 0, .ref 2 0, .ref 3 0] [(0, .cells 80 [.own 1]), (1, .mp (mpE (fun a : Int => Value.int .i64 a) (fun a : Int => Value.int .i64 a) (mpH nm (h ++ [v])))), (2, .cells 67 [.clo (.func 36) [] [.ref 4 0, .ref 5 0, .ref 6 0]]), (3, .cells 96 [.clo (.func 61) [] [.u (.ptr [.sl 1 (nm.map eN)]), .u (.ptr [uI (n : Int), .sl 3 (ps.map ePr), .sl 3 (rs.map eRu)]), .u (.ptr [.sl 1 (atm.map eN)]), .ref 0 0, .ref 2 0, .ref 3 0]]), (4, .cells 4 [.u (uB t.any)]), (5, .cells 3 [.u (uI t.most)]), (6, .cells 32 [.u (.sl 1 (t.best.map eN))])] (.tup []) [(0, .cells 80 [.own 1]), (1, .mp (mpE (fun a : Int => Value.int .i64 a) (fun a : Int => Value.int .i64 a) (mpH nm (h ++ [v])))), (2, .cells 67 [.clo (.func 36) [] [.ref 4 0, .ref 5 0, .ref 6 0]]), (3, .cells 96 [.clo (.func 61) [] [.u (.ptr [.sl 1 (nm.map eN)]), .u (.ptr [uI (n : Int), .sl 3 (ps.map ePr), .sl 3 (rs.map eRu)]), .u (.ptr [.sl 1 (atm.map eN)]), .ref 0 0, .ref 2 0, .ref 3 0]]), (4, .cells 4 [.u (uB ((visP n ps rs atm nm d' (j + 1) (h ++ [v])).foldl (bsF ps) t).any)]), (5, .cells 3 [.u (uI ((visP n ps rs atm nm d' (j + 1) (h ++ [v])).foldl (bsF ps) t).most)]), (6, .cells 32 [.u (.sl 1 (((visP n ps rs atm nm d' (j + 1) (h ++ [v])).foldl (bsF ps) t).best.map eN))])]) :
    Con Try.prog 61 [vI (j : Int), .u (.ptr [.sl 1 (nm.map eN)]), .u (.ptr [uI (n : Int), .sl 3 (ps.map ePr), .sl 3 (rs.map eRu)]), .u (.ptr [.sl 1 (atm.map eN)]), .ref 0 0, .ref 2 0, .ref 3 0] [(0, .cells 80 [.own 1]), (1, .mp (mpE (fun a : Int => Value.int .i64 a) (fun a : Int => Value.int .i64 a) (mpH nm h))), (2, .cells 67 [.clo (.func 36) [] [.ref 4 0, .ref 5 0, .ref 6 0]]), (3, .cells 96 [.clo (.func 61) [] [.u (.ptr [.sl 1 (nm.map eN)]), .u (.ptr [uI (n : Int), .sl 3 (ps.map ePr), .sl 3 (rs.map eRu)]), .u (.ptr [.sl 1 (atm.map eN)]), .ref 0 0, .ref 2 0, .ref 3 0]]), (4, .cells 4 [.u (uB s.any)]), (5, .cells 3 [.u (uI s.most)]), (6, .cells 32 [.u (.sl 1 (s.best.map eN))])] (.tup []) [(0, .cells 80 [.own 1]), (1, .mp (mpE (fun a : Int => Value.int .i64 a) (fun a : Int => Value.int .i64 a) (mpH nm h))), (2, .cells 67 [.clo (.func 36) [] [.ref 4 0, .ref 5 0, .ref 6 0]]), (3, .cells 96 [.clo (.func 61) [] [.u (.ptr [.sl 1 (nm.map eN)]), .u (.ptr [uI (n : Int), .sl 3 (ps.map ePr), .sl 3 (rs.map eRu)]), .u (.ptr [.sl 1 (atm.map eN)]), .ref 0 0, .ref 2 0, .ref 3 0]]), (4, .cells 4 [.u (uB ((visP n ps rs atm nm d j h).foldl (bsF ps) s).any)]), (5, .cells 3 [.u (uI ((visP n ps rs atm nm d j h).foldl (bsF ps) s).most)]), (6, .cells 32 [.u (.sl 1 (((visP n ps rs atm nm d j h).foldl (bsF ps) s).best.map eN))])] := by
 have hf := hok.1
 have hn2 : (n : Int) ≤ 200 := hf.2.1
 have hnd := N.nodup
 have hql : nm.length ≤ 200 := by have := selfs_len n atm; rw [N.nm]; omega
 obtain ⟨i3, hi3, hz3, hs3, hb3⟩ := hinf3
 refine Con.enterL (n := 88) Try.func61 rfl rfl rfl (fun τ w ok vs hin => ?_)
 clear hin
 refine W.rg ?_
 refine SL.memS (O.box (is := [_]) 101 rfl rfl (by simp) rfl rfl Taken.no) rfl rfl (S' := (101, _) :: _) rfl ?_
 refine E.fo (W.seq (W.rg ?_))
 refine SL.val (O.ld1 (PtI.ref rfl rfl) rfl Try.underlying3 rfl rfl Taken.no) ?_
 refine SL.val (O.ld1 (PtI.ofU (PtU.fz rfl)) rfl Try.underlying32 rfl rfl Taken.no) ?_
 refine SL.val (O.lenE (SlOf.fz rfl (by decide)) (by first | exact List.length_map _ | rfl) Try.underlying32 rfl Taken.no) ?_
 refine SL.val (O.det (fun _ => G.R.eql rfl rfl) rfl Taken.no) ?_
 refine E.fo ?_
 first | refine W.cond_d rfl (fun hc1 => ?_) (fun hc1 => ?_) | refine W.cond_nd rfl (fun hc1 => ?_) (fun hc1 => ?_) | refine W.cond rfl (fun hc1 => ?_) (fun hc1 => ?_)
 ·skip
  obtain rfl : d = 0 := by omega
  have hjq : j = nm.length := by omega
  refine W.rg ?_
  refine SL.val (O.fld_fz rfl Try.underlying30 rfl (m := 0) (by kernel_rfl) rfl rfl Taken.no) ?_
  refine SL.val (O.ld1 (PtI.ofU (PtU.fz rfl)) rfl Try.underlying3 rfl rfl Taken.no) ?_
  refine SL.memS (O.make (m := n) (kk := 102) rfl rfl (by rfl) (by rfl) Try.underlying32 hi3 hz3 hs3 rfl rfl (by decide) rfl (by rw [hb3]; omega) (by omega) rfl Taken.no) rfl rfl (S' := (102, _) :: _) rfl ?_
  refine SL.an rfl rfl (E.fo (W.seq (W.rg ?_)))
  refine SL.val (O.ld1 (PtI.ofU (PtU.fz rfl)) rfl Try.underlying32 rfl rfl Taken.no) ?_
  refine SL.val (O.lenE (SlOf.fz rfl (by decide)) (by first | exact List.length_map _ | rfl) Try.underlying32 rfl Taken.no) ?_
  refine SL.mv rfl rfl (E.fo (W.block ?_))
  refine W.loopx1 (fun (u : Nat) => [(24, vI (u : Int)), (8, .own 103)]) (fun (u : Nat) => [(103, .data 3 1 ((luL atm nm u h ++ List.replicate (n - u) 0).map eN))]) (fun (u : Nat) => u ≤ n) (fun (u : Nat) => n - u) (0) (rn [(103, 102)]) (.cons (t := 1) rfl (.cons (t := 2) rfl (.cons (t := 3) rfl (.cons (t := 4) rfl (.cons (t := 5) rfl (.cons (t := 6) rfl (.cons (t := 7) rfl (.cons (t := 22) rfl (.cons (t := 23) rfl .nil))))))))) (.cons (t := 0) rfl (.cons (t := 1) rfl (.cons (t := 2) rfl (.cons (t := 3) rfl (.cons (t := 4) rfl (.cons (t := 5) rfl (.cons (t := 6) rfl (.cons (t := 101) rfl .nil)))))))) rfl ?_ ?_ rfl rfl ?_ ?_
  · exact (SubF.cons rfl (SubF.cons rfl SubF.nil))
  · exact (SubS.val rfl (by exact sb_data (by show _ = List.map eN (List.replicate n 0); rw [List.map_replicate]; rfl)) SubS.nil)
  ·skip
   omega
  intro u hinv
  have hu := hinv
  have hol : (luL atm nm u h ++ List.replicate (n - u) 0).length = n := by rw [List.length_append, luL_len, List.length_replicate]; omega
  refine W.rg ?_
  refine SL.val (O.det (fun _ => G.R.lss rfl rfl) rfl Taken.no) ?_
  refine E.fo (W.seq ?_)
  first | refine W.cond_d rfl (fun hc2 => ?_) (fun hc2 => ?_) | refine W.cond_nd rfl (fun hc2 => ?_) (fun hc2 => ?_) | refine W.cond rfl (fun hc2 => ?_) (fun hc2 => ?_)
  ·skip
   refine W.skip (E.to (W.seq (W.block (W.rg (SL.mv rfl rfl ?_)))))
   refine SL.val (O.idx_fz rfl rfl (rfl) (row_get (by omega)) Try.underlying32 hi3 hs3 rfl Taken.no) ?_
   refine SL.val (O.ld1 (PtI.ofU (PtU.fz rfl)) rfl Try.underlying3 rfl rfl Taken.no) ?_
   refine SL.an rfl rfl (SL.an rfl rfl (E.fo (W.region (SL.mv rfl rfl (SL.mv rfl rfl ?_)))))
   refine SL.val (O.ld1 (PtI.ref rfl rfl) rfl Try.underlying80 rfl rfl Taken.no) ?_
   refine SL.mv rfl rfl ?_
   refine SL.val (O.lookup (kf := (fun a : Int => Value.int .i64 a)) (vf := (fun a : Int => Value.int .i64 a)) (l := mpH nm h) (b := (atm[u]! : Int)) (z := 0) rfl rfl rfl Try.underlying80 (KeyOk.int Try.underlying3) (by kernel_rfl) rfl Taken.no) ?_
   refine SL.as (i' := vI (h[nm.idxOf atm[u]!]! : Int)) 33 rfl (by exact iv_int (luL_look N (by omega) (by omega))) ?_
   refine SL.val (O.idx_own (i := u) rfl rfl rfl (rfl) (by rw [List.length_map]; omega) Try.underlying32 hi3 hs3 rfl Taken.no) ?_
   refine SL.effS (O.st_els (m := 1) rfl rfl rfl (us := [_]) rfl rfl (by kernel_rfl) (by simp) (row_get (by omega)) (by exact Nat.le_of_ble_eq_true rfl) rfl rfl (rows' := ((luL atm nm u h ++ List.replicate (n - u) 0).set u (h[nm.idxOf atm[u]!]!)).map eN) (by exact set_map rfl) Taken.no) (S' := (103, _) :: _) rfl ?_
   refine SL.nil (E.inn (E.to (W.region ?_)))
   refine SL.val (O.det (fun _ => by first | exact G.R.add64 rfl rfl (by omega) | exact G.R.add rfl rfl) rfl Taken.no) ?_
   refine SL.mv rfl rfl (SL.nil ?_)
   refine E.again ((u + 1)) (rn []) ?_ ?_ rfl (fixL_spec rfl) ?_ ?_
   · exact (SubF.cons rfl (SubF.cons rfl (SubF.cons rfl (SubF.cons rfl (SubF.cons rfl (SubF.cons rfl (SubF.cons rfl (SubF.cons rfl (SubF.cons rfl (SubF.cons rfl (SubF.cons rfl SubF.nil)))))))))))
   · exact (SubS.val rfl (by (try dsimp only); exact sb_data (by rw [luL_set (by omega)])) (SubS.cons rfl (SubS.cons rfl (SubS.cons rfl (SubS.cons rfl (SubS.cons rfl (SubS.cons rfl (SubS.cons rfl (SubS.cons rfl SubS.nil)))))))))
   ·try dsimp only
    omega
   · (try dsimp only); omega
  refine W.exit (E.th (E.th (E.hit (E.to (W.seq (W.seq ?_))))))
  have hun : u = n := by omega
  rw [hun, Nat.sub_self, List.replicate_zero, List.append_nil]
  refine W.freeze 103 rfl (F' := [(8, _)]) (⟨⟨_, rfl, rfl⟩, trivial⟩) ?_
  refine W.region ?_
  refine SL.val (O.ldU (m := 3) (PtU.fz rfl) rfl Try.underlying30 rfl (by kernel_rfl) rfl Taken.no) ?_
  refine SL.mv rfl rfl ?_
  refine SL.val (O.callp rfl rfl rfl (permN_h (m := luL atm nm n h) hok) (.cons (ArgOk.same rfl) (.cons (ArgOk.same rfl) .nil)) hcallOk49 rfl Taken.no) ?_
  refine E.fo ?_
  first | refine W.cond_d rfl (fun hc3 => ?_) (fun hc3 => ?_) | refine W.cond_nd rfl (fun hc3 => ?_) (fun hc3 => ?_) | refine W.cond rfl (fun hc3 => ?_) (fun hc3 => ?_)
  ·skip
   have hpm : permB n ps rs (luL atm nm n h) = true := by first | assumption | exact decide_eq_true (by assumption)
   have hQ := (permB_iff.1 hpm).1
   refine W.rg ?_
   refine SL.val (O.ldU (m := 3) (PtU.fz rfl) rfl Try.underlying30 rfl (by kernel_rfl) rfl Taken.no) ?_
   refine SL.mv rfl rfl ?_
   refine SL.memS (O.call (rn []) [] rfl rfl rfl (valN_h (m := luL atm nm n h) hok hQ) (.cons (ArgOk.same rfl) (.cons (ArgOk.same rfl) .nil)) SubS.nil rfl rfl rfl rfl rfl (.inl rfl) hcallOk30 (r' := .tup [.u _, .u _]) rfl rfl Taken.no) rfl rfl (S' := _) rfl ?_
   refine SL.mv rfl rfl ?_
   refine SL.val (O.extract rfl rfl rfl Taken.no) ?_
   refine SL.val (O.extract rfl rfl rfl Taken.no) ?_
   refine SL.an rfl rfl (SL.an rfl rfl (E.fo (W.region ?_)))
   refine SL.val (O.ld1 (PtI.ref rfl rfl) rfl Try.underlying67 rfl rfl Taken.no) ?_
   refine SL.mv rfl rfl (SL.mv rfl rfl ?_)
   refine SL.memS (O.call (rn [(0, 4), (1, 5), (2, 6)]) [] rfl rfl rfl (best1_h (ps := ps) (s := s) (m := luL atm nm n h)) (.cons (ArgOk.same rfl) (.cons (ArgOk.same rfl) (.cons (ArgOk.same rfl) (.cons (ArgOk.same rfl) (.cons (ArgOk.same rfl) .nil))))) (SubS.cons rfl (SubS.cons rfl (SubS.cons rfl SubS.nil))) rfl rfl rfl rfl rfl (.inl rfl) hcallOk36 (r' := .tup []) rfl rfl Taken.no) rfl rfl (S' := (4, .cells _ [.u _]) :: (5, .cells _ [.u _]) :: (6, .cells _ [.u _]) :: _) rfl ?_
   refine E.fo ?_
   refine W.pick (K:=[(1,_),(2,_),(3,_),(4,_),(6,_),(7,_)]) (Z:=[(0,_),(1,_),(2,_),(3,_),(4,_),(5,_),(6,_),(101,_)]) ⟨rfl,rfl,rfl,rfl,rfl,rfl,trivial⟩ ⟨rfl,rfl,rfl,rfl,rfl,rfl,rfl,rfl,trivial⟩ ?_
   refine W.ret (E.thr ?_)
   rw [visP_0y hpm]
   refine E.fin (rs := []) (rn []) (.inl rfl) rfl .nil ?_ ?_ rfl (fixL_spec rfl)
   ·skip
    rfl
   · exact (SubS.cons rfl (SubS.val rfl (by first | rfl | exact sb_mp (mpH_del hnd (by omega) hhl he)) (SubS.cons rfl (SubS.cons rfl (SubS.cons rfl (SubS.cons rfl (SubS.cons rfl SubS.nil)))))))
  have hpm : permB n ps rs (luL atm nm n h) = false := by first | assumption | exact decide_eq_false (by assumption)
  refine W.skip (E.to (W.ret (E.thr ?_)))
  rw [visP_0n hpm]
  refine E.fin (rs := []) (rn []) (.inl rfl) rfl .nil ?_ ?_ rfl (fixL_spec rfl)
  ·skip
   rfl
  · exact (SubS.cons rfl (SubS.val rfl (by first | rfl | exact sb_mp (mpH_del hnd (by omega) hhl he)) (SubS.cons rfl (SubS.cons rfl (SubS.cons rfl (SubS.cons rfl (SubS.cons rfl SubS.nil)))))))
 obtain ⟨d, rfl⟩ : ∃ e, d = e + 1 := ⟨d - 1, by omega⟩
 replace ih := ih d rfl
 refine W.skip (E.to (W.seq (W.rg (SL.an rfl rfl (E.fo (W.block ?_))))))
 refine W.loopx3 (fun (k : Nat) (e : List Nat) (t : BS) => [(13, vI (k : Int))]) (fun (k : Nat) (e : List Nat) (t : BS) => [(1, .mp (mpE (fun a : Int => Value.int .i64 a) (fun a : Int => Value.int .i64 a) (mpH nm (h ++ e)))), (0, .cells 80 [.own 1]), (4, .cells 4 [.u (uB t.any)]), (5, .cells 3 [.u (uI t.most)]), (6, .cells 32 [.u (.sl 1 (t.best.map eN))])]) (fun (k : Nat) (e : List Nat) (t : BS) => k ≤ j + 1 ∧ e.length ≤ 1 ∧ t = (visK n ps rs atm nm d j h k).foldl (bsF ps) s) (fun (k : Nat) (e : List Nat) (t : BS) => j + 1 - k) (0) ([]) (s) (rn []) (.cons (t := 1) rfl (.cons (t := 2) rfl (.cons (t := 3) rfl (.cons (t := 4) rfl (.cons (t := 6) rfl (.cons (t := 7) rfl .nil)))))) (.cons (t := 2) rfl (.cons (t := 3) rfl (.cons (t := 101) rfl .nil))) rfl ?_ ?_ rfl rfl ?_ ?_
 · exact (SubF.cons rfl SubF.nil)
 · exact (SubS.val rfl (by exact sb_mp (by rw [List.append_nil])) (SubS.cons rfl (SubS.cons rfl (SubS.cons rfl (SubS.cons rfl SubS.nil)))))
 ·skip
  exact ⟨by omega, by simp, rfl⟩
 intro k e t hinv
 obtain ⟨hk, he, ht⟩ := hinv
 refine W.seq (W.rg (SL.mv rfl rfl ?_))
 refine SL.val (O.ld1 (PtI.ref rfl rfl) rfl Try.underlying3 rfl rfl Taken.no) ?_
 refine SL.val (O.det (fun _ => G.R.leq rfl rfl) rfl Taken.no) ?_
 refine E.fo ?_
 first | refine W.cond_d rfl (fun hc4 => ?_) (fun hc4 => ?_) | refine W.cond_nd rfl (fun hc4 => ?_) (fun hc4 => ?_) | refine W.cond rfl (fun hc4 => ?_) (fun hc4 => ?_)
 ·skip
  have hkq : k < nm.length := by omega
  refine W.skip (E.to (W.seq (W.block (W.rg ?_))))
  refine SL.val (O.ld1 (PtI.ofU (PtU.fz rfl)) rfl Try.underlying32 rfl rfl Taken.no) ?_
  refine SL.mv rfl rfl ?_
  refine SL.val (O.idx_fz rfl rfl (rfl) (row_get (by omega)) Try.underlying32 hi3 hs3 rfl Taken.no) ?_
  refine SL.val (O.ld1 (PtI.ofU (PtU.fz rfl)) rfl Try.underlying3 rfl rfl Taken.no) ?_
  refine SL.memS (O.alloc (z := .int .i64 0) (is := [.u (.sc (.int .i64 0))]) 104 (by kernel_rfl) rfl rfl rfl Taken.no) rfl rfl (S' := (104, _) :: _) rfl ?_
  refine SL.effS (O.st_ref (m := 1) rfl rfl rfl (js := [_]) rfl rfl (by kernel_rfl) (by simp) (Nat.le_of_ble_eq_true rfl) rfl (is' := [_]) rfl Taken.no) (S' := (104, _) :: _) rfl ?_
  refine E.fo (W.seq (W.rg (SL.mv rfl rfl ?_)))
  refine SL.val (O.ld1 (PtI.ref rfl rfl) rfl Try.underlying3 rfl rfl Taken.no) ?_
  refine SL.val (O.det (fun _ => G.R.lss rfl rfl) rfl Taken.no) ?_
  refine SL.mv rfl rfl ?_
  refine SL.case (j := 3) (g := 61) (want := true) rfl rfl (fun hg5 => ?_) (fun hg5 => ?_)
  ·skip
   first | have hg5p := G.gA1 hg5 | have hg5p := G.gA2 hg5 | have hg5p := hg5
   refine SL.val (O.ld1 (PtI.ref rfl rfl) rfl Try.underlying80 rfl rfl (Taken.yes rfl rfl hg5)) ?_
   refine SL.val (O.ld1 (PtI.ref rfl rfl) rfl Try.underlying3 rfl rfl (Taken.yes rfl rfl hg5)) ?_
   refine SL.val (O.lookup (kf := (fun a : Int => Value.int .i64 a)) (vf := (fun a : Int => Value.int .i64 a)) (l := mpH nm (h ++ e)) (b := (nm[k]! : Int)) (z := 0) rfl rfl rfl Try.underlying80 (KeyOk.int Try.underlying3) (by kernel_rfl) rfl (Taken.yes rfl rfl hg5)) ?_
   refine SL.as (i' := vI (h[k]! : Int)) 64 rfl (by exact iv_int (hom_at hnd (by omega) (by omega))) ?_
   refine SL.val (O.ld1 (PtI.ref rfl rfl) rfl Try.underlying3 rfl rfl (Taken.yes rfl rfl hg5)) ?_
   refine SL.val (O.det (fun _ => G.R.neq rfl rfl) rfl (Taken.yes rfl rfl hg5)) ?_
   refine SL.val (O.pick_t rfl hg5 rfl rfl Taken.no) ?_
   refine E.fo ?_
   refine W.pick (K:=[(1,_),(2,_),(3,_),(4,_),(6,_),(7,_),(13,_),(14,_),(67,_)]) (Z:=[(0,_),(1,_),(2,_),(3,_),(4,_),(5,_),(6,_),(101,_),(104,_)]) ⟨rfl,rfl,rfl,rfl,rfl,rfl,rfl,rfl,rfl,trivial⟩ ⟨rfl,rfl,rfl,rfl,rfl,rfl,rfl,rfl,rfl,trivial⟩ ?_
   first | refine W.cond_d rfl (fun hc6 => ?_) (fun hc6 => ?_) | refine W.cond_nd rfl (fun hc6 => ?_) (fun hc6 => ?_) | refine W.cond rfl (fun hc6 => ?_) (fun hc6 => ?_)
   ·skip
    refine W.exit (E.th (E.hit (E.to (W.region (SL.mv rfl rfl ?_)))))
    refine SL.val (O.det (fun _ => by first | exact G.R.add64 rfl rfl (by omega) | exact G.R.add rfl rfl) rfl Taken.no) ?_
    refine SL.an rfl rfl (SL.nil ?_)
    refine E.again ((k + 1), (e), (t)) (rn []) ?_ ?_ rfl (fixL_spec rfl) ?_ ?_
    · exact (SubF.cons rfl (SubF.cons rfl (SubF.cons rfl (SubF.cons rfl (SubF.cons rfl (SubF.cons rfl (SubF.cons rfl SubF.nil)))))))
    · exact (SubS.cons rfl (SubS.cons rfl (SubS.cons rfl (SubS.cons rfl (SubS.cons rfl (SubS.cons rfl (SubS.cons rfl (SubS.cons rfl SubS.nil))))))))
    ·try dsimp only
     exact ⟨by omega, he, by rw [visK_n (by first | exact okK_no (by omega) | exact okK_bar (by first | assumption | simp_all))]; exact ht⟩
    · (try dsimp only); omega
   refine W.skip (E.to (W.seq (W.rg ?_)))
   refine SL.val (O.ld1 (PtI.ofU (PtU.fz rfl)) rfl Try.underlying32 rfl rfl Taken.no) ?_
   refine SL.val (O.ld1 (PtI.ref rfl rfl) rfl Try.underlying3 rfl rfl Taken.no) ?_
   refine SL.val (O.sub_fz (j := j) rfl Bnd.no (Bnd.at rfl (by first | rfl | omega)) (by first | omega | (simp only [List.length_map, Nat.le_refl, Nat.zero_le] <;> omega) | (simp <;> omega)) (by rw [List.length_map]; omega) sub_hi Try.underlying32 hi3 hs3 rfl Taken.no) ?_
   refine SL.val (O.makeFunc rfl rfl rfl Taken.no) ?_
   refine SL.memS (O.call (rn [(0, 0), (1, 1), (2, 104), (3, 101)]) [] rfl rfl rfl (containsFuncH (g := h ++ e) (c := nm[k]!) (j := j) (q := nm.take j) hf hal (by omega)) (.cons (ArgOk.same rfl) (.cons (ArgOk.same rfl) .nil)) (SubS.cons rfl (SubS.cons rfl (SubS.cons rfl (SubS.cons rfl SubS.nil)))) rfl rfl rfl rfl rfl (.inl rfl) hcallOk51 (r' := .u _) rfl rfl Taken.no) rfl rfl (S' := (0, .cells _ [.own 1]) :: (1, .mp _) :: (104, .cells _ [.u _]) :: (101, .cells _ [.u _]) :: _) rfl ?_
   refine SL.as (i' := vB (barJ rs atm nm h j k)) 72 rfl (by exact iv_bool (homQ_any hnd (by omega) hhl)) ?_
   refine E.fo ?_
   first | refine W.cond_d rfl (fun hc7 => ?_) (fun hc7 => ?_) | refine W.cond_nd rfl (fun hc7 => ?_) (fun hc7 => ?_) | refine W.cond rfl (fun hc7 => ?_) (fun hc7 => ?_)
   ·skip
    refine W.exit (E.th (E.hit (E.to (W.region (SL.mv rfl rfl ?_)))))
    refine SL.val (O.det (fun _ => by first | exact G.R.add64 rfl rfl (by omega) | exact G.R.add rfl rfl) rfl Taken.no) ?_
    refine SL.an rfl rfl (SL.nil ?_)
    refine E.again ((k + 1), (e), (t)) (rn []) ?_ ?_ rfl (fixL_spec rfl) ?_ ?_
    · exact (SubF.cons rfl (SubF.cons rfl (SubF.cons rfl (SubF.cons rfl (SubF.cons rfl (SubF.cons rfl (SubF.cons rfl SubF.nil)))))))
    · exact (SubS.cons rfl (SubS.cons rfl (SubS.cons rfl (SubS.cons rfl (SubS.cons rfl (SubS.cons rfl (SubS.cons rfl (SubS.cons rfl SubS.nil))))))))
    ·try dsimp only
     exact ⟨by omega, he, by rw [visK_n (by first | exact okK_no (by omega) | exact okK_bar (by first | assumption | simp_all))]; exact ht⟩
    · (try dsimp only); omega
   have hK : okK rs atm nm h j k = true := okK_y (by omega) (by first | assumption | simp_all)
   refine W.skip (E.to (W.seq ?_))
   refine W.draw [⟨[0], [], [], [1]⟩, ⟨[], [], [], []⟩, ⟨[101], [], [], []⟩, ⟨[], [], [], []⟩, ⟨[], [], [], []⟩, ⟨[104], [], [], []⟩, ⟨[1], [1], [], []⟩] rfl (by kernel_rfl) (by kernel_rfl) rfl rfl ?_
   refine WH.val (O.ld1 (PtI.ref rfl rfl) rfl Try.underlying80 rfl rfl Taken.no) rfl rfl ?_
   refine WH.val (O.ld1 (PtI.ofU (PtU.fz rfl)) rfl Try.underlying32 rfl rfl Taken.no) rfl rfl ?_
   refine WH.val (O.ld1 (PtI.ref rfl rfl) rfl Try.underlying3 rfl rfl Taken.no) rfl rfl ?_
   refine WH.val (O.idx_fz (i := j) rfl rfl (rfl) (row_get (by omega)) Try.underlying32 hi3 hs3 rfl Taken.no) rfl rfl ?_
   refine WH.val (O.ld1 (PtI.ofU (PtU.fz rfl)) rfl Try.underlying3 rfl rfl Taken.no) rfl rfl ?_
   refine WH.val (O.ld1 (PtI.ref rfl rfl) rfl Try.underlying3 rfl rfl Taken.no) rfl rfl ?_
   refine WH.effS (O.mapUpdate (kf := (fun a : Int => Value.int .i64 a)) (vf := (fun a : Int => Value.int .i64 a)) (l := mpH nm (h ++ e)) (b := (nm[j]! : Int)) (u := (nm[k]! : Int)) rfl rfl rfl rfl Try.underlying80 (KeyOk.int Try.underlying3) Taken.no) rfl rfl rfl (S' := (1, _) :: _) rfl ?_
   refine WH.nil (E.to (W.region ?_))
   rw [mpH_set nm[k]! hnd (by omega) hhl he]
   refine SL.val (O.ld1 (PtI.ref rfl rfl) rfl Try.underlying96 rfl rfl Taken.no) ?_
   refine SL.val (O.ld1 (PtI.ref rfl rfl) rfl Try.underlying3 rfl rfl Taken.no) ?_
   refine SL.val (O.det (fun _ => by first | exact G.R.add64 rfl rfl (by omega) | exact G.R.add rfl rfl) rfl Taken.no) ?_
   refine SL.memS (O.call (rn [(0, 0), (1, 1), (2, 2), (3, 3), (4, 4), (5, 5), (6, 6)]) [] rfl rfl rfl (ih nm[k]! t) (.cons (ArgOk.same rfl) (.cons (ArgOk.same rfl) (.cons (ArgOk.same rfl) (.cons (ArgOk.same rfl) (.cons (ArgOk.same rfl) (.cons (ArgOk.same rfl) (.cons (ArgOk.same rfl) .nil))))))) (SubS.cons rfl (SubS.cons rfl (SubS.cons rfl (SubS.cons rfl (SubS.cons rfl (SubS.cons rfl (SubS.cons rfl SubS.nil))))))) rfl rfl rfl rfl rfl (.inl rfl) hcallOk61 (r' := .tup []) rfl rfl Taken.no) rfl rfl (S' := (0, .cells _ [.own 1]) :: (1, .mp _) :: (2, .cells _ [_]) :: (3, .cells _ [_]) :: (4, .cells _ [.u _]) :: (5, .cells _ [.u _]) :: (6, .cells _ [.u _]) :: _) rfl ?_
   refine SL.nil (E.inn (E.to ?_))
   refine W.pick (K:=[(1,_),(2,_),(3,_),(4,_),(6,_),(7,_),(13,_)]) (Z:=[(0,_),(1,_),(2,_),(3,_),(4,_),(5,_),(6,_),(101,_),(104,_)]) ⟨rfl,rfl,rfl,rfl,rfl,rfl,rfl,trivial⟩ ⟨rfl,rfl,rfl,rfl,rfl,rfl,rfl,rfl,rfl,trivial⟩ ?_
   refine W.region (SL.mv rfl rfl ?_)
   refine SL.val (O.det (fun _ => by first | exact G.R.add64 rfl rfl (by omega) | exact G.R.add rfl rfl) rfl Taken.no) ?_
   refine SL.an rfl rfl (SL.nil ?_)
   refine E.again ((k + 1), ([nm[k]!]), ((visP n ps rs atm nm d (j + 1) (h ++ [nm[k]!])).foldl (bsF ps) t)) (rn []) ?_ ?_ rfl (fixL_spec rfl) ?_ ?_
   · exact (SubF.cons rfl (SubF.cons rfl (SubF.cons rfl (SubF.cons rfl (SubF.cons rfl (SubF.cons rfl (SubF.cons rfl SubF.nil)))))))
   · exact (SubS.cons rfl (SubS.cons rfl (SubS.cons rfl (SubS.cons rfl (SubS.cons rfl (SubS.cons rfl (SubS.cons rfl (SubS.cons rfl SubS.nil))))))))
   ·try dsimp only
    exact ⟨by omega, by simp, by rw [visK_y hK, ht]; rw [List.foldl_append]⟩
   · (try dsimp only); omega
  first | have hg5p := G.gA5 hg5 | have hg5p := G.gA6 hg5 | have hg5p := hg5
  refine SL.sk rfl rfl rfl hg5 (SL.sk rfl rfl rfl hg5 (SL.sk rfl rfl rfl hg5 (SL.sk rfl rfl rfl hg5 (SL.sk rfl rfl rfl hg5 ?_))))
  refine SL.val (O.pick_f rfl (G.ne_t hg5) rfl rfl Taken.no) ?_
  refine E.fo ?_
  refine W.pick (K:=[(1,_),(2,_),(3,_),(4,_),(6,_),(7,_),(13,_),(14,_),(67,_)]) (Z:=[(0,_),(1,_),(2,_),(3,_),(4,_),(5,_),(6,_),(101,_),(104,_)]) ⟨rfl,rfl,rfl,rfl,rfl,rfl,rfl,rfl,rfl,trivial⟩ ⟨rfl,rfl,rfl,rfl,rfl,rfl,rfl,rfl,rfl,trivial⟩ ?_
  refine W.cond_f rfl ?_
  refine W.skip (E.to (W.seq (W.rg ?_)))
  refine SL.val (O.ld1 (PtI.ofU (PtU.fz rfl)) rfl Try.underlying32 rfl rfl Taken.no) ?_
  refine SL.val (O.ld1 (PtI.ref rfl rfl) rfl Try.underlying3 rfl rfl Taken.no) ?_
  refine SL.val (O.sub_fz (j := j) rfl Bnd.no (Bnd.at rfl (by first | rfl | omega)) (by first | omega | (simp only [List.length_map, Nat.le_refl, Nat.zero_le] <;> omega) | (simp <;> omega)) (by rw [List.length_map]; omega) sub_hi Try.underlying32 hi3 hs3 rfl Taken.no) ?_
  refine SL.val (O.makeFunc rfl rfl rfl Taken.no) ?_
  refine SL.memS (O.call (rn [(0, 0), (1, 1), (2, 104), (3, 101)]) [] rfl rfl rfl (containsFuncH (g := h ++ e) (c := nm[k]!) (j := j) (q := nm.take j) hf hal (by omega)) (.cons (ArgOk.same rfl) (.cons (ArgOk.same rfl) .nil)) (SubS.cons rfl (SubS.cons rfl (SubS.cons rfl (SubS.cons rfl SubS.nil)))) rfl rfl rfl rfl rfl (.inl rfl) hcallOk51 (r' := .u _) rfl rfl Taken.no) rfl rfl (S' := (0, .cells _ [.own 1]) :: (1, .mp _) :: (104, .cells _ [.u _]) :: (101, .cells _ [.u _]) :: _) rfl ?_
  refine SL.as (i' := vB (barJ rs atm nm h j k)) 72 rfl (by exact iv_bool (homQ_any hnd (by omega) hhl)) ?_
  refine E.fo ?_
  first | refine W.cond_d rfl (fun hc8 => ?_) (fun hc8 => ?_) | refine W.cond_nd rfl (fun hc8 => ?_) (fun hc8 => ?_) | refine W.cond rfl (fun hc8 => ?_) (fun hc8 => ?_)
  ·skip
   refine W.exit (E.th (E.hit (E.to (W.region (SL.mv rfl rfl ?_)))))
   refine SL.val (O.det (fun _ => by first | exact G.R.add64 rfl rfl (by omega) | exact G.R.add rfl rfl) rfl Taken.no) ?_
   refine SL.an rfl rfl (SL.nil ?_)
   refine E.again ((k + 1), (e), (t)) (rn []) ?_ ?_ rfl (fixL_spec rfl) ?_ ?_
   · exact (SubF.cons rfl (SubF.cons rfl (SubF.cons rfl (SubF.cons rfl (SubF.cons rfl (SubF.cons rfl (SubF.cons rfl SubF.nil)))))))
   · exact (SubS.cons rfl (SubS.cons rfl (SubS.cons rfl (SubS.cons rfl (SubS.cons rfl (SubS.cons rfl (SubS.cons rfl (SubS.cons rfl SubS.nil))))))))
   ·try dsimp only
    exact ⟨by omega, he, by rw [visK_n (by first | exact okK_no (by omega) | exact okK_bar (by first | assumption | simp_all))]; exact ht⟩
   · (try dsimp only); omega
  have hK : okK rs atm nm h j k = true := okK_y (by omega) (by first | assumption | simp_all)
  refine W.skip (E.to (W.seq ?_))
  refine W.draw [⟨[0], [], [], [1]⟩, ⟨[], [], [], []⟩, ⟨[101], [], [], []⟩, ⟨[], [], [], []⟩, ⟨[], [], [], []⟩, ⟨[104], [], [], []⟩, ⟨[1], [1], [], []⟩] rfl (by kernel_rfl) (by kernel_rfl) rfl rfl ?_
  refine WH.val (O.ld1 (PtI.ref rfl rfl) rfl Try.underlying80 rfl rfl Taken.no) rfl rfl ?_
  refine WH.val (O.ld1 (PtI.ofU (PtU.fz rfl)) rfl Try.underlying32 rfl rfl Taken.no) rfl rfl ?_
  refine WH.val (O.ld1 (PtI.ref rfl rfl) rfl Try.underlying3 rfl rfl Taken.no) rfl rfl ?_
  refine WH.val (O.idx_fz (i := j) rfl rfl (rfl) (row_get (by omega)) Try.underlying32 hi3 hs3 rfl Taken.no) rfl rfl ?_
  refine WH.val (O.ld1 (PtI.ofU (PtU.fz rfl)) rfl Try.underlying3 rfl rfl Taken.no) rfl rfl ?_
  refine WH.val (O.ld1 (PtI.ref rfl rfl) rfl Try.underlying3 rfl rfl Taken.no) rfl rfl ?_
  refine WH.effS (O.mapUpdate (kf := (fun a : Int => Value.int .i64 a)) (vf := (fun a : Int => Value.int .i64 a)) (l := mpH nm (h ++ e)) (b := (nm[j]! : Int)) (u := (nm[k]! : Int)) rfl rfl rfl rfl Try.underlying80 (KeyOk.int Try.underlying3) Taken.no) rfl rfl rfl (S' := (1, _) :: _) rfl ?_
  refine WH.nil (E.to (W.region ?_))
  rw [mpH_set nm[k]! hnd (by omega) hhl he]
  refine SL.val (O.ld1 (PtI.ref rfl rfl) rfl Try.underlying96 rfl rfl Taken.no) ?_
  refine SL.val (O.ld1 (PtI.ref rfl rfl) rfl Try.underlying3 rfl rfl Taken.no) ?_
  refine SL.val (O.det (fun _ => by first | exact G.R.add64 rfl rfl (by omega) | exact G.R.add rfl rfl) rfl Taken.no) ?_
  refine SL.memS (O.call (rn [(0, 0), (1, 1), (2, 2), (3, 3), (4, 4), (5, 5), (6, 6)]) [] rfl rfl rfl (ih nm[k]! t) (.cons (ArgOk.same rfl) (.cons (ArgOk.same rfl) (.cons (ArgOk.same rfl) (.cons (ArgOk.same rfl) (.cons (ArgOk.same rfl) (.cons (ArgOk.same rfl) (.cons (ArgOk.same rfl) .nil))))))) (SubS.cons rfl (SubS.cons rfl (SubS.cons rfl (SubS.cons rfl (SubS.cons rfl (SubS.cons rfl (SubS.cons rfl SubS.nil))))))) rfl rfl rfl rfl rfl (.inl rfl) hcallOk61 (r' := .tup []) rfl rfl Taken.no) rfl rfl (S' := (0, .cells _ [.own 1]) :: (1, .mp _) :: (2, .cells _ [_]) :: (3, .cells _ [_]) :: (4, .cells _ [.u _]) :: (5, .cells _ [.u _]) :: (6, .cells _ [.u _]) :: _) rfl ?_
  refine SL.nil (E.inn (E.to ?_))
  refine W.pick (K:=[(1,_),(2,_),(3,_),(4,_),(6,_),(7,_),(13,_)]) (Z:=[(0,_),(1,_),(2,_),(3,_),(4,_),(5,_),(6,_),(101,_),(104,_)]) ⟨rfl,rfl,rfl,rfl,rfl,rfl,rfl,trivial⟩ ⟨rfl,rfl,rfl,rfl,rfl,rfl,rfl,rfl,rfl,trivial⟩ ?_
  refine W.region (SL.mv rfl rfl ?_)
  refine SL.val (O.det (fun _ => by first | exact G.R.add64 rfl rfl (by omega) | exact G.R.add rfl rfl) rfl Taken.no) ?_
  refine SL.an rfl rfl (SL.nil ?_)
  refine E.again ((k + 1), ([nm[k]!]), ((visP n ps rs atm nm d (j + 1) (h ++ [nm[k]!])).foldl (bsF ps) t)) (rn []) ?_ ?_ rfl (fixL_spec rfl) ?_ ?_
  · exact (SubF.cons rfl (SubF.cons rfl (SubF.cons rfl (SubF.cons rfl (SubF.cons rfl (SubF.cons rfl (SubF.cons rfl SubF.nil)))))))
  · exact (SubS.cons rfl (SubS.cons rfl (SubS.cons rfl (SubS.cons rfl (SubS.cons rfl (SubS.cons rfl (SubS.cons rfl (SubS.cons rfl SubS.nil))))))))
  ·try dsimp only
   exact ⟨by omega, by simp, by rw [visK_y hK, ht]; rw [List.foldl_append]⟩
  · (try dsimp only); omega
 refine W.exit (E.th (E.th (E.hit (E.to ?_))))
 refine W.draw [⟨[0], [], [], [1]⟩, ⟨[], [], [], []⟩, ⟨[101], [], [], []⟩, ⟨[], [], [], []⟩, ⟨[], [], [], []⟩, ⟨[1], [1], [], []⟩] rfl (by kernel_rfl) (by kernel_rfl) rfl rfl ?_
 refine WH.val (O.ld1 (PtI.ref rfl rfl) rfl Try.underlying80 rfl rfl Taken.no) rfl rfl ?_
 refine WH.val (O.ld1 (PtI.ofU (PtU.fz rfl)) rfl Try.underlying32 rfl rfl Taken.no) rfl rfl ?_
 refine WH.val (O.ld1 (PtI.ref rfl rfl) rfl Try.underlying3 rfl rfl Taken.no) rfl rfl ?_
 refine WH.val (O.idx_fz (i := j) rfl rfl (rfl) (row_get (by omega)) Try.underlying32 hi3 hs3 rfl Taken.no) rfl rfl ?_
 refine WH.val (O.ld1 (PtI.ofU (PtU.fz rfl)) rfl Try.underlying3 rfl rfl Taken.no) rfl rfl ?_
 refine WH.effS (O.mapDelete (kf := (fun a : Int => Value.int .i64 a)) (vf := (fun a : Int => Value.int .i64 a)) (l := mpH nm (h ++ e)) (b := (nm[j]! : Int)) rfl rfl rfl Try.underlying80 (KeyOk.int Try.underlying3) Taken.no) rfl rfl rfl (S' := (1, _) :: _) rfl ?_
 refine WH.nil ?_
 have hkj : k = j + 1 := by omega
 rw [visP_s, ← hkj, ← ht]
 refine E.fin (rs := []) (rn []) (.inr rfl) rfl .nil ?_ ?_ rfl (fixL_spec rfl)
 ·skip
  rfl
 · exact (SubS.cons rfl (SubS.val rfl (by first | rfl | exact sb_mp (mpH_del hnd (by omega) hhl he)) (SubS.cons rfl (SubS.cons rfl (SubS.cons rfl (SubS.cons rfl (SubS.cons rfl SubS.nil)))))))

theorem eachB {n : Nat} {ps : List Pr} {rs : List Ru} {atm nm : List Nat} (hok : (Prob.mk (n : Int) ps rs).ok) (hal : atm.length = n) (N : Nms n atm nm) : ∀ (d j : Nat) (h : List Nat) (s : BS), j + d = nm.length → h.length = j → Con Try.prog 61 [vI (j : Int), .u (.ptr [.sl 1 (nm.map eN)]), .u (.ptr [uI (n : Int), .sl 3 (ps.map ePr), .sl 3 (rs.map eRu)]), .u (.ptr [.sl 1 (atm.map eN)]), .ref 0 0, .ref 2 0, .ref 3 0] [(0, .cells 80 [.own 1]), (1, .mp (mpE (fun a : Int => Value.int .i64 a) (fun a : Int => Value.int .i64 a) (mpH nm h))), (2, .cells 67 [.clo (.func 36) [] [.ref 4 0, .ref 5 0, .ref 6 0]]), (3, .cells 96 [.clo (.func 61) [] [.u (.ptr [.sl 1 (nm.map eN)]), .u (.ptr [uI (n : Int), .sl 3 (ps.map ePr), .sl 3 (rs.map eRu)]), .u (.ptr [.sl 1 (atm.map eN)]), .ref 0 0, .ref 2 0, .ref 3 0]]), (4, .cells 4 [.u (uB s.any)]), (5, .cells 3 [.u (uI s.most)]), (6, .cells 32 [.u (.sl 1 (s.best.map eN))])] (.tup []) [(0, .cells 80 [.own 1]), (1, .mp (mpE (fun a : Int => Value.int .i64 a) (fun a : Int => Value.int .i64 a) (mpH nm h))), (2, .cells 67 [.clo (.func 36) [] [.ref 4 0, .ref 5 0, .ref 6 0]]), (3, .cells 96 [.clo (.func 61) [] [.u (.ptr [.sl 1 (nm.map eN)]), .u (.ptr [uI (n : Int), .sl 3 (ps.map ePr), .sl 3 (rs.map eRu)]), .u (.ptr [.sl 1 (atm.map eN)]), .ref 0 0, .ref 2 0, .ref 3 0]]), (4, .cells 4 [.u (uB ((visP n ps rs atm nm d j h).foldl (bsF ps) s).any)]), (5, .cells 3 [.u (uI ((visP n ps rs atm nm d j h).foldl (bsF ps) s).most)]), (6, .cells 32 [.u (.sl 1 (((visP n ps rs atm nm d j h).foldl (bsF ps) s).best.map eN))])]
  | 0, j, h, s, h1, h2 => eachB_step hok hal N h1 h2 (fun d' e => by cases e)
  | d + 1, j, h, s, h1, h2 => eachB_step hok hal N h1 h2 (fun d' e v t => by
    obtain rfl : d = d' := by omega
    exact eachB hok hal N d (j + 1) (h ++ [v]) t (by omega) (by rw [List.length_append, h2]; rfl))

set_option maxRecDepth 8000 in
set_option maxHeartbeats 1600000 in
theorem eachC_step {n : Nat} {ps : List Pr} {rs : List Ru} {atm nm : List Nat} {d j : Nat} {h : List Nat} {s : Nat} (hok : (Prob.mk (n : Int) ps rs).ok) (hal : atm.length = n) (N : Nms n atm nm) (hj : j + d = nm.length) (hhl : h.length = j) (hb : s + (visP n ps rs atm nm d j h).length ≤ 1000000) (ih : ∀ d', d = d' + 1 → ∀ (v : Nat) (t : Nat), t + (visP n ps rs atm nm d' (j + 1) (h ++ [v])).length ≤ 1000000 → Con Try.prog 61 [vI ((j : Int) + 1), .u (.ptr [.sl 1 (nm.map eN)]), .u (.ptr [uI (n : Int), .sl 3 (ps.map ePr), .sl 3 (rs.map eRu)]), .u (.ptr [.sl 1 (atm.map eN)]), .ref 0 0, .ref 2 0, .ref 3 0] [(0, .cells 80 [.own 1]), (1, .mp (mpE (fun a : Int => Value.int .i64 a) (fun a : Int => Value.int .i64 a) (mpH nm (h ++ [v])))), (2, .cells 67 [.clo (.func 42) [] [.ref 4 0]]), (3, .cells 96 [.clo (.func 61) [] [.u (.ptr [.sl 1 (nm.map eN)]), .u (.ptr [uI (n : Int), .sl 3 (ps.map ePr), .sl 3 (rs.map eRu)]), .u (.ptr [.sl 1 (atm.map eN)]), .ref 0 0, .ref 2 0, .ref 3 0]]), (4, .cells 3 [.u (uI ((t : Nat) : Int))])] (.tup []) [(0, .cells 80 [.own 1]), (1, .mp (mpE (fun a : Int => Value.int .i64 a) (fun a : Int => Value.int .i64 a) (mpH nm (h ++ [v])))), (2, .cells 67 [.clo (.func 42) [] [.ref 4 0]]), (3, .cells 96 [.clo (.func 61) [] [.u (.ptr [.sl 1 (nm.map eN)]), .u (.ptr [uI (n : Int), .sl 3 (ps.map ePr), .sl 3 (rs.map eRu)]), .u (.ptr [.sl 1 (atm.map eN)]), .ref 0 0, .ref 2 0, .ref 3 0]]), (4, .cells 3 [.u (uI (((t + (visP n ps rs atm nm d' (j + 1) (h ++ [v])).length) : Nat) : Int))])]) :
    Con Try.prog 61 [vI (j : Int), .u (.ptr [.sl 1 (nm.map eN)]), .u (.ptr [uI (n : Int), .sl 3 (ps.map ePr), .sl 3 (rs.map eRu)]), .u (.ptr [.sl 1 (atm.map eN)]), .ref 0 0, .ref 2 0, .ref 3 0] [(0, .cells 80 [.own 1]), (1, .mp (mpE (fun a : Int => Value.int .i64 a) (fun a : Int => Value.int .i64 a) (mpH nm h))), (2, .cells 67 [.clo (.func 42) [] [.ref 4 0]]), (3, .cells 96 [.clo (.func 61) [] [.u (.ptr [.sl 1 (nm.map eN)]), .u (.ptr [uI (n : Int), .sl 3 (ps.map ePr), .sl 3 (rs.map eRu)]), .u (.ptr [.sl 1 (atm.map eN)]), .ref 0 0, .ref 2 0, .ref 3 0]]), (4, .cells 3 [.u (uI ((s : Nat) : Int))])] (.tup []) [(0, .cells 80 [.own 1]), (1, .mp (mpE (fun a : Int => Value.int .i64 a) (fun a : Int => Value.int .i64 a) (mpH nm h))), (2, .cells 67 [.clo (.func 42) [] [.ref 4 0]]), (3, .cells 96 [.clo (.func 61) [] [.u (.ptr [.sl 1 (nm.map eN)]), .u (.ptr [uI (n : Int), .sl 3 (ps.map ePr), .sl 3 (rs.map eRu)]), .u (.ptr [.sl 1 (atm.map eN)]), .ref 0 0, .ref 2 0, .ref 3 0]]), (4, .cells 3 [.u (uI (((s + (visP n ps rs atm nm d j h).length) : Nat) : Int))])] := by
 have hf := hok.1
 have hn2 : (n : Int) ≤ 200 := hf.2.1
 have hnd := N.nodup
 have hql : nm.length ≤ 200 := by have := selfs_len n atm; rw [N.nm]; omega
 obtain ⟨i3, hi3, hz3, hs3, hb3⟩ := hinf3
 refine Con.enterL (n := 88) Try.func61 rfl rfl rfl (fun τ w ok vs hin => ?_)
 clear hin
 refine W.rg ?_
 refine SL.memS (O.box (is := [_]) 101 rfl rfl (by simp) rfl rfl Taken.no) rfl rfl (S' := (101, _) :: _) rfl ?_
 refine E.fo (W.seq (W.rg ?_))
 refine SL.val (O.ld1 (PtI.ref rfl rfl) rfl Try.underlying3 rfl rfl Taken.no) ?_
 refine SL.val (O.ld1 (PtI.ofU (PtU.fz rfl)) rfl Try.underlying32 rfl rfl Taken.no) ?_
 refine SL.val (O.lenE (SlOf.fz rfl (by decide)) (by first | exact List.length_map _ | rfl) Try.underlying32 rfl Taken.no) ?_
 refine SL.val (O.det (fun _ => G.R.eql rfl rfl) rfl Taken.no) ?_
 refine E.fo ?_
 first | refine W.cond_d rfl (fun hc1 => ?_) (fun hc1 => ?_) | refine W.cond_nd rfl (fun hc1 => ?_) (fun hc1 => ?_) | refine W.cond rfl (fun hc1 => ?_) (fun hc1 => ?_)
 ·skip
  obtain rfl : d = 0 := by omega
  have hjq : j = nm.length := by omega
  refine W.rg ?_
  refine SL.val (O.fld_fz rfl Try.underlying30 rfl (m := 0) (by kernel_rfl) rfl rfl Taken.no) ?_
  refine SL.val (O.ld1 (PtI.ofU (PtU.fz rfl)) rfl Try.underlying3 rfl rfl Taken.no) ?_
  refine SL.memS (O.make (m := n) (kk := 102) rfl rfl (by rfl) (by rfl) Try.underlying32 hi3 hz3 hs3 rfl rfl (by decide) rfl (by rw [hb3]; omega) (by omega) rfl Taken.no) rfl rfl (S' := (102, _) :: _) rfl ?_
  refine SL.an rfl rfl (E.fo (W.seq (W.rg ?_)))
  refine SL.val (O.ld1 (PtI.ofU (PtU.fz rfl)) rfl Try.underlying32 rfl rfl Taken.no) ?_
  refine SL.val (O.lenE (SlOf.fz rfl (by decide)) (by first | exact List.length_map _ | rfl) Try.underlying32 rfl Taken.no) ?_
  refine SL.mv rfl rfl (E.fo (W.block ?_))
  refine W.loopx1 (fun (u : Nat) => [(24, vI (u : Int)), (8, .own 103)]) (fun (u : Nat) => [(103, .data 3 1 ((luL atm nm u h ++ List.replicate (n - u) 0).map eN))]) (fun (u : Nat) => u ≤ n) (fun (u : Nat) => n - u) (0) (rn [(103, 102)]) (.cons (t := 1) rfl (.cons (t := 2) rfl (.cons (t := 3) rfl (.cons (t := 4) rfl (.cons (t := 5) rfl (.cons (t := 6) rfl (.cons (t := 7) rfl (.cons (t := 22) rfl (.cons (t := 23) rfl .nil))))))))) (.cons (t := 0) rfl (.cons (t := 1) rfl (.cons (t := 2) rfl (.cons (t := 3) rfl (.cons (t := 4) rfl (.cons (t := 101) rfl .nil)))))) rfl ?_ ?_ rfl rfl ?_ ?_
  · exact (SubF.cons rfl (SubF.cons rfl SubF.nil))
  · exact (SubS.val rfl (by exact sb_data (by show _ = List.map eN (List.replicate n 0); rw [List.map_replicate]; rfl)) SubS.nil)
  ·skip
   omega
  intro u hinv
  have hu := hinv
  have hol : (luL atm nm u h ++ List.replicate (n - u) 0).length = n := by rw [List.length_append, luL_len, List.length_replicate]; omega
  refine W.rg ?_
  refine SL.val (O.det (fun _ => G.R.lss rfl rfl) rfl Taken.no) ?_
  refine E.fo (W.seq ?_)
  first | refine W.cond_d rfl (fun hc2 => ?_) (fun hc2 => ?_) | refine W.cond_nd rfl (fun hc2 => ?_) (fun hc2 => ?_) | refine W.cond rfl (fun hc2 => ?_) (fun hc2 => ?_)
  ·skip
   refine W.skip (E.to (W.seq (W.block (W.rg (SL.mv rfl rfl ?_)))))
   refine SL.val (O.idx_fz rfl rfl (rfl) (row_get (by omega)) Try.underlying32 hi3 hs3 rfl Taken.no) ?_
   refine SL.val (O.ld1 (PtI.ofU (PtU.fz rfl)) rfl Try.underlying3 rfl rfl Taken.no) ?_
   refine SL.an rfl rfl (SL.an rfl rfl (E.fo (W.region (SL.mv rfl rfl (SL.mv rfl rfl ?_)))))
   refine SL.val (O.ld1 (PtI.ref rfl rfl) rfl Try.underlying80 rfl rfl Taken.no) ?_
   refine SL.mv rfl rfl ?_
   refine SL.val (O.lookup (kf := (fun a : Int => Value.int .i64 a)) (vf := (fun a : Int => Value.int .i64 a)) (l := mpH nm h) (b := (atm[u]! : Int)) (z := 0) rfl rfl rfl Try.underlying80 (KeyOk.int Try.underlying3) (by kernel_rfl) rfl Taken.no) ?_
   refine SL.as (i' := vI (h[nm.idxOf atm[u]!]! : Int)) 33 rfl (by exact iv_int (luL_look N (by omega) (by omega))) ?_
   refine SL.val (O.idx_own (i := u) rfl rfl rfl (rfl) (by rw [List.length_map]; omega) Try.underlying32 hi3 hs3 rfl Taken.no) ?_
   refine SL.effS (O.st_els (m := 1) rfl rfl rfl (us := [_]) rfl rfl (by kernel_rfl) (by simp) (row_get (by omega)) (by exact Nat.le_of_ble_eq_true rfl) rfl rfl (rows' := ((luL atm nm u h ++ List.replicate (n - u) 0).set u (h[nm.idxOf atm[u]!]!)).map eN) (by exact set_map rfl) Taken.no) (S' := (103, _) :: _) rfl ?_
   refine SL.nil (E.inn (E.to (W.region ?_)))
   refine SL.val (O.det (fun _ => by first | exact G.R.add64 rfl rfl (by omega) | exact G.R.add rfl rfl) rfl Taken.no) ?_
   refine SL.mv rfl rfl (SL.nil ?_)
   refine E.again ((u + 1)) (rn []) ?_ ?_ rfl (fixL_spec rfl) ?_ ?_
   · exact (SubF.cons rfl (SubF.cons rfl (SubF.cons rfl (SubF.cons rfl (SubF.cons rfl (SubF.cons rfl (SubF.cons rfl (SubF.cons rfl (SubF.cons rfl (SubF.cons rfl (SubF.cons rfl SubF.nil)))))))))))
   · exact (SubS.val rfl (by (try dsimp only); exact sb_data (by rw [luL_set (by omega)])) (SubS.cons rfl (SubS.cons rfl (SubS.cons rfl (SubS.cons rfl (SubS.cons rfl (SubS.cons rfl SubS.nil)))))))
   ·try dsimp only
    omega
   · (try dsimp only); omega
  refine W.exit (E.th (E.th (E.hit (E.to (W.seq (W.seq ?_))))))
  have hun : u = n := by omega
  rw [hun, Nat.sub_self, List.replicate_zero, List.append_nil]
  refine W.freeze 103 rfl (F' := [(8, _)]) (⟨⟨_, rfl, rfl⟩, trivial⟩) ?_
  refine W.region ?_
  refine SL.val (O.ldU (m := 3) (PtU.fz rfl) rfl Try.underlying30 rfl (by kernel_rfl) rfl Taken.no) ?_
  refine SL.mv rfl rfl ?_
  refine SL.val (O.callp rfl rfl rfl (permN_h (m := luL atm nm n h) hok) (.cons (ArgOk.same rfl) (.cons (ArgOk.same rfl) .nil)) hcallOk49 rfl Taken.no) ?_
  refine E.fo ?_
  first | refine W.cond_d rfl (fun hc3 => ?_) (fun hc3 => ?_) | refine W.cond_nd rfl (fun hc3 => ?_) (fun hc3 => ?_) | refine W.cond rfl (fun hc3 => ?_) (fun hc3 => ?_)
  ·skip
   have hpm : permB n ps rs (luL atm nm n h) = true := by first | assumption | exact decide_eq_true (by assumption)
   have hQ := (permB_iff.1 hpm).1
   refine W.rg ?_
   refine SL.val (O.ldU (m := 3) (PtU.fz rfl) rfl Try.underlying30 rfl (by kernel_rfl) rfl Taken.no) ?_
   refine SL.mv rfl rfl ?_
   refine SL.memS (O.call (rn []) [] rfl rfl rfl (valN_h (m := luL atm nm n h) hok hQ) (.cons (ArgOk.same rfl) (.cons (ArgOk.same rfl) .nil)) SubS.nil rfl rfl rfl rfl rfl (.inl rfl) hcallOk30 (r' := .tup [.u _, .u _]) rfl rfl Taken.no) rfl rfl (S' := _) rfl ?_
   refine SL.mv rfl rfl ?_
   refine SL.val (O.extract rfl rfl rfl Taken.no) ?_
   refine SL.val (O.extract rfl rfl rfl Taken.no) ?_
   refine SL.an rfl rfl (SL.an rfl rfl (E.fo (W.region ?_)))
   refine SL.val (O.ld1 (PtI.ref rfl rfl) rfl Try.underlying67 rfl rfl Taken.no) ?_
   refine SL.mv rfl rfl (SL.mv rfl rfl ?_)
   refine SL.memS (O.call (rn [(0, 4)]) [] rfl rfl rfl (count1_h (c := s) (m := luL atm nm n h) (by have hb2 := hb; rw [visP_0y hpm] at hb2; simp at hb2; omega)) (.cons (ArgOk.same rfl) (.cons (ArgOk.same rfl) (.cons (ArgOk.same rfl) .nil))) (SubS.cons rfl SubS.nil) rfl rfl rfl rfl rfl (.inl rfl) hcallOk42 (r' := .tup []) rfl rfl Taken.no) rfl rfl (S' := (4, .cells _ [.u _]) :: _) rfl ?_
   refine E.fo ?_
   refine W.pick (K:=[(1,_),(2,_),(3,_),(4,_),(6,_),(7,_)]) (Z:=[(0,_),(1,_),(2,_),(3,_),(4,_),(101,_)]) ⟨rfl,rfl,rfl,rfl,rfl,rfl,trivial⟩ ⟨rfl,rfl,rfl,rfl,rfl,rfl,trivial⟩ ?_
   refine W.ret (E.thr ?_)
   rw [visP_0y hpm]
   refine E.fin (rs := []) (rn []) (.inl rfl) rfl .nil ?_ ?_ rfl (fixL_spec rfl)
   ·skip
    rfl
   · exact (SubS.cons rfl (SubS.val rfl (by first | rfl | exact sb_mp (mpH_del hnd (by omega) hhl he)) (SubS.cons rfl (SubS.cons rfl (SubS.cons rfl SubS.nil)))))
  have hpm : permB n ps rs (luL atm nm n h) = false := by first | assumption | exact decide_eq_false (by assumption)
  refine W.skip (E.to (W.ret (E.thr ?_)))
  rw [visP_0n hpm]
  refine E.fin (rs := []) (rn []) (.inl rfl) rfl .nil ?_ ?_ rfl (fixL_spec rfl)
  ·skip
   rfl
  · exact (SubS.cons rfl (SubS.val rfl (by first | rfl | exact sb_mp (mpH_del hnd (by omega) hhl he)) (SubS.cons rfl (SubS.cons rfl (SubS.cons rfl SubS.nil)))))
 obtain ⟨d, rfl⟩ : ∃ e, d = e + 1 := ⟨d - 1, by omega⟩
 replace ih := ih d rfl
 refine W.skip (E.to (W.seq (W.rg (SL.an rfl rfl (E.fo (W.block ?_))))))
 refine W.loopx3 (fun (k : Nat) (e : List Nat) (t : Nat) => [(13, vI (k : Int))]) (fun (k : Nat) (e : List Nat) (t : Nat) => [(1, .mp (mpE (fun a : Int => Value.int .i64 a) (fun a : Int => Value.int .i64 a) (mpH nm (h ++ e)))), (0, .cells 80 [.own 1]), (4, .cells 3 [.u (uI (t : Int))])]) (fun (k : Nat) (e : List Nat) (t : Nat) => k ≤ j + 1 ∧ e.length ≤ 1 ∧ t = s + (visK n ps rs atm nm d j h k).length) (fun (k : Nat) (e : List Nat) (t : Nat) => j + 1 - k) (0) ([]) (s) (rn []) (.cons (t := 1) rfl (.cons (t := 2) rfl (.cons (t := 3) rfl (.cons (t := 4) rfl (.cons (t := 6) rfl (.cons (t := 7) rfl .nil)))))) (.cons (t := 2) rfl (.cons (t := 3) rfl (.cons (t := 101) rfl .nil))) rfl ?_ ?_ rfl rfl ?_ ?_
 · exact (SubF.cons rfl SubF.nil)
 · exact (SubS.val rfl (by exact sb_mp (by rw [List.append_nil])) (SubS.cons rfl (SubS.cons rfl SubS.nil)))
 ·skip
  exact ⟨by omega, by simp, rfl⟩
 intro k e t hinv
 obtain ⟨hk, he, ht⟩ := hinv
 refine W.seq (W.rg (SL.mv rfl rfl ?_))
 refine SL.val (O.ld1 (PtI.ref rfl rfl) rfl Try.underlying3 rfl rfl Taken.no) ?_
 refine SL.val (O.det (fun _ => G.R.leq rfl rfl) rfl Taken.no) ?_
 refine E.fo ?_
 first | refine W.cond_d rfl (fun hc4 => ?_) (fun hc4 => ?_) | refine W.cond_nd rfl (fun hc4 => ?_) (fun hc4 => ?_) | refine W.cond rfl (fun hc4 => ?_) (fun hc4 => ?_)
 ·skip
  have hkq : k < nm.length := by omega
  refine W.skip (E.to (W.seq (W.block (W.rg ?_))))
  refine SL.val (O.ld1 (PtI.ofU (PtU.fz rfl)) rfl Try.underlying32 rfl rfl Taken.no) ?_
  refine SL.mv rfl rfl ?_
  refine SL.val (O.idx_fz rfl rfl (rfl) (row_get (by omega)) Try.underlying32 hi3 hs3 rfl Taken.no) ?_
  refine SL.val (O.ld1 (PtI.ofU (PtU.fz rfl)) rfl Try.underlying3 rfl rfl Taken.no) ?_
  refine SL.memS (O.alloc (z := .int .i64 0) (is := [.u (.sc (.int .i64 0))]) 104 (by kernel_rfl) rfl rfl rfl Taken.no) rfl rfl (S' := (104, _) :: _) rfl ?_
  refine SL.effS (O.st_ref (m := 1) rfl rfl rfl (js := [_]) rfl rfl (by kernel_rfl) (by simp) (Nat.le_of_ble_eq_true rfl) rfl (is' := [_]) rfl Taken.no) (S' := (104, _) :: _) rfl ?_
  refine E.fo (W.seq (W.rg (SL.mv rfl rfl ?_)))
  refine SL.val (O.ld1 (PtI.ref rfl rfl) rfl Try.underlying3 rfl rfl Taken.no) ?_
  refine SL.val (O.det (fun _ => G.R.lss rfl rfl) rfl Taken.no) ?_
  refine SL.mv rfl rfl ?_
  refine SL.case (j := 3) (g := 61) (want := true) rfl rfl (fun hg5 => ?_) (fun hg5 => ?_)
  ·skip
   first | have hg5p := G.gA1 hg5 | have hg5p := G.gA2 hg5 | have hg5p := hg5
   refine SL.val (O.ld1 (PtI.ref rfl rfl) rfl Try.underlying80 rfl rfl (Taken.yes rfl rfl hg5)) ?_
   refine SL.val (O.ld1 (PtI.ref rfl rfl) rfl Try.underlying3 rfl rfl (Taken.yes rfl rfl hg5)) ?_
   refine SL.val (O.lookup (kf := (fun a : Int => Value.int .i64 a)) (vf := (fun a : Int => Value.int .i64 a)) (l := mpH nm (h ++ e)) (b := (nm[k]! : Int)) (z := 0) rfl rfl rfl Try.underlying80 (KeyOk.int Try.underlying3) (by kernel_rfl) rfl (Taken.yes rfl rfl hg5)) ?_
   refine SL.as (i' := vI (h[k]! : Int)) 64 rfl (by exact iv_int (hom_at hnd (by omega) (by omega))) ?_
   refine SL.val (O.ld1 (PtI.ref rfl rfl) rfl Try.underlying3 rfl rfl (Taken.yes rfl rfl hg5)) ?_
   refine SL.val (O.det (fun _ => G.R.neq rfl rfl) rfl (Taken.yes rfl rfl hg5)) ?_
   refine SL.val (O.pick_t rfl hg5 rfl rfl Taken.no) ?_
   refine E.fo ?_
   refine W.pick (K:=[(1,_),(2,_),(3,_),(4,_),(6,_),(7,_),(13,_),(14,_),(67,_)]) (Z:=[(0,_),(1,_),(2,_),(3,_),(4,_),(101,_),(104,_)]) ⟨rfl,rfl,rfl,rfl,rfl,rfl,rfl,rfl,rfl,trivial⟩ ⟨rfl,rfl,rfl,rfl,rfl,rfl,rfl,trivial⟩ ?_
   first | refine W.cond_d rfl (fun hc6 => ?_) (fun hc6 => ?_) | refine W.cond_nd rfl (fun hc6 => ?_) (fun hc6 => ?_) | refine W.cond rfl (fun hc6 => ?_) (fun hc6 => ?_)
   ·skip
    refine W.exit (E.th (E.hit (E.to (W.region (SL.mv rfl rfl ?_)))))
    refine SL.val (O.det (fun _ => by first | exact G.R.add64 rfl rfl (by omega) | exact G.R.add rfl rfl) rfl Taken.no) ?_
    refine SL.an rfl rfl (SL.nil ?_)
    refine E.again ((k + 1), (e), (t)) (rn []) ?_ ?_ rfl (fixL_spec rfl) ?_ ?_
    · exact (SubF.cons rfl (SubF.cons rfl (SubF.cons rfl (SubF.cons rfl (SubF.cons rfl (SubF.cons rfl (SubF.cons rfl SubF.nil)))))))
    · exact (SubS.cons rfl (SubS.cons rfl (SubS.cons rfl (SubS.cons rfl (SubS.cons rfl (SubS.cons rfl SubS.nil))))))
    ·try dsimp only
     exact ⟨by omega, he, by rw [visK_n (by first | exact okK_no (by omega) | exact okK_bar (by first | assumption | simp_all))]; exact ht⟩
    · (try dsimp only); omega
   refine W.skip (E.to (W.seq (W.rg ?_)))
   refine SL.val (O.ld1 (PtI.ofU (PtU.fz rfl)) rfl Try.underlying32 rfl rfl Taken.no) ?_
   refine SL.val (O.ld1 (PtI.ref rfl rfl) rfl Try.underlying3 rfl rfl Taken.no) ?_
   refine SL.val (O.sub_fz (j := j) rfl Bnd.no (Bnd.at rfl (by first | rfl | omega)) (by first | omega | (simp only [List.length_map, Nat.le_refl, Nat.zero_le] <;> omega) | (simp <;> omega)) (by rw [List.length_map]; omega) sub_hi Try.underlying32 hi3 hs3 rfl Taken.no) ?_
   refine SL.val (O.makeFunc rfl rfl rfl Taken.no) ?_
   refine SL.memS (O.call (rn [(0, 0), (1, 1), (2, 104), (3, 101)]) [] rfl rfl rfl (containsFuncH (g := h ++ e) (c := nm[k]!) (j := j) (q := nm.take j) hf hal (by omega)) (.cons (ArgOk.same rfl) (.cons (ArgOk.same rfl) .nil)) (SubS.cons rfl (SubS.cons rfl (SubS.cons rfl (SubS.cons rfl SubS.nil)))) rfl rfl rfl rfl rfl (.inl rfl) hcallOk51 (r' := .u _) rfl rfl Taken.no) rfl rfl (S' := (0, .cells _ [.own 1]) :: (1, .mp _) :: (104, .cells _ [.u _]) :: (101, .cells _ [.u _]) :: _) rfl ?_
   refine SL.as (i' := vB (barJ rs atm nm h j k)) 72 rfl (by exact iv_bool (homQ_any hnd (by omega) hhl)) ?_
   refine E.fo ?_
   first | refine W.cond_d rfl (fun hc7 => ?_) (fun hc7 => ?_) | refine W.cond_nd rfl (fun hc7 => ?_) (fun hc7 => ?_) | refine W.cond rfl (fun hc7 => ?_) (fun hc7 => ?_)
   ·skip
    refine W.exit (E.th (E.hit (E.to (W.region (SL.mv rfl rfl ?_)))))
    refine SL.val (O.det (fun _ => by first | exact G.R.add64 rfl rfl (by omega) | exact G.R.add rfl rfl) rfl Taken.no) ?_
    refine SL.an rfl rfl (SL.nil ?_)
    refine E.again ((k + 1), (e), (t)) (rn []) ?_ ?_ rfl (fixL_spec rfl) ?_ ?_
    · exact (SubF.cons rfl (SubF.cons rfl (SubF.cons rfl (SubF.cons rfl (SubF.cons rfl (SubF.cons rfl (SubF.cons rfl SubF.nil)))))))
    · exact (SubS.cons rfl (SubS.cons rfl (SubS.cons rfl (SubS.cons rfl (SubS.cons rfl (SubS.cons rfl SubS.nil))))))
    ·try dsimp only
     exact ⟨by omega, he, by rw [visK_n (by first | exact okK_no (by omega) | exact okK_bar (by first | assumption | simp_all))]; exact ht⟩
    · (try dsimp only); omega
   have hK : okK rs atm nm h j k = true := okK_y (by omega) (by first | assumption | simp_all)
   have hkl := visK_le (ps := ps) (n := n) (d := d) (by omega) hK
   refine W.skip (E.to (W.seq ?_))
   refine W.draw [⟨[0], [], [], [1]⟩, ⟨[], [], [], []⟩, ⟨[101], [], [], []⟩, ⟨[], [], [], []⟩, ⟨[], [], [], []⟩, ⟨[104], [], [], []⟩, ⟨[1], [1], [], []⟩] rfl (by kernel_rfl) (by kernel_rfl) rfl rfl ?_
   refine WH.val (O.ld1 (PtI.ref rfl rfl) rfl Try.underlying80 rfl rfl Taken.no) rfl rfl ?_
   refine WH.val (O.ld1 (PtI.ofU (PtU.fz rfl)) rfl Try.underlying32 rfl rfl Taken.no) rfl rfl ?_
   refine WH.val (O.ld1 (PtI.ref rfl rfl) rfl Try.underlying3 rfl rfl Taken.no) rfl rfl ?_
   refine WH.val (O.idx_fz (i := j) rfl rfl (rfl) (row_get (by omega)) Try.underlying32 hi3 hs3 rfl Taken.no) rfl rfl ?_
   refine WH.val (O.ld1 (PtI.ofU (PtU.fz rfl)) rfl Try.underlying3 rfl rfl Taken.no) rfl rfl ?_
   refine WH.val (O.ld1 (PtI.ref rfl rfl) rfl Try.underlying3 rfl rfl Taken.no) rfl rfl ?_
   refine WH.effS (O.mapUpdate (kf := (fun a : Int => Value.int .i64 a)) (vf := (fun a : Int => Value.int .i64 a)) (l := mpH nm (h ++ e)) (b := (nm[j]! : Int)) (u := (nm[k]! : Int)) rfl rfl rfl rfl Try.underlying80 (KeyOk.int Try.underlying3) Taken.no) rfl rfl rfl (S' := (1, _) :: _) rfl ?_
   refine WH.nil (E.to (W.region ?_))
   rw [mpH_set nm[k]! hnd (by omega) hhl he]
   refine SL.val (O.ld1 (PtI.ref rfl rfl) rfl Try.underlying96 rfl rfl Taken.no) ?_
   refine SL.val (O.ld1 (PtI.ref rfl rfl) rfl Try.underlying3 rfl rfl Taken.no) ?_
   refine SL.val (O.det (fun _ => by first | exact G.R.add64 rfl rfl (by omega) | exact G.R.add rfl rfl) rfl Taken.no) ?_
   refine SL.memS (O.call (rn [(0, 0), (1, 1), (2, 2), (3, 3), (4, 4)]) [] rfl rfl rfl (ih nm[k]! t (by omega)) (.cons (ArgOk.same rfl) (.cons (ArgOk.same rfl) (.cons (ArgOk.same rfl) (.cons (ArgOk.same rfl) (.cons (ArgOk.same rfl) (.cons (ArgOk.same rfl) (.cons (ArgOk.same rfl) .nil))))))) (SubS.cons rfl (SubS.cons rfl (SubS.cons rfl (SubS.cons rfl (SubS.cons rfl SubS.nil))))) rfl rfl rfl rfl rfl (.inl rfl) hcallOk61 (r' := .tup []) rfl rfl Taken.no) rfl rfl (S' := (0, .cells _ [.own 1]) :: (1, .mp _) :: (2, .cells _ [_]) :: (3, .cells _ [_]) :: (4, .cells _ [.u _]) :: _) rfl ?_
   refine SL.nil (E.inn (E.to ?_))
   refine W.pick (K:=[(1,_),(2,_),(3,_),(4,_),(6,_),(7,_),(13,_)]) (Z:=[(0,_),(1,_),(2,_),(3,_),(4,_),(101,_),(104,_)]) ⟨rfl,rfl,rfl,rfl,rfl,rfl,rfl,trivial⟩ ⟨rfl,rfl,rfl,rfl,rfl,rfl,rfl,trivial⟩ ?_
   refine W.region (SL.mv rfl rfl ?_)
   refine SL.val (O.det (fun _ => by first | exact G.R.add64 rfl rfl (by omega) | exact G.R.add rfl rfl) rfl Taken.no) ?_
   refine SL.an rfl rfl (SL.nil ?_)
   refine E.again ((k + 1), ([nm[k]!]), (t + (visP n ps rs atm nm d (j + 1) (h ++ [nm[k]!])).length)) (rn []) ?_ ?_ rfl (fixL_spec rfl) ?_ ?_
   · exact (SubF.cons rfl (SubF.cons rfl (SubF.cons rfl (SubF.cons rfl (SubF.cons rfl (SubF.cons rfl (SubF.cons rfl SubF.nil)))))))
   · exact (SubS.cons rfl (SubS.cons rfl (SubS.cons rfl (SubS.cons rfl (SubS.cons rfl (SubS.cons rfl SubS.nil))))))
   ·try dsimp only
    exact ⟨by omega, by simp, by rw [visK_y hK, ht]; rw [List.length_append]; omega⟩
   · (try dsimp only); omega
  first | have hg5p := G.gA5 hg5 | have hg5p := G.gA6 hg5 | have hg5p := hg5
  refine SL.sk rfl rfl rfl hg5 (SL.sk rfl rfl rfl hg5 (SL.sk rfl rfl rfl hg5 (SL.sk rfl rfl rfl hg5 (SL.sk rfl rfl rfl hg5 ?_))))
  refine SL.val (O.pick_f rfl (G.ne_t hg5) rfl rfl Taken.no) ?_
  refine E.fo ?_
  refine W.pick (K:=[(1,_),(2,_),(3,_),(4,_),(6,_),(7,_),(13,_),(14,_),(67,_)]) (Z:=[(0,_),(1,_),(2,_),(3,_),(4,_),(101,_),(104,_)]) ⟨rfl,rfl,rfl,rfl,rfl,rfl,rfl,rfl,rfl,trivial⟩ ⟨rfl,rfl,rfl,rfl,rfl,rfl,rfl,trivial⟩ ?_
  refine W.cond_f rfl ?_
  refine W.skip (E.to (W.seq (W.rg ?_)))
  refine SL.val (O.ld1 (PtI.ofU (PtU.fz rfl)) rfl Try.underlying32 rfl rfl Taken.no) ?_
  refine SL.val (O.ld1 (PtI.ref rfl rfl) rfl Try.underlying3 rfl rfl Taken.no) ?_
  refine SL.val (O.sub_fz (j := j) rfl Bnd.no (Bnd.at rfl (by first | rfl | omega)) (by first | omega | (simp only [List.length_map, Nat.le_refl, Nat.zero_le] <;> omega) | (simp <;> omega)) (by rw [List.length_map]; omega) sub_hi Try.underlying32 hi3 hs3 rfl Taken.no) ?_
  refine SL.val (O.makeFunc rfl rfl rfl Taken.no) ?_
  refine SL.memS (O.call (rn [(0, 0), (1, 1), (2, 104), (3, 101)]) [] rfl rfl rfl (containsFuncH (g := h ++ e) (c := nm[k]!) (j := j) (q := nm.take j) hf hal (by omega)) (.cons (ArgOk.same rfl) (.cons (ArgOk.same rfl) .nil)) (SubS.cons rfl (SubS.cons rfl (SubS.cons rfl (SubS.cons rfl SubS.nil)))) rfl rfl rfl rfl rfl (.inl rfl) hcallOk51 (r' := .u _) rfl rfl Taken.no) rfl rfl (S' := (0, .cells _ [.own 1]) :: (1, .mp _) :: (104, .cells _ [.u _]) :: (101, .cells _ [.u _]) :: _) rfl ?_
  refine SL.as (i' := vB (barJ rs atm nm h j k)) 72 rfl (by exact iv_bool (homQ_any hnd (by omega) hhl)) ?_
  refine E.fo ?_
  first | refine W.cond_d rfl (fun hc8 => ?_) (fun hc8 => ?_) | refine W.cond_nd rfl (fun hc8 => ?_) (fun hc8 => ?_) | refine W.cond rfl (fun hc8 => ?_) (fun hc8 => ?_)
  ·skip
   refine W.exit (E.th (E.hit (E.to (W.region (SL.mv rfl rfl ?_)))))
   refine SL.val (O.det (fun _ => by first | exact G.R.add64 rfl rfl (by omega) | exact G.R.add rfl rfl) rfl Taken.no) ?_
   refine SL.an rfl rfl (SL.nil ?_)
   refine E.again ((k + 1), (e), (t)) (rn []) ?_ ?_ rfl (fixL_spec rfl) ?_ ?_
   · exact (SubF.cons rfl (SubF.cons rfl (SubF.cons rfl (SubF.cons rfl (SubF.cons rfl (SubF.cons rfl (SubF.cons rfl SubF.nil)))))))
   · exact (SubS.cons rfl (SubS.cons rfl (SubS.cons rfl (SubS.cons rfl (SubS.cons rfl (SubS.cons rfl SubS.nil))))))
   ·try dsimp only
    exact ⟨by omega, he, by rw [visK_n (by first | exact okK_no (by omega) | exact okK_bar (by first | assumption | simp_all))]; exact ht⟩
   · (try dsimp only); omega
  have hK : okK rs atm nm h j k = true := okK_y (by omega) (by first | assumption | simp_all)
  have hkl := visK_le (ps := ps) (n := n) (d := d) (by omega) hK
  refine W.skip (E.to (W.seq ?_))
  refine W.draw [⟨[0], [], [], [1]⟩, ⟨[], [], [], []⟩, ⟨[101], [], [], []⟩, ⟨[], [], [], []⟩, ⟨[], [], [], []⟩, ⟨[104], [], [], []⟩, ⟨[1], [1], [], []⟩] rfl (by kernel_rfl) (by kernel_rfl) rfl rfl ?_
  refine WH.val (O.ld1 (PtI.ref rfl rfl) rfl Try.underlying80 rfl rfl Taken.no) rfl rfl ?_
  refine WH.val (O.ld1 (PtI.ofU (PtU.fz rfl)) rfl Try.underlying32 rfl rfl Taken.no) rfl rfl ?_
  refine WH.val (O.ld1 (PtI.ref rfl rfl) rfl Try.underlying3 rfl rfl Taken.no) rfl rfl ?_
  refine WH.val (O.idx_fz (i := j) rfl rfl (rfl) (row_get (by omega)) Try.underlying32 hi3 hs3 rfl Taken.no) rfl rfl ?_
  refine WH.val (O.ld1 (PtI.ofU (PtU.fz rfl)) rfl Try.underlying3 rfl rfl Taken.no) rfl rfl ?_
  refine WH.val (O.ld1 (PtI.ref rfl rfl) rfl Try.underlying3 rfl rfl Taken.no) rfl rfl ?_
  refine WH.effS (O.mapUpdate (kf := (fun a : Int => Value.int .i64 a)) (vf := (fun a : Int => Value.int .i64 a)) (l := mpH nm (h ++ e)) (b := (nm[j]! : Int)) (u := (nm[k]! : Int)) rfl rfl rfl rfl Try.underlying80 (KeyOk.int Try.underlying3) Taken.no) rfl rfl rfl (S' := (1, _) :: _) rfl ?_
  refine WH.nil (E.to (W.region ?_))
  rw [mpH_set nm[k]! hnd (by omega) hhl he]
  refine SL.val (O.ld1 (PtI.ref rfl rfl) rfl Try.underlying96 rfl rfl Taken.no) ?_
  refine SL.val (O.ld1 (PtI.ref rfl rfl) rfl Try.underlying3 rfl rfl Taken.no) ?_
  refine SL.val (O.det (fun _ => by first | exact G.R.add64 rfl rfl (by omega) | exact G.R.add rfl rfl) rfl Taken.no) ?_
  refine SL.memS (O.call (rn [(0, 0), (1, 1), (2, 2), (3, 3), (4, 4)]) [] rfl rfl rfl (ih nm[k]! t (by omega)) (.cons (ArgOk.same rfl) (.cons (ArgOk.same rfl) (.cons (ArgOk.same rfl) (.cons (ArgOk.same rfl) (.cons (ArgOk.same rfl) (.cons (ArgOk.same rfl) (.cons (ArgOk.same rfl) .nil))))))) (SubS.cons rfl (SubS.cons rfl (SubS.cons rfl (SubS.cons rfl (SubS.cons rfl SubS.nil))))) rfl rfl rfl rfl rfl (.inl rfl) hcallOk61 (r' := .tup []) rfl rfl Taken.no) rfl rfl (S' := (0, .cells _ [.own 1]) :: (1, .mp _) :: (2, .cells _ [_]) :: (3, .cells _ [_]) :: (4, .cells _ [.u _]) :: _) rfl ?_
  refine SL.nil (E.inn (E.to ?_))
  refine W.pick (K:=[(1,_),(2,_),(3,_),(4,_),(6,_),(7,_),(13,_)]) (Z:=[(0,_),(1,_),(2,_),(3,_),(4,_),(101,_),(104,_)]) ⟨rfl,rfl,rfl,rfl,rfl,rfl,rfl,trivial⟩ ⟨rfl,rfl,rfl,rfl,rfl,rfl,rfl,trivial⟩ ?_
  refine W.region (SL.mv rfl rfl ?_)
  refine SL.val (O.det (fun _ => by first | exact G.R.add64 rfl rfl (by omega) | exact G.R.add rfl rfl) rfl Taken.no) ?_
  refine SL.an rfl rfl (SL.nil ?_)
  refine E.again ((k + 1), ([nm[k]!]), (t + (visP n ps rs atm nm d (j + 1) (h ++ [nm[k]!])).length)) (rn []) ?_ ?_ rfl (fixL_spec rfl) ?_ ?_
  · exact (SubF.cons rfl (SubF.cons rfl (SubF.cons rfl (SubF.cons rfl (SubF.cons rfl (SubF.cons rfl (SubF.cons rfl SubF.nil)))))))
  · exact (SubS.cons rfl (SubS.cons rfl (SubS.cons rfl (SubS.cons rfl (SubS.cons rfl (SubS.cons rfl SubS.nil))))))
  ·try dsimp only
   exact ⟨by omega, by simp, by rw [visK_y hK, ht]; rw [List.length_append]; omega⟩
  · (try dsimp only); omega
 refine W.exit (E.th (E.th (E.hit (E.to ?_))))
 refine W.draw [⟨[0], [], [], [1]⟩, ⟨[], [], [], []⟩, ⟨[101], [], [], []⟩, ⟨[], [], [], []⟩, ⟨[], [], [], []⟩, ⟨[1], [1], [], []⟩] rfl (by kernel_rfl) (by kernel_rfl) rfl rfl ?_
 refine WH.val (O.ld1 (PtI.ref rfl rfl) rfl Try.underlying80 rfl rfl Taken.no) rfl rfl ?_
 refine WH.val (O.ld1 (PtI.ofU (PtU.fz rfl)) rfl Try.underlying32 rfl rfl Taken.no) rfl rfl ?_
 refine WH.val (O.ld1 (PtI.ref rfl rfl) rfl Try.underlying3 rfl rfl Taken.no) rfl rfl ?_
 refine WH.val (O.idx_fz (i := j) rfl rfl (rfl) (row_get (by omega)) Try.underlying32 hi3 hs3 rfl Taken.no) rfl rfl ?_
 refine WH.val (O.ld1 (PtI.ofU (PtU.fz rfl)) rfl Try.underlying3 rfl rfl Taken.no) rfl rfl ?_
 refine WH.effS (O.mapDelete (kf := (fun a : Int => Value.int .i64 a)) (vf := (fun a : Int => Value.int .i64 a)) (l := mpH nm (h ++ e)) (b := (nm[j]! : Int)) rfl rfl rfl Try.underlying80 (KeyOk.int Try.underlying3) Taken.no) rfl rfl rfl (S' := (1, _) :: _) rfl ?_
 refine WH.nil ?_
 have hkj : k = j + 1 := by omega
 rw [visP_s, ← hkj, ← ht]
 refine E.fin (rs := []) (rn []) (.inr rfl) rfl .nil ?_ ?_ rfl (fixL_spec rfl)
 ·skip
  rfl
 · exact (SubS.cons rfl (SubS.val rfl (by first | rfl | exact sb_mp (mpH_del hnd (by omega) hhl he)) (SubS.cons rfl (SubS.cons rfl (SubS.cons rfl SubS.nil)))))

theorem eachC {n : Nat} {ps : List Pr} {rs : List Ru} {atm nm : List Nat} (hok : (Prob.mk (n : Int) ps rs).ok) (hal : atm.length = n) (N : Nms n atm nm) : ∀ (d j : Nat) (h : List Nat) (s : Nat), j + d = nm.length → h.length = j → s + (visP n ps rs atm nm d j h).length ≤ 1000000 → Con Try.prog 61 [vI (j : Int), .u (.ptr [.sl 1 (nm.map eN)]), .u (.ptr [uI (n : Int), .sl 3 (ps.map ePr), .sl 3 (rs.map eRu)]), .u (.ptr [.sl 1 (atm.map eN)]), .ref 0 0, .ref 2 0, .ref 3 0] [(0, .cells 80 [.own 1]), (1, .mp (mpE (fun a : Int => Value.int .i64 a) (fun a : Int => Value.int .i64 a) (mpH nm h))), (2, .cells 67 [.clo (.func 42) [] [.ref 4 0]]), (3, .cells 96 [.clo (.func 61) [] [.u (.ptr [.sl 1 (nm.map eN)]), .u (.ptr [uI (n : Int), .sl 3 (ps.map ePr), .sl 3 (rs.map eRu)]), .u (.ptr [.sl 1 (atm.map eN)]), .ref 0 0, .ref 2 0, .ref 3 0]]), (4, .cells 3 [.u (uI ((s : Nat) : Int))])] (.tup []) [(0, .cells 80 [.own 1]), (1, .mp (mpE (fun a : Int => Value.int .i64 a) (fun a : Int => Value.int .i64 a) (mpH nm h))), (2, .cells 67 [.clo (.func 42) [] [.ref 4 0]]), (3, .cells 96 [.clo (.func 61) [] [.u (.ptr [.sl 1 (nm.map eN)]), .u (.ptr [uI (n : Int), .sl 3 (ps.map ePr), .sl 3 (rs.map eRu)]), .u (.ptr [.sl 1 (atm.map eN)]), .ref 0 0, .ref 2 0, .ref 3 0]]), (4, .cells 3 [.u (uI (((s + (visP n ps rs atm nm d j h).length) : Nat) : Int))])]
  | 0, j, h, s, h1, h2, hb => eachC_step hok hal N h1 h2 hb (fun d' e => by cases e)
  | d + 1, j, h, s, h1, h2, hb => eachC_step hok hal N h1 h2 hb (fun d' e v t hb2 => by
    obtain rfl : d = d' := by omega
    exact eachC hok hal N d (j + 1) (h ++ [v]) t (by omega) (by rw [List.length_append, h2]; rfl) hb2)

end Go.Proofs.Ytbkbeplddddgeaa
end
