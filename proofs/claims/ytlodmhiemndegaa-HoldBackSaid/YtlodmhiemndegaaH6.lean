/-
  The walks.
-/
import Derived.Test.YtlodmhiemndegaaH5
namespace Go.Proofs.Ytlodmhiemndegaa
open Go Go.RowKit Go.H Go.D57

theorem hcallOk14 : G.callOk Try.prog 14 = true := by kernel_rfl

/-- bookplate/bookplateref57.Order. -/
theorem refOrder_h {q : List Hd} :
    Con Try.prog 17 [vL 5 (q.map eH)] [] (.tup [vL 1 ((ordQ q).map eI), vI (ordE q)]) [] := by
  obtain ⟨i3, hi3, hz3, hs3, hb3⟩ := hinf3
  refine Con.enterL (n := 25) Try.func17 rfl rfl rfl (fun τ w ok vs hin => ?_)
  have hl0 := hin.len (i := 0) rfl
  try rw [List.length_map] at hl0
  clear hin
  refine W.seq ?_
  refine W.region ?_
  refine SL.val (O.assign rfl rfl Taken.no) ?_
  refine SL.val (O.assign rfl rfl Taken.no) ?_
  refine SL.nil ?_
  refine E.to ?_
  refine W.seq ?_
  refine W.seq ?_
  refine W.region ?_
  refine SL.val (O.move rfl rfl Taken.no) ?_
  refine SL.val (O.callp rfl rfl rfl (refvalid_h) (.cons (ArgOk.same rfl) .nil) hcallOk24 rfl Taken.no) ?_
  refine SL.val (O.det (fun _ => G.R.not rfl) rfl Taken.no) ?_
  refine SL.nil ?_
  refine E.to ?_
  first | refine W.cond_d rfl (fun hc1 => ?_) (fun hc1 => ?_) | refine W.cond_nd rfl (fun hc1 => ?_) (fun hc1 => ?_) | refine W.cond rfl (fun hc1 => ?_) (fun hc1 => ?_)
  · skip
    refine W.seq ?_
    refine W.region ?_
    refine SL.val (O.assign rfl rfl Taken.no) ?_
    refine SL.val (O.assign rfl rfl Taken.no) ?_
    refine SL.nil ?_
    refine E.to ?_
    refine W.ret ?_
    refine E.thr ?_
    refine E.nilsl 2 1 rfl ?_
    refine E.fin (rs := [_, _]) (rn []) (.inl rfl) rfl (.cons (ResOne.tmp rfl) (.cons (ResOne.tmp rfl) .nil)) ?_ ?_ rfl (fixL_spec rfl)
    · skip
      rw [ordQ, if_neg (by first | assumption | simp_all), ordE, if_neg (by first | assumption | simp_all)]; rfl
    · exact SubS.nil
  · skip
    have hv : validQ q := by first | assumption | (rename_i z; simpa using z)
    have h60 := hv.2
    refine W.skip ?_
    refine E.to ?_
    refine W.seq ?_
    refine W.region ?_
    refine SL.val (O.assign rfl rfl Taken.no) ?_
    refine SL.nil ?_
    refine E.to ?_
    refine W.seq ?_
    refine W.block ?_
    refine W.adopt 4 102 3 1 (by decide) rfl rfl rfl ?_
    refine W.loopx1 (fun (k : Nat) => [(0, vL 5 ((ordS q k).map eH)), (4, .own 101)]) (fun (k : Nat) => [(101, .data 3 1 ((ordI q k).map eI))]) (fun (k : Nat) => k ≤ q.length) (fun (k : Nat) => q.length - k) (0) (rn [(101, 102)]) (.cons (t := 2) rfl (.cons (t := 3) rfl .nil)) .nil rfl ?_ ?_ rfl rfl ?_ ?_
    · exact (SubF.cons rfl (SubF.cons rfl SubF.nil))
    · exact (SubS.cons rfl SubS.nil)
    · skip
      omega
    intro k hinv
    have hk := hinv
    obtain ⟨hos, hol⟩ := ordS_ok hv k hk
    have hoi := ordI_len q k
    refine W.seq ?_
    refine W.seq ?_
    refine W.region ?_
    refine SL.val (O.move rfl rfl Taken.no) ?_
    refine SL.val (O.lenE (SlOf.fz rfl (by decide)) (by first | exact List.length_map _ | rfl) Try.underlying22 rfl Taken.no) ?_
    refine SL.val (O.det (fun _ => G.R.gtr rfl rfl) rfl Taken.no) ?_
    refine SL.nil ?_
    refine E.to ?_
    first | refine W.cond_d rfl (fun hc2 => ?_) (fun hc2 => ?_) | refine W.cond_nd rfl (fun hc2 => ?_) (fun hc2 => ?_) | refine W.cond rfl (fun hc2 => ?_) (fun hc2 => ?_)
    · skip
      refine W.skip ?_
      refine E.to ?_
      refine W.block ?_
      refine W.seq ?_
      refine W.region ?_
      refine SL.val (O.move rfl rfl Taken.no) ?_
      refine SL.memS (O.call (rn []) [] rfl rfl rfl (refserve_h hos (by omega)) (.cons (ArgOk.same rfl) .nil) SubS.nil rfl rfl rfl rfl rfl (.inl rfl) hcallOk40 (r' := .tup [.agg [.u _, .u _, .u _, .u _, .u _], .u _]) rfl rfl Taken.no) rfl rfl (S' := _) rfl ?_
      refine SL.val (O.move rfl rfl Taken.no) ?_
      refine SL.val (O.extract rfl rfl rfl Taken.no) ?_
      refine SL.val (O.extract rfl rfl rfl Taken.no) ?_
      refine SL.memS (O.alloc (z := .agg #[.int .i64 0, .int .i64 0, .int .i64 0, .int .i64 0, .int .i64 0]) (is := [.u (.sc (.int .i64 0)), .u (.sc (.int .i64 0)), .u (.sc (.int .i64 0)), .u (.sc (.int .i64 0)), .u (.sc (.int .i64 0))]) 103 (by kernel_rfl) rfl rfl rfl Taken.no) rfl rfl (S' := (103, _) :: _) rfl ?_
      refine SL.effS (O.st_ref (m := 5) rfl rfl rfl (js := [_, _, _, _, _]) rfl rfl (by kernel_rfl) (by simp) (Nat.le_of_ble_eq_true rfl) rfl (is' := [_, _, _, _, _]) rfl Taken.no) (S' := (103, _) :: _) rfl ?_
      refine SL.val (O.assign rfl rfl Taken.no) ?_
      refine SL.nil ?_
      refine E.to ?_
      refine W.seq ?_
      refine W.region ?_
      refine SL.val (O.move rfl rfl Taken.no) ?_
      refine SL.val (O.fld_ref (o' := 0) rfl Try.underlying32 rfl (m := 0) (by kernel_rfl) rfl rfl Taken.no) ?_
      refine SL.val (O.ld1 (PtI.ref rfl rfl) rfl Try.underlying3 rfl rfl Taken.no) ?_
      refine SL.memS (O.buildSlice 104 rfl rfl Try.underlying40 hi3 hz3 hs3 (by decide) rfl (by decide) rfl rfl rfl Taken.no) rfl rfl (S' := (104, _) :: _) rfl ?_
      refine SL.memS (O.app (k' := 105) rfl rfl (SlOf.own rfl rfl) Try.underlying40 hi3 hz3 hs3 rfl rfl (by exact map_snoc (x := ordAt q k) rfl) (by rw [hb3]; first | omega | (simp only [List.length_map]; omega) | (simp <;> omega)) (by first | omega | (simp only [List.length_map]; omega) | (simp <;> omega)) rfl Taken.no) rfl rfl (S' := (105, _) :: (101, .dead) :: _) rfl ?_
      refine SL.val (O.assign rfl rfl Taken.no) ?_
      refine SL.nil ?_
      refine E.to ?_
      refine W.region ?_
      refine SL.val (O.move rfl rfl Taken.no) ?_
      refine SL.val (O.assign rfl rfl Taken.no) ?_
      refine SL.nil ?_
      refine E.inn ?_
      refine E.again ((k + 1)) (rn [(101, 105)]) ?_ ?_ rfl (fixL_spec rfl) ?_ ?_
      · exact (SubF.cons rfl (SubF.cons rfl (SubF.cons rfl (SubF.cons rfl SubF.nil))))
      · exact (SubS.val rfl (by (try dsimp only); exact sb_data (by rw [ordI_succ])) SubS.nil)
      · try dsimp only
        omega
      · (try dsimp only); omega
    · skip
      refine W.exit ?_
      refine E.th ?_
      refine E.th ?_
      refine E.hit ?_
      refine E.to ?_
      refine W.seq ?_
      refine W.region ?_
      refine SL.val (O.move rfl rfl Taken.no) ?_
      refine SL.val (O.assign rfl rfl Taken.no) ?_
      refine SL.val (O.assign rfl rfl Taken.no) ?_
      refine SL.nil ?_
      refine E.to ?_
      refine W.ret ?_
      refine E.freeze 101 rfl (F' := [(2, _)]) (⟨⟨_, rfl, rfl⟩, trivial⟩) ?_
      refine E.fin (rs := [_, _]) (rn []) (.inl rfl) rfl (.cons (ResOne.tmp rfl) (.cons (ResOne.tmp rfl) .nil)) ?_ ?_ rfl (fixL_spec rfl)
      · skip
        obtain rfl : k = q.length := by omega
        rw [ordQ, if_pos hv, ordE, if_pos hv]; rfl
      · exact SubS.nil

/-- bookplate/hold.Order. -/
theorem holdOrder_h {q : List Hd} :
    Con Try.prog 16 [vL 5 (q.map eH)] [] (.tup [vL 1 ((ordQ q).map eI), vI (ordE q)]) [] := by
  obtain ⟨i3, hi3, hz3, hs3, hb3⟩ := hinf3
  refine Con.enterL (n := 27) Try.func16 rfl rfl rfl (fun τ w ok vs hin => ?_)
  have hl0 := hin.len (i := 0) rfl
  try rw [List.length_map] at hl0
  clear hin
  refine W.seq ?_
  refine W.region ?_
  refine SL.val (O.assign rfl rfl Taken.no) ?_
  refine SL.val (O.assign rfl rfl Taken.no) ?_
  refine SL.nil ?_
  refine E.to ?_
  refine W.seq ?_
  refine W.seq ?_
  refine W.region ?_
  refine SL.val (O.move rfl rfl Taken.no) ?_
  refine SL.val (O.callp rfl rfl rfl (valid_h) (.cons (ArgOk.same rfl) .nil) hcallOk23 rfl Taken.no) ?_
  refine SL.val (O.det (fun _ => G.R.not rfl) rfl Taken.no) ?_
  refine SL.nil ?_
  refine E.to ?_
  first | refine W.cond_d rfl (fun hc1 => ?_) (fun hc1 => ?_) | refine W.cond_nd rfl (fun hc1 => ?_) (fun hc1 => ?_) | refine W.cond rfl (fun hc1 => ?_) (fun hc1 => ?_)
  · skip
    refine W.seq ?_
    refine W.region ?_
    refine SL.val (O.assign rfl rfl Taken.no) ?_
    refine SL.val (O.assign rfl rfl Taken.no) ?_
    refine SL.nil ?_
    refine E.to ?_
    refine W.ret ?_
    refine E.thr ?_
    refine E.nilsl 2 1 rfl ?_
    refine E.fin (rs := [_, _]) (rn []) (.inl rfl) rfl (.cons (ResOne.tmp rfl) (.cons (ResOne.tmp rfl) .nil)) ?_ ?_ rfl (fixL_spec rfl)
    · skip
      rw [ordQ, if_neg (by first | assumption | simp_all), ordE, if_neg (by first | assumption | simp_all)]; rfl
    · exact SubS.nil
  · skip
    have hv : validQ q := by first | assumption | (rename_i z; simpa using z)
    have h60 := hv.2
    refine W.skip ?_
    refine E.to ?_
    refine W.seq ?_
    refine W.region ?_
    refine SL.val (O.assign rfl rfl Taken.no) ?_
    refine SL.nil ?_
    refine E.to ?_
    refine W.seq ?_
    refine W.block ?_
    refine W.adopt 4 102 3 1 (by decide) rfl rfl rfl ?_
    refine W.loopx1 (fun (k : Nat) => [(0, vL 5 ((ordS q k).map eH)), (4, .own 101)]) (fun (k : Nat) => [(101, .data 3 1 ((ordI q k).map eI))]) (fun (k : Nat) => k ≤ q.length) (fun (k : Nat) => q.length - k) (0) (rn [(101, 102)]) (.cons (t := 2) rfl (.cons (t := 3) rfl .nil)) .nil rfl ?_ ?_ rfl rfl ?_ ?_
    · exact (SubF.cons rfl (SubF.cons rfl SubF.nil))
    · exact (SubS.cons rfl SubS.nil)
    · skip
      omega
    intro k hinv
    have hk := hinv
    obtain ⟨hos, hol⟩ := ordS_ok hv k hk
    have hoi := ordI_len q k
    refine W.seq ?_
    refine W.seq ?_
    refine W.region ?_
    refine SL.val (O.move rfl rfl Taken.no) ?_
    refine SL.val (O.lenE (SlOf.fz rfl (by decide)) (by first | exact List.length_map _ | rfl) Try.underlying30 rfl Taken.no) ?_
    refine SL.val (O.det (fun _ => G.R.gtr rfl rfl) rfl Taken.no) ?_
    refine SL.nil ?_
    refine E.to ?_
    first | refine W.cond_d rfl (fun hc2 => ?_) (fun hc2 => ?_) | refine W.cond_nd rfl (fun hc2 => ?_) (fun hc2 => ?_) | refine W.cond rfl (fun hc2 => ?_) (fun hc2 => ?_)
    · skip
      refine W.skip ?_
      refine E.to ?_
      refine W.block ?_
      refine W.seq ?_
      refine W.region ?_
      refine SL.val (O.move rfl rfl Taken.no) ?_
      refine SL.memS (O.call (rn []) [] rfl rfl rfl (holdServe_h) (.cons (ArgOk.same rfl) .nil) SubS.nil rfl rfl rfl rfl rfl (.inl rfl) hcallOk14 (r' := .tup [.agg [.u _, .u _, .u _, .u _, .u _], .u _, .u _]) rfl rfl Taken.no) rfl rfl (S' := _) rfl ?_
      refine SL.as (i' := .tup [.agg [.u (uI (ordS q k)[nextI (ordS q k)]!.id), .u (uI (ordS q k)[nextI (ordS q k)]!.pat), .u (uI (ordS q k)[nextI (ordS q k)]!.cls), .u (uI (ordS q k)[nextI (ordS q k)]!.tim), .u (uI (ordS q k)[nextI (ordS q k)]!.ov)], vL 5 ((srvL (ordS q k) (nextI (ordS q k))).map eH), vI 0]) 16 rfl (by rw [(srv_0 hos (by omega)).1, (srv_0 hos (by omega)).2.1, (srv_0 hos (by omega)).2.2]) ?_
      refine SL.val (O.move rfl rfl Taken.no) ?_
      refine SL.val (O.extract rfl rfl rfl Taken.no) ?_
      refine SL.val (O.extract rfl rfl rfl Taken.no) ?_
      refine SL.val (O.extract rfl rfl rfl Taken.no) ?_
      refine SL.memS (O.alloc (z := .agg #[.int .i64 0, .int .i64 0, .int .i64 0, .int .i64 0, .int .i64 0]) (is := [.u (.sc (.int .i64 0)), .u (.sc (.int .i64 0)), .u (.sc (.int .i64 0)), .u (.sc (.int .i64 0)), .u (.sc (.int .i64 0))]) 103 (by kernel_rfl) rfl rfl rfl Taken.no) rfl rfl (S' := (103, _) :: _) rfl ?_
      refine SL.effS (O.st_ref (m := 5) rfl rfl rfl (js := [_, _, _, _, _]) rfl rfl (by kernel_rfl) (by simp) (Nat.le_of_ble_eq_true rfl) rfl (is' := [_, _, _, _, _]) rfl Taken.no) (S' := (103, _) :: _) rfl ?_
      refine SL.val (O.assign rfl rfl Taken.no) ?_
      refine SL.val (O.assign rfl rfl Taken.no) ?_
      refine SL.nil ?_
      refine E.to ?_
      refine W.seq ?_
      refine W.region ?_
      refine SL.val (O.move rfl rfl Taken.no) ?_
      refine SL.val (O.fld_ref (o' := 0) rfl Try.underlying26 rfl (m := 0) (by kernel_rfl) rfl rfl Taken.no) ?_
      refine SL.val (O.ld1 (PtI.ref rfl rfl) rfl Try.underlying3 rfl rfl Taken.no) ?_
      refine SL.memS (O.buildSlice 104 rfl rfl Try.underlying40 hi3 hz3 hs3 (by decide) rfl (by decide) rfl rfl rfl Taken.no) rfl rfl (S' := (104, _) :: _) rfl ?_
      refine SL.memS (O.app (k' := 105) rfl rfl (SlOf.own rfl rfl) Try.underlying40 hi3 hz3 hs3 rfl rfl (by exact map_snoc (x := ordAt q k) rfl) (by rw [hb3]; first | omega | (simp only [List.length_map]; omega) | (simp <;> omega)) (by first | omega | (simp only [List.length_map]; omega) | (simp <;> omega)) rfl Taken.no) rfl rfl (S' := (105, _) :: (101, .dead) :: _) rfl ?_
      refine SL.val (O.assign rfl rfl Taken.no) ?_
      refine SL.nil ?_
      refine E.to ?_
      refine W.region ?_
      refine SL.val (O.move rfl rfl Taken.no) ?_
      refine SL.val (O.assign rfl rfl Taken.no) ?_
      refine SL.nil ?_
      refine E.inn ?_
      refine E.again ((k + 1)) (rn [(101, 105)]) ?_ ?_ rfl (fixL_spec rfl) ?_ ?_
      · exact (SubF.cons rfl (SubF.cons rfl (SubF.cons rfl (SubF.cons rfl SubF.nil))))
      · exact (SubS.val rfl (by (try dsimp only); exact sb_data (by rw [ordI_succ])) SubS.nil)
      · try dsimp only
        omega
      · (try dsimp only); omega
    · skip
      refine W.exit ?_
      refine E.th ?_
      refine E.th ?_
      refine E.hit ?_
      refine E.to ?_
      refine W.seq ?_
      refine W.region ?_
      refine SL.val (O.move rfl rfl Taken.no) ?_
      refine SL.val (O.assign rfl rfl Taken.no) ?_
      refine SL.val (O.assign rfl rfl Taken.no) ?_
      refine SL.nil ?_
      refine E.to ?_
      refine W.ret ?_
      refine E.freeze 101 rfl (F' := [(2, _)]) (⟨⟨_, rfl, rfl⟩, trivial⟩) ?_
      refine E.fin (rs := [_, _]) (rn []) (.inl rfl) rfl (.cons (ResOne.tmp rfl) (.cons (ResOne.tmp rfl) .nil)) ?_ ?_ rfl (fixL_spec rfl)
      · skip
        obtain rfl : k = q.length := by omega
        rw [ordQ, if_pos hv, ordE, if_pos hv]; rfl
      · exact SubS.nil

end Go.Proofs.Ytlodmhiemndegaa
