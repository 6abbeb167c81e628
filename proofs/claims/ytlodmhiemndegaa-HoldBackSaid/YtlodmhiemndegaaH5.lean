/-
  The walks.
-/
import Derived.Test.YtlodmhiemndegaaH4
namespace Go.Proofs.Ytlodmhiemndegaa
open Go Go.RowKit Go.H Go.D57

theorem hcallOk11 : G.callOk Try.prog 11 = true := by kernel_rfl
theorem hcallOk37 : G.callOk Try.prog 37 = true := by kernel_rfl
theorem hcallOk38 : G.callOk Try.prog 38 = true := by kernel_rfl
theorem hcallOk39 : G.callOk Try.prog 39 = true := by kernel_rfl
theorem hcallOk40 : G.callOk Try.prog 40 = true := by kernel_rfl

/-- bookplate/bookplateref57.serve. -/
theorem refserve_h {q : List Hd} (hv : validQ q) (hl : 0 < q.length) :
    Con Try.prog 40 [vL 5 (q.map eH)] [] (.tup [.agg [.u (uI q[nextI q]!.id), .u (uI q[nextI q]!.pat), .u (uI q[nextI q]!.cls), .u (uI q[nextI q]!.tim), .u (uI q[nextI q]!.ov)], vL 5 ((srvL q (nextI q)).map eH)]) [] := by
  have hn := nextI_lt hl
  have h60 := hv.2
  obtain ⟨i32, hi32, hz32, hs32, hb32⟩ := hinf32
  refine Con.enterL (n := 39) Try.func40 rfl rfl rfl (fun τ w ok vs hin => ?_)
  have hl0 := hin.len (i := 0) rfl
  try rw [List.length_map] at hl0
  clear hin
  refine W.seq ?_
  refine W.region ?_
  refine SL.memS (O.alloc (z := .agg #[.int .i64 0, .int .i64 0, .int .i64 0, .int .i64 0, .int .i64 0]) (is := [.u (.sc (.int .i64 0)), .u (.sc (.int .i64 0)), .u (.sc (.int .i64 0)), .u (.sc (.int .i64 0)), .u (.sc (.int .i64 0))]) 101 (by kernel_rfl) rfl rfl rfl Taken.no) rfl rfl (S' := (101, _) :: _) rfl ?_
  refine SL.val (O.assign rfl rfl Taken.no) ?_
  refine SL.nil ?_
  refine E.to ?_
  refine W.seq ?_
  refine W.region ?_
  refine SL.val (O.move rfl rfl Taken.no) ?_
  refine SL.val (O.callp rfl rfl rfl (refnext_h) (.cons (ArgOk.same rfl) .nil) hcallOk36 rfl Taken.no) ?_
  refine SL.val (O.assign rfl rfl Taken.no) ?_
  refine SL.nil ?_
  refine E.to ?_
  refine W.seq ?_
  refine W.region ?_
  refine SL.val (O.assign rfl rfl Taken.no) ?_
  refine SL.nil ?_
  refine E.to ?_
  refine W.seq ?_
  refine W.seq ?_
  refine W.region ?_
  refine SL.val (O.assign rfl rfl Taken.no) ?_
  refine SL.nil ?_
  refine E.to ?_
  refine W.block ?_
  refine W.adopt 5 103 32 5 (by decide) rfl rfl rfl ?_
  refine W.loopx1 (fun (k : Nat) => [(5, .own 102), (6, vI (k : Int))]) (fun (k : Nat) => [(102, .data 32 5 ((srvR q (nextI q) k).map eH))]) (fun (k : Nat) => k ≤ q.length) (fun (k : Nat) => q.length - k) (0) (rn [(102, 103)]) (.cons (t := 0) rfl (.cons (t := 2) rfl (.cons (t := 3) rfl (.cons (t := 4) rfl .nil)))) (.cons (t := 101) rfl .nil) rfl ?_ ?_ rfl rfl ?_ ?_
  · exact (SubF.cons rfl (SubF.cons rfl SubF.nil))
  · exact (SubS.cons rfl SubS.nil)
  · skip
    omega
  intro k hinv
  have hk := hinv
  have hrl := srvR_len q (nextI q) k
  have hov := fun h : k < q.length => (hv.1 k h).1
  refine W.seq ?_
  refine W.seq ?_
  refine W.region ?_
  refine SL.val (O.move rfl rfl Taken.no) ?_
  refine SL.val (O.move rfl rfl Taken.no) ?_
  refine SL.val (O.lenE (SlOf.fz rfl (by decide)) (by first | exact List.length_map _ | rfl) Try.underlying22 rfl Taken.no) ?_
  refine SL.val (O.det (fun _ => G.R.lss rfl rfl) rfl Taken.no) ?_
  refine SL.nil ?_
  refine E.to ?_
  first | refine W.cond_d rfl (fun hc1 => ?_) (fun hc1 => ?_) | refine W.cond_nd rfl (fun hc1 => ?_) (fun hc1 => ?_) | refine W.cond rfl (fun hc1 => ?_) (fun hc1 => ?_)
  · skip
    refine W.skip ?_
    refine E.to ?_
    refine W.seq ?_
    refine W.block ?_
    refine W.seq ?_
    refine W.region ?_
    refine SL.val (O.move rfl rfl Taken.no) ?_
    refine SL.val (O.move rfl rfl Taken.no) ?_
    refine SL.val (O.idx_fz rfl rfl (rfl) (row_get (by omega)) Try.underlying22 hi32 hs32 rfl Taken.no) ?_
    refine SL.val (O.ldU (m := 5) (PtU.fz rfl) rfl Try.underlying32 rfl (by kernel_rfl) rfl Taken.no) ?_
    refine SL.memS (O.alloc (z := .agg #[.int .i64 0, .int .i64 0, .int .i64 0, .int .i64 0, .int .i64 0]) (is := [.u (.sc (.int .i64 0)), .u (.sc (.int .i64 0)), .u (.sc (.int .i64 0)), .u (.sc (.int .i64 0)), .u (.sc (.int .i64 0))]) 104 (by kernel_rfl) rfl rfl rfl Taken.no) rfl rfl (S' := (104, _) :: _) rfl ?_
    refine SL.effS (O.st_ref (m := 5) rfl rfl rfl (js := [_, _, _, _, _]) rfl rfl (by kernel_rfl) (by simp) (Nat.le_of_ble_eq_true rfl) rfl (is' := [_, _, _, _, _]) rfl Taken.no) (S' := (104, _) :: _) rfl ?_
    refine SL.nil ?_
    refine E.to ?_
    refine W.seq ?_
    refine W.seq ?_
    refine W.region ?_
    refine SL.val (O.move rfl rfl Taken.no) ?_
    refine SL.val (O.move rfl rfl Taken.no) ?_
    refine SL.val (O.det (fun _ => G.R.lss rfl rfl) rfl Taken.no) ?_
    refine SL.nil ?_
    refine E.to ?_
    first | refine W.cond_d rfl (fun hc2 => ?_) (fun hc2 => ?_) | refine W.cond_nd rfl (fun hc2 => ?_) (fun hc2 => ?_) | refine W.cond rfl (fun hc2 => ?_) (fun hc2 => ?_)
    · skip
      refine W.region ?_
      refine SL.val (O.fld_ref (o' := 4) rfl Try.underlying32 rfl (m := 0) (by kernel_rfl) rfl rfl Taken.no) ?_
      refine SL.val (O.ld1 (PtI.ref rfl rfl) rfl Try.underlying3 rfl rfl Taken.no) ?_
      refine SL.val (O.det (fun _ => by first | exact G.R.add64 rfl rfl (by have := (hov (by omega)).2.2.2.2.2.2.2.2; omega)) rfl Taken.no) ?_
      refine SL.val (O.fld_ref (o' := 4) rfl Try.underlying32 rfl (m := 0) (by kernel_rfl) rfl rfl Taken.no) ?_
      refine SL.effS (O.st_ref (m := 1) rfl rfl rfl (js := [_]) rfl rfl (by kernel_rfl) (by simp) (Nat.le_of_ble_eq_true rfl) rfl (is' := [_, _, _, _, _]) rfl Taken.no) (S' := (104, _) :: _) rfl ?_
      refine SL.nil ?_
      refine E.to ?_
      refine W.seq ?_
      refine W.region ?_
      refine SL.val (O.move rfl rfl Taken.no) ?_
      refine SL.val (O.move rfl rfl Taken.no) ?_
      refine SL.val (O.det (fun _ => G.R.neq rfl rfl) rfl Taken.no) ?_
      refine SL.nil ?_
      refine E.to ?_
      refine W.pick (.cons (t := 0) rfl (.cons (t := 2) rfl (.cons (t := 3) rfl (.cons (t := 4) rfl (.cons (t := 5) rfl (.cons (t := 6) rfl (.cons (t := 7) rfl (.cons (t := 10) rfl (.cons (t := 11) rfl (.cons (t := 12) rfl (.cons (t := 13) rfl (.cons (t := 16) rfl (.cons (t := 17) rfl (.cons (t := 18) rfl (.cons (t := 19) rfl (.cons (t := 20) rfl (.cons (t := 21) rfl (.cons (t := 22) rfl (.cons (t := 23) rfl (.cons (t := 24) rfl (.cons (t := 25) rfl (.cons (t := 26) rfl (.cons (t := 27) rfl (.cons (t := 28) rfl (.cons (t := 29) rfl .nil))))))))))))))))))))))))) (.cons (t := 101) rfl (.cons (t := 102) rfl (.cons (t := 104) rfl .nil))) ?_
      first | refine W.cond_d rfl (fun hc3 => ?_) (fun hc3 => ?_) | refine W.cond_nd rfl (fun hc3 => ?_) (fun hc3 => ?_) | refine W.cond rfl (fun hc3 => ?_) (fun hc3 => ?_)
      · skip
        refine W.region ?_
        refine SL.val (O.move rfl rfl Taken.no) ?_
        refine SL.val (O.ldN (m := 5) (PtI.ref rfl rfl) (js := [_, _, _, _, _]) rfl (Nat.le_of_ble_eq_true rfl) Try.underlying32 rfl (by kernel_rfl) rfl Taken.no) ?_
        refine SL.memS (O.buildSlice 105 rfl rfl Try.underlying22 hi32 hz32 hs32 (by decide) rfl (by decide) rfl rfl rfl Taken.no) rfl rfl (S' := (105, _) :: _) rfl ?_
        refine SL.memS (O.app (k' := 106) rfl rfl (SlOf.own rfl rfl) Try.underlying22 hi32 hz32 hs32 rfl rfl (by first | exact map_snoc (x := incH q[k]!) rfl | exact map_snoc (x := q[k]!) rfl) (by rw [hb32]; first | omega | (simp only [List.length_map]; omega) | (simp <;> omega)) (by first | omega | (simp only [List.length_map]; omega) | (simp <;> omega)) rfl Taken.no) rfl rfl (S' := (106, _) :: (102, .dead) :: _) rfl ?_
        refine SL.val (O.assign rfl rfl Taken.no) ?_
        refine SL.nil ?_
        refine E.inn ?_
        refine E.to ?_
        refine W.pick (.cons (t := 0) rfl (.cons (t := 2) rfl (.cons (t := 3) rfl (.cons (t := 4) rfl (.cons (t := 5) rfl (.cons (t := 6) rfl (.cons (t := 7) rfl (.cons (t := 10) rfl (.cons (t := 11) rfl (.cons (t := 12) rfl (.cons (t := 13) rfl (.cons (t := 16) rfl (.cons (t := 17) rfl (.cons (t := 18) rfl (.cons (t := 19) rfl (.cons (t := 20) rfl (.cons (t := 21) rfl (.cons (t := 22) rfl (.cons (t := 23) rfl (.cons (t := 24) rfl (.cons (t := 25) rfl (.cons (t := 26) rfl (.cons (t := 27) rfl (.cons (t := 28) rfl (.cons (t := 29) rfl (.cons (t := 30) rfl (.cons (t := 31) rfl (.cons (t := 32) rfl (.cons (t := 33) rfl .nil))))))))))))))))))))))))))))) (.cons (t := 101) rfl (.cons (t := 104) rfl (.cons (t := 105) rfl (.cons (t := 106) rfl .nil)))) ?_
        refine W.region ?_
        refine SL.val (O.move rfl rfl Taken.no) ?_
        refine SL.val (O.det (fun _ => by first | exact G.R.add64 rfl rfl (by omega) | exact G.R.add rfl rfl) rfl Taken.no) ?_
        refine SL.val (O.assign rfl rfl Taken.no) ?_
        refine SL.nil ?_
        refine E.again ((k + 1)) (rn [(102, 106)]) ?_ ?_ rfl (fixL_spec rfl) ?_ ?_
        · exact (SubF.cons rfl (SubF.cons rfl (SubF.cons rfl (SubF.cons rfl (SubF.cons rfl (SubF.cons rfl SubF.nil))))))
        · exact (SubS.val rfl (by (try dsimp only); exact sb_data (by first | rw [srvR, if_pos (by omega)] | rw [srvR, if_neg (by omega), if_pos (by omega)] | rw [srvR, if_neg (by omega), if_neg (by omega)])) (SubS.cons rfl SubS.nil))
        · try dsimp only
          omega
        · (try dsimp only); omega
      · skip
        refine W.skip ?_
        refine E.inn ?_
        refine E.to ?_
        refine W.pick (.cons (t := 0) rfl (.cons (t := 2) rfl (.cons (t := 3) rfl (.cons (t := 4) rfl (.cons (t := 5) rfl (.cons (t := 6) rfl (.cons (t := 7) rfl (.cons (t := 10) rfl (.cons (t := 11) rfl (.cons (t := 12) rfl (.cons (t := 13) rfl (.cons (t := 16) rfl (.cons (t := 17) rfl (.cons (t := 18) rfl (.cons (t := 19) rfl (.cons (t := 20) rfl (.cons (t := 21) rfl (.cons (t := 22) rfl (.cons (t := 23) rfl (.cons (t := 24) rfl (.cons (t := 25) rfl (.cons (t := 26) rfl (.cons (t := 27) rfl (.cons (t := 28) rfl (.cons (t := 29) rfl .nil))))))))))))))))))))))))) (.cons (t := 101) rfl (.cons (t := 102) rfl (.cons (t := 104) rfl .nil))) ?_
        refine W.region ?_
        refine SL.val (O.move rfl rfl Taken.no) ?_
        refine SL.val (O.det (fun _ => by first | exact G.R.add64 rfl rfl (by omega) | exact G.R.add rfl rfl) rfl Taken.no) ?_
        refine SL.val (O.assign rfl rfl Taken.no) ?_
        refine SL.nil ?_
        refine E.again ((k + 1)) (rn []) ?_ ?_ rfl (fixL_spec rfl) ?_ ?_
        · exact (SubF.cons rfl (SubF.cons rfl (SubF.cons rfl (SubF.cons rfl (SubF.cons rfl (SubF.cons rfl SubF.nil))))))
        · exact (SubS.val rfl (by (try dsimp only); exact sb_data (by first | rw [srvR, if_pos (by omega)] | rw [srvR, if_neg (by omega), if_pos (by omega)] | rw [srvR, if_neg (by omega), if_neg (by omega)])) (SubS.cons rfl SubS.nil))
        · try dsimp only
          omega
        · (try dsimp only); omega
    · skip
      refine W.skip ?_
      refine E.to ?_
      refine W.seq ?_
      refine W.region ?_
      refine SL.val (O.move rfl rfl Taken.no) ?_
      refine SL.val (O.move rfl rfl Taken.no) ?_
      refine SL.val (O.det (fun _ => G.R.neq rfl rfl) rfl Taken.no) ?_
      refine SL.nil ?_
      refine E.to ?_
      first | refine W.cond_d rfl (fun hc4 => ?_) (fun hc4 => ?_) | refine W.cond_nd rfl (fun hc4 => ?_) (fun hc4 => ?_) | refine W.cond rfl (fun hc4 => ?_) (fun hc4 => ?_)
      · skip
        refine W.region ?_
        refine SL.val (O.move rfl rfl Taken.no) ?_
        refine SL.val (O.ldN (m := 5) (PtI.ref rfl rfl) (js := [_, _, _, _, _]) rfl (Nat.le_of_ble_eq_true rfl) Try.underlying32 rfl (by kernel_rfl) rfl Taken.no) ?_
        refine SL.memS (O.buildSlice 107 rfl rfl Try.underlying22 hi32 hz32 hs32 (by decide) rfl (by decide) rfl rfl rfl Taken.no) rfl rfl (S' := (107, _) :: _) rfl ?_
        refine SL.memS (O.app (k' := 108) rfl rfl (SlOf.own rfl rfl) Try.underlying22 hi32 hz32 hs32 rfl rfl (by first | exact map_snoc (x := incH q[k]!) rfl | exact map_snoc (x := q[k]!) rfl) (by rw [hb32]; first | omega | (simp only [List.length_map]; omega) | (simp <;> omega)) (by first | omega | (simp only [List.length_map]; omega) | (simp <;> omega)) rfl Taken.no) rfl rfl (S' := (108, _) :: (102, .dead) :: _) rfl ?_
        refine SL.val (O.assign rfl rfl Taken.no) ?_
        refine SL.nil ?_
        refine E.inn ?_
        refine E.to ?_
        refine W.pick (.cons (t := 0) rfl (.cons (t := 2) rfl (.cons (t := 3) rfl (.cons (t := 4) rfl (.cons (t := 5) rfl (.cons (t := 6) rfl (.cons (t := 7) rfl (.cons (t := 10) rfl (.cons (t := 11) rfl (.cons (t := 12) rfl (.cons (t := 13) rfl (.cons (t := 16) rfl (.cons (t := 17) rfl (.cons (t := 18) rfl (.cons (t := 19) rfl (.cons (t := 20) rfl (.cons (t := 21) rfl (.cons (t := 22) rfl (.cons (t := 27) rfl (.cons (t := 28) rfl (.cons (t := 29) rfl (.cons (t := 30) rfl (.cons (t := 31) rfl (.cons (t := 32) rfl (.cons (t := 33) rfl .nil))))))))))))))))))))))))) (.cons (t := 101) rfl (.cons (t := 104) rfl (.cons (t := 107) rfl (.cons (t := 108) rfl .nil)))) ?_
        refine W.region ?_
        refine SL.val (O.move rfl rfl Taken.no) ?_
        refine SL.val (O.det (fun _ => by first | exact G.R.add64 rfl rfl (by omega) | exact G.R.add rfl rfl) rfl Taken.no) ?_
        refine SL.val (O.assign rfl rfl Taken.no) ?_
        refine SL.nil ?_
        refine E.again ((k + 1)) (rn [(102, 108)]) ?_ ?_ rfl (fixL_spec rfl) ?_ ?_
        · exact (SubF.cons rfl (SubF.cons rfl (SubF.cons rfl (SubF.cons rfl (SubF.cons rfl (SubF.cons rfl SubF.nil))))))
        · exact (SubS.val rfl (by (try dsimp only); exact sb_data (by first | rw [srvR, if_pos (by omega)] | rw [srvR, if_neg (by omega), if_pos (by omega)] | rw [srvR, if_neg (by omega), if_neg (by omega)])) (SubS.cons rfl SubS.nil))
        · try dsimp only
          omega
        · (try dsimp only); omega
      · skip
        refine W.skip ?_
        refine E.inn ?_
        refine E.to ?_
        refine W.region ?_
        refine SL.val (O.move rfl rfl Taken.no) ?_
        refine SL.val (O.det (fun _ => by first | exact G.R.add64 rfl rfl (by omega) | exact G.R.add rfl rfl) rfl Taken.no) ?_
        refine SL.val (O.assign rfl rfl Taken.no) ?_
        refine SL.nil ?_
        refine E.again ((k + 1)) (rn []) ?_ ?_ rfl (fixL_spec rfl) ?_ ?_
        · exact (SubF.cons rfl (SubF.cons rfl (SubF.cons rfl (SubF.cons rfl (SubF.cons rfl (SubF.cons rfl SubF.nil))))))
        · exact (SubS.val rfl (by (try dsimp only); exact sb_data (by first | rw [srvR, if_pos (by omega)] | rw [srvR, if_neg (by omega), if_pos (by omega)] | rw [srvR, if_neg (by omega), if_neg (by omega)])) (SubS.cons rfl SubS.nil))
        · try dsimp only
          omega
        · (try dsimp only); omega
  · skip
    refine W.exit ?_
    refine E.th ?_
    refine E.th ?_
    refine E.hit ?_
    refine E.to ?_
    refine W.seq ?_
    refine W.region ?_
    refine SL.val (O.move rfl rfl Taken.no) ?_
    refine SL.val (O.move rfl rfl Taken.no) ?_
    refine SL.val (O.idx_fz (i := (nextI q)) rfl rfl (rfl) (row_get (by omega)) Try.underlying22 hi32 hs32 rfl Taken.no) ?_
    refine SL.val (O.ldU (m := 5) (PtU.fz rfl) rfl Try.underlying32 rfl (by kernel_rfl) rfl Taken.no) ?_
    refine SL.val (O.move rfl rfl Taken.no) ?_
    refine SL.effS (O.st_ref (m := 5) rfl rfl rfl (js := [_, _, _, _, _]) rfl rfl (by kernel_rfl) (by simp) (Nat.le_of_ble_eq_true rfl) rfl (is' := [_, _, _, _, _]) rfl Taken.no) (S' := (101, _) :: _) rfl ?_
    refine SL.val (O.assign rfl rfl Taken.no) ?_
    refine SL.nil ?_
    refine E.to ?_
    refine W.ret ?_
    refine E.freeze 102 rfl (F' := [(3, _)]) (⟨⟨_, rfl, rfl⟩, trivial⟩) ?_
    refine E.fin (rs := [_, _]) (rn []) (.inl rfl) rfl (.cons (ResOne.cellN (m := 5) (PtI.ref rfl rfl) (js := [_, _, _, _, _]) rfl (Nat.le_of_ble_eq_true rfl) Try.underlying32 rfl (by kernel_rfl)) (.cons (ResOne.tmp rfl) .nil)) ?_ ?_ rfl (fixL_spec rfl)
    · skip
      obtain rfl : k = q.length := by omega
      rw [srvR_all hn]; rfl
    · exact SubS.nil

/-- bookplate/bookplateref57.Serve. -/
theorem refServe_h {q : List Hd} :
    Con Try.prog 15 [vL 5 (q.map eH)] [] (.tup [.agg [.u (uI (nextH q).id), .u (uI (nextH q).pat), .u (uI (nextH q).cls), .u (uI (nextH q).tim), .u (uI (nextH q).ov)], vL 5 ((srvQ q).map eH), vI (srvE q)]) [] := by
  refine Con.enterL (n := 22) Try.func15 rfl rfl rfl (fun τ w ok vs hin => ?_)
  have hl0 := hin.len (i := 0) rfl
  try rw [List.length_map] at hl0
  clear hin
  refine W.seq ?_
  refine W.region ?_
  refine SL.memS (O.alloc (z := .agg #[.int .i64 0, .int .i64 0, .int .i64 0, .int .i64 0, .int .i64 0]) (is := [.u (.sc (.int .i64 0)), .u (.sc (.int .i64 0)), .u (.sc (.int .i64 0)), .u (.sc (.int .i64 0)), .u (.sc (.int .i64 0))]) 101 (by kernel_rfl) rfl rfl rfl Taken.no) rfl rfl (S' := (101, _) :: _) rfl ?_
  refine SL.val (O.assign rfl rfl Taken.no) ?_
  refine SL.val (O.assign rfl rfl Taken.no) ?_
  refine SL.nil ?_
  refine E.to ?_
  refine W.seq ?_
  refine W.seq ?_
  refine W.region ?_
  refine SL.val (O.move rfl rfl Taken.no) ?_
  refine SL.val (O.callp rfl rfl rfl (refvalid_h) (.cons (ArgOk.same rfl) .nil) hcallOk24 rfl Taken.no) ?_
  refine SL.val (O.det (fun _ => G.R.not rfl) rfl Taken.no) ?_
  refine SL.nil ?_
  refine E.to ?_
  first | refine W.cond_d rfl (fun hc1 => ?_) (fun hc1 => ?_) | refine W.cond_nd rfl (fun hc1 => ?_) (fun hc1 => ?_) | refine W.cond rfl (fun hc1 => ?_) (fun hc1 => ?_)
  · skip
    refine W.seq ?_
    refine W.region ?_
    refine SL.val (O.build (res := [_, _, _, _, _]) (z := .agg #[.int .i64 0, .int .i64 0, .int .i64 0, .int .i64 0, .int .i64 0]) (places := [(0, 1), (1, 1), (2, 1), (3, 1), (4, 1)]) rfl rfl Try.underlying32 (by kernel_rfl) (fun _ => by kernel_rfl) rfl rfl Taken.no) ?_
    refine SL.effS (O.st_ref (m := 5) rfl rfl rfl (js := [_, _, _, _, _]) rfl rfl (by kernel_rfl) (by simp) (Nat.le_of_ble_eq_true rfl) rfl (is' := [_, _, _, _, _]) rfl Taken.no) (S' := (101, _) :: _) rfl ?_
    refine SL.val (O.assign rfl rfl Taken.no) ?_
    refine SL.val (O.assign rfl rfl Taken.no) ?_
    refine SL.nil ?_
    refine E.to ?_
    refine W.ret ?_
    refine E.thr ?_
    refine E.nilsl 3 5 rfl ?_
    refine E.fin (rs := [_, _, _]) (rn []) (.inl rfl) rfl (.cons (ResOne.cellN (m := 5) (PtI.ref rfl rfl) (js := [_, _, _, _, _]) rfl (Nat.le_of_ble_eq_true rfl) Try.underlying32 rfl (by kernel_rfl)) (.cons (ResOne.tmp rfl) (.cons (ResOne.tmp rfl) .nil))) ?_ ?_ rfl (fixL_spec rfl)
    · skip
      rw [(srv_1 (q := q) (by first | assumption | simp_all)).1, (srv_1 (q := q) (by first | assumption | simp_all)).2.1, (srv_1 (q := q) (by first | assumption | simp_all)).2.2]; rfl
    · exact SubS.nil
  · skip
    refine W.skip ?_
    refine E.to ?_
    refine W.seq ?_
    refine W.seq ?_
    refine W.region ?_
    refine SL.val (O.move rfl rfl Taken.no) ?_
    refine SL.val (O.lenE (SlOf.fz rfl (by decide)) (by first | exact List.length_map _ | rfl) Try.underlying22 rfl Taken.no) ?_
    refine SL.val (O.det (fun _ => G.R.eql rfl rfl) rfl Taken.no) ?_
    refine SL.nil ?_
    refine E.to ?_
    first | refine W.cond_d rfl (fun hc2 => ?_) (fun hc2 => ?_) | refine W.cond_nd rfl (fun hc2 => ?_) (fun hc2 => ?_) | refine W.cond rfl (fun hc2 => ?_) (fun hc2 => ?_)
    · skip
      refine W.seq ?_
      refine W.region ?_
      refine SL.val (O.build (res := [_, _, _, _, _]) (z := .agg #[.int .i64 0, .int .i64 0, .int .i64 0, .int .i64 0, .int .i64 0]) (places := [(0, 1), (1, 1), (2, 1), (3, 1), (4, 1)]) rfl rfl Try.underlying32 (by kernel_rfl) (fun _ => by kernel_rfl) rfl rfl Taken.no) ?_
      refine SL.effS (O.st_ref (m := 5) rfl rfl rfl (js := [_, _, _, _, _]) rfl rfl (by kernel_rfl) (by simp) (Nat.le_of_ble_eq_true rfl) rfl (is' := [_, _, _, _, _]) rfl Taken.no) (S' := (101, _) :: _) rfl ?_
      refine SL.val (O.assign rfl rfl Taken.no) ?_
      refine SL.val (O.assign rfl rfl Taken.no) ?_
      refine SL.nil ?_
      refine E.to ?_
      refine W.ret ?_
      refine E.thr ?_
      refine E.nilsl 3 5 rfl ?_
      refine E.fin (rs := [_, _, _]) (rn []) (.inl rfl) rfl (.cons (ResOne.cellN (m := 5) (PtI.ref rfl rfl) (js := [_, _, _, _, _]) rfl (Nat.le_of_ble_eq_true rfl) Try.underlying32 rfl (by kernel_rfl)) (.cons (ResOne.tmp rfl) (.cons (ResOne.tmp rfl) .nil))) ?_ ?_ rfl (fixL_spec rfl)
      · skip
        rw [(srv_9 (q := q) (by assumption) (by omega)).1, (srv_9 (q := q) (by assumption) (by omega)).2.1, (srv_9 (q := q) (by assumption) (by omega)).2.2]; rfl
      · exact SubS.nil
    · skip
      refine W.skip ?_
      refine E.to ?_
      refine W.seq ?_
      refine W.region ?_
      refine SL.val (O.move rfl rfl Taken.no) ?_
      refine SL.memS (O.call (rn []) [] rfl rfl rfl (refserve_h (by assumption) (by omega)) (.cons (ArgOk.same rfl) .nil) SubS.nil rfl rfl rfl rfl rfl (.inl rfl) hcallOk40 (r' := .tup [.agg [.u _, .u _, .u _, .u _, .u _], .u _]) rfl rfl Taken.no) rfl rfl (S' := _) rfl ?_
      refine SL.val (O.move rfl rfl Taken.no) ?_
      refine SL.val (O.extract rfl rfl rfl Taken.no) ?_
      refine SL.val (O.extract rfl rfl rfl Taken.no) ?_
      refine SL.memS (O.alloc (z := .agg #[.int .i64 0, .int .i64 0, .int .i64 0, .int .i64 0, .int .i64 0]) (is := [.u (.sc (.int .i64 0)), .u (.sc (.int .i64 0)), .u (.sc (.int .i64 0)), .u (.sc (.int .i64 0)), .u (.sc (.int .i64 0))]) 102 (by kernel_rfl) rfl rfl rfl Taken.no) rfl rfl (S' := (102, _) :: _) rfl ?_
      refine SL.effS (O.st_ref (m := 5) rfl rfl rfl (js := [_, _, _, _, _]) rfl rfl (by kernel_rfl) (by simp) (Nat.le_of_ble_eq_true rfl) rfl (is' := [_, _, _, _, _]) rfl Taken.no) (S' := (102, _) :: _) rfl ?_
      refine SL.val (O.assign rfl rfl Taken.no) ?_
      refine SL.nil ?_
      refine E.to ?_
      refine W.seq ?_
      refine W.region ?_
      refine SL.val (O.ldN (m := 5) (PtI.ref rfl rfl) (js := [_, _, _, _, _]) rfl (Nat.le_of_ble_eq_true rfl) Try.underlying32 rfl (by kernel_rfl) rfl Taken.no) ?_
      refine SL.val (O.move rfl rfl Taken.no) ?_
      refine SL.effS (O.st_ref (m := 5) rfl rfl rfl (js := [_, _, _, _, _]) rfl rfl (by kernel_rfl) (by simp) (Nat.le_of_ble_eq_true rfl) rfl (is' := [_, _, _, _, _]) rfl Taken.no) (S' := (101, _) :: _) rfl ?_
      refine SL.val (O.assign rfl rfl Taken.no) ?_
      refine SL.val (O.assign rfl rfl Taken.no) ?_
      refine SL.nil ?_
      refine E.to ?_
      refine W.ret ?_
      refine E.fin (rs := [_, _, _]) (rn []) (.inl rfl) rfl (.cons (ResOne.cellN (m := 5) (PtI.ref rfl rfl) (js := [_, _, _, _, _]) rfl (Nat.le_of_ble_eq_true rfl) Try.underlying32 rfl (by kernel_rfl)) (.cons (ResOne.tmp rfl) (.cons (ResOne.tmp rfl) .nil))) ?_ ?_ rfl (fixL_spec rfl)
      · skip
        rw [(srv_0 (q := q) (by assumption) (by omega)).1, (srv_0 (q := q) (by assumption) (by omega)).2.1, (srv_0 (q := q) (by assumption) (by omega)).2.2]; rfl
      · exact SubS.nil

/-- bookplate/hold.Serve. -/
theorem holdServe_h {q : List Hd} :
    Con Try.prog 14 [vL 5 (q.map eH)] [] (.tup [.agg [.u (uI (nextH q).id), .u (uI (nextH q).pat), .u (uI (nextH q).cls), .u (uI (nextH q).tim), .u (uI (nextH q).ov)], vL 5 ((srvQ q).map eH), vI (srvE q)]) [] := by
  obtain ⟨i26, hi26, hz26, hs26, hb26⟩ := hinf26
  refine Con.enterL (n := 49) Try.func14 rfl rfl rfl (fun τ w ok vs hin => ?_)
  have hl0 := hin.len (i := 0) rfl
  try rw [List.length_map] at hl0
  clear hin
  refine W.seq ?_
  refine W.region ?_
  refine SL.memS (O.alloc (z := .agg #[.int .i64 0, .int .i64 0, .int .i64 0, .int .i64 0, .int .i64 0]) (is := [.u (.sc (.int .i64 0)), .u (.sc (.int .i64 0)), .u (.sc (.int .i64 0)), .u (.sc (.int .i64 0)), .u (.sc (.int .i64 0))]) 101 (by kernel_rfl) rfl rfl rfl Taken.no) rfl rfl (S' := (101, _) :: _) rfl ?_
  refine SL.val (O.assign rfl rfl Taken.no) ?_
  refine SL.val (O.assign rfl rfl Taken.no) ?_
  refine SL.nil ?_
  refine E.to ?_
  refine W.seq ?_
  refine W.region ?_
  refine SL.val (O.move rfl rfl Taken.no) ?_
  refine SL.memS (O.call (rn []) [] rfl rfl rfl (holdNext_h) (.cons (ArgOk.same rfl) .nil) SubS.nil rfl rfl rfl rfl rfl (.inl rfl) hcallOk11 (r' := .tup [.agg [.u _, .u _, .u _, .u _, .u _], .u _]) rfl rfl Taken.no) rfl rfl (S' := _) rfl ?_
  refine SL.val (O.move rfl rfl Taken.no) ?_
  refine SL.val (O.extract rfl rfl rfl Taken.no) ?_
  refine SL.val (O.extract rfl rfl rfl Taken.no) ?_
  refine SL.memS (O.alloc (z := .agg #[.int .i64 0, .int .i64 0, .int .i64 0, .int .i64 0, .int .i64 0]) (is := [.u (.sc (.int .i64 0)), .u (.sc (.int .i64 0)), .u (.sc (.int .i64 0)), .u (.sc (.int .i64 0)), .u (.sc (.int .i64 0))]) 102 (by kernel_rfl) rfl rfl rfl Taken.no) rfl rfl (S' := (102, _) :: _) rfl ?_
  refine SL.effS (O.st_ref (m := 5) rfl rfl rfl (js := [_, _, _, _, _]) rfl rfl (by kernel_rfl) (by simp) (Nat.le_of_ble_eq_true rfl) rfl (is' := [_, _, _, _, _]) rfl Taken.no) (S' := (102, _) :: _) rfl ?_
  refine SL.val (O.assign rfl rfl Taken.no) ?_
  refine SL.nil ?_
  refine E.to ?_
  refine W.seq ?_
  refine W.block ?_
  refine W.seq ?_
  refine W.region ?_
  refine SL.val (O.move rfl rfl Taken.no) ?_
  refine SL.val (O.callp rfl rfl rfl (valid_h) (.cons (ArgOk.same rfl) .nil) hcallOk23 rfl Taken.no) ?_
  refine SL.val (O.det (fun _ => G.R.not rfl) rfl Taken.no) ?_
  refine SL.val (O.assign rfl rfl Taken.no) ?_
  refine SL.nil ?_
  refine E.to ?_
  first | refine W.cond_d rfl (fun hc1 => ?_) (fun hc1 => ?_) | refine W.cond_nd rfl (fun hc1 => ?_) (fun hc1 => ?_) | refine W.cond rfl (fun hc1 => ?_) (fun hc1 => ?_)
  · skip
    refine W.seq ?_
    refine W.region ?_
    refine SL.val (O.build (res := [_, _, _, _, _]) (z := .agg #[.int .i64 0, .int .i64 0, .int .i64 0, .int .i64 0, .int .i64 0]) (places := [(0, 1), (1, 1), (2, 1), (3, 1), (4, 1)]) rfl rfl Try.underlying26 (by kernel_rfl) (fun _ => by kernel_rfl) rfl rfl Taken.no) ?_
    refine SL.effS (O.st_ref (m := 5) rfl rfl rfl (js := [_, _, _, _, _]) rfl rfl (by kernel_rfl) (by simp) (Nat.le_of_ble_eq_true rfl) rfl (is' := [_, _, _, _, _]) rfl Taken.no) (S' := (101, _) :: _) rfl ?_
    refine SL.val (O.assign rfl rfl Taken.no) ?_
    refine SL.val (O.assign rfl rfl Taken.no) ?_
    refine SL.nil ?_
    refine E.to ?_
    refine W.ret ?_
    refine E.inr ?_
    refine E.thr ?_
    refine E.nilsl 3 5 rfl ?_
    refine E.fin (rs := [_, _, _]) (rn []) (.inl rfl) rfl (.cons (ResOne.cellN (m := 5) (PtI.ref rfl rfl) (js := [_, _, _, _, _]) rfl (Nat.le_of_ble_eq_true rfl) Try.underlying26 rfl (by kernel_rfl)) (.cons (ResOne.tmp rfl) (.cons (ResOne.tmp rfl) .nil))) ?_ ?_ rfl (fixL_spec rfl)
    · skip
      rw [(srv_1 (q := q) (by first | assumption | simp_all)).1, (srv_1 (q := q) (by first | assumption | simp_all)).2.1, (srv_1 (q := q) (by first | assumption | simp_all)).2.2]; rfl
    · exact SubS.nil
  · skip
    refine W.seq ?_
    refine W.region ?_
    refine SL.val (O.move rfl rfl Taken.no) ?_
    refine SL.val (O.det (fun _ => G.R.not rfl) rfl Taken.no) ?_
    refine SL.val (O.assign rfl rfl Taken.no) ?_
    refine SL.nil ?_
    refine E.to ?_
    first | refine W.cond_d rfl (fun hc2 => ?_) (fun hc2 => ?_) | refine W.cond_nd rfl (fun hc2 => ?_) (fun hc2 => ?_) | refine W.cond rfl (fun hc2 => ?_) (fun hc2 => ?_)
    · skip
      refine W.seq ?_
      refine W.region ?_
      refine SL.val (O.build (res := [_, _, _, _, _]) (z := .agg #[.int .i64 0, .int .i64 0, .int .i64 0, .int .i64 0, .int .i64 0]) (places := [(0, 1), (1, 1), (2, 1), (3, 1), (4, 1)]) rfl rfl Try.underlying26 (by kernel_rfl) (fun _ => by kernel_rfl) rfl rfl Taken.no) ?_
      refine SL.effS (O.st_ref (m := 5) rfl rfl rfl (js := [_, _, _, _, _]) rfl rfl (by kernel_rfl) (by simp) (Nat.le_of_ble_eq_true rfl) rfl (is' := [_, _, _, _, _]) rfl Taken.no) (S' := (101, _) :: _) rfl ?_
      refine SL.val (O.assign rfl rfl Taken.no) ?_
      refine SL.val (O.assign rfl rfl Taken.no) ?_
      refine SL.nil ?_
      refine E.to ?_
      refine W.ret ?_
      refine E.inr ?_
      refine E.thr ?_
      refine E.nilsl 3 5 rfl ?_
      refine E.fin (rs := [_, _, _]) (rn []) (.inl rfl) rfl (.cons (ResOne.cellN (m := 5) (PtI.ref rfl rfl) (js := [_, _, _, _, _]) rfl (Nat.le_of_ble_eq_true rfl) Try.underlying26 rfl (by kernel_rfl)) (.cons (ResOne.tmp rfl) (.cons (ResOne.tmp rfl) .nil))) ?_ ?_ rfl (fixL_spec rfl)
      · skip
        rw [(srv_9 (q := q) (by first | assumption | simp_all) (by first | (intro hz; simp_all; done) | simp_all)).1, (srv_9 (q := q) (by first | assumption | simp_all) (by first | (intro hz; simp_all; done) | simp_all)).2.1, (srv_9 (q := q) (by first | assumption | simp_all) (by first | (intro hz; simp_all; done) | simp_all)).2.2]; rfl
      · exact SubS.nil
    · skip
      have hvl : validQ q ∧ 0 < q.length := by first | assumption | simp_all
      have hv := hvl.1
      have hl := hvl.2
      have hn := nextI_lt hl
      have h60 := hv.2
      refine W.skip ?_
      refine E.inn ?_
      refine E.to ?_
      refine W.seq ?_
      refine W.region ?_
      refine SL.val (O.move rfl rfl Taken.no) ?_
      refine SL.val (O.fld_ref (o' := 0) rfl Try.underlying26 rfl (m := 0) (by kernel_rfl) rfl rfl Taken.no) ?_
      refine SL.val (O.ld1 (PtI.ref rfl rfl) rfl Try.underlying3 rfl rfl Taken.no) ?_
      refine SL.val (O.callp rfl rfl rfl (index_h) (.cons (ArgOk.same rfl) (.cons (ArgOk.same rfl) .nil)) hcallOk37 rfl Taken.no) ?_
      refine SL.as (i' := vI ((nextI q) : Nat)) 27 rfl (by rw [idx_next hv hl]) ?_
      refine SL.val (O.assign rfl rfl Taken.no) ?_
      refine SL.nil ?_
      refine E.to ?_
      refine W.seq ?_
      refine W.region ?_
      refine SL.val (O.move rfl rfl Taken.no) ?_
      refine SL.memS (O.call (rn [(0, 103)]) [] rfl rfl rfl (clone_h (by first | omega | (simp <;> omega))) (.cons (ArgOk.same rfl) .nil) SubS.nil rfl rfl rfl rfl rfl (.inl rfl) hcallOk39 (r' := .own 103) rfl rfl Taken.no) rfl rfl (S' := (103, .data _ _ _) :: _) rfl ?_
      refine SL.val (O.move rfl rfl Taken.no) ?_
      refine SL.val (O.move rfl rfl Taken.no) ?_
      refine SL.val (O.det (fun _ => by first | exact G.R.add64 rfl rfl (by omega) | exact G.R.add rfl rfl) rfl Taken.no) ?_
      refine SL.memS (O.call (rn [(0, 103), (1, 104)]) [] rfl rfl rfl (delete_h (q := q) (nextI q) ((nextI q) + 1) (by omega) (by omega) (by omega)) (.cons (ArgOk.same rfl) (.cons (ArgOk.same rfl) (.cons (ArgOk.same rfl) .nil))) (SubS.cons rfl SubS.nil) rfl rfl rfl rfl rfl (.inl rfl) hcallOk38 (r' := .own 104) rfl rfl Taken.no) rfl rfl (S' := (104, .data _ _ _) :: (103, .dead) :: _) rfl ?_
      refine SL.val (O.assign rfl rfl Taken.no) ?_
      refine SL.nil ?_
      refine E.to ?_
      refine W.pick (.cons (t := 2) rfl (.cons (t := 3) rfl (.cons (t := 4) rfl (.cons (t := 5) rfl (.cons (t := 7) rfl (.cons (t := 8) rfl .nil)))))) (.cons (t := 101) rfl (.cons (t := 102) rfl (.cons (t := 104) rfl .nil))) ?_
      refine W.seq ?_
      refine W.seq ?_
      refine W.region ?_
      refine SL.val (O.move rfl rfl Taken.no) ?_
      refine SL.val (O.move rfl rfl Taken.no) ?_
      refine SL.nil ?_
      refine E.to ?_
      refine W.block ?_
      refine W.loopx1 (fun (k : Nat) => [(8, .own 105), (35, vI (k : Int))]) (fun (k : Nat) => [(105, .data 26 5 ((srvK q (nextI q) k).map eH))]) (fun (k : Nat) => k ≤ (nextI q)) (fun (k : Nat) => (nextI q) - k) (0) (rn [(105, 104)]) (.cons (t := 2) rfl (.cons (t := 3) rfl (.cons (t := 4) rfl (.cons (t := 5) rfl (.cons (t := 34) rfl .nil))))) (.cons (t := 101) rfl (.cons (t := 102) rfl .nil)) rfl ?_ ?_ rfl rfl ?_ ?_
      · exact (SubF.cons rfl (SubF.cons rfl SubF.nil))
      · exact (SubS.val rfl (by exact sb_data (by rw [srvK_0])) SubS.nil)
      · skip
        omega
      intro k hinv
      have hk := hinv
      have hkg := fun h : k < (nextI q) => srvK_get (q := q) h hn
      have hov := fun h : k < (nextI q) => (hv.1 k (by omega)).1
      refine W.seq ?_
      refine W.region ?_
      refine SL.val (O.det (fun _ => G.R.lss rfl rfl) rfl Taken.no) ?_
      refine SL.nil ?_
      refine E.to ?_
      refine W.seq ?_
      first | refine W.cond_d rfl (fun hc3 => ?_) (fun hc3 => ?_) | refine W.cond_nd rfl (fun hc3 => ?_) (fun hc3 => ?_) | refine W.cond rfl (fun hc3 => ?_) (fun hc3 => ?_)
      · skip
        refine W.skip ?_
        refine E.to ?_
        refine W.seq ?_
        refine W.block ?_
        refine W.seq ?_
        refine W.region ?_
        refine SL.val (O.move rfl rfl Taken.no) ?_
        refine SL.val (O.assign rfl rfl Taken.no) ?_
        refine SL.nil ?_
        refine E.to ?_
        refine W.region ?_
        refine SL.val (O.move rfl rfl Taken.no) ?_
        refine SL.val (O.move rfl rfl Taken.no) ?_
        refine SL.val (O.idx_own (i := k) rfl rfl rfl (rfl) (by rw [List.length_map]; exact (hkg (by omega)).2) Try.underlying30 hi26 hs26 rfl Taken.no) ?_
        refine SL.val (O.fld_el (o' := 4) rfl Try.underlying26 rfl (m := 0) (by kernel_rfl) rfl rfl Taken.no) ?_
        refine SL.val (O.ld1 (PtI.ofU (PtU.el rfl rfl (row_get (by exact (hkg (by omega)).2)))) rfl Try.underlying3 rfl rfl Taken.no) ?_
        refine SL.val (O.det (fun _ => by exact G.R.add64 rfl rfl (by rw [(hkg (by omega)).1]; have := (hov (by omega)).2.2.2.2.2.2.2.2; omega)) rfl Taken.no) ?_
        refine SL.val (O.idx_own (i := k) rfl rfl rfl (rfl) (by rw [List.length_map]; exact (hkg (by omega)).2) Try.underlying30 hi26 hs26 rfl Taken.no) ?_
        refine SL.val (O.fld_el (o' := 4) rfl Try.underlying26 rfl (m := 0) (by kernel_rfl) rfl rfl Taken.no) ?_
        refine SL.effS (O.st_els (m := 1) rfl rfl rfl (us := [_]) rfl rfl (by kernel_rfl) (by simp) (row_get (by exact (hkg (by omega)).2)) (by exact Nat.le_of_ble_eq_true rfl) rfl rfl (rows' := ((srvK q (nextI q) k).set k (incH (srvK q (nextI q) k)[k]!)).map eH) (by exact set_map rfl) Taken.no) (S' := (105, _) :: _) rfl ?_
        refine SL.nil ?_
        refine E.inn ?_
        refine E.to ?_
        refine W.region ?_
        refine SL.val (O.det (fun _ => by first | exact G.R.add64 rfl rfl (by omega) | exact G.R.add rfl rfl) rfl Taken.no) ?_
        refine SL.val (O.move rfl rfl Taken.no) ?_
        refine SL.nil ?_
        refine E.again ((k + 1)) (rn []) ?_ ?_ rfl (fixL_spec rfl) ?_ ?_
        · exact (SubF.cons rfl (SubF.cons rfl (SubF.cons rfl (SubF.cons rfl (SubF.cons rfl (SubF.cons rfl (SubF.cons rfl SubF.nil)))))))
        · exact (SubS.val rfl (by (try dsimp only); exact sb_data (by rw [srvK_step (by omega) hn])) (SubS.cons rfl (SubS.cons rfl SubS.nil)))
        · try dsimp only
          omega
        · (try dsimp only); omega
      · skip
        refine W.exit ?_
        refine E.th ?_
        refine E.th ?_
        refine E.hit ?_
        refine E.to ?_
        refine W.seq ?_
        refine W.region ?_
        refine SL.val (O.ldN (m := 5) (PtI.ref rfl rfl) (js := [_, _, _, _, _]) rfl (Nat.le_of_ble_eq_true rfl) Try.underlying26 rfl (by kernel_rfl) rfl Taken.no) ?_
        refine SL.val (O.move rfl rfl Taken.no) ?_
        refine SL.effS (O.st_ref (m := 5) rfl rfl rfl (js := [_, _, _, _, _]) rfl rfl (by kernel_rfl) (by simp) (Nat.le_of_ble_eq_true rfl) rfl (is' := [_, _, _, _, _]) rfl Taken.no) (S' := (101, _) :: _) rfl ?_
        refine SL.val (O.assign rfl rfl Taken.no) ?_
        refine SL.val (O.assign rfl rfl Taken.no) ?_
        refine SL.nil ?_
        refine E.to ?_
        refine W.ret ?_
        refine E.freeze 105 rfl (F' := [(3, _)]) (⟨⟨_, rfl, rfl⟩, trivial⟩) ?_
        refine E.fin (rs := [_, _, _]) (rn []) (.inl rfl) rfl (.cons (ResOne.cellN (m := 5) (PtI.ref rfl rfl) (js := [_, _, _, _, _]) rfl (Nat.le_of_ble_eq_true rfl) Try.underlying26 rfl (by kernel_rfl)) (.cons (ResOne.tmp rfl) (.cons (ResOne.tmp rfl) .nil))) ?_ ?_ rfl (fixL_spec rfl)
        · skip
          obtain rfl : k = (nextI q) := by omega
          rw [srvK_n hn]
          rw [(srv_0 (q := q) hv hl).1, (srv_0 (q := q) hv hl).2.1, (srv_0 (q := q) hv hl).2.2]; rfl
        · exact SubS.nil

end Go.Proofs.Ytlodmhiemndegaa
