/-
  The walks.
-/
import Derived.Test.YtnmngpmdphkcpaaH3
namespace Go.Proofs.Ytnmngpmdphkcpaa
open Go Go.RowKit Go.H Go.D20 Go.D02

theorem hcallOk34 : G.callOk Try.prog 34 = true := by kernel_rfl
theorem hcallOk38 : G.callOk Try.prog 38 = true := by kernel_rfl
theorem hcallOk42 : G.callOk Try.prog 42 = true := by kernel_rfl

/-- slices.Grow[[]byte,byte]. -/
theorem grow_h (n : Nat) (hn : n ≤ 1000000000) :
    Con Try.prog 42 [.u (.sc (.slice none 0 0)), vI (n : Int)] [] (.own 0) [(0, .data 5 1 (([] : List UInt8).map eB))] := by
  obtain ⟨i5, hi5, hz5, hs5, hb5⟩ := hinf5
  refine Con.enterL (n := 27) Try.func42 rfl rfl rfl (fun τ w ok vs hin => ?_)
  clear hin
  refine W.seq ?_
  refine W.region ?_
  refine SL.val (O.assign rfl rfl Taken.no) ?_
  refine SL.nil ?_
  refine E.to ?_
  refine W.seq ?_
  refine W.seq ?_
  refine W.region ?_
  refine SL.val (O.move rfl rfl Taken.no) ?_
  refine SL.val (O.det (fun _ => G.R.lss rfl rfl) rfl Taken.no) ?_
  refine SL.nil ?_
  refine E.to ?_
  first | refine W.cond_d rfl (fun hc1 => ?_) (fun hc1 => ?_) | refine W.cond_nd rfl (fun hc1 => ?_) (fun hc1 => ?_) | refine W.cond rfl (fun hc1 => ?_) (fun hc1 => ?_)
  · skip
    omega
  · skip
    refine W.skip ?_
    refine E.to ?_
    refine W.seq ?_
    refine W.seq ?_
    refine W.region ?_
    refine SL.val (O.move rfl rfl Taken.no) ?_
    refine SL.val (O.move rfl rfl Taken.no) ?_
    refine SL.val (O.det (fun _ => R.cap_nil rfl Try.underlying22) rfl Taken.no) ?_
    refine SL.val (O.move rfl rfl Taken.no) ?_
    refine SL.val (O.len_nil rfl Try.underlying22 rfl Taken.no) ?_
    refine SL.val (O.det (fun _ => by first | exact G.R.sub64 rfl rfl (by omega) | exact G.R.sub rfl rfl) rfl Taken.no) ?_
    refine SL.val (O.det (fun _ => by first | exact G.R.sub64 rfl rfl (by omega) | exact G.R.sub rfl rfl) rfl Taken.no) ?_
    refine SL.val (O.assign rfl rfl Taken.no) ?_
    refine SL.nil ?_
    refine E.to ?_
    refine W.seq ?_
    refine W.region ?_
    refine SL.val (O.move rfl rfl Taken.no) ?_
    refine SL.val (O.det (fun _ => G.R.gtr rfl rfl) rfl Taken.no) ?_
    refine SL.nil ?_
    refine E.to ?_
    first | refine W.cond_d rfl (fun hc2 => ?_) (fun hc2 => ?_) | refine W.cond_nd rfl (fun hc2 => ?_) (fun hc2 => ?_) | refine W.cond rfl (fun hc2 => ?_) (fun hc2 => ?_)
    · skip
      refine W.region ?_
      refine SL.val (O.move rfl rfl Taken.no) ?_
      refine SL.val (O.move rfl rfl Taken.no) ?_
      refine SL.val (O.det (fun _ => R.cap_nil rfl Try.underlying22) rfl Taken.no) ?_
      refine SL.val (O.det (fun _ => R.sub_nil rfl rfl (by first | rfl | omega) Try.underlying22 (by kernel_rfl)) rfl Taken.no) ?_
      refine SL.val (O.move rfl rfl Taken.no) ?_
      refine SL.memS (O.zeros (k' := 101) (sz := 1) (n := n) rfl rfl (by omega) (by omega) Try.underlying22 Try.underlying3 hi5 hz5 hs5 rfl rfl (show 0 < _ by decide) rfl (by rw [hb5]; omega) (by omega) rfl Taken.no) rfl rfl (S' := (101, _) :: _) rfl ?_
      refine SL.val (O.move rfl rfl Taken.no) ?_
      refine SL.val (O.len_nil rfl Try.underlying22 rfl Taken.no) ?_
      refine SL.val (O.sub_own rfl rfl Bnd.no (Bnd.at rfl (by first | rfl | omega)) (by simp <;> omega) (by simp <;> omega) Try.underlying22 hi5 hs5 rfl Taken.no) ?_
      refine SL.trunc 25 102 rfl rfl (rows' := []) (by simp) rfl rfl ?_
      refine SL.val (O.assign rfl rfl Taken.no) ?_
      refine SL.nil ?_
      refine E.to ?_
      refine W.pick (.cons (t := 0) rfl (.cons (t := 4) rfl .nil)) (.cons (t := 102) rfl .nil) ?_
      refine W.seq ?_
      refine W.region ?_
      refine SL.val (O.move rfl rfl Taken.no) ?_
      refine SL.val (O.assign rfl rfl Taken.no) ?_
      refine SL.nil ?_
      refine E.to ?_
      refine W.ret ?_
      refine E.fin (rs := [_]) (rn [(0, 102)]) (.inl rfl) rfl (.cons (ResOne.tmp rfl) .nil) ?_ ?_ rfl (fixL_spec rfl)
      · skip
        rfl
      · exact (SubS.cons rfl SubS.nil)
    · skip
      refine W.skip ?_
      refine E.to ?_
      refine W.seq ?_
      refine W.region ?_
      refine SL.val (O.move rfl rfl Taken.no) ?_
      refine SL.val (O.assign rfl rfl Taken.no) ?_
      refine SL.nil ?_
      refine E.to ?_
      refine W.ret ?_
      refine E.adopt 4 103 5 1 (by decide) rfl rfl rfl ?_
      refine E.fin (rs := [_]) (rn [(0, 103)]) (.inl rfl) rfl (.cons (ResOne.tmp rfl) .nil) ?_ ?_ rfl (fixL_spec rfl)
      · skip
        rfl
      · exact (SubS.cons rfl SubS.nil)

/-- slices.Concat[[]byte,byte]. -/
theorem concat_h {ls : List (List UInt8)} (hn : ls.flatten.length ≤ 1000000000) :
    Con Try.prog 34 [vL 1 (ls.map eL)] [] (.own 0) [(0, .data 5 1 (ls.flatten.map eB))] := by
  obtain ⟨i5, hi5, hz5, hs5, hb5⟩ := hinf5
  obtain ⟨i22, hi22, hz22, hs22, hb22⟩ := hinf22
  refine Con.enterL (n := 36) Try.func34 rfl rfl rfl (fun τ w ok vs hin => ?_)
  have hl0 := hin.len (i := 0) rfl
  try rw [List.length_map] at hl0
  clear hin
  refine W.seq ?_
  refine W.region ?_
  refine SL.val (O.assign rfl rfl Taken.no) ?_
  refine SL.nil ?_
  refine E.to ?_
  refine W.seq ?_
  refine W.region ?_
  refine SL.val (O.assign rfl rfl Taken.no) ?_
  refine SL.nil ?_
  refine E.to ?_
  refine W.seq ?_
  refine W.seq ?_
  refine W.region ?_
  refine SL.val (O.move rfl rfl Taken.no) ?_
  refine SL.val (O.lenE (SlOf.fz rfl (by decide)) (by first | exact List.length_map _ | rfl) Try.underlying26 rfl Taken.no) ?_
  refine SL.val (O.move rfl rfl Taken.no) ?_
  refine SL.nil ?_
  refine E.to ?_
  refine W.block ?_
  refine W.loopx1 (fun (k : Nat) => [(3, vI ((ls.take k).flatten.length : Int)), (11, vI (k : Int))]) (fun (k : Nat) => []) (fun (k : Nat) => k ≤ ls.length) (fun (k : Nat) => ls.length - k) (0) (rn []) (.cons (t := 0) rfl (.cons (t := 2) rfl (.cons (t := 9) rfl (.cons (t := 10) rfl .nil)))) .nil rfl ?_ ?_ rfl rfl ?_ ?_
  · exact (SubF.cons rfl (SubF.cons rfl SubF.nil))
  · exact SubS.nil
  · skip
    exact Nat.zero_le _
  intro k hinv
  have hk := hinv
  have hst := take_flat_le (ls := ls) k
  refine W.seq ?_
  refine W.region ?_
  refine SL.val (O.det (fun _ => G.R.lss rfl rfl) rfl Taken.no) ?_
  refine SL.nil ?_
  refine E.to ?_
  refine W.seq ?_
  first | refine W.cond_d rfl (fun hc1 => ?_) (fun hc1 => ?_) | refine W.cond_nd rfl (fun hc1 => ?_) (fun hc1 => ?_) | refine W.cond rfl (fun hc1 => ?_) (fun hc1 => ?_)
  · skip
    have hst2 := take_flat_next (ls := ls) (k := k) (by omega)
    refine W.skip ?_
    refine E.to ?_
    refine W.seq ?_
    refine W.block ?_
    refine W.seq ?_
    refine W.region ?_
    refine SL.val (O.idx_fz rfl rfl (rfl) (row_get (by omega)) Try.underlying26 hi22 hs22 rfl Taken.no) ?_
    refine SL.val (O.ld1 (PtI.ofU (PtU.fz rfl)) rfl Try.underlying22 rfl rfl Taken.no) ?_
    refine SL.val (O.assign rfl rfl Taken.no) ?_
    refine SL.nil ?_
    refine E.to ?_
    refine W.seq ?_
    refine W.region ?_
    refine SL.val (O.move rfl rfl Taken.no) ?_
    refine SL.val (O.move rfl rfl Taken.no) ?_
    refine SL.val (O.lenE (SlOf.fz rfl (by decide)) (by first | exact List.length_map _ | rfl) Try.underlying22 rfl Taken.no) ?_
    refine SL.val (O.det (fun _ => by first | exact G.R.add64 rfl rfl (by omega) | exact G.R.add rfl rfl) rfl Taken.no) ?_
    refine SL.val (O.assign rfl rfl Taken.no) ?_
    refine SL.nil ?_
    refine E.to ?_
    refine W.seq ?_
    refine W.region ?_
    refine SL.val (O.move rfl rfl Taken.no) ?_
    refine SL.val (O.det (fun _ => G.R.lss rfl rfl) rfl Taken.no) ?_
    refine SL.nil ?_
    refine E.to ?_
    first | refine W.cond_d rfl (fun hc2 => ?_) (fun hc2 => ?_) | refine W.cond_nd rfl (fun hc2 => ?_) (fun hc2 => ?_) | refine W.cond rfl (fun hc2 => ?_) (fun hc2 => ?_)
    · skip
      omega
    · skip
      refine W.skip ?_
      refine E.inn ?_
      refine E.to ?_
      refine W.region ?_
      refine SL.val (O.det (fun _ => by first | exact G.R.add64 rfl rfl (by omega) | exact G.R.add rfl rfl) rfl Taken.no) ?_
      refine SL.val (O.move rfl rfl Taken.no) ?_
      refine SL.nil ?_
      refine E.again ((k + 1)) (rn []) ?_ ?_ rfl (fixL_spec rfl) ?_ ?_
      · exact (SubF.val rfl (by (try dsimp only); exact iv_int (by rw [take_flat_snoc (by omega)]; omega)) (SubF.cons rfl (SubF.cons rfl (SubF.cons rfl (SubF.cons rfl (SubF.cons rfl SubF.nil))))))
      · exact SubS.nil
      · try dsimp only
        omega
      · (try dsimp only); omega
  · skip
    refine W.exit ?_
    refine E.th ?_
    refine E.th ?_
    refine E.hit ?_
    refine E.to ?_
    refine W.seq ?_
    refine W.region ?_
    refine SL.val (O.move rfl rfl Taken.no) ?_
    have hkl : k = ls.length := by omega
    subst hkl
    rw [List.take_length]
    refine SL.memS (O.call (rn [(0, 101)]) [] rfl rfl rfl (grow_h ls.flatten.length (by omega)) (.cons (ArgOk.same rfl) (.cons (ArgOk.same rfl) .nil)) SubS.nil rfl rfl rfl rfl rfl (.inl rfl) hcallOk42 (r' := .own 101) rfl rfl Taken.no) rfl rfl (S' := (101, .data _ _ _) :: _) rfl ?_
    refine SL.val (O.assign rfl rfl Taken.no) ?_
    refine SL.nil ?_
    refine E.to ?_
    refine W.seq ?_
    refine W.seq ?_
    refine W.region ?_
    refine SL.val (O.move rfl rfl Taken.no) ?_
    refine SL.val (O.lenE (SlOf.fz rfl (by decide)) (by first | exact List.length_map _ | rfl) Try.underlying26 rfl Taken.no) ?_
    refine SL.val (O.move rfl rfl Taken.no) ?_
    refine SL.nil ?_
    refine E.to ?_
    refine W.block ?_
    refine W.loopx1 (fun (j : Nat) => [(6, .own 102), (27, vI (j : Int))]) (fun (j : Nat) => [(102, .data 5 1 ((ls.take j).flatten.map eB))]) (fun (j : Nat) => j ≤ ls.length) (fun (j : Nat) => ls.length - j) (0) (rn [(102, 101)]) (.cons (t := 2) rfl (.cons (t := 25) rfl (.cons (t := 26) rfl .nil))) .nil rfl ?_ ?_ rfl rfl ?_ ?_
    · exact (SubF.cons rfl (SubF.cons rfl SubF.nil))
    · exact (SubS.cons rfl SubS.nil)
    · skip
      exact Nat.zero_le _
    intro j hinv
    have hj := hinv
    refine W.seq ?_
    refine W.region ?_
    refine SL.val (O.det (fun _ => G.R.lss rfl rfl) rfl Taken.no) ?_
    refine SL.nil ?_
    refine E.to ?_
    refine W.seq ?_
    first | refine W.cond_d rfl (fun hc3 => ?_) (fun hc3 => ?_) | refine W.cond_nd rfl (fun hc3 => ?_) (fun hc3 => ?_) | refine W.cond rfl (fun hc3 => ?_) (fun hc3 => ?_)
    · skip
      have hst2 := take_flat_next (ls := ls) (k := j) (by omega)
      refine W.skip ?_
      refine E.to ?_
      refine W.seq ?_
      refine W.block ?_
      refine W.seq ?_
      refine W.region ?_
      refine SL.val (O.idx_fz rfl rfl (rfl) (row_get (by omega)) Try.underlying26 hi22 hs22 rfl Taken.no) ?_
      refine SL.val (O.ld1 (PtI.ofU (PtU.fz rfl)) rfl Try.underlying22 rfl rfl Taken.no) ?_
      refine SL.val (O.assign rfl rfl Taken.no) ?_
      refine SL.nil ?_
      refine E.to ?_
      refine W.region ?_
      refine SL.val (O.move rfl rfl Taken.no) ?_
      refine SL.val (O.move rfl rfl Taken.no) ?_
      refine SL.memS (O.app (k' := 103) rfl rfl (SlOf.fz rfl (by decide)) Try.underlying22 hi5 hz5 hs5 rfl rfl (by first | exact map_snoc rfl | exact app_map | exact List.nil_append _ | rfl) (by rw [hb5]; first | omega | (simp only [List.length_map]; omega) | (simp <;> omega)) (by first | omega | (simp only [List.length_map]; omega) | (simp <;> omega)) rfl Taken.no) rfl rfl (S' := (103, _) :: (102, .dead) :: _) rfl ?_
      refine SL.val (O.assign rfl rfl Taken.no) ?_
      refine SL.nil ?_
      refine E.inn ?_
      refine E.to ?_
      refine W.region ?_
      refine SL.val (O.det (fun _ => by first | exact G.R.add64 rfl rfl (by omega) | exact G.R.add rfl rfl) rfl Taken.no) ?_
      refine SL.val (O.move rfl rfl Taken.no) ?_
      refine SL.nil ?_
      refine E.again ((j + 1)) (rn [(102, 103)]) ?_ ?_ rfl (fixL_spec rfl) ?_ ?_
      · exact (SubF.cons rfl (SubF.cons rfl (SubF.cons rfl (SubF.cons rfl (SubF.cons rfl SubF.nil)))))
      · exact (SubS.val rfl (by (try dsimp only); exact sb_data (by rw [take_flat_snocL (by omega)])) SubS.nil)
      · try dsimp only
        omega
      · (try dsimp only); omega
    · skip
      refine W.exit ?_
      refine E.th ?_
      refine E.th ?_
      refine E.hit ?_
      refine E.to ?_
      refine W.seq ?_
      refine W.region ?_
      refine SL.val (O.move rfl rfl Taken.no) ?_
      refine SL.val (O.assign rfl rfl Taken.no) ?_
      refine SL.nil ?_
      refine E.to ?_
      refine W.ret ?_
      refine E.fin (rs := [_]) (rn [(0, 102)]) (.inl rfl) rfl (.cons (ResOne.tmp rfl) .nil) ?_ ?_ rfl (fixL_spec rfl)
      · skip
        rfl
      · exact (SubS.val rfl (by exact sb_data (by rw [show j = ls.length by omega, List.take_length])) SubS.nil)

/-- bookplate/wal.Append. -/
theorem append_h (n : Int) {l p : List UInt8} (hb : l.length ≤ 100000000) (hp : p.length ≤ 100000000) :
    Con Try.prog 21 [vA [.sl 1 (l.map eB), uI n], vL 1 (p.map eB)] [] (.tup [.agg [vL 1 ((appL l n p).map eB), vI (appN l n p)], vI (appE l n p)]) [] := by
  obtain ⟨i22, hi22, hz22, hs22, hb22⟩ := hinf22
  refine Con.enterL (n := 51) Try.func21 rfl rfl rfl (fun τ w ok vs hin => ?_)
  have hl0_0 := hin.lenA (i := 0) (j := 0) rfl rfl
  try rw [List.length_map] at hl0_0
  have hl1 := hin.len (i := 1) rfl
  try rw [List.length_map] at hl1
  clear hin
  refine W.seq ?_
  refine W.region ?_
  refine SL.memS (O.box (is := [_, _]) 101 rfl rfl (by simp) rfl rfl Taken.no) rfl rfl (S' := (101, _) :: _) rfl ?_
  refine SL.memS (O.alloc (z := .agg #[.slice none 0 0, .int .i64 0]) (is := [.u (.sc (.slice none 0 0)), .u (.sc (.int .i64 0))]) 102 (by kernel_rfl) rfl rfl rfl Taken.no) rfl rfl (S' := (102, _) :: _) rfl ?_
  refine SL.val (O.assign rfl rfl Taken.no) ?_
  refine SL.nil ?_
  refine E.to ?_
  refine W.seq ?_
  refine W.region ?_
  refine SL.val (O.ldN (m := 2) (PtI.ref rfl rfl) (js := [_, _]) rfl (Nat.le_of_ble_eq_true rfl) Try.underlying25 rfl (by kernel_rfl) rfl Taken.no) ?_
  refine SL.memS (O.call (rn []) [] rfl rfl rfl (look_h _ (by omega)) (.cons (ArgOk.aggU (.cons (ArgOk.same rfl) (.cons (ArgOk.same rfl) .nil))) .nil) SubS.nil rfl rfl rfl rfl rfl (.inl rfl) hcallOk33 (r' := .tup [.agg [.u _, .u _, .u _], .u _]) rfl rfl Taken.no) rfl rfl (S' := _) rfl ?_
  refine SL.val (O.move rfl rfl Taken.no) ?_
  refine SL.val (O.extract rfl rfl rfl Taken.no) ?_
  refine SL.val (O.extract rfl rfl rfl Taken.no) ?_
  refine SL.memS (O.alloc (z := .agg #[.slice none 0 0, .slice none 0 0, .int .u32 0]) (is := [.u (.sc (.slice none 0 0)), .u (.sc (.slice none 0 0)), .u (.sc (.int .u32 0))]) 103 (by kernel_rfl) rfl rfl rfl Taken.no) rfl rfl (S' := (103, _) :: _) rfl ?_
  refine SL.effS (O.st_ref (m := 3) rfl rfl rfl (js := [_, _, _]) rfl rfl (by kernel_rfl) (by simp) (Nat.le_of_ble_eq_true rfl) rfl (is' := [_, _, _]) rfl Taken.no) (S' := (103, _) :: _) rfl ?_
  refine SL.val (O.assign rfl rfl Taken.no) ?_
  refine SL.nil ?_
  refine E.to ?_
  refine W.seq ?_
  refine W.block ?_
  refine W.seq ?_
  refine W.region ?_
  refine SL.val (O.move rfl rfl Taken.no) ?_
  refine SL.val (O.det (fun _ => G.R.not rfl) rfl Taken.no) ?_
  refine SL.val (O.assign rfl rfl Taken.no) ?_
  refine SL.nil ?_
  refine E.to ?_
  first | refine W.cond_d rfl (fun hc1 => ?_) (fun hc1 => ?_) | refine W.cond_nd rfl (fun hc1 => ?_) (fun hc1 => ?_) | refine W.cond rfl (fun hc1 => ?_) (fun hc1 => ?_)
  · skip
    refine W.seq ?_
    refine W.region ?_
    refine SL.val (O.build (res := [_, _]) (z := .agg #[.slice none 0 0, .int .i64 0]) (places := [(0, 1), (1, 1)]) rfl rfl Try.underlying25 (by kernel_rfl) (fun _ => by kernel_rfl) rfl rfl Taken.no) ?_
    refine SL.effS (O.st_ref (m := 2) rfl rfl rfl (js := [_, _]) rfl rfl (by kernel_rfl) (by simp) (Nat.le_of_ble_eq_true rfl) rfl (is' := [_, _]) rfl Taken.no) (S' := (102, _) :: _) rfl ?_
    refine SL.val (O.assign rfl rfl Taken.no) ?_
    refine SL.nil ?_
    refine E.to ?_
    refine W.ret ?_
    refine E.inr ?_
    refine E.thr ?_
    refine E.nilslC 102 0 1 (is' := [_, _]) rfl rfl rfl ?_
    refine E.fin (rs := [_, _]) (rn []) (.inl rfl) rfl (.cons (ResOne.cellN (m := 2) (PtI.ref rfl rfl) (js := [_, _]) rfl (Nat.le_of_ble_eq_true rfl) Try.underlying25 rfl (by kernel_rfl)) (.cons (ResOne.tmp rfl) .nil)) ?_ ?_ rfl (fixL_spec rfl)
    · skip
      have hnv : ¬ validW l n := by first | assumption | (rename_i q; simpa using q)
      obtain ⟨e1, e2, e3⟩ := app_1 (p := p) hnv
      rw [e1, e2, e3]; rfl
    · exact SubS.nil
  · skip
    have hv : validW l n := by first | assumption | (rename_i q; simpa using q)
    refine W.seq ?_
    refine W.region ?_
    refine SL.val (O.move rfl rfl Taken.no) ?_
    refine SL.val (O.lenE (SlOf.fz rfl (by decide)) (by first | exact List.length_map _ | rfl) Try.underlying22 rfl Taken.no) ?_
    refine SL.val (O.det (fun _ => G.R.gtr rfl rfl) rfl Taken.no) ?_
    refine SL.val (O.move rfl rfl Taken.no) ?_
    refine SL.case (j := 3) (g := 22) (want := false) rfl rfl (fun hg2 => ?_) (fun hg2 => ?_)
    · skip
      first | have hg2p := G.gA3 hg2 | have hg2p := G.gA4 hg2 | have hg2p := hg2
      refine SL.val (O.fld_ref (o' := 0) rfl Try.underlying25 rfl (m := 0) (by kernel_rfl) rfl rfl (Taken.yes rfl rfl hg2)) ?_
      refine SL.val (O.ld1 (PtI.ref rfl rfl) rfl Try.underlying22 rfl rfl (Taken.yes rfl rfl hg2)) ?_
      refine SL.val (O.lenE (SlOf.fz rfl (by decide)) (by first | exact List.length_map _ | rfl) Try.underlying22 rfl (Taken.yes rfl rfl hg2)) ?_
      refine SL.val (O.det (fun _ => by first | exact G.R.add64 rfl rfl (by omega) | exact G.R.add rfl rfl) rfl (Taken.yes rfl rfl hg2)) ?_
      refine SL.val (O.move rfl rfl (Taken.yes rfl rfl hg2)) ?_
      refine SL.val (O.lenE (SlOf.fz rfl (by decide)) (by first | exact List.length_map _ | rfl) Try.underlying22 rfl (Taken.yes rfl rfl hg2)) ?_
      refine SL.val (O.det (fun _ => by first | exact G.R.add64 rfl rfl (by omega) | exact G.R.add rfl rfl) rfl (Taken.yes rfl rfl hg2)) ?_
      refine SL.val (O.det (fun _ => G.R.gtr rfl rfl) rfl (Taken.yes rfl rfl hg2)) ?_
      refine SL.val (O.pick_f rfl hg2 rfl rfl Taken.no) ?_
      refine SL.val (O.assign rfl rfl Taken.no) ?_
      refine SL.nil ?_
      refine E.to ?_
      refine W.pick (.cons (t := 1) rfl (.cons (t := 2) rfl (.cons (t := 4) rfl (.cons (t := 5) rfl (.cons (t := 6) rfl (.cons (t := 18) rfl .nil)))))) (.cons (t := 101) rfl (.cons (t := 102) rfl (.cons (t := 103) rfl .nil))) ?_
      first | refine W.cond_d rfl (fun hc3 => ?_) (fun hc3 => ?_) | refine W.cond_nd rfl (fun hc3 => ?_) (fun hc3 => ?_) | refine W.cond rfl (fun hc3 => ?_) (fun hc3 => ?_)
      · skip
        refine W.seq ?_
        refine W.region ?_
        refine SL.val (O.build (res := [_, _]) (z := .agg #[.slice none 0 0, .int .i64 0]) (places := [(0, 1), (1, 1)]) rfl rfl Try.underlying25 (by kernel_rfl) (fun _ => by kernel_rfl) rfl rfl Taken.no) ?_
        refine SL.effS (O.st_ref (m := 2) rfl rfl rfl (js := [_, _]) rfl rfl (by kernel_rfl) (by simp) (Nat.le_of_ble_eq_true rfl) rfl (is' := [_, _]) rfl Taken.no) (S' := (102, _) :: _) rfl ?_
        refine SL.val (O.assign rfl rfl Taken.no) ?_
        refine SL.nil ?_
        refine E.to ?_
        refine W.ret ?_
        refine E.inr ?_
        refine E.thr ?_
        refine E.nilslC 102 0 1 (is' := [_, _]) rfl rfl rfl ?_
        refine E.fin (rs := [_, _]) (rn []) (.inl rfl) rfl (.cons (ResOne.cellN (m := 2) (PtI.ref rfl rfl) (js := [_, _]) rfl (Nat.le_of_ble_eq_true rfl) Try.underlying25 rfl (by kernel_rfl)) (.cons (ResOne.tmp rfl) .nil)) ?_ ?_ rfl (fixL_spec rfl)
        · skip
          obtain ⟨e1, e2, e3⟩ := app_3 (p := p) hv (by omega)
          rw [e1, e2, e3]; rfl
        · exact SubS.nil
      · skip
        refine W.skip ?_
        refine E.inn ?_
        refine E.to ?_
        refine W.seq ?_
        refine W.draw [⟨[101], [], []⟩, ⟨[101], [], []⟩, ⟨[], [], []⟩, ⟨[], [], []⟩, ⟨[], [], []⟩, ⟨[], [], []⟩, ⟨[103], [], []⟩, ⟨[103], [], []⟩, ⟨[], [], []⟩, ⟨[], [], []⟩, ⟨[], [], []⟩, ⟨[], [], []⟩, ⟨[104], [104], [104]⟩, ⟨[104, 105], [105], [105]⟩, ⟨[105], [], []⟩] rfl (by kernel_rfl) (by kernel_rfl) rfl rfl ?_
        refine WH.val (O.fld_ref (o' := 0) rfl Try.underlying25 rfl (m := 0) (by kernel_rfl) rfl rfl Taken.no) rfl rfl ?_
        refine WH.val (O.ld1 (PtI.ref rfl rfl) rfl Try.underlying22 rfl rfl Taken.no) rfl rfl ?_
        refine WH.val (O.move rfl rfl Taken.no) rfl rfl ?_
        refine WH.val (O.lenE (SlOf.fz rfl (by decide)) (by first | exact List.length_map _ | rfl) Try.underlying22 rfl Taken.no) rfl rfl ?_
        refine WH.val (O.det (fun _ => by first | exact G.R.conv32 rfl Try.underlying3 Try.underlying61 (by omega) | exact G.R.conv rfl Try.underlying3 Try.underlying61) rfl Taken.no) rfl rfl ?_
        refine WH.val (O.callp rfl rfl rfl (Con.fz (four_h _) rfl rfl) (.cons (ArgOk.same rfl) .nil) hcallOk35 rfl Taken.no) rfl rfl ?_
        refine WH.val (O.fld_ref (o' := 2) rfl Try.underlying63 rfl (m := 0) (by kernel_rfl) rfl rfl Taken.no) rfl rfl ?_
        refine WH.val (O.ld1 (PtI.ref rfl rfl) rfl Try.underlying61 rfl rfl Taken.no) rfl rfl ?_
        refine WH.val (O.move rfl rfl Taken.no) rfl rfl ?_
        refine WH.val (O.callp rfl rfl rfl (sum_h _ (by first | omega | (simp <;> omega))) (.cons (ArgOk.same rfl) (.cons (ArgOk.same rfl) .nil)) hcallOk36 rfl Taken.no) rfl rfl ?_
        refine WH.val (O.callp rfl rfl rfl (Con.fz (four_h _) rfl rfl) (.cons (ArgOk.same rfl) .nil) hcallOk35 rfl Taken.no) rfl rfl ?_
        refine WH.val (O.move rfl rfl Taken.no) rfl rfl ?_
        refine WH.memS (O.buildSlice 104 (rows := [l, fourL p.length, fourL (sumI (lastW l) p), p].map eL) rfl rfl Try.underlying26 hi22 hz22 hs22 (by decide) rfl (by decide) rfl rfl rfl Taken.no) rfl rfl rfl rfl rfl (S' := (104, .data 22 1 ([l, fourL p.length, fourL (sumI (lastW l) p), p].map eL)) :: _) rfl ?_
        refine WH.memS (O.call (rn [(0, 105)]) [104] rfl rfl rfl (concat_h (by simp [fourL] <;> omega)) (.cons (ArgOk.own rfl rfl) .nil) SubS.nil rfl rfl rfl rfl rfl (.inr ⟨rfl, fun x hx => by rw [List.mem_singleton] at hx; subst hx; exact flatP_eB⟩) hcallOk34 (r' := .own 105) rfl rfl Taken.no) rfl rfl rfl rfl rfl (S' := (105, .data _ _ _) :: _) rfl ?_
        refine WH.val (O.assign rfl rfl Taken.no) rfl rfl ?_
        refine WH.nil ?_
        refine E.to ?_
        refine W.seq ?_
        refine W.region ?_
        refine SL.val (O.move rfl rfl Taken.no) ?_
        refine SL.val (O.fld_ref (o' := 1) rfl Try.underlying25 rfl (m := 0) (by kernel_rfl) rfl rfl Taken.no) ?_
        refine SL.val (O.ld1 (PtI.ref rfl rfl) rfl Try.underlying3 rfl rfl Taken.no) ?_
        refine SL.freeze 105 rfl (F' := [(47, _)]) (⟨⟨_, rfl, rfl⟩, trivial⟩) ?_
        refine SL.val (O.build (res := [_, _]) (z := .agg #[.slice none 0 0, .int .i64 0]) (places := [(0, 1), (1, 1)]) rfl rfl Try.underlying25 (by kernel_rfl) (fun _ => by kernel_rfl) rfl rfl Taken.no) ?_
        refine SL.effS (O.st_ref (m := 2) rfl rfl rfl (js := [_, _]) rfl rfl (by kernel_rfl) (by simp) (Nat.le_of_ble_eq_true rfl) rfl (is' := [_, _]) rfl Taken.no) (S' := (102, _) :: _) rfl ?_
        refine SL.val (O.assign rfl rfl Taken.no) ?_
        refine SL.nil ?_
        refine E.to ?_
        refine W.pick (.cons (t := 4) rfl (.cons (t := 5) rfl .nil)) (.cons (t := 101) rfl (.cons (t := 102) rfl (.cons (t := 103) rfl (.cons (t := 104) rfl .nil)))) ?_
        refine W.ret ?_
        refine E.fin (rs := [_, _]) (rn []) (.inl rfl) rfl (.cons (ResOne.cellN (m := 2) (PtI.ref rfl rfl) (js := [_, _]) rfl (Nat.le_of_ble_eq_true rfl) Try.underlying25 rfl (by kernel_rfl)) (.cons (ResOne.tmp rfl) .nil)) ?_ ?_ rfl (fixL_spec rfl)
        · skip
          obtain ⟨e1, e2, e3⟩ := app_0 (p := p) hv (by omega)
          rw [e1, e2, e3]
          simp only [List.flatten_cons, List.flatten_nil, List.append_nil, List.append_assoc]
          rfl
        · exact SubS.nil
    · skip
      first | have hg2p := G.gA7 hg2 | have hg2p := G.gA8 hg2 | have hg2p := hg2
      refine SL.skip (OpOk.not rfl rfl rfl hg2) ?_
      refine SL.skip (OpOk.not rfl rfl rfl hg2) ?_
      refine SL.skip (OpOk.not rfl rfl rfl hg2) ?_
      refine SL.skip (OpOk.not rfl rfl rfl hg2) ?_
      refine SL.skip (OpOk.not rfl rfl rfl hg2) ?_
      refine SL.skip (OpOk.not rfl rfl rfl hg2) ?_
      refine SL.skip (OpOk.not rfl rfl rfl hg2) ?_
      refine SL.skip (OpOk.not rfl rfl rfl hg2) ?_
      refine SL.val (O.pick_t rfl (G.ne_f hg2) rfl rfl Taken.no) ?_
      refine SL.val (O.assign rfl rfl Taken.no) ?_
      refine SL.nil ?_
      refine E.to ?_
      refine W.pick (.cons (t := 1) rfl (.cons (t := 2) rfl (.cons (t := 4) rfl (.cons (t := 5) rfl (.cons (t := 6) rfl (.cons (t := 18) rfl .nil)))))) (.cons (t := 101) rfl (.cons (t := 102) rfl (.cons (t := 103) rfl .nil))) ?_
      refine W.cond_t rfl ?_
      refine W.seq ?_
      refine W.region ?_
      refine SL.val (O.build (res := [_, _]) (z := .agg #[.slice none 0 0, .int .i64 0]) (places := [(0, 1), (1, 1)]) rfl rfl Try.underlying25 (by kernel_rfl) (fun _ => by kernel_rfl) rfl rfl Taken.no) ?_
      refine SL.effS (O.st_ref (m := 2) rfl rfl rfl (js := [_, _]) rfl rfl (by kernel_rfl) (by simp) (Nat.le_of_ble_eq_true rfl) rfl (is' := [_, _]) rfl Taken.no) (S' := (102, _) :: _) rfl ?_
      refine SL.val (O.assign rfl rfl Taken.no) ?_
      refine SL.nil ?_
      refine E.to ?_
      refine W.ret ?_
      refine E.inr ?_
      refine E.thr ?_
      refine E.nilslC 102 0 1 (is' := [_, _]) rfl rfl rfl ?_
      refine E.fin (rs := [_, _]) (rn []) (.inl rfl) rfl (.cons (ResOne.cellN (m := 2) (PtI.ref rfl rfl) (js := [_, _]) rfl (Nat.le_of_ble_eq_true rfl) Try.underlying25 rfl (by kernel_rfl)) (.cons (ResOne.tmp rfl) .nil)) ?_ ?_ rfl (fixL_spec rfl)
      · skip
        obtain ⟨e1, e2, e3⟩ := app_3 (p := p) hv (by omega)
        rw [e1, e2, e3]; rfl
      · exact SubS.nil

/-- bookplate/bookplateref20.Append. -/
theorem refappend_h (n : Int) {l p : List UInt8} (hb : l.length ≤ 100000000) (hp : p.length ≤ 100000000) :
    Con Try.prog 22 [vA [.sl 1 (l.map eB), uI n], vL 1 (p.map eB)] [] (.tup [.agg [vL 1 ((appL l n p).map eB), vI (appN l n p)], vI (appE l n p)]) [] := by
  have hwl := whole_len l
  obtain ⟨i3, hi3, hz3, hs3, hb3⟩ := hinf3
  obtain ⟨i5, hi5, hz5, hs5, hb5⟩ := hinf5
  obtain ⟨i22, hi22, hz22, hs22, hb22⟩ := hinf22
  refine Con.enterL (n := 81) Try.func22 rfl rfl rfl (fun τ w ok vs hin => ?_)
  have hl0_0 := hin.lenA (i := 0) (j := 0) rfl rfl
  try rw [List.length_map] at hl0_0
  have hl1 := hin.len (i := 1) rfl
  try rw [List.length_map] at hl1
  clear hin
  refine W.seq ?_
  refine W.region ?_
  refine SL.memS (O.box (is := [_, _]) 101 rfl rfl (by simp) rfl rfl Taken.no) rfl rfl (S' := (101, _) :: _) rfl ?_
  refine SL.memS (O.alloc (z := .agg #[.slice none 0 0, .int .i64 0]) (is := [.u (.sc (.slice none 0 0)), .u (.sc (.int .i64 0))]) 102 (by kernel_rfl) rfl rfl rfl Taken.no) rfl rfl (S' := (102, _) :: _) rfl ?_
  refine SL.val (O.assign rfl rfl Taken.no) ?_
  refine SL.nil ?_
  refine E.to ?_
  refine W.seq ?_
  refine W.seq ?_
  refine W.region ?_
  refine SL.val (O.ldN (m := 2) (PtI.ref rfl rfl) (js := [_, _]) rfl (Nat.le_of_ble_eq_true rfl) Try.underlying29 rfl (by kernel_rfl) rfl Taken.no) ?_
  refine SL.val (O.callp rfl rfl rfl (refvalid_h _ (by omega)) (.cons (ArgOk.aggU (.cons (ArgOk.same rfl) (.cons (ArgOk.same rfl) .nil))) .nil) hcallOk25 rfl Taken.no) ?_
  refine SL.val (O.det (fun _ => G.R.not rfl) rfl Taken.no) ?_
  refine SL.nil ?_
  refine E.to ?_
  first | refine W.cond_d rfl (fun hc1 => ?_) (fun hc1 => ?_) | refine W.cond_nd rfl (fun hc1 => ?_) (fun hc1 => ?_) | refine W.cond rfl (fun hc1 => ?_) (fun hc1 => ?_)
  · skip
    refine W.seq ?_
    refine W.region ?_
    refine SL.val (O.build (res := [_, _]) (z := .agg #[.slice none 0 0, .int .i64 0]) (places := [(0, 1), (1, 1)]) rfl rfl Try.underlying29 (by kernel_rfl) (fun _ => by kernel_rfl) rfl rfl Taken.no) ?_
    refine SL.effS (O.st_ref (m := 2) rfl rfl rfl (js := [_, _]) rfl rfl (by kernel_rfl) (by simp) (Nat.le_of_ble_eq_true rfl) rfl (is' := [_, _]) rfl Taken.no) (S' := (102, _) :: _) rfl ?_
    refine SL.val (O.assign rfl rfl Taken.no) ?_
    refine SL.nil ?_
    refine E.to ?_
    refine W.ret ?_
    refine E.thr ?_
    refine E.nilslC 102 0 1 (is' := [_, _]) rfl rfl rfl ?_
    refine E.fin (rs := [_, _]) (rn []) (.inl rfl) rfl (.cons (ResOne.cellN (m := 2) (PtI.ref rfl rfl) (js := [_, _]) rfl (Nat.le_of_ble_eq_true rfl) Try.underlying29 rfl (by kernel_rfl)) (.cons (ResOne.tmp rfl) .nil)) ?_ ?_ rfl (fixL_spec rfl)
    · skip
      have hnv : ¬ validW l n := by first | assumption | (rename_i q; simpa using q)
      obtain ⟨e1, e2, e3⟩ := app_1 (p := p) hnv
      rw [e1, e2, e3]; rfl
    · exact SubS.nil
  · skip
    have hv : validW l n := by first | assumption | (rename_i q; simpa using q)
    refine W.skip ?_
    refine E.to ?_
    refine W.seq ?_
    refine W.seq ?_
    refine W.region ?_
    refine SL.val (O.move rfl rfl Taken.no) ?_
    refine SL.val (O.lenE (SlOf.fz rfl (by decide)) (by first | exact List.length_map _ | rfl) Try.underlying22 rfl Taken.no) ?_
    refine SL.val (O.det (fun _ => G.R.gtr rfl rfl) rfl Taken.no) ?_
    refine SL.val (O.move rfl rfl Taken.no) ?_
    refine SL.case (j := 3) (g := 19) (want := false) rfl rfl (fun hg2 => ?_) (fun hg2 => ?_)
    · skip
      first | have hg2p := G.gA3 hg2 | have hg2p := G.gA4 hg2 | have hg2p := hg2
      refine SL.val (O.fld_ref (o' := 0) rfl Try.underlying29 rfl (m := 0) (by kernel_rfl) rfl rfl (Taken.yes rfl rfl hg2)) ?_
      refine SL.val (O.ld1 (PtI.ref rfl rfl) rfl Try.underlying22 rfl rfl (Taken.yes rfl rfl hg2)) ?_
      refine SL.val (O.lenE (SlOf.fz rfl (by decide)) (by first | exact List.length_map _ | rfl) Try.underlying22 rfl (Taken.yes rfl rfl hg2)) ?_
      refine SL.val (O.det (fun _ => by first | exact G.R.add64 rfl rfl (by omega) | exact G.R.add rfl rfl) rfl (Taken.yes rfl rfl hg2)) ?_
      refine SL.val (O.move rfl rfl (Taken.yes rfl rfl hg2)) ?_
      refine SL.val (O.lenE (SlOf.fz rfl (by decide)) (by first | exact List.length_map _ | rfl) Try.underlying22 rfl (Taken.yes rfl rfl hg2)) ?_
      refine SL.val (O.det (fun _ => by first | exact G.R.add64 rfl rfl (by omega) | exact G.R.add rfl rfl) rfl (Taken.yes rfl rfl hg2)) ?_
      refine SL.val (O.det (fun _ => G.R.gtr rfl rfl) rfl (Taken.yes rfl rfl hg2)) ?_
      refine SL.val (O.pick_f rfl hg2 rfl rfl Taken.no) ?_
      refine SL.nil ?_
      refine E.to ?_
      first | refine W.cond_d rfl (fun hc3 => ?_) (fun hc3 => ?_) | refine W.cond_nd rfl (fun hc3 => ?_) (fun hc3 => ?_) | refine W.cond rfl (fun hc3 => ?_) (fun hc3 => ?_)
      · skip
        refine W.seq ?_
        refine W.region ?_
        refine SL.val (O.build (res := [_, _]) (z := .agg #[.slice none 0 0, .int .i64 0]) (places := [(0, 1), (1, 1)]) rfl rfl Try.underlying29 (by kernel_rfl) (fun _ => by kernel_rfl) rfl rfl Taken.no) ?_
        refine SL.effS (O.st_ref (m := 2) rfl rfl rfl (js := [_, _]) rfl rfl (by kernel_rfl) (by simp) (Nat.le_of_ble_eq_true rfl) rfl (is' := [_, _]) rfl Taken.no) (S' := (102, _) :: _) rfl ?_
        refine SL.val (O.assign rfl rfl Taken.no) ?_
        refine SL.nil ?_
        refine E.to ?_
        refine W.ret ?_
        refine E.thr ?_
        refine E.nilslC 102 0 1 (is' := [_, _]) rfl rfl rfl ?_
        refine E.fin (rs := [_, _]) (rn []) (.inl rfl) rfl (.cons (ResOne.cellN (m := 2) (PtI.ref rfl rfl) (js := [_, _]) rfl (Nat.le_of_ble_eq_true rfl) Try.underlying29 rfl (by kernel_rfl)) (.cons (ResOne.tmp rfl) .nil)) ?_ ?_ rfl (fixL_spec rfl)
        · skip
          obtain ⟨e1, e2, e3⟩ := app_3 (p := p) hv (by omega)
          rw [e1, e2, e3]; rfl
        · exact SubS.nil
      · skip
        refine W.skip ?_
        refine E.to ?_
        refine W.seq ?_
        refine W.region ?_
        refine SL.val (O.assign rfl rfl Taken.no) ?_
        refine SL.nil ?_
        refine E.to ?_
        refine W.seq ?_
        refine W.region ?_
        refine SL.val (O.fld_ref (o' := 0) rfl Try.underlying29 rfl (m := 0) (by kernel_rfl) rfl rfl Taken.no) ?_
        refine SL.val (O.ld1 (PtI.ref rfl rfl) rfl Try.underlying22 rfl rfl Taken.no) ?_
        refine SL.memS (O.call (rn []) [] rfl rfl rfl (Con.fz (Con.fz (refwhole_h (by omega)) rfl rfl) rfl rfl) (.cons (ArgOk.same rfl) .nil) SubS.nil rfl rfl rfl rfl rfl (.inl rfl) hcallOk31 (r' := .tup [.u _, .u _]) rfl rfl Taken.no) rfl rfl (S' := _) rfl ?_
        refine SL.val (O.move rfl rfl Taken.no) ?_
        refine SL.val (O.extract rfl rfl rfl Taken.no) ?_
        refine SL.val (O.extract rfl rfl rfl Taken.no) ?_
        refine SL.val (O.assign rfl rfl Taken.no) ?_
        refine SL.val (O.assign rfl rfl Taken.no) ?_
        refine SL.nil ?_
        refine E.to ?_
        refine W.pick (.cons (t := 1) rfl (.cons (t := 2) rfl (.cons (t := 4) rfl (.cons (t := 5) rfl (.cons (t := 6) rfl (.cons (t := 7) rfl (.cons (t := 8) rfl .nil))))))) (.cons (t := 101) rfl (.cons (t := 102) rfl .nil)) ?_
        refine W.seq ?_
        refine W.seq ?_
        refine W.region ?_
        refine SL.val (O.assign rfl rfl Taken.no) ?_
        refine SL.nil ?_
        refine E.to ?_
        refine W.block ?_
        refine W.loopx1 (fun (k : Nat) => [(6, vN .u32 (refLast l k)), (9, vI (k : Int))]) (fun (k : Nat) => []) (fun (k : Nat) => k ≤ (wholeL l).1.length) (fun (k : Nat) => (wholeL l).1.length - k) (0) (rn []) (.cons (t := 1) rfl (.cons (t := 2) rfl (.cons (t := 4) rfl (.cons (t := 5) rfl (.cons (t := 7) rfl (.cons (t := 8) rfl .nil)))))) (.cons (t := 101) rfl (.cons (t := 102) rfl .nil)) rfl ?_ ?_ rfl rfl ?_ ?_
        · exact (SubF.cons rfl (SubF.cons rfl SubF.nil))
        · exact SubS.nil
        · skip
          exact Nat.zero_le _
        intro k hinv
        have hk := hinv
        refine W.seq ?_
        refine W.seq ?_
        refine W.region ?_
        refine SL.val (O.move rfl rfl Taken.no) ?_
        refine SL.val (O.move rfl rfl Taken.no) ?_
        refine SL.val (O.lenE (SlOf.fz rfl (by decide)) (by first | exact List.length_map _ | rfl) Try.underlying26 rfl Taken.no) ?_
        refine SL.val (O.det (fun _ => G.R.lss rfl rfl) rfl Taken.no) ?_
        refine SL.nil ?_
        refine E.to ?_
        first | refine W.cond_d rfl (fun hc4 => ?_) (fun hc4 => ?_) | refine W.cond_nd rfl (fun hc4 => ?_) (fun hc4 => ?_) | refine W.cond rfl (fun hc4 => ?_) (fun hc4 => ?_)
        · skip
          have hfr := framesW l (k := k) (by omega)
          refine W.skip ?_
          refine E.to ?_
          refine W.seq ?_
          refine W.block ?_
          refine W.draw [⟨[101], [], []⟩, ⟨[101], [], []⟩, ⟨[], [], []⟩, ⟨[], [], []⟩, ⟨[], [], []⟩, ⟨[], [], []⟩, ⟨[], [], []⟩, ⟨[], [], []⟩, ⟨[], [], []⟩, ⟨[], [], []⟩, ⟨[], [], []⟩, ⟨[], [], []⟩, ⟨[], [], []⟩, ⟨[], [], []⟩, ⟨[], [], []⟩, ⟨[], [], []⟩] rfl (by kernel_rfl) (by kernel_rfl) rfl rfl ?_
          refine WH.val (O.fld_ref (o' := 0) rfl Try.underlying29 rfl (m := 0) (by kernel_rfl) rfl rfl Taken.no) rfl rfl ?_
          refine WH.val (O.ld1 (PtI.ref rfl rfl) rfl Try.underlying22 rfl rfl Taken.no) rfl rfl ?_
          refine WH.val (O.move rfl rfl Taken.no) rfl rfl ?_
          refine WH.val (O.move rfl rfl Taken.no) rfl rfl ?_
          refine WH.val (O.idx_fz rfl rfl (rfl) (row_get (by omega)) Try.underlying60 hi3 hs3 rfl Taken.no) rfl rfl ?_
          refine WH.val (O.ld1 (PtI.ofU (PtU.fz rfl)) rfl Try.underlying3 rfl rfl Taken.no) rfl rfl ?_
          refine WH.val (O.move rfl rfl Taken.no) rfl rfl ?_
          refine WH.val (O.move rfl rfl Taken.no) rfl rfl ?_
          refine WH.val (O.idx_fz rfl rfl (rfl) (row_get (by omega)) Try.underlying26 hi22 hs22 rfl Taken.no) rfl rfl ?_
          refine WH.val (O.ld1 (PtI.ofU (PtU.fz rfl)) rfl Try.underlying22 rfl rfl Taken.no) rfl rfl ?_
          refine WH.val (O.lenE (SlOf.fz rfl (by decide)) (by first | exact List.length_map _ | rfl) Try.underlying22 rfl Taken.no) rfl rfl ?_
          refine WH.val (O.det (fun _ => by first | exact G.R.sub64 rfl rfl (by omega) | exact G.R.sub rfl rfl) rfl Taken.no) rfl rfl ?_
          refine WH.val (O.det (fun _ => by first | exact G.R.sub64 rfl rfl (by omega) | exact G.R.sub rfl rfl) rfl Taken.no) rfl rfl ?_
          refine WH.val (O.sub_fz (i := ((wholeL l).2[k]! - ((wholeL l).1[k]!).length - 4).toNat) rfl (Bnd.at rfl (by first | rfl | omega)) Bnd.no (by rw [List.length_map]; omega) (by first | omega | (simp only [List.length_map, Nat.le_refl, Nat.zero_le] <;> omega) | (simp <;> omega)) sub_lo Try.underlying22 hi5 hs5 rfl Taken.no) rfl rfl ?_
          refine WH.val (O.callp rfl rfl rfl (refnumber_h (by rw [List.length_drop]; omega)) (.cons (ArgOk.same rfl) .nil) hcallOk37 rfl Taken.no) rfl rfl ?_
          refine WH.val (O.assign rfl rfl Taken.no) rfl rfl ?_
          refine WH.nil ?_
          refine E.inn ?_
          refine E.to ?_
          refine W.pick (.cons (t := 1) rfl (.cons (t := 2) rfl (.cons (t := 4) rfl (.cons (t := 5) rfl (.cons (t := 6) rfl (.cons (t := 7) rfl (.cons (t := 8) rfl (.cons (t := 9) rfl (.cons (t := 36) rfl (.cons (t := 37) rfl (.cons (t := 38) rfl (.cons (t := 39) rfl (.cons (t := 42) rfl (.cons (t := 43) rfl (.cons (t := 44) rfl (.cons (t := 45) rfl (.cons (t := 46) rfl (.cons (t := 47) rfl (.cons (t := 48) rfl (.cons (t := 49) rfl (.cons (t := 50) rfl (.cons (t := 51) rfl (.cons (t := 52) rfl (.cons (t := 53) rfl (.cons (t := 54) rfl (.cons (t := 55) rfl (.cons (t := 56) rfl .nil))))))))))))))))))))))))))) (.cons (t := 101) rfl (.cons (t := 102) rfl .nil)) ?_
          refine W.region ?_
          refine SL.val (O.move rfl rfl Taken.no) ?_
          refine SL.val (O.det (fun _ => by first | exact G.R.add64 rfl rfl (by omega) | exact G.R.add rfl rfl) rfl Taken.no) ?_
          refine SL.val (O.assign rfl rfl Taken.no) ?_
          refine SL.nil ?_
          refine E.again ((k + 1)) (rn []) ?_ ?_ rfl (fixL_spec rfl) ?_ ?_
          · exact (SubF.val rfl (by (try dsimp only); exact congrArg (fun x => IV.u (.sc (.int .u32 x))) (by rw [refLast, if_neg (by omega), Nat.add_sub_cancel])) (SubF.cons rfl (SubF.cons rfl (SubF.cons rfl (SubF.cons rfl (SubF.cons rfl (SubF.cons rfl (SubF.cons rfl SubF.nil))))))))
          · exact (SubS.cons rfl (SubS.cons rfl SubS.nil))
          · try dsimp only
            omega
          · (try dsimp only); omega
        · skip
          refine W.exit ?_
          refine E.th ?_
          refine E.th ?_
          refine E.hit ?_
          refine E.to ?_
          refine W.seq ?_
          refine W.region ?_
          refine SL.val (O.move rfl rfl Taken.no) ?_
          refine SL.val (O.lenE (SlOf.fz rfl (by decide)) (by first | exact List.length_map _ | rfl) Try.underlying22 rfl Taken.no) ?_
          refine SL.val (O.det (fun _ => by first | exact G.R.conv32 rfl Try.underlying3 Try.underlying61 (by omega) | exact G.R.conv rfl Try.underlying3 Try.underlying61) rfl Taken.no) ?_
          refine SL.val (O.callp rfl rfl rfl (Con.fz (reffour_h _) rfl rfl) (.cons (ArgOk.same rfl) .nil) hcallOk38 rfl Taken.no) ?_
          refine SL.val (O.assign rfl rfl Taken.no) ?_
          refine SL.nil ?_
          refine E.to ?_
          refine W.seq ?_
          refine W.region ?_
          refine SL.val (O.move rfl rfl Taken.no) ?_
          refine SL.val (O.move rfl rfl Taken.no) ?_
          refine SL.val (O.callp rfl rfl rfl (refmore_h _ _) (.cons (ArgOk.same rfl) (.cons (ArgOk.same rfl) .nil)) hcallOk39 rfl Taken.no) ?_
          refine SL.val (O.move rfl rfl Taken.no) ?_
          refine SL.val (O.callp rfl rfl rfl (refmore_h _ _) (.cons (ArgOk.same rfl) (.cons (ArgOk.same rfl) .nil)) hcallOk39 rfl Taken.no) ?_
          refine SL.val (O.assign rfl rfl Taken.no) ?_
          refine SL.nil ?_
          refine E.to ?_
          refine W.seq ?_
          refine W.region ?_
          refine SL.memS (O.buildSlice 103 rfl rfl Try.underlying22 hi5 hz5 hs5 (by decide) rfl (by decide) rfl rfl rfl Taken.no) rfl rfl (S' := (103, _) :: _) rfl ?_
          refine SL.val (O.fld_ref (o' := 0) rfl Try.underlying29 rfl (m := 0) (by kernel_rfl) rfl rfl Taken.no) ?_
          refine SL.val (O.ld1 (PtI.ref rfl rfl) rfl Try.underlying22 rfl rfl Taken.no) ?_
          refine SL.memS (O.app (k' := 104) rfl rfl (SlOf.fz rfl (by decide)) Try.underlying22 hi5 hz5 hs5 rfl rfl (by first | exact map_snoc rfl | exact app_map | exact List.nil_append _ | rfl) (by rw [hb5]; first | omega | (simp only [List.length_map]; omega) | (simp <;> omega)) (by first | omega | (simp only [List.length_map]; omega) | (simp <;> omega)) rfl Taken.no) rfl rfl (S' := (104, _) :: (103, .dead) :: _) rfl ?_
          refine SL.val (O.move rfl rfl Taken.no) ?_
          refine SL.memS (O.app (k' := 105) rfl rfl (SlOf.fz rfl (by decide)) Try.underlying22 hi5 hz5 hs5 rfl rfl (by first | exact map_snoc rfl | exact app_map | exact List.nil_append _ | rfl) (by rw [hb5]; simp only [List.length_map, List.length_append, fourL_len]; omega) (by simp only [List.length_map, List.length_append, fourL_len]; omega) rfl Taken.no) rfl rfl (S' := (105, _) :: (104, .dead) :: _) rfl ?_
          refine SL.val (O.assign rfl rfl Taken.no) ?_
          refine SL.nil ?_
          refine E.to ?_
          refine W.pick (.cons (t := 1) rfl (.cons (t := 2) rfl (.cons (t := 4) rfl (.cons (t := 5) rfl (.cons (t := 6) rfl (.cons (t := 11) rfl .nil)))))) (.cons (t := 101) rfl (.cons (t := 102) rfl (.cons (t := 105) rfl .nil))) ?_
          refine W.seq ?_
          refine W.draw [⟨[105], [], []⟩, ⟨[], [], []⟩, ⟨[], [], []⟩, ⟨[105, 106], [105, 106], [106]⟩, ⟨[], [], []⟩, ⟨[106, 107], [106, 107], [107]⟩, ⟨[101], [], []⟩, ⟨[101], [], []⟩, ⟨[107], [], []⟩, ⟨[102, 107], [102], []⟩, ⟨[], [], []⟩] rfl (by kernel_rfl) (by kernel_rfl) rfl rfl ?_
          refine WH.val (O.move rfl rfl Taken.no) rfl rfl ?_
          refine WH.val (O.move rfl rfl Taken.no) rfl rfl ?_
          refine WH.val (O.callp rfl rfl rfl (Con.fz (reffour_h _) rfl rfl) (.cons (ArgOk.same rfl) .nil) hcallOk38 rfl Taken.no) rfl rfl ?_
          refine WH.memS (O.app (k' := 106) rfl rfl (SlOf.fz rfl (by decide)) Try.underlying22 hi5 hz5 hs5 rfl rfl (by first | exact map_snoc rfl | exact app_map | exact List.nil_append _ | rfl) (by rw [hb5]; simp only [List.length_map, List.length_append, fourL_len]; omega) (by simp only [List.length_map, List.length_append, fourL_len]; omega) rfl Taken.no) rfl rfl rfl rfl rfl (S' := (106, _) :: (105, .dead) :: _) rfl ?_
          refine WH.val (O.move rfl rfl Taken.no) rfl rfl ?_
          refine WH.memS (O.app (k' := 107) rfl rfl (SlOf.fz rfl (by decide)) Try.underlying22 hi5 hz5 hs5 rfl rfl (by first | exact map_snoc rfl | exact app_map | exact List.nil_append _ | rfl) (by rw [hb5]; simp only [List.length_map, List.length_append, fourL_len]; omega) (by simp only [List.length_map, List.length_append, fourL_len]; omega) rfl Taken.no) rfl rfl rfl rfl rfl (S' := (107, _) :: (106, .dead) :: _) rfl ?_
          refine WH.val (O.fld_ref (o' := 1) rfl Try.underlying29 rfl (m := 0) (by kernel_rfl) rfl rfl Taken.no) rfl rfl ?_
          refine WH.val (O.ld1 (PtI.ref rfl rfl) rfl Try.underlying3 rfl rfl Taken.no) rfl rfl ?_
          refine WH.val (O.build (res := [_, _]) (z := .agg #[.slice none 0 0, .int .i64 0]) (places := [(0, 1), (1, 1)]) rfl rfl Try.underlying29 (by kernel_rfl) (fun _ => by kernel_rfl) rfl rfl Taken.no) rfl rfl ?_
          refine WH.effS (O.st_ref (m := 2) rfl rfl rfl (js := [_, _]) rfl rfl (by kernel_rfl) (by simp) (Nat.le_of_ble_eq_true rfl) rfl (is' := [_, _]) rfl Taken.no) rfl rfl rfl (S' := (102, _) :: _) rfl ?_
          refine WH.val (O.assign rfl rfl Taken.no) rfl rfl ?_
          refine WH.nil ?_
          refine E.to ?_
          refine W.ret ?_
          refine E.freezeC 102 0 107 (is' := [_, _]) rfl rfl rfl rfl ?_
          refine E.fin (rs := [_, _]) (rn []) (.inl rfl) rfl (.cons (ResOne.cellN (m := 2) (PtI.ref rfl rfl) (js := [_, _]) rfl (Nat.le_of_ble_eq_true rfl) Try.underlying29 rfl (by kernel_rfl)) (.cons (ResOne.tmp rfl) .nil)) ?_ ?_ rfl (fixL_spec rfl)
          · skip
            obtain ⟨e1, e2, e3⟩ := app_0 (p := p) hv (by omega)
            have hkk : k = (wholeL l).1.length := by omega
            subst hkk
            rw [e1, e2, e3, refLast_end, refsum2 (lastW_R l)]
            rfl
          · exact SubS.nil
    · skip
      first | have hg2p := G.gA7 hg2 | have hg2p := G.gA8 hg2 | have hg2p := hg2
      refine SL.skip (OpOk.not rfl rfl rfl hg2) ?_
      refine SL.skip (OpOk.not rfl rfl rfl hg2) ?_
      refine SL.skip (OpOk.not rfl rfl rfl hg2) ?_
      refine SL.skip (OpOk.not rfl rfl rfl hg2) ?_
      refine SL.skip (OpOk.not rfl rfl rfl hg2) ?_
      refine SL.skip (OpOk.not rfl rfl rfl hg2) ?_
      refine SL.skip (OpOk.not rfl rfl rfl hg2) ?_
      refine SL.skip (OpOk.not rfl rfl rfl hg2) ?_
      refine SL.val (O.pick_t rfl (G.ne_f hg2) rfl rfl Taken.no) ?_
      refine SL.nil ?_
      refine E.to ?_
      refine W.cond_t rfl ?_
      refine W.seq ?_
      refine W.region ?_
      refine SL.val (O.build (res := [_, _]) (z := .agg #[.slice none 0 0, .int .i64 0]) (places := [(0, 1), (1, 1)]) rfl rfl Try.underlying29 (by kernel_rfl) (fun _ => by kernel_rfl) rfl rfl Taken.no) ?_
      refine SL.effS (O.st_ref (m := 2) rfl rfl rfl (js := [_, _]) rfl rfl (by kernel_rfl) (by simp) (Nat.le_of_ble_eq_true rfl) rfl (is' := [_, _]) rfl Taken.no) (S' := (102, _) :: _) rfl ?_
      refine SL.val (O.assign rfl rfl Taken.no) ?_
      refine SL.nil ?_
      refine E.to ?_
      refine W.ret ?_
      refine E.thr ?_
      refine E.nilslC 102 0 1 (is' := [_, _]) rfl rfl rfl ?_
      refine E.fin (rs := [_, _]) (rn []) (.inl rfl) rfl (.cons (ResOne.cellN (m := 2) (PtI.ref rfl rfl) (js := [_, _]) rfl (Nat.le_of_ble_eq_true rfl) Try.underlying29 rfl (by kernel_rfl)) (.cons (ResOne.tmp rfl) .nil)) ?_ ?_ rfl (fixL_spec rfl)
      · skip
        obtain ⟨e1, e2, e3⟩ := app_3 (p := p) hv (by omega)
        rw [e1, e2, e3]; rfl
      · exact SubS.nil

/-- bookplate/wal.Sync. -/
theorem sync_h (n : Int) {l : List UInt8} (hb : l.length ≤ 100000000) :
    Con Try.prog 23 [vA [.sl 1 (l.map eB), uI n]] [] (.tup [.agg [vL 1 ((syncL l n).map eB), vI ((syncL l n).length : Int)], vI (syncE l n)]) [] := by
  refine Con.enterL (n := 15) Try.func23 rfl rfl rfl (fun τ w ok vs hin => ?_)
  have hl0_0 := hin.lenA (i := 0) (j := 0) rfl rfl
  try rw [List.length_map] at hl0_0
  clear hin
  refine W.seq ?_
  refine W.region ?_
  refine SL.memS (O.box (is := [_, _]) 101 rfl rfl (by simp) rfl rfl Taken.no) rfl rfl (S' := (101, _) :: _) rfl ?_
  refine SL.memS (O.alloc (z := .agg #[.slice none 0 0, .int .i64 0]) (is := [.u (.sc (.slice none 0 0)), .u (.sc (.int .i64 0))]) 102 (by kernel_rfl) rfl rfl rfl Taken.no) rfl rfl (S' := (102, _) :: _) rfl ?_
  refine SL.val (O.assign rfl rfl Taken.no) ?_
  refine SL.nil ?_
  refine E.to ?_
  refine W.seq ?_
  refine W.seq ?_
  refine W.region ?_
  refine SL.val (O.ldN (m := 2) (PtI.ref rfl rfl) (js := [_, _]) rfl (Nat.le_of_ble_eq_true rfl) Try.underlying25 rfl (by kernel_rfl) rfl Taken.no) ?_
  refine SL.val (O.callp rfl rfl rfl (valid_h _ (by omega)) (.cons (ArgOk.aggU (.cons (ArgOk.same rfl) (.cons (ArgOk.same rfl) .nil))) .nil) hcallOk15 rfl Taken.no) ?_
  refine SL.val (O.det (fun _ => G.R.not rfl) rfl Taken.no) ?_
  refine SL.nil ?_
  refine E.to ?_
  first | refine W.cond_d rfl (fun hc1 => ?_) (fun hc1 => ?_) | refine W.cond_nd rfl (fun hc1 => ?_) (fun hc1 => ?_) | refine W.cond rfl (fun hc1 => ?_) (fun hc1 => ?_)
  · skip
    refine W.seq ?_
    refine W.region ?_
    refine SL.val (O.build (res := [_, _]) (z := .agg #[.slice none 0 0, .int .i64 0]) (places := [(0, 1), (1, 1)]) rfl rfl Try.underlying25 (by kernel_rfl) (fun _ => by kernel_rfl) rfl rfl Taken.no) ?_
    refine SL.effS (O.st_ref (m := 2) rfl rfl rfl (js := [_, _]) rfl rfl (by kernel_rfl) (by simp) (Nat.le_of_ble_eq_true rfl) rfl (is' := [_, _]) rfl Taken.no) (S' := (102, _) :: _) rfl ?_
    refine SL.val (O.assign rfl rfl Taken.no) ?_
    refine SL.nil ?_
    refine E.to ?_
    refine W.ret ?_
    refine E.thr ?_
    refine E.nilslC 102 0 1 (is' := [_, _]) rfl rfl rfl ?_
    refine E.fin (rs := [_, _]) (rn []) (.inl rfl) rfl (.cons (ResOne.cellN (m := 2) (PtI.ref rfl rfl) (js := [_, _]) rfl (Nat.le_of_ble_eq_true rfl) Try.underlying25 rfl (by kernel_rfl)) (.cons (ResOne.tmp rfl) .nil)) ?_ ?_ rfl (fixL_spec rfl)
    · skip
      have hnv : ¬ validW l n := by first | assumption | (rename_i q; simpa using q)
      rw [syncL, syncE, if_neg hnv, if_neg hnv]; rfl
    · exact SubS.nil
  · skip
    refine W.skip ?_
    refine E.to ?_
    refine W.seq ?_
    refine W.draw [⟨[101], [], []⟩, ⟨[101], [], []⟩, ⟨[], [], []⟩, ⟨[101], [], []⟩, ⟨[101], [], []⟩, ⟨[], [], []⟩, ⟨[], [], []⟩, ⟨[102], [102], []⟩, ⟨[], [], []⟩] rfl (by kernel_rfl) (by kernel_rfl) rfl rfl ?_
    refine WH.val (O.fld_ref (o' := 0) rfl Try.underlying25 rfl (m := 0) (by kernel_rfl) rfl rfl Taken.no) rfl rfl ?_
    refine WH.val (O.ld1 (PtI.ref rfl rfl) rfl Try.underlying22 rfl rfl Taken.no) rfl rfl ?_
    refine WH.val (O.callp rfl rfl rfl (Con.fz (clone_h (by first | omega | (simp <;> omega))) rfl rfl) (.cons (ArgOk.same rfl) .nil) hcallOk30 rfl Taken.no) rfl rfl ?_
    refine WH.val (O.fld_ref (o' := 0) rfl Try.underlying25 rfl (m := 0) (by kernel_rfl) rfl rfl Taken.no) rfl rfl ?_
    refine WH.val (O.ld1 (PtI.ref rfl rfl) rfl Try.underlying22 rfl rfl Taken.no) rfl rfl ?_
    refine WH.val (O.lenE (SlOf.fz rfl (by decide)) (by first | exact List.length_map _ | rfl) Try.underlying22 rfl Taken.no) rfl rfl ?_
    refine WH.val (O.build (res := [_, _]) (z := .agg #[.slice none 0 0, .int .i64 0]) (places := [(0, 1), (1, 1)]) rfl rfl Try.underlying25 (by kernel_rfl) (fun _ => by kernel_rfl) rfl rfl Taken.no) rfl rfl ?_
    refine WH.effS (O.st_ref (m := 2) rfl rfl rfl (js := [_, _]) rfl rfl (by kernel_rfl) (by simp) (Nat.le_of_ble_eq_true rfl) rfl (is' := [_, _]) rfl Taken.no) rfl rfl rfl (S' := (102, _) :: _) rfl ?_
    refine WH.val (O.assign rfl rfl Taken.no) rfl rfl ?_
    refine WH.nil ?_
    refine E.to ?_
    refine W.ret ?_
    refine E.fin (rs := [_, _]) (rn []) (.inl rfl) rfl (.cons (ResOne.cellN (m := 2) (PtI.ref rfl rfl) (js := [_, _]) rfl (Nat.le_of_ble_eq_true rfl) Try.underlying25 rfl (by kernel_rfl)) (.cons (ResOne.tmp rfl) .nil)) ?_ ?_ rfl (fixL_spec rfl)
    · skip
      have hv : validW l n := by first | assumption | (rename_i q; simpa using q)
      rw [syncL, syncE, if_pos hv, if_pos hv]; rfl
    · exact SubS.nil

/-- bookplate/bookplateref20.Sync. -/
theorem refsync_h (n : Int) {l : List UInt8} (hb : l.length ≤ 100000000) :
    Con Try.prog 24 [vA [.sl 1 (l.map eB), uI n]] [] (.tup [.agg [vL 1 ((syncL l n).map eB), vI ((syncL l n).length : Int)], vI (syncE l n)]) [] := by
  obtain ⟨i5, hi5, hz5, hs5, hb5⟩ := hinf5
  refine Con.enterL (n := 16) Try.func24 rfl rfl rfl (fun τ w ok vs hin => ?_)
  have hl0_0 := hin.lenA (i := 0) (j := 0) rfl rfl
  try rw [List.length_map] at hl0_0
  clear hin
  refine W.seq ?_
  refine W.region ?_
  refine SL.memS (O.box (is := [_, _]) 101 rfl rfl (by simp) rfl rfl Taken.no) rfl rfl (S' := (101, _) :: _) rfl ?_
  refine SL.memS (O.alloc (z := .agg #[.slice none 0 0, .int .i64 0]) (is := [.u (.sc (.slice none 0 0)), .u (.sc (.int .i64 0))]) 102 (by kernel_rfl) rfl rfl rfl Taken.no) rfl rfl (S' := (102, _) :: _) rfl ?_
  refine SL.val (O.assign rfl rfl Taken.no) ?_
  refine SL.nil ?_
  refine E.to ?_
  refine W.seq ?_
  refine W.seq ?_
  refine W.region ?_
  refine SL.val (O.ldN (m := 2) (PtI.ref rfl rfl) (js := [_, _]) rfl (Nat.le_of_ble_eq_true rfl) Try.underlying29 rfl (by kernel_rfl) rfl Taken.no) ?_
  refine SL.val (O.callp rfl rfl rfl (refvalid_h _ (by omega)) (.cons (ArgOk.aggU (.cons (ArgOk.same rfl) (.cons (ArgOk.same rfl) .nil))) .nil) hcallOk25 rfl Taken.no) ?_
  refine SL.val (O.det (fun _ => G.R.not rfl) rfl Taken.no) ?_
  refine SL.nil ?_
  refine E.to ?_
  first | refine W.cond_d rfl (fun hc1 => ?_) (fun hc1 => ?_) | refine W.cond_nd rfl (fun hc1 => ?_) (fun hc1 => ?_) | refine W.cond rfl (fun hc1 => ?_) (fun hc1 => ?_)
  · skip
    refine W.seq ?_
    refine W.region ?_
    refine SL.val (O.build (res := [_, _]) (z := .agg #[.slice none 0 0, .int .i64 0]) (places := [(0, 1), (1, 1)]) rfl rfl Try.underlying29 (by kernel_rfl) (fun _ => by kernel_rfl) rfl rfl Taken.no) ?_
    refine SL.effS (O.st_ref (m := 2) rfl rfl rfl (js := [_, _]) rfl rfl (by kernel_rfl) (by simp) (Nat.le_of_ble_eq_true rfl) rfl (is' := [_, _]) rfl Taken.no) (S' := (102, _) :: _) rfl ?_
    refine SL.val (O.assign rfl rfl Taken.no) ?_
    refine SL.nil ?_
    refine E.to ?_
    refine W.ret ?_
    refine E.thr ?_
    refine E.nilslC 102 0 1 (is' := [_, _]) rfl rfl rfl ?_
    refine E.fin (rs := [_, _]) (rn []) (.inl rfl) rfl (.cons (ResOne.cellN (m := 2) (PtI.ref rfl rfl) (js := [_, _]) rfl (Nat.le_of_ble_eq_true rfl) Try.underlying29 rfl (by kernel_rfl)) (.cons (ResOne.tmp rfl) .nil)) ?_ ?_ rfl (fixL_spec rfl)
    · skip
      have hnv : ¬ validW l n := by first | assumption | (rename_i q; simpa using q)
      rw [syncL, syncE, if_neg hnv, if_neg hnv]; rfl
    · exact SubS.nil
  · skip
    refine W.skip ?_
    refine E.to ?_
    refine W.seq ?_
    refine W.draw [⟨[103], [103], [103]⟩, ⟨[101], [], []⟩, ⟨[101], [], []⟩, ⟨[103, 104], [103, 104], [104]⟩, ⟨[101], [], []⟩, ⟨[101], [], []⟩, ⟨[], [], []⟩, ⟨[104], [], []⟩, ⟨[102, 104], [102], []⟩, ⟨[], [], []⟩] rfl (by kernel_rfl) (by kernel_rfl) rfl rfl ?_
    refine WH.memS (O.buildSlice 103 rfl rfl Try.underlying22 hi5 hz5 hs5 (by decide) rfl (by decide) rfl rfl rfl Taken.no) rfl rfl rfl rfl rfl (S' := (103, _) :: _) rfl ?_
    refine WH.val (O.fld_ref (o' := 0) rfl Try.underlying29 rfl (m := 0) (by kernel_rfl) rfl rfl Taken.no) rfl rfl ?_
    refine WH.val (O.ld1 (PtI.ref rfl rfl) rfl Try.underlying22 rfl rfl Taken.no) rfl rfl ?_
    refine WH.memS (O.app (k' := 104) rfl rfl (SlOf.fz rfl (by decide)) Try.underlying22 hi5 hz5 hs5 rfl rfl (by first | exact map_snoc rfl | exact app_map | exact List.nil_append _ | rfl) (by rw [hb5]; first | omega | (simp only [List.length_map]; omega) | (simp <;> omega)) (by first | omega | (simp only [List.length_map]; omega) | (simp <;> omega)) rfl Taken.no) rfl rfl rfl rfl rfl (S' := (104, _) :: (103, .dead) :: _) rfl ?_
    refine WH.val (O.fld_ref (o' := 0) rfl Try.underlying29 rfl (m := 0) (by kernel_rfl) rfl rfl Taken.no) rfl rfl ?_
    refine WH.val (O.ld1 (PtI.ref rfl rfl) rfl Try.underlying22 rfl rfl Taken.no) rfl rfl ?_
    refine WH.val (O.lenE (SlOf.fz rfl (by decide)) (by first | exact List.length_map _ | rfl) Try.underlying22 rfl Taken.no) rfl rfl ?_
    refine WH.val (O.build (res := [_, _]) (z := .agg #[.slice none 0 0, .int .i64 0]) (places := [(0, 1), (1, 1)]) rfl rfl Try.underlying29 (by kernel_rfl) (fun _ => by kernel_rfl) rfl rfl Taken.no) rfl rfl ?_
    refine WH.effS (O.st_ref (m := 2) rfl rfl rfl (js := [_, _]) rfl rfl (by kernel_rfl) (by simp) (Nat.le_of_ble_eq_true rfl) rfl (is' := [_, _]) rfl Taken.no) rfl rfl rfl (S' := (102, _) :: _) rfl ?_
    refine WH.val (O.assign rfl rfl Taken.no) rfl rfl ?_
    refine WH.nil ?_
    refine E.to ?_
    refine W.ret ?_
    refine E.freezeC 102 0 104 (is' := [_, _]) rfl rfl rfl rfl ?_
    refine E.fin (rs := [_, _]) (rn []) (.inl rfl) rfl (.cons (ResOne.cellN (m := 2) (PtI.ref rfl rfl) (js := [_, _]) rfl (Nat.le_of_ble_eq_true rfl) Try.underlying29 rfl (by kernel_rfl)) (.cons (ResOne.tmp rfl) .nil)) ?_ ?_ rfl (fixL_spec rfl)
    · skip
      have hv : validW l n := by first | assumption | (rename_i q; simpa using q)
      rw [syncL, syncE, if_pos hv, if_pos hv]; rfl
    · exact SubS.nil

end Go.Proofs.Ytnmngpmdphkcpaa
