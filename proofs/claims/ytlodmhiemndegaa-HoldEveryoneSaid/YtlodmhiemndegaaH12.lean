/-
  The walks.
-/
import Derived.Test.YtlodmhiemndegaaH9
import Derived.Test.YtlodmhiemndegaaHMore
import Derived.Test.YtlodmhiemndegaaP57
namespace Go.Proofs.Ytlodmhiemndegaa
open Go Go.RowKit Go.H Go.D57

theorem hinf65 : ∃ i, Try.prog.info? 65 = some i ∧ i.zero = some (.agg #[.int .i64 0, .int .i64 0]) ∧ i.size = 2 ∧ i.bytes = 16 := G.info_of (by kernel_rfl)
theorem hcallOk47 : G.callOk Try.prog 47 = true := by kernel_rfl
theorem hcallOk48 : G.callOk Try.prog 48 = true := by kernel_rfl

/-- slices.BinarySearchFunc[bookplate/hold.Queue,bookplate/hold.Hold,bookplate/hold.Hold]. -/
theorem binarySearch_h {f : Nat} {caps : List UV} {q : List Hd} {h : Hd} (hok : G.callOk Try.prog f = true) (hpr : ∀ x, Con Try.prog f ([vA (eH x), vA (eH h)] ++ caps.map .u) [] (vI (cmpH x h)) []) (hv : validQ q) :
    Con Try.prog 48 [vL 5 (q.map eH), vA (eH h), .u (.clo (.func f) [] caps)] [] (.tup [vI (posI q h : Nat), vB (bsB q h)]) [] := by
  have hv60 := hv.2
  obtain ⟨i26, hi26, hz26, hs26, hb26⟩ := hinf26
  refine Con.enterL (n := 49) Try.func48 rfl rfl rfl (fun τ w ok vs hin => ?_)
  have hl0 := hin.len (i := 0) rfl
  try rw [List.length_map] at hl0
  clear hin
  refine W.seq ?_
  refine W.region ?_
  refine SL.memS (O.box (is := [_, _, _, _, _]) 101 rfl rfl (by simp) rfl rfl Taken.no) rfl rfl (S' := (101, _) :: _) rfl ?_
  refine SL.val (O.assign rfl rfl Taken.no) ?_
  refine SL.val (O.assign rfl rfl Taken.no) ?_
  refine SL.nil ?_
  refine E.to ?_
  refine W.seq ?_
  refine W.region ?_
  refine SL.val (O.move rfl rfl Taken.no) ?_
  refine SL.val (O.lenE (SlOf.fz rfl (by decide)) (by first | exact List.length_map _ | rfl) Try.underlying30 rfl Taken.no) ?_
  refine SL.val (O.assign rfl rfl Taken.no) ?_
  refine SL.nil ?_
  refine E.to ?_
  refine W.seq ?_
  refine W.region ?_
  refine SL.val (O.move rfl rfl Taken.no) ?_
  refine SL.val (O.assign rfl rfl Taken.no) ?_
  refine SL.val (O.assign rfl rfl Taken.no) ?_
  refine SL.nil ?_
  refine E.to ?_
  refine W.seq ?_
  refine W.block ?_
  refine W.loopx2 (fun (i : Nat) (j : Nat) => [(9, vI (i : Int)), (10, vI (j : Int))]) (fun (i : Nat) (j : Nat) => []) (fun (i : Nat) (j : Nat) => i ≤ j ∧ j ≤ q.length ∧ (∀ m, m < i → earl q[m]! h) ∧ (∀ m, j ≤ m → m < q.length → ¬ earl q[m]! h)) (fun (i : Nat) (j : Nat) => j - i) (0) (q.length) (rn []) (.cons (t := 0) rfl (.cons (t := 2) rfl (.cons (t := 4) rfl (.cons (t := 6) rfl (.cons (t := 7) rfl (.cons (t := 8) rfl .nil)))))) (.cons (t := 101) rfl .nil) rfl ?_ ?_ rfl rfl ?_ ?_
  · exact (SubF.cons rfl (SubF.cons rfl SubF.nil))
  · exact SubS.nil
  · skip
    exact ⟨by omega, by omega, fun m h => by omega, fun m h1 h2 => by omega⟩
  intro i j hinv
  obtain ⟨hij, hj, hlo, hhi⟩ := hinv
  have hm : i < j → (i + j) / 2 < j ∧ i ≤ (i + j) / 2 := fun h => by omega
  refine W.seq ?_
  refine W.seq ?_
  refine W.region ?_
  refine SL.val (O.move rfl rfl Taken.no) ?_
  refine SL.val (O.move rfl rfl Taken.no) ?_
  refine SL.val (O.det (fun _ => G.R.lss rfl rfl) rfl Taken.no) ?_
  refine SL.nil ?_
  refine E.to ?_
  first | refine W.cond_d rfl (fun hc1 => ?_) (fun hc1 => ?_) | refine W.cond_nd rfl (fun hc1 => ?_) (fun hc1 => ?_) | refine W.cond rfl (fun hc1 => ?_) (fun hc1 => ?_)
  · skip
    refine W.skip ?_
    refine E.to ?_
    refine W.block ?_
    refine W.seq ?_
    refine W.region ?_
    refine SL.val (O.move rfl rfl Taken.no) ?_
    refine SL.val (O.move rfl rfl Taken.no) ?_
    refine SL.val (O.det (fun _ => by first | exact G.R.add64 rfl rfl (by omega) | exact G.R.add rfl rfl) rfl Taken.no) ?_
    refine SL.val (O.det (fun _ => by first | exact G.R.conv_in rfl Try.underlying3 Try.underlying88 (IntWalk.u64_in _ (by omega)) | exact G.R.conv rfl Try.underlying3 Try.underlying88) rfl Taken.no) ?_
    refine SL.val (O.det (fun _ => G.R.shr_c (q := 2) rfl rfl (by decide) (by decide)) rfl Taken.no) ?_
    refine SL.val (O.det (fun _ => by first | exact G.R.conv64 rfl Try.underlying88 Try.underlying3 (by omega) | exact G.R.conv rfl Try.underlying88 Try.underlying3) rfl Taken.no) ?_
    refine SL.val (O.assign rfl rfl Taken.no) ?_
    refine SL.nil ?_
    refine E.to ?_
    refine W.seq ?_
    refine W.draw [⟨[], [], []⟩, ⟨[], [], []⟩, ⟨[], [], []⟩, ⟨[], [], []⟩, ⟨[], [], []⟩, ⟨[101], [], []⟩, ⟨[], [], []⟩, ⟨[], [], []⟩] rfl (by kernel_rfl) (by kernel_rfl) rfl rfl ?_
    refine WH.val (O.move rfl rfl Taken.no) rfl rfl ?_
    refine WH.val (O.move rfl rfl Taken.no) rfl rfl ?_
    refine WH.val (O.move rfl rfl Taken.no) rfl rfl ?_
    refine WH.val (O.idx_fz (i := (i + j) / 2) rfl rfl (by omega) (row_get (by omega)) Try.underlying30 hi26 hs26 rfl Taken.no) rfl rfl ?_
    refine WH.val (O.ldU (m := 5) (PtU.fz rfl) rfl Try.underlying26 rfl (by kernel_rfl) rfl Taken.no) rfl rfl ?_
    refine WH.val (O.ldN (m := 5) (PtI.ref rfl rfl) (js := [_, _, _, _, _]) rfl (Nat.le_of_ble_eq_true rfl) Try.underlying26 rfl (by kernel_rfl) rfl Taken.no) rfl rfl ?_
    refine WH.val (O.callp rfl rfl rfl (hpr q[(i + j) / 2]!) (.cons (ArgOk.same rfl) (.cons (ArgOk.aggU (.cons (ArgOk.same rfl) (.cons (ArgOk.same rfl) (.cons (ArgOk.same rfl) (.cons (ArgOk.same rfl) (.cons (ArgOk.same rfl) .nil)))))) (ArgsOk.caps caps))) hok rfl Taken.no) rfl rfl ?_
    refine WH.val (O.det (fun _ => G.R.lss rfl rfl) rfl Taken.no) rfl rfl ?_
    refine WH.nil ?_
    refine E.to ?_
    refine W.pick (.cons (t := 0) rfl (.cons (t := 2) rfl (.cons (t := 4) rfl (.cons (t := 6) rfl (.cons (t := 7) rfl (.cons (t := 8) rfl (.cons (t := 9) rfl (.cons (t := 10) rfl (.cons (t := 11) rfl (.cons (t := 15) rfl (.cons (t := 16) rfl (.cons (t := 17) rfl (.cons (t := 18) rfl (.cons (t := 19) rfl (.cons (t := 20) rfl (.cons (t := 21) rfl (.cons (t := 22) rfl (.cons (t := 23) rfl (.cons (t := 24) rfl (.cons (t := 25) rfl (.cons (t := 26) rfl (.cons (t := 27) rfl (.cons (t := 28) rfl (.cons (t := 29) rfl (.cons (t := 30) rfl (.cons (t := 31) rfl .nil)))))))))))))))))))))))))) (.cons (t := 101) rfl .nil) ?_
    first | refine W.cond_d rfl (fun hc2 => ?_) (fun hc2 => ?_) | refine W.cond_nd rfl (fun hc2 => ?_) (fun hc2 => ?_) | refine W.cond rfl (fun hc2 => ?_) (fun hc2 => ?_)
    · skip
      refine W.region ?_
      refine SL.val (O.move rfl rfl Taken.no) ?_
      refine SL.val (O.det (fun _ => by first | exact G.R.add64 rfl rfl (by omega) | exact G.R.add rfl rfl) rfl Taken.no) ?_
      refine SL.val (O.assign rfl rfl Taken.no) ?_
      refine SL.nil ?_
      refine E.inn ?_
      refine E.again (((i + j) / 2 + 1), (j)) (rn []) ?_ ?_ rfl (fixL_spec rfl) ?_ ?_
      · exact (SubF.cons rfl (SubF.cons rfl (SubF.cons rfl (SubF.cons rfl (SubF.cons rfl (SubF.cons rfl (SubF.cons rfl (SubF.cons rfl SubF.nil))))))))
      · exact (SubS.cons rfl SubS.nil)
      · try dsimp only
        exact ⟨by omega, by omega, bs_lo hv (by omega) ((cmpH_lt _ _).1 (by assumption)), hhi⟩
      · (try dsimp only); omega
    · skip
      refine W.region ?_
      refine SL.val (O.move rfl rfl Taken.no) ?_
      refine SL.val (O.assign rfl rfl Taken.no) ?_
      refine SL.nil ?_
      refine E.inn ?_
      refine E.again ((i), ((i + j) / 2)) (rn []) ?_ ?_ rfl (fixL_spec rfl) ?_ ?_
      · exact (SubF.cons rfl (SubF.cons rfl (SubF.cons rfl (SubF.cons rfl (SubF.cons rfl (SubF.cons rfl (SubF.cons rfl (SubF.cons rfl SubF.nil))))))))
      · exact (SubS.cons rfl SubS.nil)
      · try dsimp only
        exact ⟨by omega, by omega, hlo, bs_hi hv (fun e => absurd ((cmpH_lt _ _).2 e) (by assumption))⟩
      · (try dsimp only); omega
  · skip
    refine W.exit ?_
    refine E.th ?_
    refine E.th ?_
    refine E.hit ?_
    refine E.to ?_
    refine W.seq ?_
    refine W.draw [⟨[], [], []⟩, ⟨[], [], []⟩, ⟨[], [], []⟩, ⟨[], [], []⟩, ⟨[], [], []⟩, ⟨[], [], []⟩, ⟨[], [], []⟩, ⟨[], [], []⟩, ⟨[], [], []⟩, ⟨[], [], []⟩, ⟨[101], [], []⟩, ⟨[], [], []⟩, ⟨[], [], []⟩, ⟨[], [], []⟩, ⟨[], [], []⟩, ⟨[], [], []⟩] rfl (by kernel_rfl) (by kernel_rfl) rfl rfl ?_
    obtain rfl : i = j := by omega
    have hpi := posI_eq hv hj hlo hhi
    refine WH.val (O.move rfl rfl Taken.no) rfl rfl ?_
    refine WH.val (O.move rfl rfl Taken.no) rfl rfl ?_
    refine WH.val (O.move rfl rfl Taken.no) rfl rfl ?_
    refine WH.val (O.det (fun _ => G.R.lss rfl rfl) rfl Taken.no) rfl rfl ?_
    refine WH.val (O.move rfl rfl Taken.no) rfl rfl ?_
    refine WH.case (j := 4) (g := 39) (want := true) rfl rfl (fun hg3 => ?_) (fun hg3 => ?_)
    · skip
      first | have hg3p := G.gA1 hg3 | have hg3p := G.gA2 hg3 | have hg3p := hg3
      refine WH.val (O.move rfl rfl (Taken.yes rfl rfl hg3)) rfl rfl ?_
      refine WH.val (O.move rfl rfl (Taken.yes rfl rfl hg3)) rfl rfl ?_
      refine WH.val (O.move rfl rfl (Taken.yes rfl rfl hg3)) rfl rfl ?_
      refine WH.val (O.idx_fz rfl rfl (rfl) (row_get (by omega)) Try.underlying30 hi26 hs26 rfl (Taken.yes rfl rfl hg3)) rfl rfl ?_
      refine WH.val (O.ldU (m := 5) (PtU.fz rfl) rfl Try.underlying26 rfl (by kernel_rfl) rfl (Taken.yes rfl rfl hg3)) rfl rfl ?_
      refine WH.val (O.ldN (m := 5) (PtI.ref rfl rfl) (js := [_, _, _, _, _]) rfl (Nat.le_of_ble_eq_true rfl) Try.underlying26 rfl (by kernel_rfl) rfl (Taken.yes rfl rfl hg3)) rfl rfl ?_
      refine WH.val (O.callp rfl rfl rfl (hpr q[i]!) (.cons (ArgOk.same rfl) (.cons (ArgOk.aggU (.cons (ArgOk.same rfl) (.cons (ArgOk.same rfl) (.cons (ArgOk.same rfl) (.cons (ArgOk.same rfl) (.cons (ArgOk.same rfl) .nil)))))) (ArgsOk.caps caps))) hok rfl (Taken.yes rfl rfl hg3)) rfl rfl ?_
      refine WH.val (O.det (fun _ => G.R.eql rfl rfl) rfl (Taken.yes rfl rfl hg3)) rfl rfl ?_
      refine WH.val (O.pick_t rfl hg3 rfl rfl Taken.no) rfl rfl ?_
      refine WH.val (O.assign rfl rfl Taken.no) rfl rfl ?_
      refine WH.val (O.assign rfl rfl Taken.no) rfl rfl ?_
      refine WH.nil ?_
      refine E.to ?_
      refine W.pick (.cons (t := 6) rfl (.cons (t := 7) rfl .nil)) (.cons (t := 101) rfl .nil) ?_
      refine W.ret ?_
      refine E.fin (rs := [_, _]) (rn []) (.inl rfl) rfl (.cons (ResOne.tmp rfl) (.cons (ResOne.tmp rfl) .nil)) ?_ ?_ rfl (fixL_spec rfl)
      · skip
        rw [← hpi, bsB, ← hpi]
        first | rw [decide_eq_true (by assumption)] | rw [decide_eq_false (by assumption)]
        rfl
      · exact SubS.nil
    · skip
      first | have hg3p := G.gA5 hg3 | have hg3p := G.gA6 hg3 | have hg3p := hg3
      refine WH.skip (OpOk.not rfl rfl rfl hg3) ?_
      refine WH.skip (OpOk.not rfl rfl rfl hg3) ?_
      refine WH.skip (OpOk.not rfl rfl rfl hg3) ?_
      refine WH.skip (OpOk.not rfl rfl rfl hg3) ?_
      refine WH.skip (OpOk.not rfl rfl rfl hg3) ?_
      refine WH.skip (OpOk.not rfl rfl rfl hg3) ?_
      refine WH.skip (OpOk.not rfl rfl rfl hg3) ?_
      refine WH.skip (OpOk.not rfl rfl rfl hg3) ?_
      refine WH.val (O.pick_f rfl (G.ne_t hg3) rfl rfl Taken.no) rfl rfl ?_
      refine WH.val (O.assign rfl rfl Taken.no) rfl rfl ?_
      refine WH.val (O.assign rfl rfl Taken.no) rfl rfl ?_
      refine WH.nil ?_
      refine E.to ?_
      refine W.pick (.cons (t := 6) rfl (.cons (t := 7) rfl .nil)) (.cons (t := 101) rfl .nil) ?_
      refine W.ret ?_
      refine E.fin (rs := [_, _]) (rn []) (.inl rfl) rfl (.cons (ResOne.tmp rfl) (.cons (ResOne.tmp rfl) .nil)) ?_ ?_ rfl (fixL_spec rfl)
      · skip
        rw [← hpi, bsB, ← hpi]
        first | rw [decide_eq_true (by assumption)] | rw [decide_eq_false (by assumption)]
        rfl
      · exact SubS.nil

/-- bookplate/hold.Put. -/
theorem holdPut_h {q : List Hd} {h : Hd} :
    Con Try.prog 26 [vL 5 (q.map eH), vA (eH h)] [] (.tup [vL 5 ((putQ q h).map eH), vI (putE q h)]) [] := by
  obtain ⟨i26, hi26, hz26, hs26, hb26⟩ := hinf26
  refine Con.enterL (n := 55) Try.func26 rfl rfl rfl (fun τ w ok vs hin => ?_)
  have hl0 := hin.len (i := 0) rfl
  try rw [List.length_map] at hl0
  clear hin
  refine W.seq ?_
  refine W.region ?_
  refine SL.memS (O.box (is := [_, _, _, _, _]) 101 rfl rfl (by simp) rfl rfl Taken.no) rfl rfl (S' := (101, _) :: _) rfl ?_
  refine SL.val (O.assign rfl rfl Taken.no) ?_
  refine SL.val (O.assign rfl rfl Taken.no) ?_
  refine SL.nil ?_
  refine E.to ?_
  refine W.seq ?_
  refine W.region ?_
  refine SL.val (O.fld_ref (o' := 4) rfl Try.underlying26 rfl (m := 0) (by kernel_rfl) rfl rfl Taken.no) ?_
  refine SL.effS (O.st_ref (m := 1) rfl rfl rfl (js := [_]) rfl rfl (by kernel_rfl) (by simp) (Nat.le_of_ble_eq_true rfl) rfl (is' := [_, _, _, _, _]) rfl Taken.no) (S' := (101, _) :: _) rfl ?_
  refine SL.nil ?_
  refine E.to ?_
  refine W.seq ?_
  refine W.block ?_
  refine W.seq ?_
  refine W.region ?_
  refine SL.val (O.move rfl rfl Taken.no) ?_
  refine SL.val (O.callp rfl rfl rfl (valid_h (q := q)) (.cons (ArgOk.same rfl) .nil) hcallOk23 rfl Taken.no) ?_
  refine SL.val (O.det (fun _ => G.R.not rfl) rfl Taken.no) ?_
  refine SL.val (O.move rfl rfl Taken.no) ?_
  refine SL.case (j := 3) (g := 14) (want := false) rfl rfl (fun hg1 => ?_) (fun hg1 => ?_)
  · skip
    first | have hg1p := G.gA3 hg1 | have hg1p := G.gA4 hg1 | have hg1p := hg1
    refine SL.val (O.ldN (m := 5) (PtI.ref rfl rfl) (js := [_, _, _, _, _]) rfl (Nat.le_of_ble_eq_true rfl) Try.underlying26 rfl (by kernel_rfl) rfl (Taken.yes rfl rfl hg1)) ?_
    refine SL.val (O.callp rfl rfl rfl (holdvalid_h (h := h0 h)) (.cons (ArgOk.aggU (.cons (ArgOk.same rfl) (.cons (ArgOk.same rfl) (.cons (ArgOk.same rfl) (.cons (ArgOk.same rfl) (.cons (ArgOk.same rfl) .nil)))))) .nil) hcallOk42 rfl (Taken.yes rfl rfl hg1)) ?_
    refine SL.val (O.det (fun _ => G.R.not rfl) rfl (Taken.yes rfl rfl hg1)) ?_
    refine SL.val (O.pick_f rfl hg1 rfl rfl Taken.no) ?_
    refine SL.val (O.assign rfl rfl Taken.no) ?_
    refine SL.nil ?_
    refine E.to ?_
    first | refine W.cond_d rfl (fun hc2 => ?_) (fun hc2 => ?_) | refine W.cond_nd rfl (fun hc2 => ?_) (fun hc2 => ?_) | refine W.cond rfl (fun hc2 => ?_) (fun hc2 => ?_)
    · skip
      refine W.seq ?_
      refine W.region ?_
      refine SL.val (O.assign rfl rfl Taken.no) ?_
      refine SL.val (O.assign rfl rfl Taken.no) ?_
      refine SL.nil ?_
      refine E.to ?_
      refine W.ret ?_
      refine E.inr ?_
      refine E.thr ?_
      refine E.nilsl 4 5 rfl ?_
      refine E.fin (rs := [_, _]) (rn []) (.inl rfl) rfl (.cons (ResOne.tmp rfl) (.cons (ResOne.tmp rfl) .nil)) ?_ ?_ rfl (fixL_spec rfl)
      · skip
        rw [(put_1 (q := q) (h := h) (by first | assumption | simp_all)).1, (put_1 (q := q) (h := h) (by first | assumption | simp_all)).2]; rfl
      · exact SubS.nil
    · skip
      refine W.seq ?_
      refine W.region ?_
      refine SL.val (O.move rfl rfl Taken.no) ?_
      refine SL.val (O.makeFunc rfl rfl rfl Taken.no) ?_
      refine SL.memS (O.call (rn []) [101] rfl rfl rfl (containsFunc_h (f := 47) (caps := [.ptr (eH (h0 h))]) (pr := fun x => decide (likeH x (h0 h))) hcallOk47 (fun x => put1_h)) (.cons (ArgOk.same rfl) (.cons (ArgOk.cloU .nil (.cons (ArgOk.ref rfl rfl rfl) .nil)) .nil)) SubS.nil rfl rfl rfl rfl rfl (.inr ⟨rfl, fun x hx => by simp at hx⟩) hcallOk44 (r' := .u _) rfl rfl Taken.no) rfl rfl (S' := _) rfl ?_
      refine SL.val (O.assign rfl rfl Taken.no) ?_
      refine SL.nil ?_
      refine E.to ?_
      first | refine W.cond_d rfl (fun hc3 => ?_) (fun hc3 => ?_) | refine W.cond_nd rfl (fun hc3 => ?_) (fun hc3 => ?_) | refine W.cond rfl (fun hc3 => ?_) (fun hc3 => ?_)
      · skip
        refine W.seq ?_
        refine W.region ?_
        refine SL.val (O.assign rfl rfl Taken.no) ?_
        refine SL.val (O.assign rfl rfl Taken.no) ?_
        refine SL.nil ?_
        refine E.to ?_
        refine W.ret ?_
        refine E.inr ?_
        refine E.thr ?_
        refine E.nilsl 4 5 rfl ?_
        refine E.fin (rs := [_, _]) (rn []) (.inl rfl) rfl (.cons (ResOne.tmp rfl) (.cons (ResOne.tmp rfl) .nil)) ?_ ?_ rfl (fixL_spec rfl)
        · skip
          rw [(put_10 (q := q) (h := h) (by first | assumption | simp_all) ((likeQ_iff q _).1 (by assumption))).1, (put_10 (q := q) (h := h) (by first | assumption | simp_all) ((likeQ_iff q _).1 (by assumption))).2]; rfl
        · exact SubS.nil
      · skip
        refine W.seq ?_
        refine W.region ?_
        refine SL.val (O.move rfl rfl Taken.no) ?_
        refine SL.val (O.lenE (SlOf.fz rfl (by decide)) (by first | exact List.length_map _ | rfl) Try.underlying30 rfl Taken.no) ?_
        refine SL.val (O.det (fun _ => G.R.eql rfl rfl) rfl Taken.no) ?_
        refine SL.val (O.assign rfl rfl Taken.no) ?_
        refine SL.nil ?_
        refine E.to ?_
        first | refine W.cond_d rfl (fun hc4 => ?_) (fun hc4 => ?_) | refine W.cond_nd rfl (fun hc4 => ?_) (fun hc4 => ?_) | refine W.cond rfl (fun hc4 => ?_) (fun hc4 => ?_)
        · skip
          refine W.seq ?_
          refine W.region ?_
          refine SL.val (O.assign rfl rfl Taken.no) ?_
          refine SL.val (O.assign rfl rfl Taken.no) ?_
          refine SL.nil ?_
          refine E.to ?_
          refine W.pick (.cons (t := 0) rfl (.cons (t := 3) rfl (.cons (t := 4) rfl (.cons (t := 5) rfl .nil)))) (.cons (t := 101) rfl .nil) ?_
          refine W.ret ?_
          refine E.inr ?_
          refine E.thr ?_
          refine E.nilsl 4 5 rfl ?_
          refine E.fin (rs := [_, _]) (rn []) (.inl rfl) rfl (.cons (ResOne.tmp rfl) (.cons (ResOne.tmp rfl) .nil)) ?_ ?_ rfl (fixL_spec rfl)
          · skip
            rw [(put_20 (q := q) (h := h) (by first | assumption | simp_all) (fun e => absurd ((likeQ_iff q _).2 e) (by assumption)) (by omega)).1, (put_20 (q := q) (h := h) (by first | assumption | simp_all) (fun e => absurd ((likeQ_iff q _).2 e) (by assumption)) (by omega)).2]; rfl
          · exact SubS.nil
        · skip
          have hv : validQ q := by simp_all
          have h60 := hv.2
          have hpl := posI_le q (h0 h)
          have hlk : ¬ likeQ q (h0 h) := fun e => absurd ((likeQ_iff q _).2 e) (by assumption)
          have hpt := put_0 (q := q) (h := h) (by simp_all) hlk (by omega)
          have hl61 : (q.take (posI q (h0 h))).length = posI q (h0 h) := by rw [List.length_take]; omega
          have hdl : (q.drop (posI q (h0 h))).length = q.length - posI q (h0 h) := by rw [List.length_drop]
          refine W.skip ?_
          refine E.inn ?_
          refine E.to ?_
          refine W.seq ?_
          refine W.region ?_
          refine SL.val (O.move rfl rfl Taken.no) ?_
          refine SL.val (O.ldN (m := 5) (PtI.ref rfl rfl) (js := [_, _, _, _, _]) rfl (Nat.le_of_ble_eq_true rfl) Try.underlying26 rfl (by kernel_rfl) rfl Taken.no) ?_
          refine SL.memS (O.call (rn []) [] rfl rfl rfl (binarySearch_h (f := 43) (caps := []) (q := q) (h := h0 h) hcallOk43 (fun x => compare_h) (by simp_all)) (.cons (ArgOk.same rfl) (.cons (ArgOk.aggU (.cons (ArgOk.same rfl) (.cons (ArgOk.same rfl) (.cons (ArgOk.same rfl) (.cons (ArgOk.same rfl) (.cons (ArgOk.same rfl) .nil)))))) (.cons ArgOk.fnc .nil))) SubS.nil rfl rfl rfl rfl rfl (.inl rfl) hcallOk48 (r' := .tup [.u _, .u _]) rfl rfl Taken.no) rfl rfl (S' := _) rfl ?_
          refine SL.val (O.move rfl rfl Taken.no) ?_
          refine SL.val (O.extract rfl rfl rfl Taken.no) ?_
          refine SL.val (O.extract rfl rfl rfl Taken.no) ?_
          refine SL.val (O.assign rfl rfl Taken.no) ?_
          refine SL.val (O.assign rfl rfl Taken.no) ?_
          refine SL.nil ?_
          refine E.to ?_
          refine W.pick (.cons (t := 0) rfl (.cons (t := 3) rfl (.cons (t := 4) rfl (.cons (t := 5) rfl (.cons (t := 6) rfl .nil))))) (.cons (t := 101) rfl .nil) ?_
          refine W.seq ?_
          refine W.region ?_
          refine SL.val (O.move rfl rfl Taken.no) ?_
          refine SL.val (O.lenE (SlOf.fz rfl (by decide)) (by first | exact List.length_map _ | rfl) Try.underlying30 rfl Taken.no) ?_
          refine SL.val (O.det (fun _ => by first | exact G.R.add64 rfl rfl (by omega) | exact G.R.add rfl rfl) rfl Taken.no) ?_
          refine SL.memS (O.make (m := q.length + 1) (kk := 102) rfl rfl (by omega) (by omega) Try.underlying30 hi26 hz26 hs26 rfl rfl (by decide) rfl (by rw [hb26]; omega) (by omega) rfl Taken.no) rfl rfl (S' := (102, _) :: _) rfl ?_
          refine SL.val (O.assign rfl rfl Taken.no) ?_
          refine SL.nil ?_
          refine E.to ?_
          refine W.seq ?_
          refine W.region ?_
          refine SL.val (O.move rfl rfl Taken.no) ?_
          refine SL.val (O.move rfl rfl Taken.no) ?_
          refine SL.val (O.move rfl rfl Taken.no) ?_
          refine SL.val (O.sub_fz (j := posI q (h0 h)) rfl Bnd.no (Bnd.at rfl (by first | rfl | omega)) (by first | omega | (simp only [List.length_map, Nat.le_refl, Nat.zero_le] <;> omega) | (simp <;> omega)) (by first | omega | (simp only [List.length_map] <;> omega) | (simp <;> omega)) sub_hi Try.underlying30 hi26 hs26 rfl Taken.no) ?_
          refine SL.memS (O.copy (PartOf.own rfl) rfl (SlOf.fz rfl (by decide)) Try.underlying30 hi26 hs26 (by simp; omega) (rows' := (q.take (posI q (h0 h)) ++ List.replicate (q.length + 1 - posI q (h0 h)) zeroH).map eH) (by rw [List.map_append, List.map_replicate, List.take_zero, List.nil_append, Nat.zero_add, List.length_map, hl61, List.drop_replicate]; rfl) rfl Taken.no) rfl rfl (S' := (102, _) :: _) rfl ?_
          refine SL.nil ?_
          refine E.to ?_
          refine W.seq ?_
          refine W.region ?_
          refine SL.val (O.move rfl rfl Taken.no) ?_
          refine SL.val (O.move rfl rfl Taken.no) ?_
          refine SL.val (O.ldN (m := 5) (PtI.ref rfl rfl) (js := [_, _, _, _, _]) rfl (Nat.le_of_ble_eq_true rfl) Try.underlying26 rfl (by kernel_rfl) rfl Taken.no) ?_
          refine SL.val (O.idx_own (i := posI q (h0 h)) rfl rfl rfl (rfl) (by rw [List.length_map, List.length_append, List.length_replicate]; omega) Try.underlying30 hi26 hs26 rfl Taken.no) ?_
          refine SL.effS (O.st_els (m := 5) rfl rfl rfl (us := [_, _, _, _, _]) rfl rfl (by kernel_rfl) (by simp) (row_get (by rw [List.length_append, List.length_replicate]; omega)) (by exact Nat.le_of_ble_eq_true rfl) rfl rfl (rows' := ((q.take (posI q (h0 h)) ++ List.replicate (q.length + 1 - posI q (h0 h)) zeroH).set (posI q (h0 h)) (h0 h)).map eH) (by exact set_map rfl) Taken.no) (S' := (102, _) :: _) rfl ?_
          refine SL.nil ?_
          refine E.to ?_
          refine W.seq ?_
          refine W.draw [⟨[102], [], []⟩, ⟨[], [], []⟩, ⟨[], [], []⟩, ⟨[102], [], []⟩, ⟨[], [], []⟩, ⟨[], [], []⟩, ⟨[], [], []⟩, ⟨[102], [102], []⟩] rfl (by kernel_rfl) (by kernel_rfl) rfl rfl ?_
          refine WH.val (O.move rfl rfl Taken.no) rfl rfl ?_
          refine WH.val (O.move rfl rfl Taken.no) rfl rfl ?_
          refine WH.val (O.det (fun _ => by first | exact G.R.add64 rfl rfl (by omega) | exact G.R.add rfl rfl) rfl Taken.no) rfl rfl ?_
          refine WH.val (O.sub_own (i := (posI q (h0 h) + 1)) rfl rfl (Bnd.at rfl (by first | rfl | omega)) Bnd.no (by rw [List.length_map, List.length_set, List.length_append, List.length_replicate]; omega) (by exact Nat.le_refl _) Try.underlying30 hi26 hs26 rfl Taken.no) rfl rfl ?_
          refine WH.val (O.move rfl rfl Taken.no) rfl rfl ?_
          refine WH.val (O.move rfl rfl Taken.no) rfl rfl ?_
          refine WH.val (O.sub_fz (i := posI q (h0 h)) rfl (Bnd.at rfl (by first | rfl | omega)) Bnd.no (by rw [List.length_map]; omega) (by first | omega | (simp only [List.length_map, Nat.le_refl, Nat.zero_le] <;> omega) | (simp <;> omega)) sub_lo Try.underlying30 hi26 hs26 rfl Taken.no) rfl rfl ?_
          refine WH.memS (O.copy (PartOf.osl rfl (by rw [List.length_map, List.length_set, List.length_append, List.length_replicate]; omega) (by exact Nat.le_refl _)) rfl (SlOf.fz rfl (by decide)) Try.underlying30 hi26 hs26 (by rw [List.length_map, List.length_map, List.length_set, List.length_append, List.length_replicate]; omega) (rows' := (putL q h).map eH) (by exact put_rows hpl) rfl Taken.no) rfl rfl rfl rfl rfl (S' := (102, _) :: _) rfl ?_
          refine WH.nil ?_
          refine E.to ?_
          refine W.pick (.cons (t := 4) rfl (.cons (t := 5) rfl (.cons (t := 8) rfl .nil))) (.cons (t := 101) rfl (.cons (t := 102) rfl .nil)) ?_
          refine W.seq ?_
          refine W.region ?_
          refine SL.val (O.move rfl rfl Taken.no) ?_
          refine SL.val (O.assign rfl rfl Taken.no) ?_
          refine SL.val (O.assign rfl rfl Taken.no) ?_
          refine SL.nil ?_
          refine E.to ?_
          refine W.ret ?_
          refine E.freeze 102 rfl (F' := [(4, _)]) (⟨⟨_, rfl, rfl⟩, trivial⟩) ?_
          refine E.fin (rs := [_, _]) (rn []) (.inl rfl) rfl (.cons (ResOne.tmp rfl) (.cons (ResOne.tmp rfl) .nil)) ?_ ?_ rfl (fixL_spec rfl)
          · skip
            rw [hpt.1, hpt.2]; rfl
          · exact SubS.nil
  · skip
    first | have hg1p := G.gA7 hg1 | have hg1p := G.gA8 hg1 | have hg1p := hg1
    refine SL.skip (OpOk.not rfl rfl rfl hg1) ?_
    refine SL.skip (OpOk.not rfl rfl rfl hg1) ?_
    refine SL.skip (OpOk.not rfl rfl rfl hg1) ?_
    refine SL.val (O.pick_t rfl (G.ne_f hg1) rfl rfl Taken.no) ?_
    refine SL.val (O.assign rfl rfl Taken.no) ?_
    refine SL.nil ?_
    refine E.to ?_
    refine W.cond_t rfl ?_
    refine W.seq ?_
    refine W.region ?_
    refine SL.val (O.assign rfl rfl Taken.no) ?_
    refine SL.val (O.assign rfl rfl Taken.no) ?_
    refine SL.nil ?_
    refine E.to ?_
    refine W.ret ?_
    refine E.inr ?_
    refine E.thr ?_
    refine E.nilsl 4 5 rfl ?_
    refine E.fin (rs := [_, _]) (rn []) (.inl rfl) rfl (.cons (ResOne.tmp rfl) (.cons (ResOne.tmp rfl) .nil)) ?_ ?_ rfl (fixL_spec rfl)
    · skip
      rw [(put_1 (q := q) (h := h) (by first | assumption | simp_all)).1, (put_1 (q := q) (h := h) (by first | assumption | simp_all)).2]; rfl
    · exact SubS.nil

/-- bookplate/bookplateref57.Put. -/
theorem refPut_h {q : List Hd} {h : Hd} :
    Con Try.prog 27 [vL 5 (q.map eH), vA (eH h)] [] (.tup [vL 5 ((putQ q h).map eH), vI (putE q h)]) [] := by
  obtain ⟨i32, hi32, hz32, hs32, hb32⟩ := hinf32
  refine Con.enterL (n := 64) Try.func27 rfl rfl rfl (fun τ w ok vs hin => ?_)
  have hl0 := hin.len (i := 0) rfl
  try rw [List.length_map] at hl0
  clear hin
  refine W.seq ?_
  refine W.region ?_
  refine SL.memS (O.box (is := [_, _, _, _, _]) 101 rfl rfl (by simp) rfl rfl Taken.no) rfl rfl (S' := (101, _) :: _) rfl ?_
  refine SL.val (O.assign rfl rfl Taken.no) ?_
  refine SL.val (O.assign rfl rfl Taken.no) ?_
  refine SL.nil ?_
  refine E.to ?_
  refine W.seq ?_
  refine W.region ?_
  refine SL.val (O.fld_ref (o' := 4) rfl Try.underlying32 rfl (m := 0) (by kernel_rfl) rfl rfl Taken.no) ?_
  refine SL.effS (O.st_ref (m := 1) rfl rfl rfl (js := [_]) rfl rfl (by kernel_rfl) (by simp) (Nat.le_of_ble_eq_true rfl) rfl (is' := [_, _, _, _, _]) rfl Taken.no) (S' := (101, _) :: _) rfl ?_
  refine SL.nil ?_
  refine E.to ?_
  refine W.seq ?_
  refine W.seq ?_
  refine W.region ?_
  refine SL.val (O.move rfl rfl Taken.no) ?_
  refine SL.val (O.callp rfl rfl rfl (refvalid_h (q := q)) (.cons (ArgOk.same rfl) .nil) hcallOk24 rfl Taken.no) ?_
  refine SL.val (O.det (fun _ => G.R.not rfl) rfl Taken.no) ?_
  refine SL.val (O.move rfl rfl Taken.no) ?_
  refine SL.case (j := 3) (g := 12) (want := false) rfl rfl (fun hg1 => ?_) (fun hg1 => ?_)
  · skip
    first | have hg1p := G.gA3 hg1 | have hg1p := G.gA4 hg1 | have hg1p := hg1
    refine SL.val (O.ldN (m := 5) (PtI.ref rfl rfl) (js := [_, _, _, _, _]) rfl (Nat.le_of_ble_eq_true rfl) Try.underlying32 rfl (by kernel_rfl) rfl (Taken.yes rfl rfl hg1)) ?_
    refine SL.val (O.callp rfl rfl rfl (refgood_h (h := h0 h)) (.cons (ArgOk.aggU (.cons (ArgOk.same rfl) (.cons (ArgOk.same rfl) (.cons (ArgOk.same rfl) (.cons (ArgOk.same rfl) (.cons (ArgOk.same rfl) .nil)))))) .nil) hcallOk46 rfl (Taken.yes rfl rfl hg1)) ?_
    refine SL.val (O.det (fun _ => G.R.not rfl) rfl (Taken.yes rfl rfl hg1)) ?_
    refine SL.val (O.pick_f rfl hg1 rfl rfl Taken.no) ?_
    refine SL.nil ?_
    refine E.to ?_
    first | refine W.cond_d rfl (fun hc2 => ?_) (fun hc2 => ?_) | refine W.cond_nd rfl (fun hc2 => ?_) (fun hc2 => ?_) | refine W.cond rfl (fun hc2 => ?_) (fun hc2 => ?_)
    · skip
      refine W.seq ?_
      refine W.region ?_
      refine SL.val (O.assign rfl rfl Taken.no) ?_
      refine SL.val (O.assign rfl rfl Taken.no) ?_
      refine SL.nil ?_
      refine E.to ?_
      refine W.ret ?_
      refine E.thr ?_
      refine E.nilsl 4 5 rfl ?_
      refine E.fin (rs := [_, _]) (rn []) (.inl rfl) rfl (.cons (ResOne.tmp rfl) (.cons (ResOne.tmp rfl) .nil)) ?_ ?_ rfl (fixL_spec rfl)
      · skip
        rw [(put_1 (q := q) (h := h) (by first | assumption | simp_all)).1, (put_1 (q := q) (h := h) (by first | assumption | simp_all)).2]; rfl
      · exact SubS.nil
    · skip
      have hvg : validQ q ∧ goodH (h0 h) := by simp_all
      have h60 := hvg.1.2
      refine W.skip ?_
      refine E.to ?_
      refine W.seq ?_
      refine W.region ?_
      refine SL.val (O.assign rfl rfl Taken.no) ?_
      refine SL.nil ?_
      refine E.to ?_
      refine W.seq ?_
      refine W.seq ?_
      refine W.region ?_
      refine SL.val (O.assign rfl rfl Taken.no) ?_
      refine SL.nil ?_
      refine E.to ?_
      refine W.block ?_
      refine W.loopx1 (fun (k : Nat) => [(6, vI (posR q (h0 h) k : Nat)), (7, vI (k : Int))]) (fun (k : Nat) => []) (fun (k : Nat) => k ≤ q.length ∧ ∀ j, j < k → ¬ likeH q[j]! (h0 h)) (fun (k : Nat) => q.length - k) (0) (rn []) (.cons (t := 0) rfl (.cons (t := 3) rfl .nil)) (.cons (t := 101) rfl .nil) rfl ?_ ?_ rfl rfl ?_ ?_
      · exact (SubF.cons rfl (SubF.cons rfl SubF.nil))
      · exact SubS.nil
      · skip
        exact ⟨by omega, fun j h => by omega⟩
      intro k hinv
      obtain ⟨hk, hp⟩ := hinv
      refine W.seq ?_
      refine W.seq ?_
      refine W.region ?_
      refine SL.val (O.move rfl rfl Taken.no) ?_
      refine SL.val (O.move rfl rfl Taken.no) ?_
      refine SL.val (O.lenE (SlOf.fz rfl (by decide)) (by first | exact List.length_map _ | rfl) Try.underlying22 rfl Taken.no) ?_
      refine SL.val (O.det (fun _ => G.R.lss rfl rfl) rfl Taken.no) ?_
      refine SL.nil ?_
      refine E.to ?_
      first | refine W.cond_d rfl (fun hc3 => ?_) (fun hc3 => ?_) | refine W.cond_nd rfl (fun hc3 => ?_) (fun hc3 => ?_) | refine W.cond rfl (fun hc3 => ?_) (fun hc3 => ?_)
      · skip
        refine W.skip ?_
        refine E.to ?_
        refine W.seq ?_
        refine W.block ?_
        refine W.seq ?_
        refine W.seq ?_
        refine W.draw [⟨[], [], []⟩, ⟨[], [], []⟩, ⟨[], [], []⟩, ⟨[], [], []⟩, ⟨[], [], []⟩, ⟨[101], [], []⟩, ⟨[101], [], []⟩, ⟨[], [], []⟩, ⟨[], [], []⟩, ⟨[], [], []⟩, ⟨[], [], []⟩, ⟨[], [], []⟩, ⟨[], [], []⟩, ⟨[], [], []⟩, ⟨[101], [], []⟩, ⟨[101], [], []⟩, ⟨[], [], []⟩, ⟨[], [], []⟩] rfl (by kernel_rfl) (by kernel_rfl) rfl rfl ?_
        refine WH.val (O.move rfl rfl Taken.no) rfl rfl ?_
        refine WH.val (O.move rfl rfl Taken.no) rfl rfl ?_
        refine WH.val (O.idx_fz rfl rfl (rfl) (row_get (by omega)) Try.underlying22 hi32 hs32 rfl Taken.no) rfl rfl ?_
        refine WH.val (O.fld_fz rfl Try.underlying32 rfl (m := 0) (by kernel_rfl) rfl rfl Taken.no) rfl rfl ?_
        refine WH.val (O.ld1 (PtI.ofU (PtU.fz rfl)) rfl Try.underlying3 rfl rfl Taken.no) rfl rfl ?_
        refine WH.val (O.fld_ref (o' := 0) rfl Try.underlying32 rfl (m := 0) (by kernel_rfl) rfl rfl Taken.no) rfl rfl ?_
        refine WH.val (O.ld1 (PtI.ref rfl rfl) rfl Try.underlying3 rfl rfl Taken.no) rfl rfl ?_
        refine WH.val (O.det (fun _ => G.R.eql rfl rfl) rfl Taken.no) rfl rfl ?_
        refine WH.val (O.move rfl rfl Taken.no) rfl rfl ?_
        refine WH.case (j := 8) (g := 31) (want := false) rfl rfl (fun hg4 => ?_) (fun hg4 => ?_)
        · skip
          first | have hg4p := G.gA3 hg4 | have hg4p := G.gA4 hg4 | have hg4p := hg4
          refine WH.val (O.move rfl rfl (Taken.yes rfl rfl hg4)) rfl rfl ?_
          refine WH.val (O.move rfl rfl (Taken.yes rfl rfl hg4)) rfl rfl ?_
          refine WH.val (O.idx_fz rfl rfl (rfl) (row_get (by omega)) Try.underlying22 hi32 hs32 rfl (Taken.yes rfl rfl hg4)) rfl rfl ?_
          refine WH.val (O.fld_fz rfl Try.underlying32 rfl (m := 0) (by kernel_rfl) rfl rfl (Taken.yes rfl rfl hg4)) rfl rfl ?_
          refine WH.val (O.ld1 (PtI.ofU (PtU.fz rfl)) rfl Try.underlying3 rfl rfl (Taken.yes rfl rfl hg4)) rfl rfl ?_
          refine WH.val (O.fld_ref (o' := 1) rfl Try.underlying32 rfl (m := 0) (by kernel_rfl) rfl rfl (Taken.yes rfl rfl hg4)) rfl rfl ?_
          refine WH.val (O.ld1 (PtI.ref rfl rfl) rfl Try.underlying3 rfl rfl (Taken.yes rfl rfl hg4)) rfl rfl ?_
          refine WH.val (O.det (fun _ => G.R.eql rfl rfl) rfl (Taken.yes rfl rfl hg4)) rfl rfl ?_
          refine WH.val (O.pick_f rfl hg4 rfl rfl Taken.no) rfl rfl ?_
          refine WH.nil ?_
          refine E.to ?_
          refine W.pick (.cons (t := 0) rfl (.cons (t := 3) rfl (.cons (t := 6) rfl (.cons (t := 7) rfl (.cons (t := 17) rfl (.cons (t := 18) rfl (.cons (t := 19) rfl (.cons (t := 20) rfl (.cons (t := 23) rfl (.cons (t := 24) rfl (.cons (t := 25) rfl (.cons (t := 26) rfl (.cons (t := 27) rfl (.cons (t := 28) rfl (.cons (t := 29) rfl (.cons (t := 30) rfl (.cons (t := 31) rfl (.cons (t := 32) rfl (.cons (t := 33) rfl (.cons (t := 34) rfl (.cons (t := 35) rfl (.cons (t := 36) rfl (.cons (t := 37) rfl (.cons (t := 38) rfl (.cons (t := 39) rfl (.cons (t := 40) rfl .nil)))))))))))))))))))))))))) (.cons (t := 101) rfl .nil) ?_
          first | refine W.cond_d rfl (fun hc5 => ?_) (fun hc5 => ?_) | refine W.cond_nd rfl (fun hc5 => ?_) (fun hc5 => ?_) | refine W.cond rfl (fun hc5 => ?_) (fun hc5 => ?_)
          · skip
            refine W.seq ?_
            refine W.region ?_
            refine SL.val (O.assign rfl rfl Taken.no) ?_
            refine SL.val (O.assign rfl rfl Taken.no) ?_
            refine SL.nil ?_
            refine E.to ?_
            refine W.pick (.cons (t := 0) rfl (.cons (t := 3) rfl (.cons (t := 4) rfl (.cons (t := 5) rfl (.cons (t := 6) rfl (.cons (t := 7) rfl (.cons (t := 17) rfl (.cons (t := 18) rfl (.cons (t := 19) rfl (.cons (t := 20) rfl (.cons (t := 23) rfl (.cons (t := 24) rfl (.cons (t := 25) rfl (.cons (t := 26) rfl (.cons (t := 27) rfl (.cons (t := 28) rfl (.cons (t := 29) rfl (.cons (t := 30) rfl (.cons (t := 31) rfl (.cons (t := 32) rfl (.cons (t := 33) rfl (.cons (t := 34) rfl (.cons (t := 35) rfl (.cons (t := 36) rfl (.cons (t := 37) rfl (.cons (t := 38) rfl (.cons (t := 39) rfl (.cons (t := 40) rfl .nil)))))))))))))))))))))))))))) (.cons (t := 101) rfl .nil) ?_
            refine W.ret ?_
            refine E.thr ?_
            refine E.inr ?_
            refine E.thr ?_
            refine E.thr ?_
            refine E.inr ?_
            refine E.thr ?_
            refine E.nilsl 4 5 rfl ?_
            refine E.fin (rs := [_, _]) (rn []) (.inl rfl) rfl (.cons (ResOne.tmp rfl) (.cons (ResOne.tmp rfl) .nil)) ?_ ?_ rfl (fixL_spec rfl)
            · skip
              rw [(put_10 (q := q) (h := h) hvg ⟨k, by omega, by unfold likeH; first | (left; assumption) | (right; assumption) | simp_all [h0]⟩).1, (put_10 (q := q) (h := h) hvg ⟨k, by omega, by unfold likeH; first | (left; assumption) | (right; assumption) | simp_all [h0]⟩).2]; rfl
            · exact SubS.nil
          · skip
            refine W.skip ?_
            refine E.to ?_
            refine W.pick (.cons (t := 0) rfl (.cons (t := 3) rfl (.cons (t := 6) rfl (.cons (t := 7) rfl (.cons (t := 17) rfl (.cons (t := 18) rfl (.cons (t := 19) rfl (.cons (t := 20) rfl (.cons (t := 23) rfl (.cons (t := 24) rfl (.cons (t := 25) rfl (.cons (t := 26) rfl (.cons (t := 27) rfl (.cons (t := 28) rfl (.cons (t := 29) rfl (.cons (t := 30) rfl (.cons (t := 31) rfl (.cons (t := 32) rfl (.cons (t := 33) rfl (.cons (t := 34) rfl (.cons (t := 35) rfl (.cons (t := 36) rfl (.cons (t := 37) rfl (.cons (t := 38) rfl (.cons (t := 39) rfl (.cons (t := 40) rfl .nil)))))))))))))))))))))))))) (.cons (t := 101) rfl .nil) ?_
            refine W.seq ?_
            refine W.draw [⟨[], [], []⟩, ⟨[], [], []⟩, ⟨[], [], []⟩, ⟨[], [], []⟩, ⟨[101], [], []⟩, ⟨[], [], []⟩] rfl (by kernel_rfl) (by kernel_rfl) rfl rfl ?_
            refine WH.val (O.move rfl rfl Taken.no) rfl rfl ?_
            refine WH.val (O.move rfl rfl Taken.no) rfl rfl ?_
            refine WH.val (O.idx_fz rfl rfl (rfl) (row_get (by omega)) Try.underlying22 hi32 hs32 rfl Taken.no) rfl rfl ?_
            refine WH.val (O.ldU (m := 5) (PtU.fz rfl) rfl Try.underlying32 rfl (by kernel_rfl) rfl Taken.no) rfl rfl ?_
            refine WH.val (O.ldN (m := 5) (PtI.ref rfl rfl) (js := [_, _, _, _, _]) rfl (Nat.le_of_ble_eq_true rfl) Try.underlying32 rfl (by kernel_rfl) rfl Taken.no) rfl rfl ?_
            refine WH.val (O.callp rfl rfl rfl (earlier_h (a := q[k]!) (b := h0 h)) (.cons (ArgOk.same rfl) (.cons (ArgOk.aggU (.cons (ArgOk.same rfl) (.cons (ArgOk.same rfl) (.cons (ArgOk.same rfl) (.cons (ArgOk.same rfl) (.cons (ArgOk.same rfl) .nil)))))) .nil)) hcallOk25 rfl Taken.no) rfl rfl ?_
            refine WH.nil ?_
            refine E.to ?_
            refine W.pick (.cons (t := 0) rfl (.cons (t := 3) rfl (.cons (t := 6) rfl (.cons (t := 7) rfl (.cons (t := 17) rfl (.cons (t := 18) rfl (.cons (t := 19) rfl (.cons (t := 20) rfl (.cons (t := 23) rfl (.cons (t := 24) rfl (.cons (t := 25) rfl (.cons (t := 26) rfl (.cons (t := 27) rfl (.cons (t := 28) rfl (.cons (t := 29) rfl (.cons (t := 30) rfl (.cons (t := 31) rfl (.cons (t := 32) rfl (.cons (t := 33) rfl (.cons (t := 34) rfl (.cons (t := 35) rfl (.cons (t := 36) rfl (.cons (t := 37) rfl (.cons (t := 38) rfl (.cons (t := 39) rfl (.cons (t := 40) rfl (.cons (t := 41) rfl (.cons (t := 42) rfl (.cons (t := 43) rfl (.cons (t := 44) rfl (.cons (t := 45) rfl (.cons (t := 46) rfl .nil)))))))))))))))))))))))))))))))) (.cons (t := 101) rfl .nil) ?_
            first | refine W.cond_d rfl (fun hc6 => ?_) (fun hc6 => ?_) | refine W.cond_nd rfl (fun hc6 => ?_) (fun hc6 => ?_) | refine W.cond rfl (fun hc6 => ?_) (fun hc6 => ?_)
            · skip
              refine W.region ?_
              refine SL.val (O.move rfl rfl Taken.no) ?_
              refine SL.val (O.det (fun _ => by first | exact G.R.add64 rfl rfl (by omega) | exact G.R.add rfl rfl) rfl Taken.no) ?_
              refine SL.val (O.assign rfl rfl Taken.no) ?_
              refine SL.nil ?_
              refine E.inn ?_
              refine E.to ?_
              refine W.pick (.cons (t := 0) rfl (.cons (t := 3) rfl (.cons (t := 6) rfl (.cons (t := 7) rfl (.cons (t := 17) rfl (.cons (t := 18) rfl (.cons (t := 19) rfl (.cons (t := 20) rfl (.cons (t := 23) rfl (.cons (t := 24) rfl (.cons (t := 25) rfl (.cons (t := 26) rfl (.cons (t := 27) rfl (.cons (t := 28) rfl (.cons (t := 29) rfl (.cons (t := 30) rfl (.cons (t := 31) rfl (.cons (t := 32) rfl (.cons (t := 33) rfl (.cons (t := 34) rfl (.cons (t := 35) rfl (.cons (t := 36) rfl (.cons (t := 37) rfl (.cons (t := 38) rfl (.cons (t := 39) rfl (.cons (t := 40) rfl (.cons (t := 41) rfl (.cons (t := 42) rfl (.cons (t := 43) rfl (.cons (t := 44) rfl (.cons (t := 45) rfl (.cons (t := 46) rfl (.cons (t := 47) rfl (.cons (t := 48) rfl .nil)))))))))))))))))))))))))))))))))) (.cons (t := 101) rfl .nil) ?_
              refine W.region ?_
              refine SL.val (O.move rfl rfl Taken.no) ?_
              refine SL.val (O.det (fun _ => by first | exact G.R.add64 rfl rfl (by omega) | exact G.R.add rfl rfl) rfl Taken.no) ?_
              refine SL.val (O.assign rfl rfl Taken.no) ?_
              refine SL.nil ?_
              refine E.again ((k + 1)) (rn []) ?_ ?_ rfl (fixL_spec rfl) ?_ ?_
              · exact (SubF.val rfl (by (try dsimp only); first | exact iv_int (by rw [posR, if_pos (by assumption)]; omega) | exact iv_int (by rw [posR, if_neg (by assumption)])) (SubF.cons rfl (SubF.cons rfl (SubF.cons rfl SubF.nil))))
              · exact (SubS.cons rfl SubS.nil)
              · try dsimp only
                exact ⟨by omega, fun j hj => by rcases Nat.lt_succ_iff_lt_or_eq.1 hj with e | e; exact hp j e; subst e; unfold likeH; simp_all [h0]⟩
              · (try dsimp only); omega
            · skip
              refine W.skip ?_
              refine E.inn ?_
              refine E.to ?_
              refine W.pick (.cons (t := 0) rfl (.cons (t := 3) rfl (.cons (t := 6) rfl (.cons (t := 7) rfl (.cons (t := 17) rfl (.cons (t := 18) rfl (.cons (t := 19) rfl (.cons (t := 20) rfl (.cons (t := 23) rfl (.cons (t := 24) rfl (.cons (t := 25) rfl (.cons (t := 26) rfl (.cons (t := 27) rfl (.cons (t := 28) rfl (.cons (t := 29) rfl (.cons (t := 30) rfl (.cons (t := 31) rfl (.cons (t := 32) rfl (.cons (t := 33) rfl (.cons (t := 34) rfl (.cons (t := 35) rfl (.cons (t := 36) rfl (.cons (t := 37) rfl (.cons (t := 38) rfl (.cons (t := 39) rfl (.cons (t := 40) rfl (.cons (t := 41) rfl (.cons (t := 42) rfl (.cons (t := 43) rfl (.cons (t := 44) rfl (.cons (t := 45) rfl (.cons (t := 46) rfl .nil)))))))))))))))))))))))))))))))) (.cons (t := 101) rfl .nil) ?_
              refine W.region ?_
              refine SL.val (O.move rfl rfl Taken.no) ?_
              refine SL.val (O.det (fun _ => by first | exact G.R.add64 rfl rfl (by omega) | exact G.R.add rfl rfl) rfl Taken.no) ?_
              refine SL.val (O.assign rfl rfl Taken.no) ?_
              refine SL.nil ?_
              refine E.again ((k + 1)) (rn []) ?_ ?_ rfl (fixL_spec rfl) ?_ ?_
              · exact (SubF.val rfl (by (try dsimp only); first | exact iv_int (by rw [posR, if_pos (by assumption)]; omega) | exact iv_int (by rw [posR, if_neg (by assumption)])) (SubF.cons rfl (SubF.cons rfl (SubF.cons rfl SubF.nil))))
              · exact (SubS.cons rfl SubS.nil)
              · try dsimp only
                exact ⟨by omega, fun j hj => by rcases Nat.lt_succ_iff_lt_or_eq.1 hj with e | e; exact hp j e; subst e; unfold likeH; simp_all [h0]⟩
              · (try dsimp only); omega
        · skip
          first | have hg4p := G.gA7 hg4 | have hg4p := G.gA8 hg4 | have hg4p := hg4
          refine WH.skip (OpOk.not rfl rfl rfl hg4) ?_
          refine WH.skip (OpOk.not rfl rfl rfl hg4) ?_
          refine WH.skip (OpOk.not rfl rfl rfl hg4) ?_
          refine WH.skip (OpOk.not rfl rfl rfl hg4) ?_
          refine WH.skip (OpOk.not rfl rfl rfl hg4) ?_
          refine WH.skip (OpOk.not rfl rfl rfl hg4) ?_
          refine WH.skip (OpOk.not rfl rfl rfl hg4) ?_
          refine WH.skip (OpOk.not rfl rfl rfl hg4) ?_
          refine WH.val (O.pick_t rfl (G.ne_f hg4) rfl rfl Taken.no) rfl rfl ?_
          refine WH.nil ?_
          refine E.to ?_
          refine W.pick (.cons (t := 0) rfl (.cons (t := 3) rfl (.cons (t := 6) rfl (.cons (t := 7) rfl (.cons (t := 17) rfl (.cons (t := 18) rfl (.cons (t := 19) rfl (.cons (t := 20) rfl (.cons (t := 23) rfl (.cons (t := 24) rfl (.cons (t := 25) rfl (.cons (t := 26) rfl (.cons (t := 27) rfl (.cons (t := 28) rfl (.cons (t := 29) rfl (.cons (t := 30) rfl (.cons (t := 31) rfl (.cons (t := 32) rfl (.cons (t := 33) rfl (.cons (t := 34) rfl (.cons (t := 35) rfl (.cons (t := 36) rfl (.cons (t := 37) rfl (.cons (t := 38) rfl (.cons (t := 39) rfl (.cons (t := 40) rfl .nil)))))))))))))))))))))))))) (.cons (t := 101) rfl .nil) ?_
          refine W.cond_t rfl ?_
          refine W.seq ?_
          refine W.region ?_
          refine SL.val (O.assign rfl rfl Taken.no) ?_
          refine SL.val (O.assign rfl rfl Taken.no) ?_
          refine SL.nil ?_
          refine E.to ?_
          refine W.pick (.cons (t := 0) rfl (.cons (t := 3) rfl (.cons (t := 4) rfl (.cons (t := 5) rfl (.cons (t := 6) rfl (.cons (t := 7) rfl (.cons (t := 17) rfl (.cons (t := 18) rfl (.cons (t := 19) rfl (.cons (t := 20) rfl (.cons (t := 23) rfl (.cons (t := 24) rfl (.cons (t := 25) rfl (.cons (t := 26) rfl (.cons (t := 27) rfl (.cons (t := 28) rfl (.cons (t := 29) rfl (.cons (t := 30) rfl (.cons (t := 31) rfl (.cons (t := 32) rfl (.cons (t := 33) rfl (.cons (t := 34) rfl (.cons (t := 35) rfl (.cons (t := 36) rfl (.cons (t := 37) rfl (.cons (t := 38) rfl (.cons (t := 39) rfl (.cons (t := 40) rfl .nil)))))))))))))))))))))))))))) (.cons (t := 101) rfl .nil) ?_
          refine W.ret ?_
          refine E.thr ?_
          refine E.inr ?_
          refine E.thr ?_
          refine E.thr ?_
          refine E.inr ?_
          refine E.thr ?_
          refine E.nilsl 4 5 rfl ?_
          refine E.fin (rs := [_, _]) (rn []) (.inl rfl) rfl (.cons (ResOne.tmp rfl) (.cons (ResOne.tmp rfl) .nil)) ?_ ?_ rfl (fixL_spec rfl)
          · skip
            rw [(put_10 (q := q) (h := h) hvg ⟨k, by omega, by unfold likeH; first | (left; assumption) | (right; assumption) | simp_all [h0]⟩).1, (put_10 (q := q) (h := h) hvg ⟨k, by omega, by unfold likeH; first | (left; assumption) | (right; assumption) | simp_all [h0]⟩).2]; rfl
          · exact SubS.nil
      · skip
        refine W.exit ?_
        refine E.th ?_
        refine E.th ?_
        refine E.hit ?_
        refine E.to ?_
        refine W.seq ?_
        refine W.seq ?_
        refine W.region ?_
        refine SL.val (O.move rfl rfl Taken.no) ?_
        refine SL.val (O.lenE (SlOf.fz rfl (by decide)) (by first | exact List.length_map _ | rfl) Try.underlying22 rfl Taken.no) ?_
        refine SL.val (O.det (fun _ => G.R.eql rfl rfl) rfl Taken.no) ?_
        refine SL.nil ?_
        refine E.to ?_
        first | refine W.cond_d rfl (fun hc7 => ?_) (fun hc7 => ?_) | refine W.cond_nd rfl (fun hc7 => ?_) (fun hc7 => ?_) | refine W.cond rfl (fun hc7 => ?_) (fun hc7 => ?_)
        · skip
          refine W.seq ?_
          refine W.region ?_
          refine SL.val (O.assign rfl rfl Taken.no) ?_
          refine SL.val (O.assign rfl rfl Taken.no) ?_
          refine SL.nil ?_
          refine E.to ?_
          refine W.ret ?_
          refine E.thr ?_
          refine E.nilsl 4 5 rfl ?_
          refine E.fin (rs := [_, _]) (rn []) (.inl rfl) rfl (.cons (ResOne.tmp rfl) (.cons (ResOne.tmp rfl) .nil)) ?_ ?_ rfl (fixL_spec rfl)
          · skip
            obtain rfl : k = q.length := by omega
            rw [(put_20 (q := q) (h := h) hvg (fun ⟨j, hj, e⟩ => hp j hj e) (by omega)).1, (put_20 (q := q) (h := h) hvg (fun ⟨j, hj, e⟩ => hp j hj e) (by omega)).2]; rfl
          · exact SubS.nil
        · skip
          obtain rfl : k = q.length := by omega
          have hlk : ¬ likeQ q (h0 h) := fun ⟨j, hj, e⟩ => hp j hj e
          have hpt := put_0 (q := q) (h := h) hvg hlk (by omega)
          have hpl := posI_le q (h0 h)
          have hpe : posR q (h0 h) q.length = posI q (h0 h) := rfl
          have htl : (q.take (posI q (h0 h))).length = posI q (h0 h) := by rw [List.length_take]; omega
          have hdl : (q.drop (posI q (h0 h))).length = q.length - posI q (h0 h) := by rw [List.length_drop]
          refine W.skip ?_
          refine E.to ?_
          refine W.seq ?_
          refine W.draw [⟨[102], [102], [102]⟩, ⟨[], [], []⟩, ⟨[], [], []⟩, ⟨[], [], []⟩, ⟨[102, 103], [102, 103], [103]⟩, ⟨[101], [], []⟩, ⟨[104], [104], [104]⟩, ⟨[103, 104, 105], [103, 105], [105]⟩, ⟨[], [], []⟩, ⟨[], [], []⟩, ⟨[], [], []⟩, ⟨[105, 106], [105, 106], [106]⟩, ⟨[106], [], []⟩, ⟨[], [], []⟩] rfl (by kernel_rfl) (by kernel_rfl) rfl rfl ?_
          refine WH.memS (O.buildSlice 102 rfl rfl Try.underlying22 hi32 hz32 hs32 (by decide) rfl (by decide) rfl rfl rfl Taken.no) rfl rfl rfl rfl rfl (S' := (102, _) :: _) rfl ?_
          refine WH.val (O.move rfl rfl Taken.no) rfl rfl ?_
          refine WH.val (O.move rfl rfl Taken.no) rfl rfl ?_
          refine WH.val (O.sub_fz (j := posI q (h0 h)) rfl Bnd.no (Bnd.at rfl (by first | rfl | omega)) (by first | omega | (simp only [List.length_map, Nat.le_refl, Nat.zero_le] <;> omega) | (simp <;> omega)) (by first | omega | (simp only [List.length_map] <;> omega) | (simp <;> omega)) sub_hi Try.underlying22 hi32 hs32 rfl Taken.no) rfl rfl ?_
          refine WH.memS (O.app (k' := 103) rfl rfl (SlOf.fz rfl (by decide)) Try.underlying22 hi32 hz32 hs32 rfl rfl (by first | exact map_snoc rfl | exact app_map | exact List.nil_append _ | rfl) (by rw [hb32]; first | omega | (simp only [List.length_map]; omega) | (simp <;> omega)) (by first | omega | (simp only [List.length_map]; omega) | (simp <;> omega)) rfl Taken.no) rfl rfl rfl rfl rfl (S' := (103, _) :: (102, .dead) :: _) rfl ?_
          refine WH.val (O.ldN (m := 5) (PtI.ref rfl rfl) (js := [_, _, _, _, _]) rfl (Nat.le_of_ble_eq_true rfl) Try.underlying32 rfl (by kernel_rfl) rfl Taken.no) rfl rfl ?_
          refine WH.memS (O.buildSlice 104 rfl rfl Try.underlying22 hi32 hz32 hs32 (by decide) rfl (by decide) rfl rfl rfl Taken.no) rfl rfl rfl rfl rfl (S' := (104, _) :: _) rfl ?_
          refine WH.memS (O.app (k' := 105) rfl rfl (SlOf.own rfl rfl) Try.underlying22 hi32 hz32 hs32 rfl rfl (by exact map_snoc (x := h0 h) rfl) (by rw [hb32]; first | omega | (simp only [List.length_map]; omega) | (simp <;> omega)) (by first | omega | (simp only [List.length_map]; omega) | (simp <;> omega)) rfl Taken.no) rfl rfl rfl rfl rfl (S' := (105, _) :: (103, .dead) :: _) rfl ?_
          refine WH.val (O.move rfl rfl Taken.no) rfl rfl ?_
          refine WH.val (O.move rfl rfl Taken.no) rfl rfl ?_
          refine WH.val (O.sub_fz (i := posI q (h0 h)) rfl (Bnd.at rfl (by first | rfl | omega)) Bnd.no (by first | omega | (simp only [List.length_map] <;> omega) | (simp <;> omega)) (by first | omega | (simp only [List.length_map, Nat.le_refl, Nat.zero_le] <;> omega) | (simp <;> omega)) sub_lo Try.underlying22 hi32 hs32 rfl Taken.no) rfl rfl ?_
          refine WH.memS (O.app (k' := 106) rfl rfl (SlOf.fz rfl (by decide)) Try.underlying22 hi32 hz32 hs32 rfl rfl (by first | exact map_snoc rfl | exact app_map | exact List.nil_append _ | rfl) (by rw [hb32]; first | omega | (simp only [List.length_map]; omega) | (simp <;> omega)) (by first | omega | (simp only [List.length_map]; omega) | (simp <;> omega)) rfl Taken.no) rfl rfl rfl rfl rfl (S' := (106, _) :: (105, .dead) :: _) rfl ?_
          refine WH.val (O.assign rfl rfl Taken.no) rfl rfl ?_
          refine WH.val (O.assign rfl rfl Taken.no) rfl rfl ?_
          refine WH.nil ?_
          refine E.to ?_
          refine W.pick (.cons (t := 4) rfl (.cons (t := 5) rfl .nil)) (.cons (t := 101) rfl (.cons (t := 104) rfl (.cons (t := 106) rfl .nil))) ?_
          refine W.ret ?_
          refine E.freeze 106 rfl (F' := [(4, _)]) (⟨⟨_, rfl, rfl⟩, trivial⟩) ?_
          refine E.fin (rs := [_, _]) (rn []) (.inl rfl) rfl (.cons (ResOne.tmp rfl) (.cons (ResOne.tmp rfl) .nil)) ?_ ?_ rfl (fixL_spec rfl)
          · skip
            rw [hpt.1, hpt.2]; rfl
          · exact SubS.nil
  · skip
    first | have hg1p := G.gA7 hg1 | have hg1p := G.gA8 hg1 | have hg1p := hg1
    refine SL.skip (OpOk.not rfl rfl rfl hg1) ?_
    refine SL.skip (OpOk.not rfl rfl rfl hg1) ?_
    refine SL.skip (OpOk.not rfl rfl rfl hg1) ?_
    refine SL.val (O.pick_t rfl (G.ne_f hg1) rfl rfl Taken.no) ?_
    refine SL.nil ?_
    refine E.to ?_
    refine W.cond_t rfl ?_
    refine W.seq ?_
    refine W.region ?_
    refine SL.val (O.assign rfl rfl Taken.no) ?_
    refine SL.val (O.assign rfl rfl Taken.no) ?_
    refine SL.nil ?_
    refine E.to ?_
    refine W.ret ?_
    refine E.thr ?_
    refine E.nilsl 4 5 rfl ?_
    refine E.fin (rs := [_, _]) (rn []) (.inl rfl) rfl (.cons (ResOne.tmp rfl) (.cons (ResOne.tmp rfl) .nil)) ?_ ?_ rfl (fixL_spec rfl)
    · skip
      rw [(put_1 (q := q) (h := h) (by first | assumption | simp_all)).1, (put_1 (q := q) (h := h) (by first | assumption | simp_all)).2]; rfl
    · exact SubS.nil

abbrev eAct (a : Hd × Int) : List UV := [uI a.1.id, uI a.1.pat, uI a.1.cls, uI a.1.tim, uI a.1.ov, uI a.2]

abbrev eP (e : Int × Int) : List UV := [uI e.1, uI e.2]
theorem flatP_eP {t : Nat} {l : List (Int × Int)} : (SB.data t 2 (l.map eP)).flatP := fun u hu => by
  obtain ⟨r, hr, hu⟩ := List.mem_flatten.1 hu
  obtain ⟨b, _, rfl⟩ := List.mem_map.1 hr
  simp [eP] at hu
  rcases hu with rfl | rfl <;> rfl

/-- bookplate/bookplatelaw57.without. -/
theorem without_h {o : List (Int × Int)} (id : Int) (hn : o.length ≤ 1000) :
    Con Try.prog 30 [vL 2 (o.map eP), vI id] [] (.own 0) [(0, .data 65 2 ((wo id o).map eP))] := by
  obtain ⟨i65, hi65, hz65, hs65, hb65⟩ := hinf65
  refine Con.enterL (n := 24) Try.func30 rfl rfl rfl (fun τ w ok vs hin => ?_)
  have hl0 := hin.len (i := 0) rfl
  try rw [List.length_map] at hl0
  clear hin
  refine W.seq ?_
  refine W.region ?_
  refine SL.val (O.assign rfl rfl Taken.no) ?_
  refine SL.nil ?_
  refine E.to ?_
  refine W.seq ?_
  refine W.region ?_
  refine SL.val (O.assign rfl rfl Taken.no) ?_
  refine SL.nil ?_
  refine E.to ?_
  refine W.seq ?_
  refine W.seq ?_
  refine W.region ?_
  refine SL.val (O.move rfl rfl Taken.no) ?_
  refine SL.val (O.lenE (SlOf.fz rfl (by decide)) (by first | exact List.length_map _ | rfl) Try.underlying62 rfl Taken.no) ?_
  refine SL.val (O.move rfl rfl Taken.no) ?_
  refine SL.nil ?_
  refine E.to ?_
  refine W.block ?_
  refine W.adopt 5 102 65 2 (by decide) rfl rfl rfl ?_
  refine W.loopx1 (fun (k : Nat) => [(10, vI (k : Int)), (5, .own 101)]) (fun (k : Nat) => [(101, .data 65 2 ((wo id (o.take k)).map eP))]) (fun (k : Nat) => k ≤ o.length) (fun (k : Nat) => o.length - k) (0) (rn [(101, 102)]) (.cons (t := 1) rfl (.cons (t := 4) rfl (.cons (t := 8) rfl (.cons (t := 9) rfl .nil)))) .nil rfl ?_ ?_ rfl rfl ?_ ?_
  · exact (SubF.cons rfl (SubF.cons rfl SubF.nil))
  · exact (SubS.cons rfl SubS.nil)
  · skip
    omega
  intro k hinv
  have hk := hinv
  have hwl := wo_len id (o.take k)
  have htl : (o.take k).length = k := by rw [List.length_take]; omega
  refine W.seq ?_
  refine W.region ?_
  refine SL.val (O.det (fun _ => G.R.lss rfl rfl) rfl Taken.no) ?_
  refine SL.nil ?_
  refine E.to ?_
  refine W.seq ?_
  first | refine W.cond_d rfl (fun hc1 => ?_) (fun hc1 => ?_) | refine W.cond_nd rfl (fun hc1 => ?_) (fun hc1 => ?_) | refine W.cond rfl (fun hc1 => ?_) (fun hc1 => ?_)
  · skip
    refine W.skip ?_
    refine E.to ?_
    refine W.seq ?_
    refine W.block ?_
    refine W.seq ?_
    refine W.region ?_
    refine SL.val (O.idx_fz rfl rfl (rfl) (row_get (by omega)) Try.underlying62 hi65 hs65 rfl Taken.no) ?_
    refine SL.val (O.ldU (m := 2) (PtU.fz rfl) rfl Try.underlying65 rfl (by kernel_rfl) rfl Taken.no) ?_
    refine SL.memS (O.alloc (z := .agg #[.int .i64 0, .int .i64 0]) (is := [.u (.sc (.int .i64 0)), .u (.sc (.int .i64 0))]) 103 (by kernel_rfl) rfl rfl rfl Taken.no) rfl rfl (S' := (103, _) :: _) rfl ?_
    refine SL.effS (O.st_ref (m := 2) rfl rfl rfl (js := [_, _]) rfl rfl (by kernel_rfl) (by simp) (Nat.le_of_ble_eq_true rfl) rfl (is' := [_, _]) rfl Taken.no) (S' := (103, _) :: _) rfl ?_
    refine SL.nil ?_
    refine E.to ?_
    refine W.seq ?_
    refine W.region ?_
    refine SL.val (O.idx_ref (i := 0) (m := 1) rfl rfl (rfl) (by decide) Try.underlying65 (by kernel_rfl) rfl rfl Taken.no) ?_
    refine SL.val (O.ld1 (PtI.ref rfl rfl) rfl Try.underlying3 rfl rfl Taken.no) ?_
    refine SL.val (O.move rfl rfl Taken.no) ?_
    refine SL.val (O.det (fun _ => G.R.neq rfl rfl) rfl Taken.no) ?_
    refine SL.nil ?_
    refine E.to ?_
    first | refine W.cond_d rfl (fun hc2 => ?_) (fun hc2 => ?_) | refine W.cond_nd rfl (fun hc2 => ?_) (fun hc2 => ?_) | refine W.cond rfl (fun hc2 => ?_) (fun hc2 => ?_)
    · skip
      refine W.region ?_
      refine SL.val (O.move rfl rfl Taken.no) ?_
      refine SL.val (O.ldN (m := 2) (PtI.ref rfl rfl) (js := [_, _]) rfl (Nat.le_of_ble_eq_true rfl) Try.underlying65 rfl (by kernel_rfl) rfl Taken.no) ?_
      refine SL.memS (O.buildSlice 104 rfl rfl Try.underlying62 hi65 hz65 hs65 (by decide) rfl (by decide) rfl rfl rfl Taken.no) rfl rfl (S' := (104, _) :: _) rfl ?_
      refine SL.memS (O.app (k' := 105) rfl rfl (SlOf.own rfl rfl) Try.underlying62 hi65 hz65 hs65 rfl rfl (by exact map_snoc (x := o[k]!) rfl) (by rw [hb65]; first | omega | (simp only [List.length_map]; omega) | (simp <;> omega)) (by first | omega | (simp only [List.length_map]; omega) | (simp <;> omega)) rfl Taken.no) rfl rfl (S' := (105, _) :: (101, .dead) :: _) rfl ?_
      refine SL.val (O.assign rfl rfl Taken.no) ?_
      refine SL.nil ?_
      refine E.inn ?_
      refine E.to ?_
      refine W.region ?_
      refine SL.val (O.det (fun _ => by first | exact G.R.add64 rfl rfl (by omega) | exact G.R.add rfl rfl) rfl Taken.no) ?_
      refine SL.val (O.move rfl rfl Taken.no) ?_
      refine SL.nil ?_
      refine E.again ((k + 1)) (rn [(101, 105)]) ?_ ?_ rfl (fixL_spec rfl) ?_ ?_
      · exact (SubF.cons rfl (SubF.cons rfl (SubF.cons rfl (SubF.cons rfl (SubF.cons rfl (SubF.cons rfl SubF.nil))))))
      · exact (SubS.val rfl (by (try dsimp only); first | exact sb_data (by rw [wo_take (by omega), if_pos (by assumption)]) | exact sb_data (by rw [wo_take (by omega), if_neg (by assumption)])) SubS.nil)
      · try dsimp only
        omega
      · (try dsimp only); omega
    · skip
      refine W.skip ?_
      refine E.inn ?_
      refine E.to ?_
      refine W.region ?_
      refine SL.val (O.det (fun _ => by first | exact G.R.add64 rfl rfl (by omega) | exact G.R.add rfl rfl) rfl Taken.no) ?_
      refine SL.val (O.move rfl rfl Taken.no) ?_
      refine SL.nil ?_
      refine E.again ((k + 1)) (rn []) ?_ ?_ rfl (fixL_spec rfl) ?_ ?_
      · exact (SubF.cons rfl (SubF.cons rfl (SubF.cons rfl (SubF.cons rfl (SubF.cons rfl (SubF.cons rfl SubF.nil))))))
      · exact (SubS.val rfl (by (try dsimp only); first | exact sb_data (by rw [wo_take (by omega), if_pos (by assumption)]) | exact sb_data (by rw [wo_take (by omega), if_neg (by assumption)])) SubS.nil)
      · try dsimp only
        omega
      · (try dsimp only); omega
  · skip
    refine W.exit ?_
    refine E.th ?_
    refine E.th ?_
    refine E.hit ?_
    refine E.to ?_
    refine W.seq ?_
    refine W.region ?_
    refine SL.val (O.move rfl rfl Taken.no) ?_
    refine SL.val (O.assign rfl rfl Taken.no) ?_
    refine SL.nil ?_
    refine E.to ?_
    refine W.ret ?_
    refine E.fin (rs := [_]) (rn [(0, 101)]) (.inl rfl) rfl (.cons (ResOne.tmp rfl) .nil) ?_ ?_ rfl (fixL_spec rfl)
    · skip
      obtain rfl : k = o.length := by omega
      rfl
    · exact (SubS.val rfl (by rw [show k = o.length by omega, List.take_length]; rfl) SubS.nil)

end Go.Proofs.Ytlodmhiemndegaa
