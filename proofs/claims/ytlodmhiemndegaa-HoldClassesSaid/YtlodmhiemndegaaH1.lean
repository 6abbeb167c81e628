/-
  The walks.
-/
import Derived.Test.YtlodmhiemndegaaHEq
import Derived.Test.YtlodmhiemndegaaRows
import Derived.Test.YtlodmhiemndegaaM57
namespace Go.Proofs.Ytlodmhiemndegaa
open Go Go.RowKit Go.H Go.D57

theorem hinf3 : ∃ i, Try.prog.info? 3 = some i ∧ i.zero = some (.int .i64 0) ∧ i.size = 1 ∧ i.bytes = 8 := G.info_of (by kernel_rfl)
theorem hcallOk35 : G.callOk Try.prog 35 = true := by kernel_rfl
theorem hcallOk50 : G.callOk Try.prog 50 = true := by kernel_rfl
theorem hcallOk52 : G.callOk Try.prog 52 = true := by kernel_rfl

abbrev eH (h : Hd) : List UV := [uI h.id, uI h.pat, uI h.cls, uI h.tim, uI h.ov]
abbrev vH (h : Hd) : IV := vA (eH h)
abbrev vQ (q : List Hd) : IV := vL 5 (q.map eH)
abbrev pH (h : Hd) : UV := .ptr (eH h)

/-- cmp.isNaN[int]. -/
theorem isNaN_h {a : Int} :
    Con Try.prog 50 [vI a] [] (vB false) [] := by
  refine Con.enterL (n := 6) Try.func50 rfl rfl rfl (fun τ w ok vs hin => ?_)
  clear hin
  refine W.seq ?_
  refine W.region ?_
  refine SL.val (O.assign rfl rfl Taken.no) ?_
  refine SL.nil ?_
  refine E.to ?_
  refine W.seq ?_
  refine W.region ?_
  refine SL.val (O.move rfl rfl Taken.no) ?_
  refine SL.val (O.move rfl rfl Taken.no) ?_
  refine SL.val (O.det (fun _ => G.R.mv (G.R.neq rfl rfl) (congrArg Value.bool (decide_eq_false (by simp)))) rfl Taken.no) ?_
  refine SL.val (O.assign rfl rfl Taken.no) ?_
  refine SL.nil ?_
  refine E.to ?_
  refine W.ret ?_
  refine E.fin (rs := [_]) (rn []) (.inl rfl) rfl (.cons (ResOne.tmp rfl) .nil) ?_ ?_ rfl (fixL_spec rfl)
  · skip
    rfl
  · exact SubS.nil

/-- cmp.Compare[int]. -/
theorem cmpCompare_h {a b : Int} :
    Con Try.prog 35 [vI a, vI b] [] (vI (cmpI a b)) [] := by
  refine Con.enterL (n := 20) Try.func35 rfl rfl rfl (fun τ w ok vs hin => ?_)
  clear hin
  refine W.seq ?_
  refine W.region ?_
  refine SL.val (O.assign rfl rfl Taken.no) ?_
  refine SL.nil ?_
  refine E.to ?_
  refine W.seq ?_
  refine W.region ?_
  refine SL.val (O.move rfl rfl Taken.no) ?_
  refine SL.val (O.callp rfl rfl rfl (isNaN_h) (.cons (ArgOk.same rfl) .nil) hcallOk50 rfl Taken.no) ?_
  refine SL.val (O.assign rfl rfl Taken.no) ?_
  refine SL.nil ?_
  refine E.to ?_
  refine W.seq ?_
  refine W.region ?_
  refine SL.val (O.move rfl rfl Taken.no) ?_
  refine SL.val (O.callp rfl rfl rfl (isNaN_h) (.cons (ArgOk.same rfl) .nil) hcallOk50 rfl Taken.no) ?_
  refine SL.val (O.assign rfl rfl Taken.no) ?_
  refine SL.nil ?_
  refine E.to ?_
  refine W.seq ?_
  refine W.seq ?_
  refine W.region ?_
  refine SL.val (O.move rfl rfl Taken.no) ?_
  refine SL.nil ?_
  refine E.to ?_
  refine W.cond_f rfl ?_
  refine W.skip ?_
  refine E.to ?_
  refine W.seq ?_
  refine W.seq ?_
  refine W.region ?_
  refine SL.val (O.move rfl rfl Taken.no) ?_
  refine SL.nil ?_
  refine E.to ?_
  refine W.cond_f rfl ?_
  refine W.skip ?_
  refine E.to ?_
  refine W.seq ?_
  refine W.seq ?_
  refine W.region ?_
  refine SL.val (O.move rfl rfl Taken.no) ?_
  refine SL.val (O.move rfl rfl Taken.no) ?_
  refine SL.val (O.det (fun _ => G.R.lss rfl rfl) rfl Taken.no) ?_
  refine SL.nil ?_
  refine E.to ?_
  first | refine W.cond_d rfl (fun hc1 => ?_) (fun hc1 => ?_) | refine W.cond_nd rfl (fun hc1 => ?_) (fun hc1 => ?_) | refine W.cond rfl (fun hc1 => ?_) (fun hc1 => ?_)
  · skip
    refine W.seq ?_
    refine W.region ?_
    refine SL.val (O.assign rfl rfl Taken.no) ?_
    refine SL.nil ?_
    refine E.to ?_
    refine W.ret ?_
    refine E.thr ?_
    refine E.fin (rs := [_]) (rn []) (.inl rfl) rfl (.cons (ResOne.tmp rfl) .nil) ?_ ?_ rfl (fixL_spec rfl)
    · skip
      exact iv_int (cmpI_lt (by assumption))
    · exact SubS.nil
  · skip
    refine W.skip ?_
    refine E.to ?_
    refine W.seq ?_
    refine W.seq ?_
    refine W.region ?_
    refine SL.val (O.move rfl rfl Taken.no) ?_
    refine SL.val (O.move rfl rfl Taken.no) ?_
    refine SL.val (O.det (fun _ => G.R.gtr rfl rfl) rfl Taken.no) ?_
    refine SL.nil ?_
    refine E.to ?_
    first | refine W.cond_d rfl (fun hc2 => ?_) (fun hc2 => ?_) | refine W.cond_nd rfl (fun hc2 => ?_) (fun hc2 => ?_) | refine W.cond rfl (fun hc2 => ?_) (fun hc2 => ?_)
    · skip
      refine W.seq ?_
      refine W.region ?_
      refine SL.val (O.assign rfl rfl Taken.no) ?_
      refine SL.nil ?_
      refine E.to ?_
      refine W.ret ?_
      refine E.thr ?_
      refine E.fin (rs := [_]) (rn []) (.inl rfl) rfl (.cons (ResOne.tmp rfl) .nil) ?_ ?_ rfl (fixL_spec rfl)
      · skip
        exact iv_int (cmpI_gt (by assumption))
      · exact SubS.nil
    · skip
      refine W.skip ?_
      refine E.to ?_
      refine W.seq ?_
      refine W.region ?_
      refine SL.val (O.assign rfl rfl Taken.no) ?_
      refine SL.nil ?_
      refine E.to ?_
      refine W.ret ?_
      refine E.fin (rs := [_]) (rn []) (.inl rfl) rfl (.cons (ResOne.tmp rfl) .nil) ?_ ?_ rfl (fixL_spec rfl)
      · skip
        exact iv_int (cmpI_eq (by assumption) (by assumption))
      · exact SubS.nil

/-- cmp.Or[int]. -/
theorem cmpOr_h {l : List Int} :
    Con Try.prog 52 [vL 1 (l.map eI)] [] (vI ((l.find? (fun x => decide (x ≠ 0))).getD 0)) [] := by
  obtain ⟨i3, hi3, hz3, hs3, hb3⟩ := hinf3
  refine Con.enterL (n := 18) Try.func52 rfl rfl rfl (fun τ w ok vs hin => ?_)
  have hl0 := hin.len (i := 0) rfl
  try rw [List.length_map] at hl0
  clear hin
  refine W.seq ?_
  refine W.region ?_
  refine SL.val (O.assign rfl rfl Taken.no) ?_
  refine SL.nil ?_
  refine E.to ?_
  refine W.seq ?_
  refine W.region ?_
  refine SL.val (O.assign rfl rfl Taken.no) ?_
  refine SL.nil ?_
  refine E.to ?_
  refine W.seq ?_
  refine W.seq ?_
  refine W.region ?_
  refine SL.val (O.move rfl rfl Taken.no) ?_
  refine SL.val (O.lenE (SlOf.fz rfl (by decide)) (by first | exact List.length_map _ | rfl) Try.underlying40 rfl Taken.no) ?_
  refine SL.val (O.move rfl rfl Taken.no) ?_
  refine SL.nil ?_
  refine E.to ?_
  refine W.block ?_
  refine W.loopx1 (fun (k : Nat) => [(8, vI (k : Int))]) (fun (k : Nat) => []) (fun (k : Nat) => k ≤ l.length ∧ (l.drop k).find? (fun x => decide (x ≠ 0)) = l.find? (fun x => decide (x ≠ 0))) (fun (k : Nat) => l.length - k) (0) (rn []) (.cons (t := 3) rfl (.cons (t := 6) rfl (.cons (t := 7) rfl .nil))) .nil rfl ?_ ?_ rfl rfl ?_ ?_
  · exact (SubF.cons rfl SubF.nil)
  · exact SubS.nil
  · skip
    exact ⟨by omega, rfl⟩
  intro k hinv
  obtain ⟨hk, hp⟩ := hinv
  refine W.seq ?_
  refine W.region ?_
  refine SL.val (O.det (fun _ => G.R.lss rfl rfl) rfl Taken.no) ?_
  refine SL.nil ?_
  refine E.to ?_
  refine W.seq ?_
  first | refine W.cond_d rfl (fun hc1 => ?_) (fun hc1 => ?_) | refine W.cond_nd rfl (fun hc1 => ?_) (fun hc1 => ?_) | refine W.cond rfl (fun hc1 => ?_) (fun hc1 => ?_)
  · skip
    refine W.skip ?_
    refine E.to ?_
    refine W.seq ?_
    refine W.block ?_
    refine W.seq ?_
    refine W.region ?_
    refine SL.val (O.idx_fz rfl rfl (rfl) (row_get (by omega)) Try.underlying40 hi3 hs3 rfl Taken.no) ?_
    refine SL.val (O.ld1 (PtI.ofU (PtU.fz rfl)) rfl Try.underlying3 rfl rfl Taken.no) ?_
    refine SL.val (O.assign rfl rfl Taken.no) ?_
    refine SL.nil ?_
    refine E.to ?_
    refine W.seq ?_
    refine W.region ?_
    refine SL.val (O.move rfl rfl Taken.no) ?_
    refine SL.val (O.move rfl rfl Taken.no) ?_
    refine SL.val (O.det (fun _ => G.R.neq rfl rfl) rfl Taken.no) ?_
    refine SL.nil ?_
    refine E.to ?_
    first | refine W.cond_d rfl (fun hc2 => ?_) (fun hc2 => ?_) | refine W.cond_nd rfl (fun hc2 => ?_) (fun hc2 => ?_) | refine W.cond rfl (fun hc2 => ?_) (fun hc2 => ?_)
    · skip
      refine W.seq ?_
      refine W.region ?_
      refine SL.val (O.move rfl rfl Taken.no) ?_
      refine SL.val (O.assign rfl rfl Taken.no) ?_
      refine SL.nil ?_
      refine E.to ?_
      refine W.ret ?_
      refine E.inr ?_
      refine E.thr ?_
      refine E.thr ?_
      refine E.inr ?_
      refine E.thr ?_
      refine E.fin (rs := [_]) (rn []) (.inl rfl) rfl (.cons (ResOne.tmp rfl) .nil) ?_ ?_ rfl (fixL_spec rfl)
      · skip
        exact iv_int (by rw [or_step (by omega), if_pos (by assumption)] at hp; rw [← hp]; rfl)
      · exact SubS.nil
    · skip
      refine W.skip ?_
      refine E.inn ?_
      refine E.to ?_
      refine W.region ?_
      refine SL.val (O.det (fun _ => by first | exact G.R.add64 rfl rfl (by omega) | exact G.R.add rfl rfl) rfl Taken.no) ?_
      refine SL.val (O.move rfl rfl Taken.no) ?_
      refine SL.nil ?_
      refine E.again ((k + 1)) (rn []) ?_ ?_ rfl (fixL_spec rfl) ?_ ?_
      · exact (SubF.cons rfl (SubF.cons rfl (SubF.cons rfl (SubF.cons rfl SubF.nil))))
      · exact SubS.nil
      · try dsimp only
        exact ⟨by omega, by rw [or_step (by omega), if_neg (by assumption)] at hp; exact hp⟩
      · (try dsimp only); omega
  · skip
    refine W.exit ?_
    refine E.th ?_
    refine E.th ?_
    refine E.hit ?_
    refine E.to ?_
    refine W.seq ?_
    refine W.region ?_
    refine SL.val (O.move rfl rfl Taken.no) ?_
    refine SL.val (O.assign rfl rfl Taken.no) ?_
    refine SL.nil ?_
    refine E.to ?_
    refine W.ret ?_
    refine E.fin (rs := [_]) (rn []) (.inl rfl) rfl (.cons (ResOne.tmp rfl) .nil) ?_ ?_ rfl (fixL_spec rfl)
    · skip
      exact iv_int (by rw [List.drop_eq_nil_of_le (by omega)] at hp; rw [← hp]; rfl)
    · exact SubS.nil

/-- bookplate/hold.compare. -/
theorem compare_h {a b : Hd} :
    Con Try.prog 43 [vA (eH a), vA (eH b)] [] (vI (cmpH a b)) [] := by
  obtain ⟨i3, hi3, hz3, hs3, hb3⟩ := hinf3
  refine Con.enterL (n := 17) Try.func43 rfl rfl rfl (fun τ w ok vs hin => ?_)
  clear hin
  refine W.seq ?_
  refine W.region ?_
  refine SL.memS (O.box (is := [_, _, _, _, _]) 101 rfl rfl (by simp) rfl rfl Taken.no) rfl rfl (S' := (101, _) :: _) rfl ?_
  refine SL.memS (O.box (is := [_, _, _, _, _]) 102 rfl rfl (by simp) rfl rfl Taken.no) rfl rfl (S' := (102, _) :: _) rfl ?_
  refine SL.val (O.assign rfl rfl Taken.no) ?_
  refine SL.nil ?_
  refine E.to ?_
  refine W.seq ?_
  refine W.draw [⟨[101], [], []⟩, ⟨[101], [], []⟩, ⟨[102], [], []⟩, ⟨[102], [], []⟩, ⟨[], [], []⟩, ⟨[101], [], []⟩, ⟨[101], [], []⟩, ⟨[102], [], []⟩, ⟨[102], [], []⟩, ⟨[], [], []⟩, ⟨[103], [103], [103]⟩, ⟨[103], [], []⟩, ⟨[], [], []⟩] rfl (by kernel_rfl) (by kernel_rfl) rfl rfl ?_
  refine WH.val (O.fld_ref (o' := 3) rfl Try.underlying26 rfl (m := 0) (by kernel_rfl) rfl rfl Taken.no) rfl rfl ?_
  refine WH.val (O.ld1 (PtI.ref rfl rfl) rfl Try.underlying3 rfl rfl Taken.no) rfl rfl ?_
  refine WH.val (O.fld_ref (o' := 3) rfl Try.underlying26 rfl (m := 0) (by kernel_rfl) rfl rfl Taken.no) rfl rfl ?_
  refine WH.val (O.ld1 (PtI.ref rfl rfl) rfl Try.underlying3 rfl rfl Taken.no) rfl rfl ?_
  refine WH.val (O.callp rfl rfl rfl (cmpCompare_h) (.cons (ArgOk.same rfl) (.cons (ArgOk.same rfl) .nil)) hcallOk35 rfl Taken.no) rfl rfl ?_
  refine WH.val (O.fld_ref (o' := 0) rfl Try.underlying26 rfl (m := 0) (by kernel_rfl) rfl rfl Taken.no) rfl rfl ?_
  refine WH.val (O.ld1 (PtI.ref rfl rfl) rfl Try.underlying3 rfl rfl Taken.no) rfl rfl ?_
  refine WH.val (O.fld_ref (o' := 0) rfl Try.underlying26 rfl (m := 0) (by kernel_rfl) rfl rfl Taken.no) rfl rfl ?_
  refine WH.val (O.ld1 (PtI.ref rfl rfl) rfl Try.underlying3 rfl rfl Taken.no) rfl rfl ?_
  refine WH.val (O.callp rfl rfl rfl (cmpCompare_h) (.cons (ArgOk.same rfl) (.cons (ArgOk.same rfl) .nil)) hcallOk35 rfl Taken.no) rfl rfl ?_
  refine WH.memS (O.buildSlice 103 rfl rfl Try.underlying40 hi3 hz3 hs3 (by decide) rfl (by decide) rfl rfl rfl Taken.no) rfl rfl rfl rfl rfl (S' := (103, _) :: _) rfl ?_
  refine WH.memS (O.call (rn []) [103] rfl rfl rfl (cmpOr_h (l := [cmpI a.tim b.tim, cmpI a.id b.id])) (.cons (ArgOk.own rfl rfl) .nil) SubS.nil rfl rfl rfl rfl rfl (.inr ⟨rfl, fun x hx => by simp at hx⟩) hcallOk52 (r' := .u _) rfl rfl Taken.no) rfl rfl rfl rfl rfl (S' := _) rfl ?_
  refine WH.val (O.assign rfl rfl Taken.no) rfl rfl ?_
  refine WH.nil ?_
  refine E.to ?_
  refine W.ret ?_
  refine E.fin (rs := [_]) (rn []) (.inl rfl) rfl (.cons (ResOne.tmp rfl) .nil) ?_ ?_ rfl (fixL_spec rfl)
  · skip
    exact iv_int (or_two _ _).symm
  · exact SubS.nil

/-- bookplate/hold.valid. -/
theorem holdvalid_h {h : Hd} :
    Con Try.prog 42 [vA (eH h)] [] (vB (decide (goodH h))) [] := by
  refine Con.enterL (n := 51) Try.func42 rfl rfl rfl (fun τ w ok vs hin => ?_)
  clear hin
  refine W.seq ?_
  refine W.region ?_
  refine SL.memS (O.box (is := [_, _, _, _, _]) 101 rfl rfl (by simp) rfl rfl Taken.no) rfl rfl (S' := (101, _) :: _) rfl ?_
  refine SL.val (O.assign rfl rfl Taken.no) ?_
  refine SL.nil ?_
  refine E.to ?_
  refine W.seq ?_
  refine W.region ?_
  refine SL.val (O.fld_ref (o' := 0) rfl Try.underlying26 rfl (m := 0) (by kernel_rfl) rfl rfl Taken.no) ?_
  refine SL.val (O.ld1 (PtI.ref rfl rfl) rfl Try.underlying3 rfl rfl Taken.no) ?_
  refine SL.val (O.det (fun _ => G.R.geq rfl rfl) rfl Taken.no) ?_
  refine SL.val (O.move rfl rfl Taken.no) ?_
  refine SL.case (j := 3) (g := 6) (want := true) rfl rfl (fun hg1 => ?_) (fun hg1 => ?_)
  · skip
    first | have hg1p := G.gA1 hg1 | have hg1p := G.gA2 hg1 | have hg1p := hg1
    refine SL.val (O.fld_ref (o' := 0) rfl Try.underlying26 rfl (m := 0) (by kernel_rfl) rfl rfl (Taken.yes rfl rfl hg1)) ?_
    refine SL.val (O.ld1 (PtI.ref rfl rfl) rfl Try.underlying3 rfl rfl (Taken.yes rfl rfl hg1)) ?_
    refine SL.val (O.det (fun _ => G.R.leq rfl rfl) rfl (Taken.yes rfl rfl hg1)) ?_
    refine SL.val (O.pick_t rfl hg1 rfl rfl Taken.no) ?_
    refine SL.val (O.move rfl rfl Taken.no) ?_
    refine SL.case (j := 8) (g := 11) (want := true) rfl rfl (fun hg2 => ?_) (fun hg2 => ?_)
    · skip
      first | have hg2p := G.gA1 hg2 | have hg2p := G.gA2 hg2 | have hg2p := hg2
      refine SL.val (O.fld_ref (o' := 1) rfl Try.underlying26 rfl (m := 0) (by kernel_rfl) rfl rfl (Taken.yes rfl rfl hg2)) ?_
      refine SL.val (O.ld1 (PtI.ref rfl rfl) rfl Try.underlying3 rfl rfl (Taken.yes rfl rfl hg2)) ?_
      refine SL.val (O.det (fun _ => G.R.geq rfl rfl) rfl (Taken.yes rfl rfl hg2)) ?_
      refine SL.val (O.pick_t rfl hg2 rfl rfl Taken.no) ?_
      refine SL.val (O.move rfl rfl Taken.no) ?_
      refine SL.case (j := 13) (g := 16) (want := true) rfl rfl (fun hg3 => ?_) (fun hg3 => ?_)
      · skip
        first | have hg3p := G.gA1 hg3 | have hg3p := G.gA2 hg3 | have hg3p := hg3
        refine SL.val (O.fld_ref (o' := 1) rfl Try.underlying26 rfl (m := 0) (by kernel_rfl) rfl rfl (Taken.yes rfl rfl hg3)) ?_
        refine SL.val (O.ld1 (PtI.ref rfl rfl) rfl Try.underlying3 rfl rfl (Taken.yes rfl rfl hg3)) ?_
        refine SL.val (O.det (fun _ => G.R.leq rfl rfl) rfl (Taken.yes rfl rfl hg3)) ?_
        refine SL.val (O.pick_t rfl hg3 rfl rfl Taken.no) ?_
        refine SL.val (O.move rfl rfl Taken.no) ?_
        refine SL.case (j := 18) (g := 21) (want := true) rfl rfl (fun hg4 => ?_) (fun hg4 => ?_)
        · skip
          first | have hg4p := G.gA1 hg4 | have hg4p := G.gA2 hg4 | have hg4p := hg4
          refine SL.val (O.fld_ref (o' := 2) rfl Try.underlying26 rfl (m := 0) (by kernel_rfl) rfl rfl (Taken.yes rfl rfl hg4)) ?_
          refine SL.val (O.ld1 (PtI.ref rfl rfl) rfl Try.underlying3 rfl rfl (Taken.yes rfl rfl hg4)) ?_
          refine SL.val (O.det (fun _ => G.R.geq rfl rfl) rfl (Taken.yes rfl rfl hg4)) ?_
          refine SL.val (O.pick_t rfl hg4 rfl rfl Taken.no) ?_
          refine SL.val (O.move rfl rfl Taken.no) ?_
          refine SL.case (j := 23) (g := 26) (want := true) rfl rfl (fun hg5 => ?_) (fun hg5 => ?_)
          · skip
            first | have hg5p := G.gA1 hg5 | have hg5p := G.gA2 hg5 | have hg5p := hg5
            refine SL.val (O.fld_ref (o' := 2) rfl Try.underlying26 rfl (m := 0) (by kernel_rfl) rfl rfl (Taken.yes rfl rfl hg5)) ?_
            refine SL.val (O.ld1 (PtI.ref rfl rfl) rfl Try.underlying3 rfl rfl (Taken.yes rfl rfl hg5)) ?_
            refine SL.val (O.det (fun _ => G.R.leq rfl rfl) rfl (Taken.yes rfl rfl hg5)) ?_
            refine SL.val (O.pick_t rfl hg5 rfl rfl Taken.no) ?_
            refine SL.val (O.move rfl rfl Taken.no) ?_
            refine SL.case (j := 28) (g := 31) (want := true) rfl rfl (fun hg6 => ?_) (fun hg6 => ?_)
            · skip
              first | have hg6p := G.gA1 hg6 | have hg6p := G.gA2 hg6 | have hg6p := hg6
              refine SL.val (O.fld_ref (o' := 3) rfl Try.underlying26 rfl (m := 0) (by kernel_rfl) rfl rfl (Taken.yes rfl rfl hg6)) ?_
              refine SL.val (O.ld1 (PtI.ref rfl rfl) rfl Try.underlying3 rfl rfl (Taken.yes rfl rfl hg6)) ?_
              refine SL.val (O.det (fun _ => G.R.geq rfl rfl) rfl (Taken.yes rfl rfl hg6)) ?_
              refine SL.val (O.pick_t rfl hg6 rfl rfl Taken.no) ?_
              refine SL.val (O.move rfl rfl Taken.no) ?_
              refine SL.case (j := 33) (g := 36) (want := true) rfl rfl (fun hg7 => ?_) (fun hg7 => ?_)
              · skip
                first | have hg7p := G.gA1 hg7 | have hg7p := G.gA2 hg7 | have hg7p := hg7
                refine SL.val (O.fld_ref (o' := 3) rfl Try.underlying26 rfl (m := 0) (by kernel_rfl) rfl rfl (Taken.yes rfl rfl hg7)) ?_
                refine SL.val (O.ld1 (PtI.ref rfl rfl) rfl Try.underlying3 rfl rfl (Taken.yes rfl rfl hg7)) ?_
                refine SL.val (O.det (fun _ => G.R.leq rfl rfl) rfl (Taken.yes rfl rfl hg7)) ?_
                refine SL.val (O.pick_t rfl hg7 rfl rfl Taken.no) ?_
                refine SL.val (O.move rfl rfl Taken.no) ?_
                refine SL.case (j := 38) (g := 41) (want := true) rfl rfl (fun hg8 => ?_) (fun hg8 => ?_)
                · skip
                  first | have hg8p := G.gA1 hg8 | have hg8p := G.gA2 hg8 | have hg8p := hg8
                  refine SL.val (O.fld_ref (o' := 4) rfl Try.underlying26 rfl (m := 0) (by kernel_rfl) rfl rfl (Taken.yes rfl rfl hg8)) ?_
                  refine SL.val (O.ld1 (PtI.ref rfl rfl) rfl Try.underlying3 rfl rfl (Taken.yes rfl rfl hg8)) ?_
                  refine SL.val (O.det (fun _ => G.R.geq rfl rfl) rfl (Taken.yes rfl rfl hg8)) ?_
                  refine SL.val (O.pick_t rfl hg8 rfl rfl Taken.no) ?_
                  refine SL.val (O.move rfl rfl Taken.no) ?_
                  refine SL.case (j := 43) (g := 46) (want := true) rfl rfl (fun hg9 => ?_) (fun hg9 => ?_)
                  · skip
                    first | have hg9p := G.gA1 hg9 | have hg9p := G.gA2 hg9 | have hg9p := hg9
                    refine SL.val (O.fld_ref (o' := 4) rfl Try.underlying26 rfl (m := 0) (by kernel_rfl) rfl rfl (Taken.yes rfl rfl hg9)) ?_
                    refine SL.val (O.ld1 (PtI.ref rfl rfl) rfl Try.underlying3 rfl rfl (Taken.yes rfl rfl hg9)) ?_
                    refine SL.val (O.det (fun _ => G.R.leq rfl rfl) rfl (Taken.yes rfl rfl hg9)) ?_
                    refine SL.val (O.pick_t rfl hg9 rfl rfl Taken.no) ?_
                    refine SL.val (O.assign rfl rfl Taken.no) ?_
                    refine SL.nil ?_
                    refine E.to ?_
                    refine W.pick (.cons (t := 2) rfl .nil) (.cons (t := 101) rfl .nil) ?_
                    refine W.ret ?_
                    refine E.fin (rs := [_]) (rn []) (.inl rfl) rfl (.cons (ResOne.tmp rfl) .nil) ?_ ?_ rfl (fixL_spec rfl)
                    · skip
                      exact iv_bool (by unfold goodH; first | exact dec_iff (by omega) | exact dec_t (by omega) | exact dec_f (by omega))
                    · exact SubS.nil
                  · skip
                    first | have hg9p := G.gA5 hg9 | have hg9p := G.gA6 hg9 | have hg9p := hg9
                    refine SL.skip (OpOk.not rfl rfl rfl hg9) ?_
                    refine SL.skip (OpOk.not rfl rfl rfl hg9) ?_
                    refine SL.skip (OpOk.not rfl rfl rfl hg9) ?_
                    refine SL.val (O.pick_f rfl (G.ne_t hg9) rfl rfl Taken.no) ?_
                    refine SL.val (O.assign rfl rfl Taken.no) ?_
                    refine SL.nil ?_
                    refine E.to ?_
                    refine W.pick (.cons (t := 2) rfl .nil) (.cons (t := 101) rfl .nil) ?_
                    refine W.ret ?_
                    refine E.fin (rs := [_]) (rn []) (.inl rfl) rfl (.cons (ResOne.tmp rfl) .nil) ?_ ?_ rfl (fixL_spec rfl)
                    · skip
                      exact iv_bool (by unfold goodH; first | exact dec_iff (by omega) | exact dec_t (by omega) | exact dec_f (by omega))
                    · exact SubS.nil
                · skip
                  first | have hg8p := G.gA5 hg8 | have hg8p := G.gA6 hg8 | have hg8p := hg8
                  refine SL.skip (OpOk.not rfl rfl rfl hg8) ?_
                  refine SL.skip (OpOk.not rfl rfl rfl hg8) ?_
                  refine SL.skip (OpOk.not rfl rfl rfl hg8) ?_
                  refine SL.val (O.pick_f rfl (G.ne_t hg8) rfl rfl Taken.no) ?_
                  refine SL.val (O.move rfl rfl Taken.no) ?_
                  have hg10 : false ≠ true := by decide
                  refine SL.skip (OpOk.not rfl rfl rfl hg10) ?_
                  refine SL.skip (OpOk.not rfl rfl rfl hg10) ?_
                  refine SL.skip (OpOk.not rfl rfl rfl hg10) ?_
                  refine SL.val (O.pick_f rfl rfl rfl rfl Taken.no) ?_
                  refine SL.val (O.assign rfl rfl Taken.no) ?_
                  refine SL.nil ?_
                  refine E.to ?_
                  refine W.pick (.cons (t := 2) rfl .nil) (.cons (t := 101) rfl .nil) ?_
                  refine W.ret ?_
                  refine E.fin (rs := [_]) (rn []) (.inl rfl) rfl (.cons (ResOne.tmp rfl) .nil) ?_ ?_ rfl (fixL_spec rfl)
                  · skip
                    exact iv_bool (by unfold goodH; first | exact dec_iff (by omega) | exact dec_t (by omega) | exact dec_f (by omega))
                  · exact SubS.nil
              · skip
                first | have hg7p := G.gA5 hg7 | have hg7p := G.gA6 hg7 | have hg7p := hg7
                refine SL.skip (OpOk.not rfl rfl rfl hg7) ?_
                refine SL.skip (OpOk.not rfl rfl rfl hg7) ?_
                refine SL.skip (OpOk.not rfl rfl rfl hg7) ?_
                refine SL.val (O.pick_f rfl (G.ne_t hg7) rfl rfl Taken.no) ?_
                refine SL.val (O.move rfl rfl Taken.no) ?_
                have hg11 : false ≠ true := by decide
                refine SL.skip (OpOk.not rfl rfl rfl hg11) ?_
                refine SL.skip (OpOk.not rfl rfl rfl hg11) ?_
                refine SL.skip (OpOk.not rfl rfl rfl hg11) ?_
                refine SL.val (O.pick_f rfl rfl rfl rfl Taken.no) ?_
                refine SL.val (O.move rfl rfl Taken.no) ?_
                have hg12 : false ≠ true := by decide
                refine SL.skip (OpOk.not rfl rfl rfl hg12) ?_
                refine SL.skip (OpOk.not rfl rfl rfl hg12) ?_
                refine SL.skip (OpOk.not rfl rfl rfl hg12) ?_
                refine SL.val (O.pick_f rfl rfl rfl rfl Taken.no) ?_
                refine SL.val (O.assign rfl rfl Taken.no) ?_
                refine SL.nil ?_
                refine E.to ?_
                refine W.pick (.cons (t := 2) rfl .nil) (.cons (t := 101) rfl .nil) ?_
                refine W.ret ?_
                refine E.fin (rs := [_]) (rn []) (.inl rfl) rfl (.cons (ResOne.tmp rfl) .nil) ?_ ?_ rfl (fixL_spec rfl)
                · skip
                  exact iv_bool (by unfold goodH; first | exact dec_iff (by omega) | exact dec_t (by omega) | exact dec_f (by omega))
                · exact SubS.nil
            · skip
              first | have hg6p := G.gA5 hg6 | have hg6p := G.gA6 hg6 | have hg6p := hg6
              refine SL.skip (OpOk.not rfl rfl rfl hg6) ?_
              refine SL.skip (OpOk.not rfl rfl rfl hg6) ?_
              refine SL.skip (OpOk.not rfl rfl rfl hg6) ?_
              refine SL.val (O.pick_f rfl (G.ne_t hg6) rfl rfl Taken.no) ?_
              refine SL.val (O.move rfl rfl Taken.no) ?_
              have hg13 : false ≠ true := by decide
              refine SL.skip (OpOk.not rfl rfl rfl hg13) ?_
              refine SL.skip (OpOk.not rfl rfl rfl hg13) ?_
              refine SL.skip (OpOk.not rfl rfl rfl hg13) ?_
              refine SL.val (O.pick_f rfl rfl rfl rfl Taken.no) ?_
              refine SL.val (O.move rfl rfl Taken.no) ?_
              have hg14 : false ≠ true := by decide
              refine SL.skip (OpOk.not rfl rfl rfl hg14) ?_
              refine SL.skip (OpOk.not rfl rfl rfl hg14) ?_
              refine SL.skip (OpOk.not rfl rfl rfl hg14) ?_
              refine SL.val (O.pick_f rfl rfl rfl rfl Taken.no) ?_
              refine SL.val (O.move rfl rfl Taken.no) ?_
              have hg15 : false ≠ true := by decide
              refine SL.skip (OpOk.not rfl rfl rfl hg15) ?_
              refine SL.skip (OpOk.not rfl rfl rfl hg15) ?_
              refine SL.skip (OpOk.not rfl rfl rfl hg15) ?_
              refine SL.val (O.pick_f rfl rfl rfl rfl Taken.no) ?_
              refine SL.val (O.assign rfl rfl Taken.no) ?_
              refine SL.nil ?_
              refine E.to ?_
              refine W.pick (.cons (t := 2) rfl .nil) (.cons (t := 101) rfl .nil) ?_
              refine W.ret ?_
              refine E.fin (rs := [_]) (rn []) (.inl rfl) rfl (.cons (ResOne.tmp rfl) .nil) ?_ ?_ rfl (fixL_spec rfl)
              · skip
                exact iv_bool (by unfold goodH; first | exact dec_iff (by omega) | exact dec_t (by omega) | exact dec_f (by omega))
              · exact SubS.nil
          · skip
            first | have hg5p := G.gA5 hg5 | have hg5p := G.gA6 hg5 | have hg5p := hg5
            refine SL.skip (OpOk.not rfl rfl rfl hg5) ?_
            refine SL.skip (OpOk.not rfl rfl rfl hg5) ?_
            refine SL.skip (OpOk.not rfl rfl rfl hg5) ?_
            refine SL.val (O.pick_f rfl (G.ne_t hg5) rfl rfl Taken.no) ?_
            refine SL.val (O.move rfl rfl Taken.no) ?_
            have hg16 : false ≠ true := by decide
            refine SL.skip (OpOk.not rfl rfl rfl hg16) ?_
            refine SL.skip (OpOk.not rfl rfl rfl hg16) ?_
            refine SL.skip (OpOk.not rfl rfl rfl hg16) ?_
            refine SL.val (O.pick_f rfl rfl rfl rfl Taken.no) ?_
            refine SL.val (O.move rfl rfl Taken.no) ?_
            have hg17 : false ≠ true := by decide
            refine SL.skip (OpOk.not rfl rfl rfl hg17) ?_
            refine SL.skip (OpOk.not rfl rfl rfl hg17) ?_
            refine SL.skip (OpOk.not rfl rfl rfl hg17) ?_
            refine SL.val (O.pick_f rfl rfl rfl rfl Taken.no) ?_
            refine SL.val (O.move rfl rfl Taken.no) ?_
            have hg18 : false ≠ true := by decide
            refine SL.skip (OpOk.not rfl rfl rfl hg18) ?_
            refine SL.skip (OpOk.not rfl rfl rfl hg18) ?_
            refine SL.skip (OpOk.not rfl rfl rfl hg18) ?_
            refine SL.val (O.pick_f rfl rfl rfl rfl Taken.no) ?_
            refine SL.val (O.move rfl rfl Taken.no) ?_
            have hg19 : false ≠ true := by decide
            refine SL.skip (OpOk.not rfl rfl rfl hg19) ?_
            refine SL.skip (OpOk.not rfl rfl rfl hg19) ?_
            refine SL.skip (OpOk.not rfl rfl rfl hg19) ?_
            refine SL.val (O.pick_f rfl rfl rfl rfl Taken.no) ?_
            refine SL.val (O.assign rfl rfl Taken.no) ?_
            refine SL.nil ?_
            refine E.to ?_
            refine W.pick (.cons (t := 2) rfl .nil) (.cons (t := 101) rfl .nil) ?_
            refine W.ret ?_
            refine E.fin (rs := [_]) (rn []) (.inl rfl) rfl (.cons (ResOne.tmp rfl) .nil) ?_ ?_ rfl (fixL_spec rfl)
            · skip
              exact iv_bool (by unfold goodH; first | exact dec_iff (by omega) | exact dec_t (by omega) | exact dec_f (by omega))
            · exact SubS.nil
        · skip
          first | have hg4p := G.gA5 hg4 | have hg4p := G.gA6 hg4 | have hg4p := hg4
          refine SL.skip (OpOk.not rfl rfl rfl hg4) ?_
          refine SL.skip (OpOk.not rfl rfl rfl hg4) ?_
          refine SL.skip (OpOk.not rfl rfl rfl hg4) ?_
          refine SL.val (O.pick_f rfl (G.ne_t hg4) rfl rfl Taken.no) ?_
          refine SL.val (O.move rfl rfl Taken.no) ?_
          have hg20 : false ≠ true := by decide
          refine SL.skip (OpOk.not rfl rfl rfl hg20) ?_
          refine SL.skip (OpOk.not rfl rfl rfl hg20) ?_
          refine SL.skip (OpOk.not rfl rfl rfl hg20) ?_
          refine SL.val (O.pick_f rfl rfl rfl rfl Taken.no) ?_
          refine SL.val (O.move rfl rfl Taken.no) ?_
          have hg21 : false ≠ true := by decide
          refine SL.skip (OpOk.not rfl rfl rfl hg21) ?_
          refine SL.skip (OpOk.not rfl rfl rfl hg21) ?_
          refine SL.skip (OpOk.not rfl rfl rfl hg21) ?_
          refine SL.val (O.pick_f rfl rfl rfl rfl Taken.no) ?_
          refine SL.val (O.move rfl rfl Taken.no) ?_
          have hg22 : false ≠ true := by decide
          refine SL.skip (OpOk.not rfl rfl rfl hg22) ?_
          refine SL.skip (OpOk.not rfl rfl rfl hg22) ?_
          refine SL.skip (OpOk.not rfl rfl rfl hg22) ?_
          refine SL.val (O.pick_f rfl rfl rfl rfl Taken.no) ?_
          refine SL.val (O.move rfl rfl Taken.no) ?_
          have hg23 : false ≠ true := by decide
          refine SL.skip (OpOk.not rfl rfl rfl hg23) ?_
          refine SL.skip (OpOk.not rfl rfl rfl hg23) ?_
          refine SL.skip (OpOk.not rfl rfl rfl hg23) ?_
          refine SL.val (O.pick_f rfl rfl rfl rfl Taken.no) ?_
          refine SL.val (O.move rfl rfl Taken.no) ?_
          have hg24 : false ≠ true := by decide
          refine SL.skip (OpOk.not rfl rfl rfl hg24) ?_
          refine SL.skip (OpOk.not rfl rfl rfl hg24) ?_
          refine SL.skip (OpOk.not rfl rfl rfl hg24) ?_
          refine SL.val (O.pick_f rfl rfl rfl rfl Taken.no) ?_
          refine SL.val (O.assign rfl rfl Taken.no) ?_
          refine SL.nil ?_
          refine E.to ?_
          refine W.pick (.cons (t := 2) rfl .nil) (.cons (t := 101) rfl .nil) ?_
          refine W.ret ?_
          refine E.fin (rs := [_]) (rn []) (.inl rfl) rfl (.cons (ResOne.tmp rfl) .nil) ?_ ?_ rfl (fixL_spec rfl)
          · skip
            exact iv_bool (by unfold goodH; first | exact dec_iff (by omega) | exact dec_t (by omega) | exact dec_f (by omega))
          · exact SubS.nil
      · skip
        first | have hg3p := G.gA5 hg3 | have hg3p := G.gA6 hg3 | have hg3p := hg3
        refine SL.skip (OpOk.not rfl rfl rfl hg3) ?_
        refine SL.skip (OpOk.not rfl rfl rfl hg3) ?_
        refine SL.skip (OpOk.not rfl rfl rfl hg3) ?_
        refine SL.val (O.pick_f rfl (G.ne_t hg3) rfl rfl Taken.no) ?_
        refine SL.val (O.move rfl rfl Taken.no) ?_
        have hg25 : false ≠ true := by decide
        refine SL.skip (OpOk.not rfl rfl rfl hg25) ?_
        refine SL.skip (OpOk.not rfl rfl rfl hg25) ?_
        refine SL.skip (OpOk.not rfl rfl rfl hg25) ?_
        refine SL.val (O.pick_f rfl rfl rfl rfl Taken.no) ?_
        refine SL.val (O.move rfl rfl Taken.no) ?_
        have hg26 : false ≠ true := by decide
        refine SL.skip (OpOk.not rfl rfl rfl hg26) ?_
        refine SL.skip (OpOk.not rfl rfl rfl hg26) ?_
        refine SL.skip (OpOk.not rfl rfl rfl hg26) ?_
        refine SL.val (O.pick_f rfl rfl rfl rfl Taken.no) ?_
        refine SL.val (O.move rfl rfl Taken.no) ?_
        have hg27 : false ≠ true := by decide
        refine SL.skip (OpOk.not rfl rfl rfl hg27) ?_
        refine SL.skip (OpOk.not rfl rfl rfl hg27) ?_
        refine SL.skip (OpOk.not rfl rfl rfl hg27) ?_
        refine SL.val (O.pick_f rfl rfl rfl rfl Taken.no) ?_
        refine SL.val (O.move rfl rfl Taken.no) ?_
        have hg28 : false ≠ true := by decide
        refine SL.skip (OpOk.not rfl rfl rfl hg28) ?_
        refine SL.skip (OpOk.not rfl rfl rfl hg28) ?_
        refine SL.skip (OpOk.not rfl rfl rfl hg28) ?_
        refine SL.val (O.pick_f rfl rfl rfl rfl Taken.no) ?_
        refine SL.val (O.move rfl rfl Taken.no) ?_
        have hg29 : false ≠ true := by decide
        refine SL.skip (OpOk.not rfl rfl rfl hg29) ?_
        refine SL.skip (OpOk.not rfl rfl rfl hg29) ?_
        refine SL.skip (OpOk.not rfl rfl rfl hg29) ?_
        refine SL.val (O.pick_f rfl rfl rfl rfl Taken.no) ?_
        refine SL.val (O.move rfl rfl Taken.no) ?_
        have hg30 : false ≠ true := by decide
        refine SL.skip (OpOk.not rfl rfl rfl hg30) ?_
        refine SL.skip (OpOk.not rfl rfl rfl hg30) ?_
        refine SL.skip (OpOk.not rfl rfl rfl hg30) ?_
        refine SL.val (O.pick_f rfl rfl rfl rfl Taken.no) ?_
        refine SL.val (O.assign rfl rfl Taken.no) ?_
        refine SL.nil ?_
        refine E.to ?_
        refine W.pick (.cons (t := 2) rfl .nil) (.cons (t := 101) rfl .nil) ?_
        refine W.ret ?_
        refine E.fin (rs := [_]) (rn []) (.inl rfl) rfl (.cons (ResOne.tmp rfl) .nil) ?_ ?_ rfl (fixL_spec rfl)
        · skip
          exact iv_bool (by unfold goodH; first | exact dec_iff (by omega) | exact dec_t (by omega) | exact dec_f (by omega))
        · exact SubS.nil
    · skip
      first | have hg2p := G.gA5 hg2 | have hg2p := G.gA6 hg2 | have hg2p := hg2
      refine SL.skip (OpOk.not rfl rfl rfl hg2) ?_
      refine SL.skip (OpOk.not rfl rfl rfl hg2) ?_
      refine SL.skip (OpOk.not rfl rfl rfl hg2) ?_
      refine SL.val (O.pick_f rfl (G.ne_t hg2) rfl rfl Taken.no) ?_
      refine SL.val (O.move rfl rfl Taken.no) ?_
      have hg31 : false ≠ true := by decide
      refine SL.skip (OpOk.not rfl rfl rfl hg31) ?_
      refine SL.skip (OpOk.not rfl rfl rfl hg31) ?_
      refine SL.skip (OpOk.not rfl rfl rfl hg31) ?_
      refine SL.val (O.pick_f rfl rfl rfl rfl Taken.no) ?_
      refine SL.val (O.move rfl rfl Taken.no) ?_
      have hg32 : false ≠ true := by decide
      refine SL.skip (OpOk.not rfl rfl rfl hg32) ?_
      refine SL.skip (OpOk.not rfl rfl rfl hg32) ?_
      refine SL.skip (OpOk.not rfl rfl rfl hg32) ?_
      refine SL.val (O.pick_f rfl rfl rfl rfl Taken.no) ?_
      refine SL.val (O.move rfl rfl Taken.no) ?_
      have hg33 : false ≠ true := by decide
      refine SL.skip (OpOk.not rfl rfl rfl hg33) ?_
      refine SL.skip (OpOk.not rfl rfl rfl hg33) ?_
      refine SL.skip (OpOk.not rfl rfl rfl hg33) ?_
      refine SL.val (O.pick_f rfl rfl rfl rfl Taken.no) ?_
      refine SL.val (O.move rfl rfl Taken.no) ?_
      have hg34 : false ≠ true := by decide
      refine SL.skip (OpOk.not rfl rfl rfl hg34) ?_
      refine SL.skip (OpOk.not rfl rfl rfl hg34) ?_
      refine SL.skip (OpOk.not rfl rfl rfl hg34) ?_
      refine SL.val (O.pick_f rfl rfl rfl rfl Taken.no) ?_
      refine SL.val (O.move rfl rfl Taken.no) ?_
      have hg35 : false ≠ true := by decide
      refine SL.skip (OpOk.not rfl rfl rfl hg35) ?_
      refine SL.skip (OpOk.not rfl rfl rfl hg35) ?_
      refine SL.skip (OpOk.not rfl rfl rfl hg35) ?_
      refine SL.val (O.pick_f rfl rfl rfl rfl Taken.no) ?_
      refine SL.val (O.move rfl rfl Taken.no) ?_
      have hg36 : false ≠ true := by decide
      refine SL.skip (OpOk.not rfl rfl rfl hg36) ?_
      refine SL.skip (OpOk.not rfl rfl rfl hg36) ?_
      refine SL.skip (OpOk.not rfl rfl rfl hg36) ?_
      refine SL.val (O.pick_f rfl rfl rfl rfl Taken.no) ?_
      refine SL.val (O.move rfl rfl Taken.no) ?_
      have hg37 : false ≠ true := by decide
      refine SL.skip (OpOk.not rfl rfl rfl hg37) ?_
      refine SL.skip (OpOk.not rfl rfl rfl hg37) ?_
      refine SL.skip (OpOk.not rfl rfl rfl hg37) ?_
      refine SL.val (O.pick_f rfl rfl rfl rfl Taken.no) ?_
      refine SL.val (O.assign rfl rfl Taken.no) ?_
      refine SL.nil ?_
      refine E.to ?_
      refine W.pick (.cons (t := 2) rfl .nil) (.cons (t := 101) rfl .nil) ?_
      refine W.ret ?_
      refine E.fin (rs := [_]) (rn []) (.inl rfl) rfl (.cons (ResOne.tmp rfl) .nil) ?_ ?_ rfl (fixL_spec rfl)
      · skip
        exact iv_bool (by unfold goodH; first | exact dec_iff (by omega) | exact dec_t (by omega) | exact dec_f (by omega))
      · exact SubS.nil
  · skip
    first | have hg1p := G.gA5 hg1 | have hg1p := G.gA6 hg1 | have hg1p := hg1
    refine SL.skip (OpOk.not rfl rfl rfl hg1) ?_
    refine SL.skip (OpOk.not rfl rfl rfl hg1) ?_
    refine SL.skip (OpOk.not rfl rfl rfl hg1) ?_
    refine SL.val (O.pick_f rfl (G.ne_t hg1) rfl rfl Taken.no) ?_
    refine SL.val (O.move rfl rfl Taken.no) ?_
    have hg38 : false ≠ true := by decide
    refine SL.skip (OpOk.not rfl rfl rfl hg38) ?_
    refine SL.skip (OpOk.not rfl rfl rfl hg38) ?_
    refine SL.skip (OpOk.not rfl rfl rfl hg38) ?_
    refine SL.val (O.pick_f rfl rfl rfl rfl Taken.no) ?_
    refine SL.val (O.move rfl rfl Taken.no) ?_
    have hg39 : false ≠ true := by decide
    refine SL.skip (OpOk.not rfl rfl rfl hg39) ?_
    refine SL.skip (OpOk.not rfl rfl rfl hg39) ?_
    refine SL.skip (OpOk.not rfl rfl rfl hg39) ?_
    refine SL.val (O.pick_f rfl rfl rfl rfl Taken.no) ?_
    refine SL.val (O.move rfl rfl Taken.no) ?_
    have hg40 : false ≠ true := by decide
    refine SL.skip (OpOk.not rfl rfl rfl hg40) ?_
    refine SL.skip (OpOk.not rfl rfl rfl hg40) ?_
    refine SL.skip (OpOk.not rfl rfl rfl hg40) ?_
    refine SL.val (O.pick_f rfl rfl rfl rfl Taken.no) ?_
    refine SL.val (O.move rfl rfl Taken.no) ?_
    have hg41 : false ≠ true := by decide
    refine SL.skip (OpOk.not rfl rfl rfl hg41) ?_
    refine SL.skip (OpOk.not rfl rfl rfl hg41) ?_
    refine SL.skip (OpOk.not rfl rfl rfl hg41) ?_
    refine SL.val (O.pick_f rfl rfl rfl rfl Taken.no) ?_
    refine SL.val (O.move rfl rfl Taken.no) ?_
    have hg42 : false ≠ true := by decide
    refine SL.skip (OpOk.not rfl rfl rfl hg42) ?_
    refine SL.skip (OpOk.not rfl rfl rfl hg42) ?_
    refine SL.skip (OpOk.not rfl rfl rfl hg42) ?_
    refine SL.val (O.pick_f rfl rfl rfl rfl Taken.no) ?_
    refine SL.val (O.move rfl rfl Taken.no) ?_
    have hg43 : false ≠ true := by decide
    refine SL.skip (OpOk.not rfl rfl rfl hg43) ?_
    refine SL.skip (OpOk.not rfl rfl rfl hg43) ?_
    refine SL.skip (OpOk.not rfl rfl rfl hg43) ?_
    refine SL.val (O.pick_f rfl rfl rfl rfl Taken.no) ?_
    refine SL.val (O.move rfl rfl Taken.no) ?_
    have hg44 : false ≠ true := by decide
    refine SL.skip (OpOk.not rfl rfl rfl hg44) ?_
    refine SL.skip (OpOk.not rfl rfl rfl hg44) ?_
    refine SL.skip (OpOk.not rfl rfl rfl hg44) ?_
    refine SL.val (O.pick_f rfl rfl rfl rfl Taken.no) ?_
    refine SL.val (O.move rfl rfl Taken.no) ?_
    have hg45 : false ≠ true := by decide
    refine SL.skip (OpOk.not rfl rfl rfl hg45) ?_
    refine SL.skip (OpOk.not rfl rfl rfl hg45) ?_
    refine SL.skip (OpOk.not rfl rfl rfl hg45) ?_
    refine SL.val (O.pick_f rfl rfl rfl rfl Taken.no) ?_
    refine SL.val (O.assign rfl rfl Taken.no) ?_
    refine SL.nil ?_
    refine E.to ?_
    refine W.pick (.cons (t := 2) rfl .nil) (.cons (t := 101) rfl .nil) ?_
    refine W.ret ?_
    refine E.fin (rs := [_]) (rn []) (.inl rfl) rfl (.cons (ResOne.tmp rfl) .nil) ?_ ?_ rfl (fixL_spec rfl)
    · skip
      exact iv_bool (by unfold goodH; first | exact dec_iff (by omega) | exact dec_t (by omega) | exact dec_f (by omega))
    · exact SubS.nil

/-- bookplate/bookplateref57.Good. -/
theorem refgood_h {h : Hd} :
    Con Try.prog 46 [vA (eH h)] [] (vB (decide (goodH h))) [] := by
  refine Con.enterL (n := 51) Try.func46 rfl rfl rfl (fun τ w ok vs hin => ?_)
  clear hin
  refine W.seq ?_
  refine W.region ?_
  refine SL.memS (O.box (is := [_, _, _, _, _]) 101 rfl rfl (by simp) rfl rfl Taken.no) rfl rfl (S' := (101, _) :: _) rfl ?_
  refine SL.val (O.assign rfl rfl Taken.no) ?_
  refine SL.nil ?_
  refine E.to ?_
  refine W.seq ?_
  refine W.region ?_
  refine SL.val (O.fld_ref (o' := 0) rfl Try.underlying32 rfl (m := 0) (by kernel_rfl) rfl rfl Taken.no) ?_
  refine SL.val (O.ld1 (PtI.ref rfl rfl) rfl Try.underlying3 rfl rfl Taken.no) ?_
  refine SL.val (O.det (fun _ => G.R.geq rfl rfl) rfl Taken.no) ?_
  refine SL.val (O.move rfl rfl Taken.no) ?_
  refine SL.case (j := 3) (g := 6) (want := true) rfl rfl (fun hg1 => ?_) (fun hg1 => ?_)
  · skip
    first | have hg1p := G.gA1 hg1 | have hg1p := G.gA2 hg1 | have hg1p := hg1
    refine SL.val (O.fld_ref (o' := 0) rfl Try.underlying32 rfl (m := 0) (by kernel_rfl) rfl rfl (Taken.yes rfl rfl hg1)) ?_
    refine SL.val (O.ld1 (PtI.ref rfl rfl) rfl Try.underlying3 rfl rfl (Taken.yes rfl rfl hg1)) ?_
    refine SL.val (O.det (fun _ => G.R.leq rfl rfl) rfl (Taken.yes rfl rfl hg1)) ?_
    refine SL.val (O.pick_t rfl hg1 rfl rfl Taken.no) ?_
    refine SL.val (O.move rfl rfl Taken.no) ?_
    refine SL.case (j := 8) (g := 11) (want := true) rfl rfl (fun hg2 => ?_) (fun hg2 => ?_)
    · skip
      first | have hg2p := G.gA1 hg2 | have hg2p := G.gA2 hg2 | have hg2p := hg2
      refine SL.val (O.fld_ref (o' := 1) rfl Try.underlying32 rfl (m := 0) (by kernel_rfl) rfl rfl (Taken.yes rfl rfl hg2)) ?_
      refine SL.val (O.ld1 (PtI.ref rfl rfl) rfl Try.underlying3 rfl rfl (Taken.yes rfl rfl hg2)) ?_
      refine SL.val (O.det (fun _ => G.R.geq rfl rfl) rfl (Taken.yes rfl rfl hg2)) ?_
      refine SL.val (O.pick_t rfl hg2 rfl rfl Taken.no) ?_
      refine SL.val (O.move rfl rfl Taken.no) ?_
      refine SL.case (j := 13) (g := 16) (want := true) rfl rfl (fun hg3 => ?_) (fun hg3 => ?_)
      · skip
        first | have hg3p := G.gA1 hg3 | have hg3p := G.gA2 hg3 | have hg3p := hg3
        refine SL.val (O.fld_ref (o' := 1) rfl Try.underlying32 rfl (m := 0) (by kernel_rfl) rfl rfl (Taken.yes rfl rfl hg3)) ?_
        refine SL.val (O.ld1 (PtI.ref rfl rfl) rfl Try.underlying3 rfl rfl (Taken.yes rfl rfl hg3)) ?_
        refine SL.val (O.det (fun _ => G.R.leq rfl rfl) rfl (Taken.yes rfl rfl hg3)) ?_
        refine SL.val (O.pick_t rfl hg3 rfl rfl Taken.no) ?_
        refine SL.val (O.move rfl rfl Taken.no) ?_
        refine SL.case (j := 18) (g := 21) (want := true) rfl rfl (fun hg4 => ?_) (fun hg4 => ?_)
        · skip
          first | have hg4p := G.gA1 hg4 | have hg4p := G.gA2 hg4 | have hg4p := hg4
          refine SL.val (O.fld_ref (o' := 2) rfl Try.underlying32 rfl (m := 0) (by kernel_rfl) rfl rfl (Taken.yes rfl rfl hg4)) ?_
          refine SL.val (O.ld1 (PtI.ref rfl rfl) rfl Try.underlying3 rfl rfl (Taken.yes rfl rfl hg4)) ?_
          refine SL.val (O.det (fun _ => G.R.geq rfl rfl) rfl (Taken.yes rfl rfl hg4)) ?_
          refine SL.val (O.pick_t rfl hg4 rfl rfl Taken.no) ?_
          refine SL.val (O.move rfl rfl Taken.no) ?_
          refine SL.case (j := 23) (g := 26) (want := true) rfl rfl (fun hg5 => ?_) (fun hg5 => ?_)
          · skip
            first | have hg5p := G.gA1 hg5 | have hg5p := G.gA2 hg5 | have hg5p := hg5
            refine SL.val (O.fld_ref (o' := 2) rfl Try.underlying32 rfl (m := 0) (by kernel_rfl) rfl rfl (Taken.yes rfl rfl hg5)) ?_
            refine SL.val (O.ld1 (PtI.ref rfl rfl) rfl Try.underlying3 rfl rfl (Taken.yes rfl rfl hg5)) ?_
            refine SL.val (O.det (fun _ => G.R.leq rfl rfl) rfl (Taken.yes rfl rfl hg5)) ?_
            refine SL.val (O.pick_t rfl hg5 rfl rfl Taken.no) ?_
            refine SL.val (O.move rfl rfl Taken.no) ?_
            refine SL.case (j := 28) (g := 31) (want := true) rfl rfl (fun hg6 => ?_) (fun hg6 => ?_)
            · skip
              first | have hg6p := G.gA1 hg6 | have hg6p := G.gA2 hg6 | have hg6p := hg6
              refine SL.val (O.fld_ref (o' := 3) rfl Try.underlying32 rfl (m := 0) (by kernel_rfl) rfl rfl (Taken.yes rfl rfl hg6)) ?_
              refine SL.val (O.ld1 (PtI.ref rfl rfl) rfl Try.underlying3 rfl rfl (Taken.yes rfl rfl hg6)) ?_
              refine SL.val (O.det (fun _ => G.R.geq rfl rfl) rfl (Taken.yes rfl rfl hg6)) ?_
              refine SL.val (O.pick_t rfl hg6 rfl rfl Taken.no) ?_
              refine SL.val (O.move rfl rfl Taken.no) ?_
              refine SL.case (j := 33) (g := 36) (want := true) rfl rfl (fun hg7 => ?_) (fun hg7 => ?_)
              · skip
                first | have hg7p := G.gA1 hg7 | have hg7p := G.gA2 hg7 | have hg7p := hg7
                refine SL.val (O.fld_ref (o' := 3) rfl Try.underlying32 rfl (m := 0) (by kernel_rfl) rfl rfl (Taken.yes rfl rfl hg7)) ?_
                refine SL.val (O.ld1 (PtI.ref rfl rfl) rfl Try.underlying3 rfl rfl (Taken.yes rfl rfl hg7)) ?_
                refine SL.val (O.det (fun _ => G.R.leq rfl rfl) rfl (Taken.yes rfl rfl hg7)) ?_
                refine SL.val (O.pick_t rfl hg7 rfl rfl Taken.no) ?_
                refine SL.val (O.move rfl rfl Taken.no) ?_
                refine SL.case (j := 38) (g := 41) (want := true) rfl rfl (fun hg8 => ?_) (fun hg8 => ?_)
                · skip
                  first | have hg8p := G.gA1 hg8 | have hg8p := G.gA2 hg8 | have hg8p := hg8
                  refine SL.val (O.fld_ref (o' := 4) rfl Try.underlying32 rfl (m := 0) (by kernel_rfl) rfl rfl (Taken.yes rfl rfl hg8)) ?_
                  refine SL.val (O.ld1 (PtI.ref rfl rfl) rfl Try.underlying3 rfl rfl (Taken.yes rfl rfl hg8)) ?_
                  refine SL.val (O.det (fun _ => G.R.geq rfl rfl) rfl (Taken.yes rfl rfl hg8)) ?_
                  refine SL.val (O.pick_t rfl hg8 rfl rfl Taken.no) ?_
                  refine SL.val (O.move rfl rfl Taken.no) ?_
                  refine SL.case (j := 43) (g := 46) (want := true) rfl rfl (fun hg9 => ?_) (fun hg9 => ?_)
                  · skip
                    first | have hg9p := G.gA1 hg9 | have hg9p := G.gA2 hg9 | have hg9p := hg9
                    refine SL.val (O.fld_ref (o' := 4) rfl Try.underlying32 rfl (m := 0) (by kernel_rfl) rfl rfl (Taken.yes rfl rfl hg9)) ?_
                    refine SL.val (O.ld1 (PtI.ref rfl rfl) rfl Try.underlying3 rfl rfl (Taken.yes rfl rfl hg9)) ?_
                    refine SL.val (O.det (fun _ => G.R.leq rfl rfl) rfl (Taken.yes rfl rfl hg9)) ?_
                    refine SL.val (O.pick_t rfl hg9 rfl rfl Taken.no) ?_
                    refine SL.val (O.assign rfl rfl Taken.no) ?_
                    refine SL.nil ?_
                    refine E.to ?_
                    refine W.pick (.cons (t := 2) rfl .nil) (.cons (t := 101) rfl .nil) ?_
                    refine W.ret ?_
                    refine E.fin (rs := [_]) (rn []) (.inl rfl) rfl (.cons (ResOne.tmp rfl) .nil) ?_ ?_ rfl (fixL_spec rfl)
                    · skip
                      exact iv_bool (by unfold goodH; first | exact dec_iff (by omega) | exact dec_t (by omega) | exact dec_f (by omega))
                    · exact SubS.nil
                  · skip
                    first | have hg9p := G.gA5 hg9 | have hg9p := G.gA6 hg9 | have hg9p := hg9
                    refine SL.skip (OpOk.not rfl rfl rfl hg9) ?_
                    refine SL.skip (OpOk.not rfl rfl rfl hg9) ?_
                    refine SL.skip (OpOk.not rfl rfl rfl hg9) ?_
                    refine SL.val (O.pick_f rfl (G.ne_t hg9) rfl rfl Taken.no) ?_
                    refine SL.val (O.assign rfl rfl Taken.no) ?_
                    refine SL.nil ?_
                    refine E.to ?_
                    refine W.pick (.cons (t := 2) rfl .nil) (.cons (t := 101) rfl .nil) ?_
                    refine W.ret ?_
                    refine E.fin (rs := [_]) (rn []) (.inl rfl) rfl (.cons (ResOne.tmp rfl) .nil) ?_ ?_ rfl (fixL_spec rfl)
                    · skip
                      exact iv_bool (by unfold goodH; first | exact dec_iff (by omega) | exact dec_t (by omega) | exact dec_f (by omega))
                    · exact SubS.nil
                · skip
                  first | have hg8p := G.gA5 hg8 | have hg8p := G.gA6 hg8 | have hg8p := hg8
                  refine SL.skip (OpOk.not rfl rfl rfl hg8) ?_
                  refine SL.skip (OpOk.not rfl rfl rfl hg8) ?_
                  refine SL.skip (OpOk.not rfl rfl rfl hg8) ?_
                  refine SL.val (O.pick_f rfl (G.ne_t hg8) rfl rfl Taken.no) ?_
                  refine SL.val (O.move rfl rfl Taken.no) ?_
                  have hg10 : false ≠ true := by decide
                  refine SL.skip (OpOk.not rfl rfl rfl hg10) ?_
                  refine SL.skip (OpOk.not rfl rfl rfl hg10) ?_
                  refine SL.skip (OpOk.not rfl rfl rfl hg10) ?_
                  refine SL.val (O.pick_f rfl rfl rfl rfl Taken.no) ?_
                  refine SL.val (O.assign rfl rfl Taken.no) ?_
                  refine SL.nil ?_
                  refine E.to ?_
                  refine W.pick (.cons (t := 2) rfl .nil) (.cons (t := 101) rfl .nil) ?_
                  refine W.ret ?_
                  refine E.fin (rs := [_]) (rn []) (.inl rfl) rfl (.cons (ResOne.tmp rfl) .nil) ?_ ?_ rfl (fixL_spec rfl)
                  · skip
                    exact iv_bool (by unfold goodH; first | exact dec_iff (by omega) | exact dec_t (by omega) | exact dec_f (by omega))
                  · exact SubS.nil
              · skip
                first | have hg7p := G.gA5 hg7 | have hg7p := G.gA6 hg7 | have hg7p := hg7
                refine SL.skip (OpOk.not rfl rfl rfl hg7) ?_
                refine SL.skip (OpOk.not rfl rfl rfl hg7) ?_
                refine SL.skip (OpOk.not rfl rfl rfl hg7) ?_
                refine SL.val (O.pick_f rfl (G.ne_t hg7) rfl rfl Taken.no) ?_
                refine SL.val (O.move rfl rfl Taken.no) ?_
                have hg11 : false ≠ true := by decide
                refine SL.skip (OpOk.not rfl rfl rfl hg11) ?_
                refine SL.skip (OpOk.not rfl rfl rfl hg11) ?_
                refine SL.skip (OpOk.not rfl rfl rfl hg11) ?_
                refine SL.val (O.pick_f rfl rfl rfl rfl Taken.no) ?_
                refine SL.val (O.move rfl rfl Taken.no) ?_
                have hg12 : false ≠ true := by decide
                refine SL.skip (OpOk.not rfl rfl rfl hg12) ?_
                refine SL.skip (OpOk.not rfl rfl rfl hg12) ?_
                refine SL.skip (OpOk.not rfl rfl rfl hg12) ?_
                refine SL.val (O.pick_f rfl rfl rfl rfl Taken.no) ?_
                refine SL.val (O.assign rfl rfl Taken.no) ?_
                refine SL.nil ?_
                refine E.to ?_
                refine W.pick (.cons (t := 2) rfl .nil) (.cons (t := 101) rfl .nil) ?_
                refine W.ret ?_
                refine E.fin (rs := [_]) (rn []) (.inl rfl) rfl (.cons (ResOne.tmp rfl) .nil) ?_ ?_ rfl (fixL_spec rfl)
                · skip
                  exact iv_bool (by unfold goodH; first | exact dec_iff (by omega) | exact dec_t (by omega) | exact dec_f (by omega))
                · exact SubS.nil
            · skip
              first | have hg6p := G.gA5 hg6 | have hg6p := G.gA6 hg6 | have hg6p := hg6
              refine SL.skip (OpOk.not rfl rfl rfl hg6) ?_
              refine SL.skip (OpOk.not rfl rfl rfl hg6) ?_
              refine SL.skip (OpOk.not rfl rfl rfl hg6) ?_
              refine SL.val (O.pick_f rfl (G.ne_t hg6) rfl rfl Taken.no) ?_
              refine SL.val (O.move rfl rfl Taken.no) ?_
              have hg13 : false ≠ true := by decide
              refine SL.skip (OpOk.not rfl rfl rfl hg13) ?_
              refine SL.skip (OpOk.not rfl rfl rfl hg13) ?_
              refine SL.skip (OpOk.not rfl rfl rfl hg13) ?_
              refine SL.val (O.pick_f rfl rfl rfl rfl Taken.no) ?_
              refine SL.val (O.move rfl rfl Taken.no) ?_
              have hg14 : false ≠ true := by decide
              refine SL.skip (OpOk.not rfl rfl rfl hg14) ?_
              refine SL.skip (OpOk.not rfl rfl rfl hg14) ?_
              refine SL.skip (OpOk.not rfl rfl rfl hg14) ?_
              refine SL.val (O.pick_f rfl rfl rfl rfl Taken.no) ?_
              refine SL.val (O.move rfl rfl Taken.no) ?_
              have hg15 : false ≠ true := by decide
              refine SL.skip (OpOk.not rfl rfl rfl hg15) ?_
              refine SL.skip (OpOk.not rfl rfl rfl hg15) ?_
              refine SL.skip (OpOk.not rfl rfl rfl hg15) ?_
              refine SL.val (O.pick_f rfl rfl rfl rfl Taken.no) ?_
              refine SL.val (O.assign rfl rfl Taken.no) ?_
              refine SL.nil ?_
              refine E.to ?_
              refine W.pick (.cons (t := 2) rfl .nil) (.cons (t := 101) rfl .nil) ?_
              refine W.ret ?_
              refine E.fin (rs := [_]) (rn []) (.inl rfl) rfl (.cons (ResOne.tmp rfl) .nil) ?_ ?_ rfl (fixL_spec rfl)
              · skip
                exact iv_bool (by unfold goodH; first | exact dec_iff (by omega) | exact dec_t (by omega) | exact dec_f (by omega))
              · exact SubS.nil
          · skip
            first | have hg5p := G.gA5 hg5 | have hg5p := G.gA6 hg5 | have hg5p := hg5
            refine SL.skip (OpOk.not rfl rfl rfl hg5) ?_
            refine SL.skip (OpOk.not rfl rfl rfl hg5) ?_
            refine SL.skip (OpOk.not rfl rfl rfl hg5) ?_
            refine SL.val (O.pick_f rfl (G.ne_t hg5) rfl rfl Taken.no) ?_
            refine SL.val (O.move rfl rfl Taken.no) ?_
            have hg16 : false ≠ true := by decide
            refine SL.skip (OpOk.not rfl rfl rfl hg16) ?_
            refine SL.skip (OpOk.not rfl rfl rfl hg16) ?_
            refine SL.skip (OpOk.not rfl rfl rfl hg16) ?_
            refine SL.val (O.pick_f rfl rfl rfl rfl Taken.no) ?_
            refine SL.val (O.move rfl rfl Taken.no) ?_
            have hg17 : false ≠ true := by decide
            refine SL.skip (OpOk.not rfl rfl rfl hg17) ?_
            refine SL.skip (OpOk.not rfl rfl rfl hg17) ?_
            refine SL.skip (OpOk.not rfl rfl rfl hg17) ?_
            refine SL.val (O.pick_f rfl rfl rfl rfl Taken.no) ?_
            refine SL.val (O.move rfl rfl Taken.no) ?_
            have hg18 : false ≠ true := by decide
            refine SL.skip (OpOk.not rfl rfl rfl hg18) ?_
            refine SL.skip (OpOk.not rfl rfl rfl hg18) ?_
            refine SL.skip (OpOk.not rfl rfl rfl hg18) ?_
            refine SL.val (O.pick_f rfl rfl rfl rfl Taken.no) ?_
            refine SL.val (O.move rfl rfl Taken.no) ?_
            have hg19 : false ≠ true := by decide
            refine SL.skip (OpOk.not rfl rfl rfl hg19) ?_
            refine SL.skip (OpOk.not rfl rfl rfl hg19) ?_
            refine SL.skip (OpOk.not rfl rfl rfl hg19) ?_
            refine SL.val (O.pick_f rfl rfl rfl rfl Taken.no) ?_
            refine SL.val (O.assign rfl rfl Taken.no) ?_
            refine SL.nil ?_
            refine E.to ?_
            refine W.pick (.cons (t := 2) rfl .nil) (.cons (t := 101) rfl .nil) ?_
            refine W.ret ?_
            refine E.fin (rs := [_]) (rn []) (.inl rfl) rfl (.cons (ResOne.tmp rfl) .nil) ?_ ?_ rfl (fixL_spec rfl)
            · skip
              exact iv_bool (by unfold goodH; first | exact dec_iff (by omega) | exact dec_t (by omega) | exact dec_f (by omega))
            · exact SubS.nil
        · skip
          first | have hg4p := G.gA5 hg4 | have hg4p := G.gA6 hg4 | have hg4p := hg4
          refine SL.skip (OpOk.not rfl rfl rfl hg4) ?_
          refine SL.skip (OpOk.not rfl rfl rfl hg4) ?_
          refine SL.skip (OpOk.not rfl rfl rfl hg4) ?_
          refine SL.val (O.pick_f rfl (G.ne_t hg4) rfl rfl Taken.no) ?_
          refine SL.val (O.move rfl rfl Taken.no) ?_
          have hg20 : false ≠ true := by decide
          refine SL.skip (OpOk.not rfl rfl rfl hg20) ?_
          refine SL.skip (OpOk.not rfl rfl rfl hg20) ?_
          refine SL.skip (OpOk.not rfl rfl rfl hg20) ?_
          refine SL.val (O.pick_f rfl rfl rfl rfl Taken.no) ?_
          refine SL.val (O.move rfl rfl Taken.no) ?_
          have hg21 : false ≠ true := by decide
          refine SL.skip (OpOk.not rfl rfl rfl hg21) ?_
          refine SL.skip (OpOk.not rfl rfl rfl hg21) ?_
          refine SL.skip (OpOk.not rfl rfl rfl hg21) ?_
          refine SL.val (O.pick_f rfl rfl rfl rfl Taken.no) ?_
          refine SL.val (O.move rfl rfl Taken.no) ?_
          have hg22 : false ≠ true := by decide
          refine SL.skip (OpOk.not rfl rfl rfl hg22) ?_
          refine SL.skip (OpOk.not rfl rfl rfl hg22) ?_
          refine SL.skip (OpOk.not rfl rfl rfl hg22) ?_
          refine SL.val (O.pick_f rfl rfl rfl rfl Taken.no) ?_
          refine SL.val (O.move rfl rfl Taken.no) ?_
          have hg23 : false ≠ true := by decide
          refine SL.skip (OpOk.not rfl rfl rfl hg23) ?_
          refine SL.skip (OpOk.not rfl rfl rfl hg23) ?_
          refine SL.skip (OpOk.not rfl rfl rfl hg23) ?_
          refine SL.val (O.pick_f rfl rfl rfl rfl Taken.no) ?_
          refine SL.val (O.move rfl rfl Taken.no) ?_
          have hg24 : false ≠ true := by decide
          refine SL.skip (OpOk.not rfl rfl rfl hg24) ?_
          refine SL.skip (OpOk.not rfl rfl rfl hg24) ?_
          refine SL.skip (OpOk.not rfl rfl rfl hg24) ?_
          refine SL.val (O.pick_f rfl rfl rfl rfl Taken.no) ?_
          refine SL.val (O.assign rfl rfl Taken.no) ?_
          refine SL.nil ?_
          refine E.to ?_
          refine W.pick (.cons (t := 2) rfl .nil) (.cons (t := 101) rfl .nil) ?_
          refine W.ret ?_
          refine E.fin (rs := [_]) (rn []) (.inl rfl) rfl (.cons (ResOne.tmp rfl) .nil) ?_ ?_ rfl (fixL_spec rfl)
          · skip
            exact iv_bool (by unfold goodH; first | exact dec_iff (by omega) | exact dec_t (by omega) | exact dec_f (by omega))
          · exact SubS.nil
      · skip
        first | have hg3p := G.gA5 hg3 | have hg3p := G.gA6 hg3 | have hg3p := hg3
        refine SL.skip (OpOk.not rfl rfl rfl hg3) ?_
        refine SL.skip (OpOk.not rfl rfl rfl hg3) ?_
        refine SL.skip (OpOk.not rfl rfl rfl hg3) ?_
        refine SL.val (O.pick_f rfl (G.ne_t hg3) rfl rfl Taken.no) ?_
        refine SL.val (O.move rfl rfl Taken.no) ?_
        have hg25 : false ≠ true := by decide
        refine SL.skip (OpOk.not rfl rfl rfl hg25) ?_
        refine SL.skip (OpOk.not rfl rfl rfl hg25) ?_
        refine SL.skip (OpOk.not rfl rfl rfl hg25) ?_
        refine SL.val (O.pick_f rfl rfl rfl rfl Taken.no) ?_
        refine SL.val (O.move rfl rfl Taken.no) ?_
        have hg26 : false ≠ true := by decide
        refine SL.skip (OpOk.not rfl rfl rfl hg26) ?_
        refine SL.skip (OpOk.not rfl rfl rfl hg26) ?_
        refine SL.skip (OpOk.not rfl rfl rfl hg26) ?_
        refine SL.val (O.pick_f rfl rfl rfl rfl Taken.no) ?_
        refine SL.val (O.move rfl rfl Taken.no) ?_
        have hg27 : false ≠ true := by decide
        refine SL.skip (OpOk.not rfl rfl rfl hg27) ?_
        refine SL.skip (OpOk.not rfl rfl rfl hg27) ?_
        refine SL.skip (OpOk.not rfl rfl rfl hg27) ?_
        refine SL.val (O.pick_f rfl rfl rfl rfl Taken.no) ?_
        refine SL.val (O.move rfl rfl Taken.no) ?_
        have hg28 : false ≠ true := by decide
        refine SL.skip (OpOk.not rfl rfl rfl hg28) ?_
        refine SL.skip (OpOk.not rfl rfl rfl hg28) ?_
        refine SL.skip (OpOk.not rfl rfl rfl hg28) ?_
        refine SL.val (O.pick_f rfl rfl rfl rfl Taken.no) ?_
        refine SL.val (O.move rfl rfl Taken.no) ?_
        have hg29 : false ≠ true := by decide
        refine SL.skip (OpOk.not rfl rfl rfl hg29) ?_
        refine SL.skip (OpOk.not rfl rfl rfl hg29) ?_
        refine SL.skip (OpOk.not rfl rfl rfl hg29) ?_
        refine SL.val (O.pick_f rfl rfl rfl rfl Taken.no) ?_
        refine SL.val (O.move rfl rfl Taken.no) ?_
        have hg30 : false ≠ true := by decide
        refine SL.skip (OpOk.not rfl rfl rfl hg30) ?_
        refine SL.skip (OpOk.not rfl rfl rfl hg30) ?_
        refine SL.skip (OpOk.not rfl rfl rfl hg30) ?_
        refine SL.val (O.pick_f rfl rfl rfl rfl Taken.no) ?_
        refine SL.val (O.assign rfl rfl Taken.no) ?_
        refine SL.nil ?_
        refine E.to ?_
        refine W.pick (.cons (t := 2) rfl .nil) (.cons (t := 101) rfl .nil) ?_
        refine W.ret ?_
        refine E.fin (rs := [_]) (rn []) (.inl rfl) rfl (.cons (ResOne.tmp rfl) .nil) ?_ ?_ rfl (fixL_spec rfl)
        · skip
          exact iv_bool (by unfold goodH; first | exact dec_iff (by omega) | exact dec_t (by omega) | exact dec_f (by omega))
        · exact SubS.nil
    · skip
      first | have hg2p := G.gA5 hg2 | have hg2p := G.gA6 hg2 | have hg2p := hg2
      refine SL.skip (OpOk.not rfl rfl rfl hg2) ?_
      refine SL.skip (OpOk.not rfl rfl rfl hg2) ?_
      refine SL.skip (OpOk.not rfl rfl rfl hg2) ?_
      refine SL.val (O.pick_f rfl (G.ne_t hg2) rfl rfl Taken.no) ?_
      refine SL.val (O.move rfl rfl Taken.no) ?_
      have hg31 : false ≠ true := by decide
      refine SL.skip (OpOk.not rfl rfl rfl hg31) ?_
      refine SL.skip (OpOk.not rfl rfl rfl hg31) ?_
      refine SL.skip (OpOk.not rfl rfl rfl hg31) ?_
      refine SL.val (O.pick_f rfl rfl rfl rfl Taken.no) ?_
      refine SL.val (O.move rfl rfl Taken.no) ?_
      have hg32 : false ≠ true := by decide
      refine SL.skip (OpOk.not rfl rfl rfl hg32) ?_
      refine SL.skip (OpOk.not rfl rfl rfl hg32) ?_
      refine SL.skip (OpOk.not rfl rfl rfl hg32) ?_
      refine SL.val (O.pick_f rfl rfl rfl rfl Taken.no) ?_
      refine SL.val (O.move rfl rfl Taken.no) ?_
      have hg33 : false ≠ true := by decide
      refine SL.skip (OpOk.not rfl rfl rfl hg33) ?_
      refine SL.skip (OpOk.not rfl rfl rfl hg33) ?_
      refine SL.skip (OpOk.not rfl rfl rfl hg33) ?_
      refine SL.val (O.pick_f rfl rfl rfl rfl Taken.no) ?_
      refine SL.val (O.move rfl rfl Taken.no) ?_
      have hg34 : false ≠ true := by decide
      refine SL.skip (OpOk.not rfl rfl rfl hg34) ?_
      refine SL.skip (OpOk.not rfl rfl rfl hg34) ?_
      refine SL.skip (OpOk.not rfl rfl rfl hg34) ?_
      refine SL.val (O.pick_f rfl rfl rfl rfl Taken.no) ?_
      refine SL.val (O.move rfl rfl Taken.no) ?_
      have hg35 : false ≠ true := by decide
      refine SL.skip (OpOk.not rfl rfl rfl hg35) ?_
      refine SL.skip (OpOk.not rfl rfl rfl hg35) ?_
      refine SL.skip (OpOk.not rfl rfl rfl hg35) ?_
      refine SL.val (O.pick_f rfl rfl rfl rfl Taken.no) ?_
      refine SL.val (O.move rfl rfl Taken.no) ?_
      have hg36 : false ≠ true := by decide
      refine SL.skip (OpOk.not rfl rfl rfl hg36) ?_
      refine SL.skip (OpOk.not rfl rfl rfl hg36) ?_
      refine SL.skip (OpOk.not rfl rfl rfl hg36) ?_
      refine SL.val (O.pick_f rfl rfl rfl rfl Taken.no) ?_
      refine SL.val (O.move rfl rfl Taken.no) ?_
      have hg37 : false ≠ true := by decide
      refine SL.skip (OpOk.not rfl rfl rfl hg37) ?_
      refine SL.skip (OpOk.not rfl rfl rfl hg37) ?_
      refine SL.skip (OpOk.not rfl rfl rfl hg37) ?_
      refine SL.val (O.pick_f rfl rfl rfl rfl Taken.no) ?_
      refine SL.val (O.assign rfl rfl Taken.no) ?_
      refine SL.nil ?_
      refine E.to ?_
      refine W.pick (.cons (t := 2) rfl .nil) (.cons (t := 101) rfl .nil) ?_
      refine W.ret ?_
      refine E.fin (rs := [_]) (rn []) (.inl rfl) rfl (.cons (ResOne.tmp rfl) .nil) ?_ ?_ rfl (fixL_spec rfl)
      · skip
        exact iv_bool (by unfold goodH; first | exact dec_iff (by omega) | exact dec_t (by omega) | exact dec_f (by omega))
      · exact SubS.nil
  · skip
    first | have hg1p := G.gA5 hg1 | have hg1p := G.gA6 hg1 | have hg1p := hg1
    refine SL.skip (OpOk.not rfl rfl rfl hg1) ?_
    refine SL.skip (OpOk.not rfl rfl rfl hg1) ?_
    refine SL.skip (OpOk.not rfl rfl rfl hg1) ?_
    refine SL.val (O.pick_f rfl (G.ne_t hg1) rfl rfl Taken.no) ?_
    refine SL.val (O.move rfl rfl Taken.no) ?_
    have hg38 : false ≠ true := by decide
    refine SL.skip (OpOk.not rfl rfl rfl hg38) ?_
    refine SL.skip (OpOk.not rfl rfl rfl hg38) ?_
    refine SL.skip (OpOk.not rfl rfl rfl hg38) ?_
    refine SL.val (O.pick_f rfl rfl rfl rfl Taken.no) ?_
    refine SL.val (O.move rfl rfl Taken.no) ?_
    have hg39 : false ≠ true := by decide
    refine SL.skip (OpOk.not rfl rfl rfl hg39) ?_
    refine SL.skip (OpOk.not rfl rfl rfl hg39) ?_
    refine SL.skip (OpOk.not rfl rfl rfl hg39) ?_
    refine SL.val (O.pick_f rfl rfl rfl rfl Taken.no) ?_
    refine SL.val (O.move rfl rfl Taken.no) ?_
    have hg40 : false ≠ true := by decide
    refine SL.skip (OpOk.not rfl rfl rfl hg40) ?_
    refine SL.skip (OpOk.not rfl rfl rfl hg40) ?_
    refine SL.skip (OpOk.not rfl rfl rfl hg40) ?_
    refine SL.val (O.pick_f rfl rfl rfl rfl Taken.no) ?_
    refine SL.val (O.move rfl rfl Taken.no) ?_
    have hg41 : false ≠ true := by decide
    refine SL.skip (OpOk.not rfl rfl rfl hg41) ?_
    refine SL.skip (OpOk.not rfl rfl rfl hg41) ?_
    refine SL.skip (OpOk.not rfl rfl rfl hg41) ?_
    refine SL.val (O.pick_f rfl rfl rfl rfl Taken.no) ?_
    refine SL.val (O.move rfl rfl Taken.no) ?_
    have hg42 : false ≠ true := by decide
    refine SL.skip (OpOk.not rfl rfl rfl hg42) ?_
    refine SL.skip (OpOk.not rfl rfl rfl hg42) ?_
    refine SL.skip (OpOk.not rfl rfl rfl hg42) ?_
    refine SL.val (O.pick_f rfl rfl rfl rfl Taken.no) ?_
    refine SL.val (O.move rfl rfl Taken.no) ?_
    have hg43 : false ≠ true := by decide
    refine SL.skip (OpOk.not rfl rfl rfl hg43) ?_
    refine SL.skip (OpOk.not rfl rfl rfl hg43) ?_
    refine SL.skip (OpOk.not rfl rfl rfl hg43) ?_
    refine SL.val (O.pick_f rfl rfl rfl rfl Taken.no) ?_
    refine SL.val (O.move rfl rfl Taken.no) ?_
    have hg44 : false ≠ true := by decide
    refine SL.skip (OpOk.not rfl rfl rfl hg44) ?_
    refine SL.skip (OpOk.not rfl rfl rfl hg44) ?_
    refine SL.skip (OpOk.not rfl rfl rfl hg44) ?_
    refine SL.val (O.pick_f rfl rfl rfl rfl Taken.no) ?_
    refine SL.val (O.move rfl rfl Taken.no) ?_
    have hg45 : false ≠ true := by decide
    refine SL.skip (OpOk.not rfl rfl rfl hg45) ?_
    refine SL.skip (OpOk.not rfl rfl rfl hg45) ?_
    refine SL.skip (OpOk.not rfl rfl rfl hg45) ?_
    refine SL.val (O.pick_f rfl rfl rfl rfl Taken.no) ?_
    refine SL.val (O.assign rfl rfl Taken.no) ?_
    refine SL.nil ?_
    refine E.to ?_
    refine W.pick (.cons (t := 2) rfl .nil) (.cons (t := 101) rfl .nil) ?_
    refine W.ret ?_
    refine E.fin (rs := [_]) (rn []) (.inl rfl) rfl (.cons (ResOne.tmp rfl) .nil) ?_ ?_ rfl (fixL_spec rfl)
    · skip
      exact iv_bool (by unfold goodH; first | exact dec_iff (by omega) | exact dec_t (by omega) | exact dec_f (by omega))
    · exact SubS.nil

/-- bookplate/bookplateref57.Earlier. -/
theorem earlier_h {a b : Hd} :
    Con Try.prog 25 [vA (eH a), vA (eH b)] [] (vB (decide (earl a b))) [] := by
  refine Con.enterL (n := 24) Try.func25 rfl rfl rfl (fun τ w ok vs hin => ?_)
  clear hin
  refine W.seq ?_
  refine W.region ?_
  refine SL.memS (O.box (is := [_, _, _, _, _]) 101 rfl rfl (by simp) rfl rfl Taken.no) rfl rfl (S' := (101, _) :: _) rfl ?_
  refine SL.memS (O.box (is := [_, _, _, _, _]) 102 rfl rfl (by simp) rfl rfl Taken.no) rfl rfl (S' := (102, _) :: _) rfl ?_
  refine SL.val (O.assign rfl rfl Taken.no) ?_
  refine SL.nil ?_
  refine E.to ?_
  refine W.seq ?_
  refine W.region ?_
  refine SL.val (O.fld_ref (o' := 3) rfl Try.underlying32 rfl (m := 0) (by kernel_rfl) rfl rfl Taken.no) ?_
  refine SL.val (O.ld1 (PtI.ref rfl rfl) rfl Try.underlying3 rfl rfl Taken.no) ?_
  refine SL.val (O.fld_ref (o' := 3) rfl Try.underlying32 rfl (m := 0) (by kernel_rfl) rfl rfl Taken.no) ?_
  refine SL.val (O.ld1 (PtI.ref rfl rfl) rfl Try.underlying3 rfl rfl Taken.no) ?_
  refine SL.val (O.det (fun _ => G.R.lss rfl rfl) rfl Taken.no) ?_
  refine SL.val (O.move rfl rfl Taken.no) ?_
  refine SL.case (j := 5) (g := 10) (want := false) rfl rfl (fun hg1 => ?_) (fun hg1 => ?_)
  · skip
    first | have hg1p := G.gA3 hg1 | have hg1p := G.gA4 hg1 | have hg1p := hg1
    refine SL.val (O.fld_ref (o' := 3) rfl Try.underlying32 rfl (m := 0) (by kernel_rfl) rfl rfl (Taken.yes rfl rfl hg1)) ?_
    refine SL.val (O.ld1 (PtI.ref rfl rfl) rfl Try.underlying3 rfl rfl (Taken.yes rfl rfl hg1)) ?_
    refine SL.val (O.fld_ref (o' := 3) rfl Try.underlying32 rfl (m := 0) (by kernel_rfl) rfl rfl (Taken.yes rfl rfl hg1)) ?_
    refine SL.val (O.ld1 (PtI.ref rfl rfl) rfl Try.underlying3 rfl rfl (Taken.yes rfl rfl hg1)) ?_
    refine SL.val (O.det (fun _ => G.R.eql rfl rfl) rfl (Taken.yes rfl rfl hg1)) ?_
    refine SL.val (O.move rfl rfl (Taken.yes rfl rfl hg1)) ?_
    refine SL.case (j := 11) (g := 16) (want := true) rfl rfl (fun hg2 => ?_) (fun hg2 => ?_)
    · skip
      first | have hg2p := G.gA1 hg2 | have hg2p := G.gA2 hg2 | have hg2p := hg2
      refine SL.val (O.fld_ref (o' := 0) rfl Try.underlying32 rfl (m := 0) (by kernel_rfl) rfl rfl (Taken.yes rfl rfl hg2)) ?_
      refine SL.val (O.ld1 (PtI.ref rfl rfl) rfl Try.underlying3 rfl rfl (Taken.yes rfl rfl hg2)) ?_
      refine SL.val (O.fld_ref (o' := 0) rfl Try.underlying32 rfl (m := 0) (by kernel_rfl) rfl rfl (Taken.yes rfl rfl hg2)) ?_
      refine SL.val (O.ld1 (PtI.ref rfl rfl) rfl Try.underlying3 rfl rfl (Taken.yes rfl rfl hg2)) ?_
      refine SL.val (O.det (fun _ => G.R.lss rfl rfl) rfl (Taken.yes rfl rfl hg2)) ?_
      refine SL.val (O.pick_t rfl hg2 rfl rfl (Taken.yes rfl rfl hg1)) ?_
      refine SL.val (O.pick_f rfl hg1 rfl rfl Taken.no) ?_
      refine SL.val (O.assign rfl rfl Taken.no) ?_
      refine SL.nil ?_
      refine E.to ?_
      refine W.pick (.cons (t := 4) rfl .nil) (.cons (t := 101) rfl (.cons (t := 102) rfl .nil)) ?_
      refine W.ret ?_
      refine E.fin (rs := [_]) (rn []) (.inl rfl) rfl (.cons (ResOne.tmp rfl) .nil) ?_ ?_ rfl (fixL_spec rfl)
      · skip
        exact iv_bool (by unfold earl; first | exact dec_iff (by omega) | exact dec_t (by omega) | exact dec_f (by omega))
      · exact SubS.nil
    · skip
      first | have hg2p := G.gA5 hg2 | have hg2p := G.gA6 hg2 | have hg2p := hg2
      refine SL.skip (OpOk.not rfl rfl rfl hg2) ?_
      refine SL.skip (OpOk.not rfl rfl rfl hg2) ?_
      refine SL.skip (OpOk.not rfl rfl rfl hg2) ?_
      refine SL.skip (OpOk.not rfl rfl rfl hg2) ?_
      refine SL.skip (OpOk.not rfl rfl rfl hg2) ?_
      refine SL.val (O.pick_f rfl (G.ne_t hg2) rfl rfl (Taken.yes rfl rfl hg1)) ?_
      refine SL.val (O.pick_f rfl hg1 rfl rfl Taken.no) ?_
      refine SL.val (O.assign rfl rfl Taken.no) ?_
      refine SL.nil ?_
      refine E.to ?_
      refine W.pick (.cons (t := 4) rfl .nil) (.cons (t := 101) rfl (.cons (t := 102) rfl .nil)) ?_
      refine W.ret ?_
      refine E.fin (rs := [_]) (rn []) (.inl rfl) rfl (.cons (ResOne.tmp rfl) .nil) ?_ ?_ rfl (fixL_spec rfl)
      · skip
        exact iv_bool (by unfold earl; first | exact dec_iff (by omega) | exact dec_t (by omega) | exact dec_f (by omega))
      · exact SubS.nil
  · skip
    first | have hg1p := G.gA7 hg1 | have hg1p := G.gA8 hg1 | have hg1p := hg1
    refine SL.skip (OpOk.not rfl rfl rfl hg1) ?_
    refine SL.skip (OpOk.not rfl rfl rfl hg1) ?_
    refine SL.skip (OpOk.not rfl rfl rfl hg1) ?_
    refine SL.skip (OpOk.not rfl rfl rfl hg1) ?_
    refine SL.skip (OpOk.not rfl rfl rfl hg1) ?_
    refine SL.skip (OpOk.not rfl rfl rfl hg1) ?_
    refine SL.skip (OpOk.not2 rfl rfl rfl) ?_
    refine SL.skip (OpOk.not2 rfl rfl rfl) ?_
    refine SL.skip (OpOk.not2 rfl rfl rfl) ?_
    refine SL.skip (OpOk.not2 rfl rfl rfl) ?_
    refine SL.skip (OpOk.not2 rfl rfl rfl) ?_
    refine SL.skip (OpOk.not rfl rfl rfl hg1) ?_
    refine SL.val (O.pick_t rfl (G.ne_f hg1) rfl rfl Taken.no) ?_
    refine SL.val (O.assign rfl rfl Taken.no) ?_
    refine SL.nil ?_
    refine E.to ?_
    refine W.pick (.cons (t := 4) rfl .nil) (.cons (t := 101) rfl (.cons (t := 102) rfl .nil)) ?_
    refine W.ret ?_
    refine E.fin (rs := [_]) (rn []) (.inl rfl) rfl (.cons (ResOne.tmp rfl) .nil) ?_ ?_ rfl (fixL_spec rfl)
    · skip
      exact iv_bool (by unfold earl; first | exact dec_iff (by omega) | exact dec_t (by omega) | exact dec_f (by omega))
    · exact SubS.nil

/-- bookplate/hold.Valid$1. -/
theorem valid1_h {h x : Hd} :
    Con Try.prog 45 [vA (eH x), .u (.ptr (eH h))] [] (vB (decide (likeH x h))) [] := by
  refine Con.enterL (n := 16) Try.func45 rfl rfl rfl (fun τ w ok vs hin => ?_)
  clear hin
  refine W.seq ?_
  refine W.region ?_
  refine SL.memS (O.box (is := [_, _, _, _, _]) 101 rfl rfl (by simp) rfl rfl Taken.no) rfl rfl (S' := (101, _) :: _) rfl ?_
  refine SL.val (O.assign rfl rfl Taken.no) ?_
  refine SL.nil ?_
  refine E.to ?_
  refine W.seq ?_
  refine W.region ?_
  refine SL.val (O.fld_ref (o' := 0) rfl Try.underlying26 rfl (m := 0) (by kernel_rfl) rfl rfl Taken.no) ?_
  refine SL.val (O.ld1 (PtI.ref rfl rfl) rfl Try.underlying3 rfl rfl Taken.no) ?_
  refine SL.val (O.fld_fz rfl Try.underlying26 rfl (m := 0) (by kernel_rfl) rfl rfl Taken.no) ?_
  refine SL.val (O.ld1 (PtI.ofU (PtU.fz rfl)) rfl Try.underlying3 rfl rfl Taken.no) ?_
  refine SL.val (O.det (fun _ => G.R.eql rfl rfl) rfl Taken.no) ?_
  refine SL.val (O.move rfl rfl Taken.no) ?_
  refine SL.case (j := 5) (g := 9) (want := false) rfl rfl (fun hg1 => ?_) (fun hg1 => ?_)
  · skip
    first | have hg1p := G.gA3 hg1 | have hg1p := G.gA4 hg1 | have hg1p := hg1
    refine SL.val (O.fld_ref (o' := 1) rfl Try.underlying26 rfl (m := 0) (by kernel_rfl) rfl rfl (Taken.yes rfl rfl hg1)) ?_
    refine SL.val (O.ld1 (PtI.ref rfl rfl) rfl Try.underlying3 rfl rfl (Taken.yes rfl rfl hg1)) ?_
    refine SL.val (O.fld_fz rfl Try.underlying26 rfl (m := 0) (by kernel_rfl) rfl rfl (Taken.yes rfl rfl hg1)) ?_
    refine SL.val (O.ld1 (PtI.ofU (PtU.fz rfl)) rfl Try.underlying3 rfl rfl (Taken.yes rfl rfl hg1)) ?_
    refine SL.val (O.det (fun _ => G.R.eql rfl rfl) rfl (Taken.yes rfl rfl hg1)) ?_
    refine SL.val (O.pick_f rfl hg1 rfl rfl Taken.no) ?_
    refine SL.val (O.assign rfl rfl Taken.no) ?_
    refine SL.nil ?_
    refine E.to ?_
    refine W.ret ?_
    refine E.fin (rs := [_]) (rn []) (.inl rfl) rfl (.cons (ResOne.tmp rfl) .nil) ?_ ?_ rfl (fixL_spec rfl)
    · skip
      exact iv_bool (by unfold likeH; first | exact dec_iff (by omega) | exact dec_t (by omega) | exact dec_f (by omega))
    · exact SubS.nil
  · skip
    first | have hg1p := G.gA7 hg1 | have hg1p := G.gA8 hg1 | have hg1p := hg1
    refine SL.skip (OpOk.not rfl rfl rfl hg1) ?_
    refine SL.skip (OpOk.not rfl rfl rfl hg1) ?_
    refine SL.skip (OpOk.not rfl rfl rfl hg1) ?_
    refine SL.skip (OpOk.not rfl rfl rfl hg1) ?_
    refine SL.skip (OpOk.not rfl rfl rfl hg1) ?_
    refine SL.val (O.pick_t rfl (G.ne_f hg1) rfl rfl Taken.no) ?_
    refine SL.val (O.assign rfl rfl Taken.no) ?_
    refine SL.nil ?_
    refine E.to ?_
    refine W.ret ?_
    refine E.fin (rs := [_]) (rn []) (.inl rfl) rfl (.cons (ResOne.tmp rfl) .nil) ?_ ?_ rfl (fixL_spec rfl)
    · skip
      exact iv_bool (by unfold likeH; first | exact dec_iff (by omega) | exact dec_t (by omega) | exact dec_f (by omega))
    · exact SubS.nil

/-- bookplate/hold.Put$1. -/
theorem put1_h {h x : Hd} :
    Con Try.prog 47 [vA (eH x), .u (.ptr (eH h))] [] (vB (decide (likeH x h))) [] := by
  refine Con.enterL (n := 16) Try.func47 rfl rfl rfl (fun τ w ok vs hin => ?_)
  clear hin
  refine W.seq ?_
  refine W.region ?_
  refine SL.memS (O.box (is := [_, _, _, _, _]) 101 rfl rfl (by simp) rfl rfl Taken.no) rfl rfl (S' := (101, _) :: _) rfl ?_
  refine SL.val (O.assign rfl rfl Taken.no) ?_
  refine SL.nil ?_
  refine E.to ?_
  refine W.seq ?_
  refine W.region ?_
  refine SL.val (O.fld_ref (o' := 0) rfl Try.underlying26 rfl (m := 0) (by kernel_rfl) rfl rfl Taken.no) ?_
  refine SL.val (O.ld1 (PtI.ref rfl rfl) rfl Try.underlying3 rfl rfl Taken.no) ?_
  refine SL.val (O.fld_fz rfl Try.underlying26 rfl (m := 0) (by kernel_rfl) rfl rfl Taken.no) ?_
  refine SL.val (O.ld1 (PtI.ofU (PtU.fz rfl)) rfl Try.underlying3 rfl rfl Taken.no) ?_
  refine SL.val (O.det (fun _ => G.R.eql rfl rfl) rfl Taken.no) ?_
  refine SL.val (O.move rfl rfl Taken.no) ?_
  refine SL.case (j := 5) (g := 9) (want := false) rfl rfl (fun hg1 => ?_) (fun hg1 => ?_)
  · skip
    first | have hg1p := G.gA3 hg1 | have hg1p := G.gA4 hg1 | have hg1p := hg1
    refine SL.val (O.fld_ref (o' := 1) rfl Try.underlying26 rfl (m := 0) (by kernel_rfl) rfl rfl (Taken.yes rfl rfl hg1)) ?_
    refine SL.val (O.ld1 (PtI.ref rfl rfl) rfl Try.underlying3 rfl rfl (Taken.yes rfl rfl hg1)) ?_
    refine SL.val (O.fld_fz rfl Try.underlying26 rfl (m := 0) (by kernel_rfl) rfl rfl (Taken.yes rfl rfl hg1)) ?_
    refine SL.val (O.ld1 (PtI.ofU (PtU.fz rfl)) rfl Try.underlying3 rfl rfl (Taken.yes rfl rfl hg1)) ?_
    refine SL.val (O.det (fun _ => G.R.eql rfl rfl) rfl (Taken.yes rfl rfl hg1)) ?_
    refine SL.val (O.pick_f rfl hg1 rfl rfl Taken.no) ?_
    refine SL.val (O.assign rfl rfl Taken.no) ?_
    refine SL.nil ?_
    refine E.to ?_
    refine W.ret ?_
    refine E.fin (rs := [_]) (rn []) (.inl rfl) rfl (.cons (ResOne.tmp rfl) .nil) ?_ ?_ rfl (fixL_spec rfl)
    · skip
      exact iv_bool (by unfold likeH; first | exact dec_iff (by omega) | exact dec_t (by omega) | exact dec_f (by omega))
    · exact SubS.nil
  · skip
    first | have hg1p := G.gA7 hg1 | have hg1p := G.gA8 hg1 | have hg1p := hg1
    refine SL.skip (OpOk.not rfl rfl rfl hg1) ?_
    refine SL.skip (OpOk.not rfl rfl rfl hg1) ?_
    refine SL.skip (OpOk.not rfl rfl rfl hg1) ?_
    refine SL.skip (OpOk.not rfl rfl rfl hg1) ?_
    refine SL.skip (OpOk.not rfl rfl rfl hg1) ?_
    refine SL.val (O.pick_t rfl (G.ne_f hg1) rfl rfl Taken.no) ?_
    refine SL.val (O.assign rfl rfl Taken.no) ?_
    refine SL.nil ?_
    refine E.to ?_
    refine W.ret ?_
    refine E.fin (rs := [_]) (rn []) (.inl rfl) rfl (.cons (ResOne.tmp rfl) .nil) ?_ ?_ rfl (fixL_spec rfl)
    · skip
      exact iv_bool (by unfold likeH; first | exact dec_iff (by omega) | exact dec_t (by omega) | exact dec_f (by omega))
    · exact SubS.nil

/-- bookplate/hold.index$1. -/
theorem index1_h {i : Int} {x : Hd} :
    Con Try.prog 51 [vA (eH x), .u (.ptr [uI i])] [] (vB (decide (x.id = i))) [] := by
  refine Con.enterL (n := 8) Try.func51 rfl rfl rfl (fun τ w ok vs hin => ?_)
  clear hin
  refine W.seq ?_
  refine W.region ?_
  refine SL.memS (O.box (is := [_, _, _, _, _]) 101 rfl rfl (by simp) rfl rfl Taken.no) rfl rfl (S' := (101, _) :: _) rfl ?_
  refine SL.val (O.assign rfl rfl Taken.no) ?_
  refine SL.nil ?_
  refine E.to ?_
  refine W.seq ?_
  refine W.region ?_
  refine SL.val (O.fld_ref (o' := 0) rfl Try.underlying26 rfl (m := 0) (by kernel_rfl) rfl rfl Taken.no) ?_
  refine SL.val (O.ld1 (PtI.ref rfl rfl) rfl Try.underlying3 rfl rfl Taken.no) ?_
  refine SL.val (O.ld1 (PtI.ofU (PtU.fz rfl)) rfl Try.underlying3 rfl rfl Taken.no) ?_
  refine SL.val (O.det (fun _ => G.R.eql rfl rfl) rfl Taken.no) ?_
  refine SL.val (O.assign rfl rfl Taken.no) ?_
  refine SL.nil ?_
  refine E.to ?_
  refine W.ret ?_
  refine E.fin (rs := [_]) (rn []) (.inl rfl) rfl (.cons (ResOne.tmp rfl) .nil) ?_ ?_ rfl (fixL_spec rfl)
  · skip
    rfl
  · exact SubS.nil

/-- bookplate/hold.Next$1. -/
theorem next1_h {x : Hd} :
    Con Try.prog 32 [vA (eH x)] [] (vB (decide (x.ov = 2))) [] := by
  refine Con.enterL (n := 6) Try.func32 rfl rfl rfl (fun τ w ok vs hin => ?_)
  clear hin
  refine W.seq ?_
  refine W.region ?_
  refine SL.memS (O.box (is := [_, _, _, _, _]) 101 rfl rfl (by simp) rfl rfl Taken.no) rfl rfl (S' := (101, _) :: _) rfl ?_
  refine SL.val (O.assign rfl rfl Taken.no) ?_
  refine SL.nil ?_
  refine E.to ?_
  refine W.seq ?_
  refine W.region ?_
  refine SL.val (O.fld_ref (o' := 4) rfl Try.underlying26 rfl (m := 0) (by kernel_rfl) rfl rfl Taken.no) ?_
  refine SL.val (O.ld1 (PtI.ref rfl rfl) rfl Try.underlying3 rfl rfl Taken.no) ?_
  refine SL.val (O.det (fun _ => G.R.eql rfl rfl) rfl Taken.no) ?_
  refine SL.val (O.assign rfl rfl Taken.no) ?_
  refine SL.nil ?_
  refine E.to ?_
  refine W.ret ?_
  refine E.fin (rs := [_]) (rn []) (.inl rfl) rfl (.cons (ResOne.tmp rfl) .nil) ?_ ?_ rfl (fixL_spec rfl)
  · skip
    rfl
  · exact SubS.nil

/-- bookplate/hold.Next$2. -/
theorem next2_h {a b : Hd} :
    Con Try.prog 34 [vA (eH a), vA (eH b)] [] (vI (cmpI a.cls b.cls)) [] := by
  refine Con.enterL (n := 10) Try.func34 rfl rfl rfl (fun τ w ok vs hin => ?_)
  clear hin
  refine W.seq ?_
  refine W.region ?_
  refine SL.memS (O.box (is := [_, _, _, _, _]) 101 rfl rfl (by simp) rfl rfl Taken.no) rfl rfl (S' := (101, _) :: _) rfl ?_
  refine SL.memS (O.box (is := [_, _, _, _, _]) 102 rfl rfl (by simp) rfl rfl Taken.no) rfl rfl (S' := (102, _) :: _) rfl ?_
  refine SL.val (O.assign rfl rfl Taken.no) ?_
  refine SL.nil ?_
  refine E.to ?_
  refine W.seq ?_
  refine W.region ?_
  refine SL.val (O.fld_ref (o' := 2) rfl Try.underlying26 rfl (m := 0) (by kernel_rfl) rfl rfl Taken.no) ?_
  refine SL.val (O.ld1 (PtI.ref rfl rfl) rfl Try.underlying3 rfl rfl Taken.no) ?_
  refine SL.val (O.fld_ref (o' := 2) rfl Try.underlying26 rfl (m := 0) (by kernel_rfl) rfl rfl Taken.no) ?_
  refine SL.val (O.ld1 (PtI.ref rfl rfl) rfl Try.underlying3 rfl rfl Taken.no) ?_
  refine SL.val (O.callp rfl rfl rfl (cmpCompare_h) (.cons (ArgOk.same rfl) (.cons (ArgOk.same rfl) .nil)) hcallOk35 rfl Taken.no) ?_
  refine SL.val (O.assign rfl rfl Taken.no) ?_
  refine SL.nil ?_
  refine E.to ?_
  refine W.ret ?_
  refine E.fin (rs := [_]) (rn []) (.inl rfl) rfl (.cons (ResOne.tmp rfl) .nil) ?_ ?_ rfl (fixL_spec rfl)
  · skip
    rfl
  · exact SubS.nil

end Go.Proofs.Ytlodmhiemndegaa
