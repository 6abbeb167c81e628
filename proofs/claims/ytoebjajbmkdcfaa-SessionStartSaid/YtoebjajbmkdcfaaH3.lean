/-
  The walks.
-/
import Derived.Test.YtoebjajbmkdcfaaH2
namespace Go.Proofs.Ytoebjajbmkdcfaa
open Go Go.RowKit Go.H Go.D51

theorem hinf66 : ∃ i, Try.prog.info? 66 = some i ∧ i.zero = some (.agg #[.int .i64 0, .int .i64 0, .int .i64 0, .bool false]) ∧ i.size = 4 ∧ i.bytes = 32 := G.info_of (by kernel_rfl)
theorem hinf108 : ∃ i, Try.prog.info? 108 = some i ∧ i.zero = some (.agg #[.int .i64 0, .int .i64 0]) ∧ i.size = 2 ∧ i.bytes = 16 := G.info_of (by kernel_rfl)
theorem hinf109 : ∃ i, Try.prog.info? 109 = some i ∧ i.zero = some (.agg #[.int .i64 0, .int .i64 0, .int .i64 0, .bool false]) ∧ i.size = 4 ∧ i.bytes = 32 := G.info_of (by kernel_rfl)
theorem hinf117 : ∃ i, Try.prog.info? 117 = some i ∧ i.zero = some (.agg #[.int .i64 0, .int .i64 0]) ∧ i.size = 2 ∧ i.bytes = 16 := G.info_of (by kernel_rfl)
theorem hcallOk15 : G.callOk Try.prog 15 = true := by kernel_rfl
theorem hcallOk17 : G.callOk Try.prog 17 = true := by kernel_rfl
theorem hcallOk31 : G.callOk Try.prog 31 = true := by kernel_rfl
theorem hcallOk32 : G.callOk Try.prog 32 = true := by kernel_rfl
theorem hcallOk33 : G.callOk Try.prog 33 = true := by kernel_rfl
theorem hcallOk54 : G.callOk Try.prog 54 = true := by kernel_rfl
theorem hcallOk62 : G.callOk Try.prog 62 = true := by kernel_rfl
theorem hcallOk63 : G.callOk Try.prog 63 = true := by kernel_rfl
theorem hcallOk64 : G.callOk Try.prog 64 = true := by kernel_rfl
theorem hcallOk72 : G.callOk Try.prog 72 = true := by kernel_rfl

set_option maxRecDepth 8000 in
/-- bookplate/session.ValidLeads. -/
theorem validLeads_h {l : List Lead} :
    Con Try.prog 31 [vL 2 (l.map eLd)] [] (vB (decide (validL l))) [] := by
 obtain ⟨i108, hi108, hz108, hs108, hb108⟩ := hinf108
 refine Con.enterL (n := 53) Try.func31 rfl rfl rfl (fun τ w ok vs hin => ?_)
 have hl0 := hin.len (i := 0) rfl
 try rw [List.length_map] at hl0
 clear hin
 refine W.seq ?_
 refine W.region ?_
 refine SL.val (O.assign rfl rfl Taken.no) ?_
 refine SL.nil ?_
 refine E.to ?_
 refine W.seq ?_
 refine W.seq ?_
 refine W.region ?_
 refine SL.val (O.move rfl rfl Taken.no) ?_
 refine SL.val (O.lenE (SlOf.fz rfl (by decide)) (by first | exact List.length_map _ | rfl) Try.underlying52 rfl Taken.no) ?_
 refine SL.val (O.move rfl rfl Taken.no) ?_
 refine SL.nil ?_
 refine E.to ?_
 refine W.block ?_
 refine W.loopx1 (fun (k : Nat) => [(7, vI (k : Int))]) (fun (k : Nat) => []) (fun (k : Nat) => k ≤ l.length ∧ ∀ j, j < k → okL l j) (fun (k : Nat) => l.length - k) (0) (rn []) (.cons (t := 0) rfl (.cons (t := 5) rfl (.cons (t := 6) rfl .nil))) .nil rfl ?_ ?_ rfl rfl ?_ ?_
 · exact (SubF.cons rfl SubF.nil)
 · exact SubS.nil
 ·skip
  exact ⟨by omega, fun j h => by omega⟩
 intro k hinv
 obtain ⟨hk, hp⟩ := hinv
 refine W.seq ?_
 refine W.region ?_
 refine SL.val (O.det (fun _ => G.R.lss rfl rfl) rfl Taken.no) ?_
 refine SL.nil ?_
 refine E.to ?_
 refine W.seq ?_
 first | refine W.cond_d rfl (fun hc1 => ?_) (fun hc1 => ?_) | refine W.cond_nd rfl (fun hc1 => ?_) (fun hc1 => ?_) | refine W.cond rfl (fun hc1 => ?_) (fun hc1 => ?_)
 ·skip
  refine W.skip ?_
  refine E.to ?_
  refine W.seq ?_
  refine W.block ?_
  refine W.seq ?_
  refine W.region ?_
  refine SL.val (O.move rfl rfl Taken.no) ?_
  refine SL.val (O.idx_fz rfl rfl (rfl) (row_get (by omega)) Try.underlying52 hi108 hs108 rfl Taken.no) ?_
  refine SL.val (O.ldU (m := 2) (PtU.fz rfl) rfl Try.underlying108 rfl (by kernel_rfl) rfl Taken.no) ?_
  refine SL.memS (O.alloc (z := .agg #[.int .i64 0, .int .i64 0]) (is := [.u (.sc (.int .i64 0)), .u (.sc (.int .i64 0))]) 101 (by kernel_rfl) rfl rfl rfl Taken.no) rfl rfl (S' := (101, _) :: _) rfl ?_
  refine SL.val (O.assign rfl rfl Taken.no) ?_
  refine SL.effS (O.st_ref (m := 2) rfl rfl rfl (js := [_, _]) rfl rfl (by kernel_rfl) (by simp) (Nat.le_of_ble_eq_true rfl) rfl (is' := [_, _]) rfl Taken.no) (S' := (101, _) :: _) rfl ?_
  refine SL.nil ?_
  refine E.to ?_
  refine W.seq ?_
  refine W.draw [⟨[101], [], []⟩, ⟨[101], [], []⟩, ⟨[], [], []⟩, ⟨[], [], []⟩, ⟨[101], [], []⟩, ⟨[101], [], []⟩, ⟨[], [], []⟩, ⟨[], [], []⟩, ⟨[], [], []⟩, ⟨[101], [], []⟩, ⟨[101], [], []⟩, ⟨[], [], []⟩, ⟨[], [], []⟩, ⟨[], [], []⟩, ⟨[101], [], []⟩, ⟨[101], [], []⟩, ⟨[], [], []⟩, ⟨[], [], []⟩, ⟨[], [], []⟩, ⟨[101], [], []⟩, ⟨[101], [], []⟩, ⟨[101], [], []⟩, ⟨[101], [], []⟩, ⟨[], [], []⟩, ⟨[], [], []⟩, ⟨[], [], []⟩, ⟨[], [], []⟩, ⟨[], [], []⟩, ⟨[], [], []⟩, ⟨[], [], []⟩, ⟨[], [], []⟩, ⟨[], [], []⟩, ⟨[], [], []⟩, ⟨[], [], []⟩, ⟨[], [], []⟩, ⟨[101], [], []⟩, ⟨[101], [], []⟩, ⟨[], [], []⟩, ⟨[], [], []⟩, ⟨[], [], []⟩] rfl (by kernel_rfl) (by kernel_rfl) rfl rfl ?_
  refine WH.val (O.fld_ref (o' := 0) rfl Try.underlying108 rfl (m := 0) (by kernel_rfl) rfl rfl Taken.no) rfl rfl ?_
  refine WH.val (O.ld1 (PtI.ref rfl rfl) rfl Try.underlying3 rfl rfl Taken.no) rfl rfl ?_
  refine WH.val (O.det (fun _ => G.R.lss rfl rfl) rfl Taken.no) rfl rfl ?_
  refine WH.val (O.move rfl rfl Taken.no) rfl rfl ?_
  refine WH.case (j := 3) (g := 15) (want := false) rfl rfl (fun hg2 => ?_) (fun hg2 => ?_)
  ·skip
   first | have hg2p := G.gA3 hg2 | have hg2p := G.gA4 hg2 | have hg2p := hg2
   refine WH.val (O.fld_ref (o' := 0) rfl Try.underlying108 rfl (m := 0) (by kernel_rfl) rfl rfl (Taken.yes rfl rfl hg2)) rfl rfl ?_
   refine WH.val (O.ld1 (PtI.ref rfl rfl) rfl Try.underlying3 rfl rfl (Taken.yes rfl rfl hg2)) rfl rfl ?_
   refine WH.val (O.det (fun _ => G.R.gtr rfl rfl) rfl (Taken.yes rfl rfl hg2)) rfl rfl ?_
   refine WH.val (O.pick_f rfl hg2 rfl rfl Taken.no) rfl rfl ?_
   refine WH.val (O.move rfl rfl Taken.no) rfl rfl ?_
   refine WH.case (j := 8) (g := 20) (want := false) rfl rfl (fun hg3 => ?_) (fun hg3 => ?_)
   ·skip
    first | have hg3p := G.gA3 hg3 | have hg3p := G.gA4 hg3 | have hg3p := hg3
    refine WH.val (O.fld_ref (o' := 1) rfl Try.underlying108 rfl (m := 0) (by kernel_rfl) rfl rfl (Taken.yes rfl rfl hg3)) rfl rfl ?_
    refine WH.val (O.ld1 (PtI.ref rfl rfl) rfl Try.underlying3 rfl rfl (Taken.yes rfl rfl hg3)) rfl rfl ?_
    refine WH.val (O.det (fun _ => G.R.lss rfl rfl) rfl (Taken.yes rfl rfl hg3)) rfl rfl ?_
    refine WH.val (O.pick_f rfl hg3 rfl rfl Taken.no) rfl rfl ?_
    refine WH.val (O.move rfl rfl Taken.no) rfl rfl ?_
    refine WH.case (j := 13) (g := 25) (want := false) rfl rfl (fun hg4 => ?_) (fun hg4 => ?_)
    ·skip
     first | have hg4p := G.gA3 hg4 | have hg4p := G.gA4 hg4 | have hg4p := hg4
     refine WH.val (O.fld_ref (o' := 1) rfl Try.underlying108 rfl (m := 0) (by kernel_rfl) rfl rfl (Taken.yes rfl rfl hg4)) rfl rfl ?_
     refine WH.val (O.ld1 (PtI.ref rfl rfl) rfl Try.underlying3 rfl rfl (Taken.yes rfl rfl hg4)) rfl rfl ?_
     refine WH.val (O.det (fun _ => G.R.gtr rfl rfl) rfl (Taken.yes rfl rfl hg4)) rfl rfl ?_
     refine WH.val (O.pick_f rfl hg4 rfl rfl Taken.no) rfl rfl ?_
     refine WH.val (O.move rfl rfl Taken.no) rfl rfl ?_
     refine WH.case (j := 18) (g := 30) (want := false) rfl rfl (fun hg5 => ?_) (fun hg5 => ?_)
     ·skip
      first | have hg5p := G.gA3 hg5 | have hg5p := G.gA4 hg5 | have hg5p := hg5
      refine WH.val (O.fld_ref (o' := 0) rfl Try.underlying108 rfl (m := 0) (by kernel_rfl) rfl rfl (Taken.yes rfl rfl hg5)) rfl rfl ?_
      refine WH.val (O.ld1 (PtI.ref rfl rfl) rfl Try.underlying3 rfl rfl (Taken.yes rfl rfl hg5)) rfl rfl ?_
      refine WH.val (O.fld_ref (o' := 1) rfl Try.underlying108 rfl (m := 0) (by kernel_rfl) rfl rfl (Taken.yes rfl rfl hg5)) rfl rfl ?_
      refine WH.val (O.ld1 (PtI.ref rfl rfl) rfl Try.underlying3 rfl rfl (Taken.yes rfl rfl hg5)) rfl rfl ?_
      refine WH.val (O.det (fun _ => G.R.eql rfl rfl) rfl (Taken.yes rfl rfl hg5)) rfl rfl ?_
      refine WH.val (O.pick_f rfl hg5 rfl rfl Taken.no) rfl rfl ?_
      refine WH.val (O.move rfl rfl Taken.no) rfl rfl ?_
      refine WH.case (j := 25) (g := 37) (want := false) rfl rfl (fun hg6 => ?_) (fun hg6 => ?_)
      ·skip
       first | have hg6p := G.gA3 hg6 | have hg6p := G.gA4 hg6 | have hg6p := hg6
       refine WH.val (O.move rfl rfl (Taken.yes rfl rfl hg6)) rfl rfl ?_
       refine WH.val (O.det (fun _ => G.R.gtr rfl rfl) rfl (Taken.yes rfl rfl hg6)) rfl rfl ?_
       refine WH.val (O.move rfl rfl (Taken.yes rfl rfl hg6)) rfl rfl ?_
       refine WH.case (j := 28) (g := 40) (want := true) rfl rfl (fun hg7 => ?_) (fun hg7 => ?_)
       ·skip
        first | have hg7p := G.gA1 hg7 | have hg7p := G.gA2 hg7 | have hg7p := hg7
        refine WH.val (O.move rfl rfl (Taken.yes rfl rfl hg7)) rfl rfl ?_
        refine WH.val (O.move rfl rfl (Taken.yes rfl rfl hg7)) rfl rfl ?_
        refine WH.val (O.det (fun _ => by first | exact G.R.sub64 rfl rfl (by omega) | exact G.R.sub rfl rfl) rfl (Taken.yes rfl rfl hg7)) rfl rfl ?_
        refine WH.val (O.idx_fz (i := (k - 1)) rfl rfl (by omega) (row_get (by omega)) Try.underlying52 hi108 hs108 rfl (Taken.yes rfl rfl hg7)) rfl rfl ?_
        refine WH.val (O.fld_fz rfl Try.underlying108 rfl (m := 0) (by kernel_rfl) rfl rfl (Taken.yes rfl rfl hg7)) rfl rfl ?_
        refine WH.val (O.ld1 (PtI.ofU (PtU.fz rfl)) rfl Try.underlying3 rfl rfl (Taken.yes rfl rfl hg7)) rfl rfl ?_
        refine WH.val (O.fld_ref (o' := 0) rfl Try.underlying108 rfl (m := 0) (by kernel_rfl) rfl rfl (Taken.yes rfl rfl hg7)) rfl rfl ?_
        refine WH.val (O.ld1 (PtI.ref rfl rfl) rfl Try.underlying3 rfl rfl (Taken.yes rfl rfl hg7)) rfl rfl ?_
        refine WH.val (O.det (fun _ => G.R.geq rfl rfl) rfl (Taken.yes rfl rfl hg7)) rfl rfl ?_
        refine WH.val (O.pick_t rfl hg7 rfl rfl (Taken.yes rfl rfl hg6)) rfl rfl ?_
        refine WH.val (O.pick_f rfl hg6 rfl rfl Taken.no) rfl rfl ?_
        refine WH.nil ?_
        refine E.to ?_
        refine W.pick (.cons (t := 0) rfl (.cons (t := 5) rfl (.cons (t := 6) rfl (.cons (t := 7) rfl (.cons (t := 51) rfl .nil))))) (.cons (t := 101) rfl .nil) ?_
        first | refine W.cond_d rfl (fun hc8 => ?_) (fun hc8 => ?_) | refine W.cond_nd rfl (fun hc8 => ?_) (fun hc8 => ?_) | refine W.cond rfl (fun hc8 => ?_) (fun hc8 => ?_)
        ·skip
         refine W.seq ?_
         refine W.region ?_
         refine SL.val (O.assign rfl rfl Taken.no) ?_
         refine SL.nil ?_
         refine E.to ?_
         refine W.ret ?_
         refine E.inr ?_
         refine E.thr ?_
         refine E.thr ?_
         refine E.inr ?_
         refine E.thr ?_
         refine E.fin (rs := [_]) (rn []) (.inl rfl) rfl (.cons (ResOne.tmp rfl) .nil) ?_ ?_ rfl (fixL_spec rfl)
         ·skip
          exact iv_bool (validL_no (k := k) (by omega) (fun h => by unfold okL at h; omega))
         · exact SubS.nil
        ·skip
         refine W.skip ?_
         refine E.inn ?_
         refine E.to ?_
         refine W.region ?_
         refine SL.val (O.det (fun _ => by first | exact G.R.add64 rfl rfl (by omega) | exact G.R.add rfl rfl) rfl Taken.no) ?_
         refine SL.val (O.move rfl rfl Taken.no) ?_
         refine SL.nil ?_
         refine E.again ((k + 1)) (rn []) ?_ ?_ rfl (fixL_spec rfl) ?_ ?_
         · exact (SubF.cons rfl (SubF.cons rfl (SubF.cons rfl (SubF.cons rfl SubF.nil))))
         · exact SubS.nil
         ·try dsimp only
          exact ⟨by omega, okL_step hp ⟨by omega, fun h0 => by omega⟩⟩
         · (try dsimp only); omega
       ·skip
        first | have hg7p := G.gA5 hg7 | have hg7p := G.gA6 hg7 | have hg7p := hg7
        refine WH.skip (OpOk.not rfl rfl rfl hg7) ?_
        refine WH.skip (OpOk.not rfl rfl rfl hg7) ?_
        refine WH.skip (OpOk.not rfl rfl rfl hg7) ?_
        refine WH.skip (OpOk.not rfl rfl rfl hg7) ?_
        refine WH.skip (OpOk.not rfl rfl rfl hg7) ?_
        refine WH.skip (OpOk.not rfl rfl rfl hg7) ?_
        refine WH.skip (OpOk.not rfl rfl rfl hg7) ?_
        refine WH.skip (OpOk.not rfl rfl rfl hg7) ?_
        refine WH.skip (OpOk.not rfl rfl rfl hg7) ?_
        refine WH.val (O.pick_f rfl (G.ne_t hg7) rfl rfl (Taken.yes rfl rfl hg6)) rfl rfl ?_
        refine WH.val (O.pick_f rfl hg6 rfl rfl Taken.no) rfl rfl ?_
        refine WH.nil ?_
        refine E.to ?_
        refine W.pick (.cons (t := 0) rfl (.cons (t := 5) rfl (.cons (t := 6) rfl (.cons (t := 7) rfl (.cons (t := 51) rfl .nil))))) (.cons (t := 101) rfl .nil) ?_
        refine W.cond_f rfl ?_
        refine W.skip ?_
        refine E.inn ?_
        refine E.to ?_
        refine W.region ?_
        refine SL.val (O.det (fun _ => by first | exact G.R.add64 rfl rfl (by omega) | exact G.R.add rfl rfl) rfl Taken.no) ?_
        refine SL.val (O.move rfl rfl Taken.no) ?_
        refine SL.nil ?_
        refine E.again ((k + 1)) (rn []) ?_ ?_ rfl (fixL_spec rfl) ?_ ?_
        · exact (SubF.cons rfl (SubF.cons rfl (SubF.cons rfl (SubF.cons rfl SubF.nil))))
        · exact SubS.nil
        ·try dsimp only
         exact ⟨by omega, okL_step hp ⟨by omega, fun h0 => by omega⟩⟩
        · (try dsimp only); omega
      ·skip
       first | have hg6p := G.gA7 hg6 | have hg6p := G.gA8 hg6 | have hg6p := hg6
       refine WH.skip (OpOk.not rfl rfl rfl hg6) ?_
       refine WH.skip (OpOk.not rfl rfl rfl hg6) ?_
       refine WH.skip (OpOk.not rfl rfl rfl hg6) ?_
       refine WH.skip (OpOk.not2 rfl rfl rfl) ?_
       refine WH.skip (OpOk.not2 rfl rfl rfl) ?_
       refine WH.skip (OpOk.not2 rfl rfl rfl) ?_
       refine WH.skip (OpOk.not2 rfl rfl rfl) ?_
       refine WH.skip (OpOk.not2 rfl rfl rfl) ?_
       refine WH.skip (OpOk.not2 rfl rfl rfl) ?_
       refine WH.skip (OpOk.not2 rfl rfl rfl) ?_
       refine WH.skip (OpOk.not2 rfl rfl rfl) ?_
       refine WH.skip (OpOk.not2 rfl rfl rfl) ?_
       refine WH.skip (OpOk.not rfl rfl rfl hg6) ?_
       refine WH.val (O.pick_t rfl (G.ne_f hg6) rfl rfl Taken.no) rfl rfl ?_
       refine WH.nil ?_
       refine E.to ?_
       refine W.pick (.cons (t := 0) rfl (.cons (t := 5) rfl (.cons (t := 6) rfl (.cons (t := 7) rfl (.cons (t := 51) rfl .nil))))) (.cons (t := 101) rfl .nil) ?_
       refine W.cond_t rfl ?_
       refine W.seq ?_
       refine W.region ?_
       refine SL.val (O.assign rfl rfl Taken.no) ?_
       refine SL.nil ?_
       refine E.to ?_
       refine W.ret ?_
       refine E.inr ?_
       refine E.thr ?_
       refine E.thr ?_
       refine E.inr ?_
       refine E.thr ?_
       refine E.fin (rs := [_]) (rn []) (.inl rfl) rfl (.cons (ResOne.tmp rfl) .nil) ?_ ?_ rfl (fixL_spec rfl)
       ·skip
        exact iv_bool (validL_no (k := k) (by omega) (fun h => by unfold okL at h; omega))
       · exact SubS.nil
     ·skip
      first | have hg5p := G.gA7 hg5 | have hg5p := G.gA8 hg5 | have hg5p := hg5
      refine WH.skip (OpOk.not rfl rfl rfl hg5) ?_
      refine WH.skip (OpOk.not rfl rfl rfl hg5) ?_
      refine WH.skip (OpOk.not rfl rfl rfl hg5) ?_
      refine WH.skip (OpOk.not rfl rfl rfl hg5) ?_
      refine WH.skip (OpOk.not rfl rfl rfl hg5) ?_
      refine WH.val (O.pick_t rfl (G.ne_f hg5) rfl rfl Taken.no) rfl rfl ?_
      refine WH.val (O.move rfl rfl Taken.no) rfl rfl ?_
      have hg9 : true ≠ false := by decide
      refine WH.skip (OpOk.not rfl rfl rfl hg9) ?_
      refine WH.skip (OpOk.not rfl rfl rfl hg9) ?_
      refine WH.skip (OpOk.not rfl rfl rfl hg9) ?_
      refine WH.skip (OpOk.not2 rfl rfl rfl) ?_
      refine WH.skip (OpOk.not2 rfl rfl rfl) ?_
      refine WH.skip (OpOk.not2 rfl rfl rfl) ?_
      refine WH.skip (OpOk.not2 rfl rfl rfl) ?_
      refine WH.skip (OpOk.not2 rfl rfl rfl) ?_
      refine WH.skip (OpOk.not2 rfl rfl rfl) ?_
      refine WH.skip (OpOk.not2 rfl rfl rfl) ?_
      refine WH.skip (OpOk.not2 rfl rfl rfl) ?_
      refine WH.skip (OpOk.not2 rfl rfl rfl) ?_
      refine WH.skip (OpOk.not rfl rfl rfl hg9) ?_
      refine WH.val (O.pick_t rfl rfl rfl rfl Taken.no) rfl rfl ?_
      refine WH.nil ?_
      refine E.to ?_
      refine W.pick (.cons (t := 0) rfl (.cons (t := 5) rfl (.cons (t := 6) rfl (.cons (t := 7) rfl (.cons (t := 51) rfl .nil))))) (.cons (t := 101) rfl .nil) ?_
      refine W.cond_t rfl ?_
      refine W.seq ?_
      refine W.region ?_
      refine SL.val (O.assign rfl rfl Taken.no) ?_
      refine SL.nil ?_
      refine E.to ?_
      refine W.ret ?_
      refine E.inr ?_
      refine E.thr ?_
      refine E.thr ?_
      refine E.inr ?_
      refine E.thr ?_
      refine E.fin (rs := [_]) (rn []) (.inl rfl) rfl (.cons (ResOne.tmp rfl) .nil) ?_ ?_ rfl (fixL_spec rfl)
      ·skip
       exact iv_bool (validL_no (k := k) (by omega) (fun h => by unfold okL at h; omega))
      · exact SubS.nil
    ·skip
     first | have hg4p := G.gA7 hg4 | have hg4p := G.gA8 hg4 | have hg4p := hg4
     refine WH.skip (OpOk.not rfl rfl rfl hg4) ?_
     refine WH.skip (OpOk.not rfl rfl rfl hg4) ?_
     refine WH.skip (OpOk.not rfl rfl rfl hg4) ?_
     refine WH.val (O.pick_t rfl (G.ne_f hg4) rfl rfl Taken.no) rfl rfl ?_
     refine WH.val (O.move rfl rfl Taken.no) rfl rfl ?_
     have hg10 : true ≠ false := by decide
     refine WH.skip (OpOk.not rfl rfl rfl hg10) ?_
     refine WH.skip (OpOk.not rfl rfl rfl hg10) ?_
     refine WH.skip (OpOk.not rfl rfl rfl hg10) ?_
     refine WH.skip (OpOk.not rfl rfl rfl hg10) ?_
     refine WH.skip (OpOk.not rfl rfl rfl hg10) ?_
     refine WH.val (O.pick_t rfl rfl rfl rfl Taken.no) rfl rfl ?_
     refine WH.val (O.move rfl rfl Taken.no) rfl rfl ?_
     have hg11 : true ≠ false := by decide
     refine WH.skip (OpOk.not rfl rfl rfl hg11) ?_
     refine WH.skip (OpOk.not rfl rfl rfl hg11) ?_
     refine WH.skip (OpOk.not rfl rfl rfl hg11) ?_
     refine WH.skip (OpOk.not2 rfl rfl rfl) ?_
     refine WH.skip (OpOk.not2 rfl rfl rfl) ?_
     refine WH.skip (OpOk.not2 rfl rfl rfl) ?_
     refine WH.skip (OpOk.not2 rfl rfl rfl) ?_
     refine WH.skip (OpOk.not2 rfl rfl rfl) ?_
     refine WH.skip (OpOk.not2 rfl rfl rfl) ?_
     refine WH.skip (OpOk.not2 rfl rfl rfl) ?_
     refine WH.skip (OpOk.not2 rfl rfl rfl) ?_
     refine WH.skip (OpOk.not2 rfl rfl rfl) ?_
     refine WH.skip (OpOk.not rfl rfl rfl hg11) ?_
     refine WH.val (O.pick_t rfl rfl rfl rfl Taken.no) rfl rfl ?_
     refine WH.nil ?_
     refine E.to ?_
     refine W.pick (.cons (t := 0) rfl (.cons (t := 5) rfl (.cons (t := 6) rfl (.cons (t := 7) rfl (.cons (t := 51) rfl .nil))))) (.cons (t := 101) rfl .nil) ?_
     refine W.cond_t rfl ?_
     refine W.seq ?_
     refine W.region ?_
     refine SL.val (O.assign rfl rfl Taken.no) ?_
     refine SL.nil ?_
     refine E.to ?_
     refine W.ret ?_
     refine E.inr ?_
     refine E.thr ?_
     refine E.thr ?_
     refine E.inr ?_
     refine E.thr ?_
     refine E.fin (rs := [_]) (rn []) (.inl rfl) rfl (.cons (ResOne.tmp rfl) .nil) ?_ ?_ rfl (fixL_spec rfl)
     ·skip
      exact iv_bool (validL_no (k := k) (by omega) (fun h => by unfold okL at h; omega))
     · exact SubS.nil
   ·skip
    first | have hg3p := G.gA7 hg3 | have hg3p := G.gA8 hg3 | have hg3p := hg3
    refine WH.skip (OpOk.not rfl rfl rfl hg3) ?_
    refine WH.skip (OpOk.not rfl rfl rfl hg3) ?_
    refine WH.skip (OpOk.not rfl rfl rfl hg3) ?_
    refine WH.val (O.pick_t rfl (G.ne_f hg3) rfl rfl Taken.no) rfl rfl ?_
    refine WH.val (O.move rfl rfl Taken.no) rfl rfl ?_
    have hg12 : true ≠ false := by decide
    refine WH.skip (OpOk.not rfl rfl rfl hg12) ?_
    refine WH.skip (OpOk.not rfl rfl rfl hg12) ?_
    refine WH.skip (OpOk.not rfl rfl rfl hg12) ?_
    refine WH.val (O.pick_t rfl rfl rfl rfl Taken.no) rfl rfl ?_
    refine WH.val (O.move rfl rfl Taken.no) rfl rfl ?_
    have hg13 : true ≠ false := by decide
    refine WH.skip (OpOk.not rfl rfl rfl hg13) ?_
    refine WH.skip (OpOk.not rfl rfl rfl hg13) ?_
    refine WH.skip (OpOk.not rfl rfl rfl hg13) ?_
    refine WH.skip (OpOk.not rfl rfl rfl hg13) ?_
    refine WH.skip (OpOk.not rfl rfl rfl hg13) ?_
    refine WH.val (O.pick_t rfl rfl rfl rfl Taken.no) rfl rfl ?_
    refine WH.val (O.move rfl rfl Taken.no) rfl rfl ?_
    have hg14 : true ≠ false := by decide
    refine WH.skip (OpOk.not rfl rfl rfl hg14) ?_
    refine WH.skip (OpOk.not rfl rfl rfl hg14) ?_
    refine WH.skip (OpOk.not rfl rfl rfl hg14) ?_
    refine WH.skip (OpOk.not2 rfl rfl rfl) ?_
    refine WH.skip (OpOk.not2 rfl rfl rfl) ?_
    refine WH.skip (OpOk.not2 rfl rfl rfl) ?_
    refine WH.skip (OpOk.not2 rfl rfl rfl) ?_
    refine WH.skip (OpOk.not2 rfl rfl rfl) ?_
    refine WH.skip (OpOk.not2 rfl rfl rfl) ?_
    refine WH.skip (OpOk.not2 rfl rfl rfl) ?_
    refine WH.skip (OpOk.not2 rfl rfl rfl) ?_
    refine WH.skip (OpOk.not2 rfl rfl rfl) ?_
    refine WH.skip (OpOk.not rfl rfl rfl hg14) ?_
    refine WH.val (O.pick_t rfl rfl rfl rfl Taken.no) rfl rfl ?_
    refine WH.nil ?_
    refine E.to ?_
    refine W.pick (.cons (t := 0) rfl (.cons (t := 5) rfl (.cons (t := 6) rfl (.cons (t := 7) rfl (.cons (t := 51) rfl .nil))))) (.cons (t := 101) rfl .nil) ?_
    refine W.cond_t rfl ?_
    refine W.seq ?_
    refine W.region ?_
    refine SL.val (O.assign rfl rfl Taken.no) ?_
    refine SL.nil ?_
    refine E.to ?_
    refine W.ret ?_
    refine E.inr ?_
    refine E.thr ?_
    refine E.thr ?_
    refine E.inr ?_
    refine E.thr ?_
    refine E.fin (rs := [_]) (rn []) (.inl rfl) rfl (.cons (ResOne.tmp rfl) .nil) ?_ ?_ rfl (fixL_spec rfl)
    ·skip
     exact iv_bool (validL_no (k := k) (by omega) (fun h => by unfold okL at h; omega))
    · exact SubS.nil
  ·skip
   first | have hg2p := G.gA7 hg2 | have hg2p := G.gA8 hg2 | have hg2p := hg2
   refine WH.skip (OpOk.not rfl rfl rfl hg2) ?_
   refine WH.skip (OpOk.not rfl rfl rfl hg2) ?_
   refine WH.skip (OpOk.not rfl rfl rfl hg2) ?_
   refine WH.val (O.pick_t rfl (G.ne_f hg2) rfl rfl Taken.no) rfl rfl ?_
   refine WH.val (O.move rfl rfl Taken.no) rfl rfl ?_
   have hg15 : true ≠ false := by decide
   refine WH.skip (OpOk.not rfl rfl rfl hg15) ?_
   refine WH.skip (OpOk.not rfl rfl rfl hg15) ?_
   refine WH.skip (OpOk.not rfl rfl rfl hg15) ?_
   refine WH.val (O.pick_t rfl rfl rfl rfl Taken.no) rfl rfl ?_
   refine WH.val (O.move rfl rfl Taken.no) rfl rfl ?_
   have hg16 : true ≠ false := by decide
   refine WH.skip (OpOk.not rfl rfl rfl hg16) ?_
   refine WH.skip (OpOk.not rfl rfl rfl hg16) ?_
   refine WH.skip (OpOk.not rfl rfl rfl hg16) ?_
   refine WH.val (O.pick_t rfl rfl rfl rfl Taken.no) rfl rfl ?_
   refine WH.val (O.move rfl rfl Taken.no) rfl rfl ?_
   have hg17 : true ≠ false := by decide
   refine WH.skip (OpOk.not rfl rfl rfl hg17) ?_
   refine WH.skip (OpOk.not rfl rfl rfl hg17) ?_
   refine WH.skip (OpOk.not rfl rfl rfl hg17) ?_
   refine WH.skip (OpOk.not rfl rfl rfl hg17) ?_
   refine WH.skip (OpOk.not rfl rfl rfl hg17) ?_
   refine WH.val (O.pick_t rfl rfl rfl rfl Taken.no) rfl rfl ?_
   refine WH.val (O.move rfl rfl Taken.no) rfl rfl ?_
   have hg18 : true ≠ false := by decide
   refine WH.skip (OpOk.not rfl rfl rfl hg18) ?_
   refine WH.skip (OpOk.not rfl rfl rfl hg18) ?_
   refine WH.skip (OpOk.not rfl rfl rfl hg18) ?_
   refine WH.skip (OpOk.not2 rfl rfl rfl) ?_
   refine WH.skip (OpOk.not2 rfl rfl rfl) ?_
   refine WH.skip (OpOk.not2 rfl rfl rfl) ?_
   refine WH.skip (OpOk.not2 rfl rfl rfl) ?_
   refine WH.skip (OpOk.not2 rfl rfl rfl) ?_
   refine WH.skip (OpOk.not2 rfl rfl rfl) ?_
   refine WH.skip (OpOk.not2 rfl rfl rfl) ?_
   refine WH.skip (OpOk.not2 rfl rfl rfl) ?_
   refine WH.skip (OpOk.not2 rfl rfl rfl) ?_
   refine WH.skip (OpOk.not rfl rfl rfl hg18) ?_
   refine WH.val (O.pick_t rfl rfl rfl rfl Taken.no) rfl rfl ?_
   refine WH.nil ?_
   refine E.to ?_
   refine W.pick (.cons (t := 0) rfl (.cons (t := 5) rfl (.cons (t := 6) rfl (.cons (t := 7) rfl (.cons (t := 51) rfl .nil))))) (.cons (t := 101) rfl .nil) ?_
   refine W.cond_t rfl ?_
   refine W.seq ?_
   refine W.region ?_
   refine SL.val (O.assign rfl rfl Taken.no) ?_
   refine SL.nil ?_
   refine E.to ?_
   refine W.ret ?_
   refine E.inr ?_
   refine E.thr ?_
   refine E.thr ?_
   refine E.inr ?_
   refine E.thr ?_
   refine E.fin (rs := [_]) (rn []) (.inl rfl) rfl (.cons (ResOne.tmp rfl) .nil) ?_ ?_ rfl (fixL_spec rfl)
   ·skip
    exact iv_bool (validL_no (k := k) (by omega) (fun h => by unfold okL at h; omega))
   · exact SubS.nil
 ·skip
  refine W.exit ?_
  refine E.th ?_
  refine E.th ?_
  refine E.hit ?_
  refine E.to ?_
  refine W.seq ?_
  refine W.region ?_
  refine SL.val (O.assign rfl rfl Taken.no) ?_
  refine SL.nil ?_
  refine E.to ?_
  refine W.ret ?_
  refine E.fin (rs := [_]) (rn []) (.inl rfl) rfl (.cons (ResOne.tmp rfl) .nil) ?_ ?_ rfl (fixL_spec rfl)
  ·skip
   exact iv_bool (dec_t (fun j hj => hp j (by omega)))
  · exact SubS.nil

set_option maxRecDepth 8000 in
/-- bookplate/bookplateref51.ValidLeads. -/
theorem refValidLeads_h {l : List Lead} :
    Con Try.prog 32 [vL 2 (l.map eLd)] [] (vB (decide (validL l))) [] := by
 obtain ⟨i117, hi117, hz117, hs117, hb117⟩ := hinf117
 refine Con.enterL (n := 71) Try.func32 rfl rfl rfl (fun τ w ok vs hin => ?_)
 have hl0 := hin.len (i := 0) rfl
 try rw [List.length_map] at hl0
 clear hin
 refine W.seq ?_
 refine W.region ?_
 refine SL.val (O.assign rfl rfl Taken.no) ?_
 refine SL.nil ?_
 refine E.to ?_
 refine W.seq ?_
 refine W.seq ?_
 refine W.region ?_
 refine SL.val (O.assign rfl rfl Taken.no) ?_
 refine SL.nil ?_
 refine E.to ?_
 refine W.block ?_
 refine W.loopx1 (fun (k : Nat) => [(3, vI (k : Int))]) (fun (k : Nat) => []) (fun (k : Nat) => k ≤ l.length ∧ ∀ j, j < k → okL l j) (fun (k : Nat) => l.length - k) (0) (rn []) (.cons (t := 0) rfl .nil) .nil rfl ?_ ?_ rfl rfl ?_ ?_
 · exact (SubF.cons rfl SubF.nil)
 · exact SubS.nil
 ·skip
  exact ⟨by omega, fun j h => by omega⟩
 intro k hinv
 obtain ⟨hk, hp⟩ := hinv
 refine W.seq ?_
 refine W.seq ?_
 refine W.region ?_
 refine SL.val (O.move rfl rfl Taken.no) ?_
 refine SL.val (O.move rfl rfl Taken.no) ?_
 refine SL.val (O.lenE (SlOf.fz rfl (by decide)) (by first | exact List.length_map _ | rfl) Try.underlying48 rfl Taken.no) ?_
 refine SL.val (O.det (fun _ => G.R.lss rfl rfl) rfl Taken.no) ?_
 refine SL.nil ?_
 refine E.to ?_
 first | refine W.cond_d rfl (fun hc1 => ?_) (fun hc1 => ?_) | refine W.cond_nd rfl (fun hc1 => ?_) (fun hc1 => ?_) | refine W.cond rfl (fun hc1 => ?_) (fun hc1 => ?_)
 ·skip
  refine W.skip ?_
  refine E.to ?_
  refine W.seq ?_
  refine W.block ?_
  refine W.seq ?_
  refine W.draw [⟨[], [], []⟩, ⟨[], [], []⟩, ⟨[], [], []⟩, ⟨[], [], []⟩, ⟨[], [], []⟩, ⟨[], [], []⟩, ⟨[], [], []⟩, ⟨[], [], []⟩, ⟨[], [], []⟩, ⟨[], [], []⟩, ⟨[], [], []⟩, ⟨[], [], []⟩, ⟨[], [], []⟩, ⟨[], [], []⟩, ⟨[], [], []⟩, ⟨[], [], []⟩, ⟨[], [], []⟩, ⟨[], [], []⟩, ⟨[], [], []⟩, ⟨[], [], []⟩, ⟨[], [], []⟩, ⟨[], [], []⟩, ⟨[], [], []⟩, ⟨[], [], []⟩, ⟨[], [], []⟩, ⟨[], [], []⟩, ⟨[], [], []⟩, ⟨[], [], []⟩, ⟨[], [], []⟩, ⟨[], [], []⟩, ⟨[], [], []⟩, ⟨[], [], []⟩, ⟨[], [], []⟩, ⟨[], [], []⟩, ⟨[], [], []⟩, ⟨[], [], []⟩, ⟨[], [], []⟩, ⟨[], [], []⟩, ⟨[], [], []⟩, ⟨[], [], []⟩, ⟨[], [], []⟩, ⟨[], [], []⟩, ⟨[], [], []⟩, ⟨[], [], []⟩, ⟨[], [], []⟩, ⟨[], [], []⟩, ⟨[], [], []⟩, ⟨[], [], []⟩, ⟨[], [], []⟩, ⟨[], [], []⟩, ⟨[], [], []⟩, ⟨[], [], []⟩, ⟨[], [], []⟩, ⟨[], [], []⟩, ⟨[], [], []⟩, ⟨[], [], []⟩, ⟨[], [], []⟩, ⟨[], [], []⟩, ⟨[], [], []⟩, ⟨[], [], []⟩, ⟨[], [], []⟩] rfl (by kernel_rfl) (by kernel_rfl) rfl rfl ?_
  refine WH.val (O.move rfl rfl Taken.no) rfl rfl ?_
  refine WH.val (O.move rfl rfl Taken.no) rfl rfl ?_
  refine WH.val (O.idx_fz rfl rfl (rfl) (row_get (by omega)) Try.underlying48 hi117 hs117 rfl Taken.no) rfl rfl ?_
  refine WH.val (O.fld_fz rfl Try.underlying117 rfl (m := 0) (by kernel_rfl) rfl rfl Taken.no) rfl rfl ?_
  refine WH.val (O.ld1 (PtI.ofU (PtU.fz rfl)) rfl Try.underlying3 rfl rfl Taken.no) rfl rfl ?_
  refine WH.val (O.det (fun _ => G.R.lss rfl rfl) rfl Taken.no) rfl rfl ?_
  refine WH.val (O.move rfl rfl Taken.no) rfl rfl ?_
  refine WH.case (j := 6) (g := 16) (want := false) rfl rfl (fun hg2 => ?_) (fun hg2 => ?_)
  ·skip
   first | have hg2p := G.gA3 hg2 | have hg2p := G.gA4 hg2 | have hg2p := hg2
   refine WH.val (O.move rfl rfl (Taken.yes rfl rfl hg2)) rfl rfl ?_
   refine WH.val (O.move rfl rfl (Taken.yes rfl rfl hg2)) rfl rfl ?_
   refine WH.val (O.idx_fz rfl rfl (rfl) (row_get (by omega)) Try.underlying48 hi117 hs117 rfl (Taken.yes rfl rfl hg2)) rfl rfl ?_
   refine WH.val (O.fld_fz rfl Try.underlying117 rfl (m := 0) (by kernel_rfl) rfl rfl (Taken.yes rfl rfl hg2)) rfl rfl ?_
   refine WH.val (O.ld1 (PtI.ofU (PtU.fz rfl)) rfl Try.underlying3 rfl rfl (Taken.yes rfl rfl hg2)) rfl rfl ?_
   refine WH.val (O.det (fun _ => G.R.gtr rfl rfl) rfl (Taken.yes rfl rfl hg2)) rfl rfl ?_
   refine WH.val (O.pick_f rfl hg2 rfl rfl Taken.no) rfl rfl ?_
   refine WH.val (O.move rfl rfl Taken.no) rfl rfl ?_
   refine WH.case (j := 14) (g := 24) (want := false) rfl rfl (fun hg3 => ?_) (fun hg3 => ?_)
   ·skip
    first | have hg3p := G.gA3 hg3 | have hg3p := G.gA4 hg3 | have hg3p := hg3
    refine WH.val (O.move rfl rfl (Taken.yes rfl rfl hg3)) rfl rfl ?_
    refine WH.val (O.move rfl rfl (Taken.yes rfl rfl hg3)) rfl rfl ?_
    refine WH.val (O.idx_fz rfl rfl (rfl) (row_get (by omega)) Try.underlying48 hi117 hs117 rfl (Taken.yes rfl rfl hg3)) rfl rfl ?_
    refine WH.val (O.fld_fz rfl Try.underlying117 rfl (m := 0) (by kernel_rfl) rfl rfl (Taken.yes rfl rfl hg3)) rfl rfl ?_
    refine WH.val (O.ld1 (PtI.ofU (PtU.fz rfl)) rfl Try.underlying3 rfl rfl (Taken.yes rfl rfl hg3)) rfl rfl ?_
    refine WH.val (O.det (fun _ => G.R.lss rfl rfl) rfl (Taken.yes rfl rfl hg3)) rfl rfl ?_
    refine WH.val (O.pick_f rfl hg3 rfl rfl Taken.no) rfl rfl ?_
    refine WH.val (O.move rfl rfl Taken.no) rfl rfl ?_
    refine WH.case (j := 22) (g := 32) (want := false) rfl rfl (fun hg4 => ?_) (fun hg4 => ?_)
    ·skip
     first | have hg4p := G.gA3 hg4 | have hg4p := G.gA4 hg4 | have hg4p := hg4
     refine WH.val (O.move rfl rfl (Taken.yes rfl rfl hg4)) rfl rfl ?_
     refine WH.val (O.move rfl rfl (Taken.yes rfl rfl hg4)) rfl rfl ?_
     refine WH.val (O.idx_fz rfl rfl (rfl) (row_get (by omega)) Try.underlying48 hi117 hs117 rfl (Taken.yes rfl rfl hg4)) rfl rfl ?_
     refine WH.val (O.fld_fz rfl Try.underlying117 rfl (m := 0) (by kernel_rfl) rfl rfl (Taken.yes rfl rfl hg4)) rfl rfl ?_
     refine WH.val (O.ld1 (PtI.ofU (PtU.fz rfl)) rfl Try.underlying3 rfl rfl (Taken.yes rfl rfl hg4)) rfl rfl ?_
     refine WH.val (O.det (fun _ => G.R.gtr rfl rfl) rfl (Taken.yes rfl rfl hg4)) rfl rfl ?_
     refine WH.val (O.pick_f rfl hg4 rfl rfl Taken.no) rfl rfl ?_
     refine WH.val (O.move rfl rfl Taken.no) rfl rfl ?_
     refine WH.case (j := 30) (g := 40) (want := false) rfl rfl (fun hg5 => ?_) (fun hg5 => ?_)
     ·skip
      first | have hg5p := G.gA3 hg5 | have hg5p := G.gA4 hg5 | have hg5p := hg5
      refine WH.val (O.move rfl rfl (Taken.yes rfl rfl hg5)) rfl rfl ?_
      refine WH.val (O.move rfl rfl (Taken.yes rfl rfl hg5)) rfl rfl ?_
      refine WH.val (O.idx_fz rfl rfl (rfl) (row_get (by omega)) Try.underlying48 hi117 hs117 rfl (Taken.yes rfl rfl hg5)) rfl rfl ?_
      refine WH.val (O.fld_fz rfl Try.underlying117 rfl (m := 0) (by kernel_rfl) rfl rfl (Taken.yes rfl rfl hg5)) rfl rfl ?_
      refine WH.val (O.ld1 (PtI.ofU (PtU.fz rfl)) rfl Try.underlying3 rfl rfl (Taken.yes rfl rfl hg5)) rfl rfl ?_
      refine WH.val (O.move rfl rfl (Taken.yes rfl rfl hg5)) rfl rfl ?_
      refine WH.val (O.move rfl rfl (Taken.yes rfl rfl hg5)) rfl rfl ?_
      refine WH.val (O.idx_fz rfl rfl (rfl) (row_get (by omega)) Try.underlying48 hi117 hs117 rfl (Taken.yes rfl rfl hg5)) rfl rfl ?_
      refine WH.val (O.fld_fz rfl Try.underlying117 rfl (m := 0) (by kernel_rfl) rfl rfl (Taken.yes rfl rfl hg5)) rfl rfl ?_
      refine WH.val (O.ld1 (PtI.ofU (PtU.fz rfl)) rfl Try.underlying3 rfl rfl (Taken.yes rfl rfl hg5)) rfl rfl ?_
      refine WH.val (O.det (fun _ => G.R.eql rfl rfl) rfl (Taken.yes rfl rfl hg5)) rfl rfl ?_
      refine WH.val (O.pick_f rfl hg5 rfl rfl Taken.no) rfl rfl ?_
      refine WH.val (O.move rfl rfl Taken.no) rfl rfl ?_
      refine WH.case (j := 43) (g := 53) (want := false) rfl rfl (fun hg6 => ?_) (fun hg6 => ?_)
      ·skip
       first | have hg6p := G.gA3 hg6 | have hg6p := G.gA4 hg6 | have hg6p := hg6
       refine WH.val (O.move rfl rfl (Taken.yes rfl rfl hg6)) rfl rfl ?_
       refine WH.val (O.det (fun _ => G.R.gtr rfl rfl) rfl (Taken.yes rfl rfl hg6)) rfl rfl ?_
       refine WH.val (O.move rfl rfl (Taken.yes rfl rfl hg6)) rfl rfl ?_
       refine WH.case (j := 46) (g := 56) (want := true) rfl rfl (fun hg7 => ?_) (fun hg7 => ?_)
       ·skip
        first | have hg7p := G.gA1 hg7 | have hg7p := G.gA2 hg7 | have hg7p := hg7
        refine WH.val (O.move rfl rfl (Taken.yes rfl rfl hg7)) rfl rfl ?_
        refine WH.val (O.move rfl rfl (Taken.yes rfl rfl hg7)) rfl rfl ?_
        refine WH.val (O.det (fun _ => by first | exact G.R.sub64 rfl rfl (by omega) | exact G.R.sub rfl rfl) rfl (Taken.yes rfl rfl hg7)) rfl rfl ?_
        refine WH.val (O.idx_fz (i := (k - 1)) rfl rfl (by omega) (row_get (by omega)) Try.underlying48 hi117 hs117 rfl (Taken.yes rfl rfl hg7)) rfl rfl ?_
        refine WH.val (O.fld_fz rfl Try.underlying117 rfl (m := 0) (by kernel_rfl) rfl rfl (Taken.yes rfl rfl hg7)) rfl rfl ?_
        refine WH.val (O.ld1 (PtI.ofU (PtU.fz rfl)) rfl Try.underlying3 rfl rfl (Taken.yes rfl rfl hg7)) rfl rfl ?_
        refine WH.val (O.move rfl rfl (Taken.yes rfl rfl hg7)) rfl rfl ?_
        refine WH.val (O.move rfl rfl (Taken.yes rfl rfl hg7)) rfl rfl ?_
        refine WH.val (O.idx_fz rfl rfl (rfl) (row_get (by omega)) Try.underlying48 hi117 hs117 rfl (Taken.yes rfl rfl hg7)) rfl rfl ?_
        refine WH.val (O.fld_fz rfl Try.underlying117 rfl (m := 0) (by kernel_rfl) rfl rfl (Taken.yes rfl rfl hg7)) rfl rfl ?_
        refine WH.val (O.ld1 (PtI.ofU (PtU.fz rfl)) rfl Try.underlying3 rfl rfl (Taken.yes rfl rfl hg7)) rfl rfl ?_
        refine WH.val (O.det (fun _ => G.R.geq rfl rfl) rfl (Taken.yes rfl rfl hg7)) rfl rfl ?_
        refine WH.val (O.pick_t rfl hg7 rfl rfl (Taken.yes rfl rfl hg6)) rfl rfl ?_
        refine WH.val (O.pick_f rfl hg6 rfl rfl Taken.no) rfl rfl ?_
        refine WH.nil ?_
        refine E.to ?_
        refine W.pick (.cons (t := 0) rfl (.cons (t := 3) rfl (.cons (t := 70) rfl .nil))) .nil ?_
        first | refine W.cond_d rfl (fun hc8 => ?_) (fun hc8 => ?_) | refine W.cond_nd rfl (fun hc8 => ?_) (fun hc8 => ?_) | refine W.cond rfl (fun hc8 => ?_) (fun hc8 => ?_)
        ·skip
         refine W.seq ?_
         refine W.region ?_
         refine SL.val (O.assign rfl rfl Taken.no) ?_
         refine SL.nil ?_
         refine E.to ?_
         refine W.ret ?_
         refine E.inr ?_
         refine E.thr ?_
         refine E.thr ?_
         refine E.inr ?_
         refine E.thr ?_
         refine E.fin (rs := [_]) (rn []) (.inl rfl) rfl (.cons (ResOne.tmp rfl) .nil) ?_ ?_ rfl (fixL_spec rfl)
         ·skip
          exact iv_bool (validL_no (k := k) (by omega) (fun h => by unfold okL at h; omega))
         · exact SubS.nil
        ·skip
         refine W.skip ?_
         refine E.inn ?_
         refine E.to ?_
         refine W.region ?_
         refine SL.val (O.move rfl rfl Taken.no) ?_
         refine SL.val (O.det (fun _ => by first | exact G.R.add64 rfl rfl (by omega) | exact G.R.add rfl rfl) rfl Taken.no) ?_
         refine SL.val (O.assign rfl rfl Taken.no) ?_
         refine SL.nil ?_
         refine E.again ((k + 1)) (rn []) ?_ ?_ rfl (fixL_spec rfl) ?_ ?_
         · exact (SubF.cons rfl (SubF.cons rfl SubF.nil))
         · exact SubS.nil
         ·try dsimp only
          exact ⟨by omega, okL_step hp ⟨by omega, fun h0 => by omega⟩⟩
         · (try dsimp only); omega
       ·skip
        first | have hg7p := G.gA5 hg7 | have hg7p := G.gA6 hg7 | have hg7p := hg7
        refine WH.skip (OpOk.not rfl rfl rfl hg7) ?_
        refine WH.skip (OpOk.not rfl rfl rfl hg7) ?_
        refine WH.skip (OpOk.not rfl rfl rfl hg7) ?_
        refine WH.skip (OpOk.not rfl rfl rfl hg7) ?_
        refine WH.skip (OpOk.not rfl rfl rfl hg7) ?_
        refine WH.skip (OpOk.not rfl rfl rfl hg7) ?_
        refine WH.skip (OpOk.not rfl rfl rfl hg7) ?_
        refine WH.skip (OpOk.not rfl rfl rfl hg7) ?_
        refine WH.skip (OpOk.not rfl rfl rfl hg7) ?_
        refine WH.skip (OpOk.not rfl rfl rfl hg7) ?_
        refine WH.skip (OpOk.not rfl rfl rfl hg7) ?_
        refine WH.skip (OpOk.not rfl rfl rfl hg7) ?_
        refine WH.val (O.pick_f rfl (G.ne_t hg7) rfl rfl (Taken.yes rfl rfl hg6)) rfl rfl ?_
        refine WH.val (O.pick_f rfl hg6 rfl rfl Taken.no) rfl rfl ?_
        refine WH.nil ?_
        refine E.to ?_
        refine W.pick (.cons (t := 0) rfl (.cons (t := 3) rfl (.cons (t := 70) rfl .nil))) .nil ?_
        refine W.cond_f rfl ?_
        refine W.skip ?_
        refine E.inn ?_
        refine E.to ?_
        refine W.region ?_
        refine SL.val (O.move rfl rfl Taken.no) ?_
        refine SL.val (O.det (fun _ => by first | exact G.R.add64 rfl rfl (by omega) | exact G.R.add rfl rfl) rfl Taken.no) ?_
        refine SL.val (O.assign rfl rfl Taken.no) ?_
        refine SL.nil ?_
        refine E.again ((k + 1)) (rn []) ?_ ?_ rfl (fixL_spec rfl) ?_ ?_
        · exact (SubF.cons rfl (SubF.cons rfl SubF.nil))
        · exact SubS.nil
        ·try dsimp only
         exact ⟨by omega, okL_step hp ⟨by omega, fun h0 => by omega⟩⟩
        · (try dsimp only); omega
      ·skip
       first | have hg6p := G.gA7 hg6 | have hg6p := G.gA8 hg6 | have hg6p := hg6
       refine WH.skip (OpOk.not rfl rfl rfl hg6) ?_
       refine WH.skip (OpOk.not rfl rfl rfl hg6) ?_
       refine WH.skip (OpOk.not rfl rfl rfl hg6) ?_
       refine WH.skip (OpOk.not2 rfl rfl rfl) ?_
       refine WH.skip (OpOk.not2 rfl rfl rfl) ?_
       refine WH.skip (OpOk.not2 rfl rfl rfl) ?_
       refine WH.skip (OpOk.not2 rfl rfl rfl) ?_
       refine WH.skip (OpOk.not2 rfl rfl rfl) ?_
       refine WH.skip (OpOk.not2 rfl rfl rfl) ?_
       refine WH.skip (OpOk.not2 rfl rfl rfl) ?_
       refine WH.skip (OpOk.not2 rfl rfl rfl) ?_
       refine WH.skip (OpOk.not2 rfl rfl rfl) ?_
       refine WH.skip (OpOk.not2 rfl rfl rfl) ?_
       refine WH.skip (OpOk.not2 rfl rfl rfl) ?_
       refine WH.skip (OpOk.not2 rfl rfl rfl) ?_
       refine WH.skip (OpOk.not rfl rfl rfl hg6) ?_
       refine WH.val (O.pick_t rfl (G.ne_f hg6) rfl rfl Taken.no) rfl rfl ?_
       refine WH.nil ?_
       refine E.to ?_
       refine W.pick (.cons (t := 0) rfl (.cons (t := 3) rfl (.cons (t := 70) rfl .nil))) .nil ?_
       refine W.cond_t rfl ?_
       refine W.seq ?_
       refine W.region ?_
       refine SL.val (O.assign rfl rfl Taken.no) ?_
       refine SL.nil ?_
       refine E.to ?_
       refine W.ret ?_
       refine E.inr ?_
       refine E.thr ?_
       refine E.thr ?_
       refine E.inr ?_
       refine E.thr ?_
       refine E.fin (rs := [_]) (rn []) (.inl rfl) rfl (.cons (ResOne.tmp rfl) .nil) ?_ ?_ rfl (fixL_spec rfl)
       ·skip
        exact iv_bool (validL_no (k := k) (by omega) (fun h => by unfold okL at h; omega))
       · exact SubS.nil
     ·skip
      first | have hg5p := G.gA7 hg5 | have hg5p := G.gA8 hg5 | have hg5p := hg5
      refine WH.skip (OpOk.not rfl rfl rfl hg5) ?_
      refine WH.skip (OpOk.not rfl rfl rfl hg5) ?_
      refine WH.skip (OpOk.not rfl rfl rfl hg5) ?_
      refine WH.skip (OpOk.not rfl rfl rfl hg5) ?_
      refine WH.skip (OpOk.not rfl rfl rfl hg5) ?_
      refine WH.skip (OpOk.not rfl rfl rfl hg5) ?_
      refine WH.skip (OpOk.not rfl rfl rfl hg5) ?_
      refine WH.skip (OpOk.not rfl rfl rfl hg5) ?_
      refine WH.skip (OpOk.not rfl rfl rfl hg5) ?_
      refine WH.skip (OpOk.not rfl rfl rfl hg5) ?_
      refine WH.skip (OpOk.not rfl rfl rfl hg5) ?_
      refine WH.val (O.pick_t rfl (G.ne_f hg5) rfl rfl Taken.no) rfl rfl ?_
      refine WH.val (O.move rfl rfl Taken.no) rfl rfl ?_
      have hg9 : true ≠ false := by decide
      refine WH.skip (OpOk.not rfl rfl rfl hg9) ?_
      refine WH.skip (OpOk.not rfl rfl rfl hg9) ?_
      refine WH.skip (OpOk.not rfl rfl rfl hg9) ?_
      refine WH.skip (OpOk.not2 rfl rfl rfl) ?_
      refine WH.skip (OpOk.not2 rfl rfl rfl) ?_
      refine WH.skip (OpOk.not2 rfl rfl rfl) ?_
      refine WH.skip (OpOk.not2 rfl rfl rfl) ?_
      refine WH.skip (OpOk.not2 rfl rfl rfl) ?_
      refine WH.skip (OpOk.not2 rfl rfl rfl) ?_
      refine WH.skip (OpOk.not2 rfl rfl rfl) ?_
      refine WH.skip (OpOk.not2 rfl rfl rfl) ?_
      refine WH.skip (OpOk.not2 rfl rfl rfl) ?_
      refine WH.skip (OpOk.not2 rfl rfl rfl) ?_
      refine WH.skip (OpOk.not2 rfl rfl rfl) ?_
      refine WH.skip (OpOk.not2 rfl rfl rfl) ?_
      refine WH.skip (OpOk.not rfl rfl rfl hg9) ?_
      refine WH.val (O.pick_t rfl rfl rfl rfl Taken.no) rfl rfl ?_
      refine WH.nil ?_
      refine E.to ?_
      refine W.pick (.cons (t := 0) rfl (.cons (t := 3) rfl (.cons (t := 70) rfl .nil))) .nil ?_
      refine W.cond_t rfl ?_
      refine W.seq ?_
      refine W.region ?_
      refine SL.val (O.assign rfl rfl Taken.no) ?_
      refine SL.nil ?_
      refine E.to ?_
      refine W.ret ?_
      refine E.inr ?_
      refine E.thr ?_
      refine E.thr ?_
      refine E.inr ?_
      refine E.thr ?_
      refine E.fin (rs := [_]) (rn []) (.inl rfl) rfl (.cons (ResOne.tmp rfl) .nil) ?_ ?_ rfl (fixL_spec rfl)
      ·skip
       exact iv_bool (validL_no (k := k) (by omega) (fun h => by unfold okL at h; omega))
      · exact SubS.nil
    ·skip
     first | have hg4p := G.gA7 hg4 | have hg4p := G.gA8 hg4 | have hg4p := hg4
     refine WH.skip (OpOk.not rfl rfl rfl hg4) ?_
     refine WH.skip (OpOk.not rfl rfl rfl hg4) ?_
     refine WH.skip (OpOk.not rfl rfl rfl hg4) ?_
     refine WH.skip (OpOk.not rfl rfl rfl hg4) ?_
     refine WH.skip (OpOk.not rfl rfl rfl hg4) ?_
     refine WH.skip (OpOk.not rfl rfl rfl hg4) ?_
     refine WH.val (O.pick_t rfl (G.ne_f hg4) rfl rfl Taken.no) rfl rfl ?_
     refine WH.val (O.move rfl rfl Taken.no) rfl rfl ?_
     have hg10 : true ≠ false := by decide
     refine WH.skip (OpOk.not rfl rfl rfl hg10) ?_
     refine WH.skip (OpOk.not rfl rfl rfl hg10) ?_
     refine WH.skip (OpOk.not rfl rfl rfl hg10) ?_
     refine WH.skip (OpOk.not rfl rfl rfl hg10) ?_
     refine WH.skip (OpOk.not rfl rfl rfl hg10) ?_
     refine WH.skip (OpOk.not rfl rfl rfl hg10) ?_
     refine WH.skip (OpOk.not rfl rfl rfl hg10) ?_
     refine WH.skip (OpOk.not rfl rfl rfl hg10) ?_
     refine WH.skip (OpOk.not rfl rfl rfl hg10) ?_
     refine WH.skip (OpOk.not rfl rfl rfl hg10) ?_
     refine WH.skip (OpOk.not rfl rfl rfl hg10) ?_
     refine WH.val (O.pick_t rfl rfl rfl rfl Taken.no) rfl rfl ?_
     refine WH.val (O.move rfl rfl Taken.no) rfl rfl ?_
     have hg11 : true ≠ false := by decide
     refine WH.skip (OpOk.not rfl rfl rfl hg11) ?_
     refine WH.skip (OpOk.not rfl rfl rfl hg11) ?_
     refine WH.skip (OpOk.not rfl rfl rfl hg11) ?_
     refine WH.skip (OpOk.not2 rfl rfl rfl) ?_
     refine WH.skip (OpOk.not2 rfl rfl rfl) ?_
     refine WH.skip (OpOk.not2 rfl rfl rfl) ?_
     refine WH.skip (OpOk.not2 rfl rfl rfl) ?_
     refine WH.skip (OpOk.not2 rfl rfl rfl) ?_
     refine WH.skip (OpOk.not2 rfl rfl rfl) ?_
     refine WH.skip (OpOk.not2 rfl rfl rfl) ?_
     refine WH.skip (OpOk.not2 rfl rfl rfl) ?_
     refine WH.skip (OpOk.not2 rfl rfl rfl) ?_
     refine WH.skip (OpOk.not2 rfl rfl rfl) ?_
     refine WH.skip (OpOk.not2 rfl rfl rfl) ?_
     refine WH.skip (OpOk.not2 rfl rfl rfl) ?_
     refine WH.skip (OpOk.not rfl rfl rfl hg11) ?_
     refine WH.val (O.pick_t rfl rfl rfl rfl Taken.no) rfl rfl ?_
     refine WH.nil ?_
     refine E.to ?_
     refine W.pick (.cons (t := 0) rfl (.cons (t := 3) rfl (.cons (t := 70) rfl .nil))) .nil ?_
     refine W.cond_t rfl ?_
     refine W.seq ?_
     refine W.region ?_
     refine SL.val (O.assign rfl rfl Taken.no) ?_
     refine SL.nil ?_
     refine E.to ?_
     refine W.ret ?_
     refine E.inr ?_
     refine E.thr ?_
     refine E.thr ?_
     refine E.inr ?_
     refine E.thr ?_
     refine E.fin (rs := [_]) (rn []) (.inl rfl) rfl (.cons (ResOne.tmp rfl) .nil) ?_ ?_ rfl (fixL_spec rfl)
     ·skip
      exact iv_bool (validL_no (k := k) (by omega) (fun h => by unfold okL at h; omega))
     · exact SubS.nil
   ·skip
    first | have hg3p := G.gA7 hg3 | have hg3p := G.gA8 hg3 | have hg3p := hg3
    refine WH.skip (OpOk.not rfl rfl rfl hg3) ?_
    refine WH.skip (OpOk.not rfl rfl rfl hg3) ?_
    refine WH.skip (OpOk.not rfl rfl rfl hg3) ?_
    refine WH.skip (OpOk.not rfl rfl rfl hg3) ?_
    refine WH.skip (OpOk.not rfl rfl rfl hg3) ?_
    refine WH.skip (OpOk.not rfl rfl rfl hg3) ?_
    refine WH.val (O.pick_t rfl (G.ne_f hg3) rfl rfl Taken.no) rfl rfl ?_
    refine WH.val (O.move rfl rfl Taken.no) rfl rfl ?_
    have hg12 : true ≠ false := by decide
    refine WH.skip (OpOk.not rfl rfl rfl hg12) ?_
    refine WH.skip (OpOk.not rfl rfl rfl hg12) ?_
    refine WH.skip (OpOk.not rfl rfl rfl hg12) ?_
    refine WH.skip (OpOk.not rfl rfl rfl hg12) ?_
    refine WH.skip (OpOk.not rfl rfl rfl hg12) ?_
    refine WH.skip (OpOk.not rfl rfl rfl hg12) ?_
    refine WH.val (O.pick_t rfl rfl rfl rfl Taken.no) rfl rfl ?_
    refine WH.val (O.move rfl rfl Taken.no) rfl rfl ?_
    have hg13 : true ≠ false := by decide
    refine WH.skip (OpOk.not rfl rfl rfl hg13) ?_
    refine WH.skip (OpOk.not rfl rfl rfl hg13) ?_
    refine WH.skip (OpOk.not rfl rfl rfl hg13) ?_
    refine WH.skip (OpOk.not rfl rfl rfl hg13) ?_
    refine WH.skip (OpOk.not rfl rfl rfl hg13) ?_
    refine WH.skip (OpOk.not rfl rfl rfl hg13) ?_
    refine WH.skip (OpOk.not rfl rfl rfl hg13) ?_
    refine WH.skip (OpOk.not rfl rfl rfl hg13) ?_
    refine WH.skip (OpOk.not rfl rfl rfl hg13) ?_
    refine WH.skip (OpOk.not rfl rfl rfl hg13) ?_
    refine WH.skip (OpOk.not rfl rfl rfl hg13) ?_
    refine WH.val (O.pick_t rfl rfl rfl rfl Taken.no) rfl rfl ?_
    refine WH.val (O.move rfl rfl Taken.no) rfl rfl ?_
    have hg14 : true ≠ false := by decide
    refine WH.skip (OpOk.not rfl rfl rfl hg14) ?_
    refine WH.skip (OpOk.not rfl rfl rfl hg14) ?_
    refine WH.skip (OpOk.not rfl rfl rfl hg14) ?_
    refine WH.skip (OpOk.not2 rfl rfl rfl) ?_
    refine WH.skip (OpOk.not2 rfl rfl rfl) ?_
    refine WH.skip (OpOk.not2 rfl rfl rfl) ?_
    refine WH.skip (OpOk.not2 rfl rfl rfl) ?_
    refine WH.skip (OpOk.not2 rfl rfl rfl) ?_
    refine WH.skip (OpOk.not2 rfl rfl rfl) ?_
    refine WH.skip (OpOk.not2 rfl rfl rfl) ?_
    refine WH.skip (OpOk.not2 rfl rfl rfl) ?_
    refine WH.skip (OpOk.not2 rfl rfl rfl) ?_
    refine WH.skip (OpOk.not2 rfl rfl rfl) ?_
    refine WH.skip (OpOk.not2 rfl rfl rfl) ?_
    refine WH.skip (OpOk.not2 rfl rfl rfl) ?_
    refine WH.skip (OpOk.not rfl rfl rfl hg14) ?_
    refine WH.val (O.pick_t rfl rfl rfl rfl Taken.no) rfl rfl ?_
    refine WH.nil ?_
    refine E.to ?_
    refine W.pick (.cons (t := 0) rfl (.cons (t := 3) rfl (.cons (t := 70) rfl .nil))) .nil ?_
    refine W.cond_t rfl ?_
    refine W.seq ?_
    refine W.region ?_
    refine SL.val (O.assign rfl rfl Taken.no) ?_
    refine SL.nil ?_
    refine E.to ?_
    refine W.ret ?_
    refine E.inr ?_
    refine E.thr ?_
    refine E.thr ?_
    refine E.inr ?_
    refine E.thr ?_
    refine E.fin (rs := [_]) (rn []) (.inl rfl) rfl (.cons (ResOne.tmp rfl) .nil) ?_ ?_ rfl (fixL_spec rfl)
    ·skip
     exact iv_bool (validL_no (k := k) (by omega) (fun h => by unfold okL at h; omega))
    · exact SubS.nil
  ·skip
   first | have hg2p := G.gA7 hg2 | have hg2p := G.gA8 hg2 | have hg2p := hg2
   refine WH.skip (OpOk.not rfl rfl rfl hg2) ?_
   refine WH.skip (OpOk.not rfl rfl rfl hg2) ?_
   refine WH.skip (OpOk.not rfl rfl rfl hg2) ?_
   refine WH.skip (OpOk.not rfl rfl rfl hg2) ?_
   refine WH.skip (OpOk.not rfl rfl rfl hg2) ?_
   refine WH.skip (OpOk.not rfl rfl rfl hg2) ?_
   refine WH.val (O.pick_t rfl (G.ne_f hg2) rfl rfl Taken.no) rfl rfl ?_
   refine WH.val (O.move rfl rfl Taken.no) rfl rfl ?_
   have hg15 : true ≠ false := by decide
   refine WH.skip (OpOk.not rfl rfl rfl hg15) ?_
   refine WH.skip (OpOk.not rfl rfl rfl hg15) ?_
   refine WH.skip (OpOk.not rfl rfl rfl hg15) ?_
   refine WH.skip (OpOk.not rfl rfl rfl hg15) ?_
   refine WH.skip (OpOk.not rfl rfl rfl hg15) ?_
   refine WH.skip (OpOk.not rfl rfl rfl hg15) ?_
   refine WH.val (O.pick_t rfl rfl rfl rfl Taken.no) rfl rfl ?_
   refine WH.val (O.move rfl rfl Taken.no) rfl rfl ?_
   have hg16 : true ≠ false := by decide
   refine WH.skip (OpOk.not rfl rfl rfl hg16) ?_
   refine WH.skip (OpOk.not rfl rfl rfl hg16) ?_
   refine WH.skip (OpOk.not rfl rfl rfl hg16) ?_
   refine WH.skip (OpOk.not rfl rfl rfl hg16) ?_
   refine WH.skip (OpOk.not rfl rfl rfl hg16) ?_
   refine WH.skip (OpOk.not rfl rfl rfl hg16) ?_
   refine WH.val (O.pick_t rfl rfl rfl rfl Taken.no) rfl rfl ?_
   refine WH.val (O.move rfl rfl Taken.no) rfl rfl ?_
   have hg17 : true ≠ false := by decide
   refine WH.skip (OpOk.not rfl rfl rfl hg17) ?_
   refine WH.skip (OpOk.not rfl rfl rfl hg17) ?_
   refine WH.skip (OpOk.not rfl rfl rfl hg17) ?_
   refine WH.skip (OpOk.not rfl rfl rfl hg17) ?_
   refine WH.skip (OpOk.not rfl rfl rfl hg17) ?_
   refine WH.skip (OpOk.not rfl rfl rfl hg17) ?_
   refine WH.skip (OpOk.not rfl rfl rfl hg17) ?_
   refine WH.skip (OpOk.not rfl rfl rfl hg17) ?_
   refine WH.skip (OpOk.not rfl rfl rfl hg17) ?_
   refine WH.skip (OpOk.not rfl rfl rfl hg17) ?_
   refine WH.skip (OpOk.not rfl rfl rfl hg17) ?_
   refine WH.val (O.pick_t rfl rfl rfl rfl Taken.no) rfl rfl ?_
   refine WH.val (O.move rfl rfl Taken.no) rfl rfl ?_
   have hg18 : true ≠ false := by decide
   refine WH.skip (OpOk.not rfl rfl rfl hg18) ?_
   refine WH.skip (OpOk.not rfl rfl rfl hg18) ?_
   refine WH.skip (OpOk.not rfl rfl rfl hg18) ?_
   refine WH.skip (OpOk.not2 rfl rfl rfl) ?_
   refine WH.skip (OpOk.not2 rfl rfl rfl) ?_
   refine WH.skip (OpOk.not2 rfl rfl rfl) ?_
   refine WH.skip (OpOk.not2 rfl rfl rfl) ?_
   refine WH.skip (OpOk.not2 rfl rfl rfl) ?_
   refine WH.skip (OpOk.not2 rfl rfl rfl) ?_
   refine WH.skip (OpOk.not2 rfl rfl rfl) ?_
   refine WH.skip (OpOk.not2 rfl rfl rfl) ?_
   refine WH.skip (OpOk.not2 rfl rfl rfl) ?_
   refine WH.skip (OpOk.not2 rfl rfl rfl) ?_
   refine WH.skip (OpOk.not2 rfl rfl rfl) ?_
   refine WH.skip (OpOk.not2 rfl rfl rfl) ?_
   refine WH.skip (OpOk.not rfl rfl rfl hg18) ?_
   refine WH.val (O.pick_t rfl rfl rfl rfl Taken.no) rfl rfl ?_
   refine WH.nil ?_
   refine E.to ?_
   refine W.pick (.cons (t := 0) rfl (.cons (t := 3) rfl (.cons (t := 70) rfl .nil))) .nil ?_
   refine W.cond_t rfl ?_
   refine W.seq ?_
   refine W.region ?_
   refine SL.val (O.assign rfl rfl Taken.no) ?_
   refine SL.nil ?_
   refine E.to ?_
   refine W.ret ?_
   refine E.inr ?_
   refine E.thr ?_
   refine E.thr ?_
   refine E.inr ?_
   refine E.thr ?_
   refine E.fin (rs := [_]) (rn []) (.inl rfl) rfl (.cons (ResOne.tmp rfl) .nil) ?_ ?_ rfl (fixL_spec rfl)
   ·skip
    exact iv_bool (validL_no (k := k) (by omega) (fun h => by unfold okL at h; omega))
   · exact SubS.nil
 ·skip
  refine W.exit ?_
  refine E.th ?_
  refine E.th ?_
  refine E.hit ?_
  refine E.to ?_
  refine W.seq ?_
  refine W.region ?_
  refine SL.val (O.assign rfl rfl Taken.no) ?_
  refine SL.nil ?_
  refine E.to ?_
  refine W.ret ?_
  refine E.fin (rs := [_]) (rn []) (.inl rfl) rfl (.cons (ResOne.tmp rfl) .nil) ?_ ?_ rfl (fixL_spec rfl)
  ·skip
   exact iv_bool (dec_t (fun j hj => hp j (by omega)))
  · exact SubS.nil

set_option maxRecDepth 8000 in
/-- bookplate/bookplateref51.Leads. -/
theorem refLeads_h {l : List Lead} {id : Int} :
    Con Try.prog 33 [vL 2 (l.map eLd), vI id] [] (vI (leadF l id)) [] := by
 obtain ⟨i117, hi117, hz117, hs117, hb117⟩ := hinf117
 refine Con.enterL (n := 25) Try.func33 rfl rfl rfl (fun τ w ok vs hin => ?_)
 have hl0 := hin.len (i := 0) rfl
 try rw [List.length_map] at hl0
 clear hin
 refine W.seq ?_
 refine W.region ?_
 refine SL.val (O.assign rfl rfl Taken.no) ?_
 refine SL.nil ?_
 refine E.to ?_
 refine W.seq ?_
 refine W.seq ?_
 refine W.region ?_
 refine SL.val (O.assign rfl rfl Taken.no) ?_
 refine SL.nil ?_
 refine E.to ?_
 refine W.block ?_
 refine W.loopx1 (fun (k : Nat) => [(5, vI (k : Int))]) (fun (k : Nat) => []) (fun (k : Nat) => k ≤ l.length ∧ ∀ j, j < k → decide (l[j]!.fr = id) = false) (fun (k : Nat) => l.length - k) (0) (rn []) (.cons (t := 0) rfl (.cons (t := 1) rfl .nil)) .nil rfl ?_ ?_ rfl rfl ?_ ?_
 · exact (SubF.cons rfl SubF.nil)
 · exact SubS.nil
 ·skip
  exact ⟨by omega, fun j h => by omega⟩
 intro k hinv
 obtain ⟨hk, hp⟩ := hinv
 refine W.seq ?_
 refine W.seq ?_
 refine W.region ?_
 refine SL.val (O.move rfl rfl Taken.no) ?_
 refine SL.val (O.move rfl rfl Taken.no) ?_
 refine SL.val (O.lenE (SlOf.fz rfl (by decide)) (by first | exact List.length_map _ | rfl) Try.underlying48 rfl Taken.no) ?_
 refine SL.val (O.det (fun _ => G.R.lss rfl rfl) rfl Taken.no) ?_
 refine SL.nil ?_
 refine E.to ?_
 first | refine W.cond_d rfl (fun hc1 => ?_) (fun hc1 => ?_) | refine W.cond_nd rfl (fun hc1 => ?_) (fun hc1 => ?_) | refine W.cond rfl (fun hc1 => ?_) (fun hc1 => ?_)
 ·skip
  refine W.skip ?_
  refine E.to ?_
  refine W.seq ?_
  refine W.block ?_
  refine W.seq ?_
  refine W.region ?_
  refine SL.val (O.move rfl rfl Taken.no) ?_
  refine SL.val (O.move rfl rfl Taken.no) ?_
  refine SL.val (O.idx_fz rfl rfl (rfl) (row_get (by omega)) Try.underlying48 hi117 hs117 rfl Taken.no) ?_
  refine SL.val (O.fld_fz rfl Try.underlying117 rfl (m := 0) (by kernel_rfl) rfl rfl Taken.no) ?_
  refine SL.val (O.ld1 (PtI.ofU (PtU.fz rfl)) rfl Try.underlying3 rfl rfl Taken.no) ?_
  refine SL.val (O.move rfl rfl Taken.no) ?_
  refine SL.val (O.det (fun _ => G.R.eql rfl rfl) rfl Taken.no) ?_
  refine SL.nil ?_
  refine E.to ?_
  first | refine W.cond_d rfl (fun hc2 => ?_) (fun hc2 => ?_) | refine W.cond_nd rfl (fun hc2 => ?_) (fun hc2 => ?_) | refine W.cond rfl (fun hc2 => ?_) (fun hc2 => ?_)
  ·skip
   refine W.seq ?_
   refine W.region ?_
   refine SL.val (O.move rfl rfl Taken.no) ?_
   refine SL.val (O.move rfl rfl Taken.no) ?_
   refine SL.val (O.idx_fz rfl rfl (rfl) (row_get (by omega)) Try.underlying48 hi117 hs117 rfl Taken.no) ?_
   refine SL.val (O.fld_fz rfl Try.underlying117 rfl (m := 0) (by kernel_rfl) rfl rfl Taken.no) ?_
   refine SL.val (O.ld1 (PtI.ofU (PtU.fz rfl)) rfl Try.underlying3 rfl rfl Taken.no) ?_
   refine SL.val (O.assign rfl rfl Taken.no) ?_
   refine SL.nil ?_
   refine E.to ?_
   refine W.ret ?_
   refine E.inr ?_
   refine E.thr ?_
   refine E.thr ?_
   refine E.inr ?_
   refine E.thr ?_
   refine E.fin (rs := [_]) (rn []) (.inl rfl) rfl (.cons (ResOne.tmp rfl) .nil) ?_ ?_ rfl (fixL_spec rfl)
   ·skip
    have hx := idxF_here (p := fun x : Lead => decide (x.fr = id)) (by omega) hp (decide_eq_true (by assumption))
    exact iv_int (by rw [leadF, hx, if_neg (by omega), Int.toNat_natCast])
   · exact SubS.nil
  ·skip
   refine W.skip ?_
   refine E.inn ?_
   refine E.to ?_
   refine W.region ?_
   refine SL.val (O.move rfl rfl Taken.no) ?_
   refine SL.val (O.det (fun _ => by first | exact G.R.add64 rfl rfl (by omega) | exact G.R.add rfl rfl) rfl Taken.no) ?_
   refine SL.val (O.assign rfl rfl Taken.no) ?_
   refine SL.nil ?_
   refine E.again ((k + 1)) (rn []) ?_ ?_ rfl (fixL_spec rfl) ?_ ?_
   · exact (SubF.cons rfl (SubF.cons rfl (SubF.cons rfl SubF.nil)))
   · exact SubS.nil
   ·try dsimp only
    exact ⟨by omega, fun j hj => by rcases Nat.lt_succ_iff_lt_or_eq.1 hj with h | h; exact hp j h; subst h; exact decide_eq_false (by assumption)⟩
   · (try dsimp only); omega
 ·skip
  refine W.exit ?_
  refine E.th ?_
  refine E.th ?_
  refine E.hit ?_
  refine E.to ?_
  refine W.seq ?_
  refine W.region ?_
  refine SL.val (O.move rfl rfl Taken.no) ?_
  refine SL.val (O.assign rfl rfl Taken.no) ?_
  refine SL.nil ?_
  refine E.to ?_
  refine W.ret ?_
  refine E.fin (rs := [_]) (rn []) (.inl rfl) rfl (.cons (ResOne.tmp rfl) .nil) ?_ ?_ rfl (fixL_spec rfl)
  ·skip
   have hx := idxF_none (p := fun x : Lead => decide (x.fr = id)) (k := k) (by omega) hp
   exact iv_int (by rw [leadF, hx, if_pos (by decide)])
  · exact SubS.nil

set_option maxRecDepth 8000 in
/-- cmp.isNaN[int]. -/
theorem isNaN_h {a : Int} :
    Con Try.prog 72 [vI a] [] (vB false) [] := by
 refine Con.enterL (n := 6) Try.func72 rfl rfl rfl (fun τ w ok vs hin => ?_)
 clear hin
 refine W.seq ?_
 refine W.region ?_
 refine SL.val (O.assign rfl rfl Taken.no) ?_
 refine SL.nil ?_
 refine E.to ?_
 refine W.seq ?_
 refine W.region ?_
 refine SL.val (O.move rfl rfl Taken.no) ?_
 refine SL.val (O.move rfl rfl Taken.no) ?_
 refine SL.val (O.det (fun _ => G.R.mv (G.R.neq rfl rfl) (congrArg Value.bool (decide_eq_false (by simp)))) rfl Taken.no) ?_
 refine SL.val (O.assign rfl rfl Taken.no) ?_
 refine SL.nil ?_
 refine E.to ?_
 refine W.ret ?_
 refine E.fin (rs := [_]) (rn []) (.inl rfl) rfl (.cons (ResOne.tmp rfl) .nil) ?_ ?_ rfl (fixL_spec rfl)
 ·skip
  rfl
 · exact SubS.nil

set_option maxRecDepth 8000 in
/-- cmp.Compare[int]. -/
theorem cmpCompare_h {a b : Int} :
    Con Try.prog 64 [vI a, vI b] [] (vI (cmpI a b)) [] := by
 refine Con.enterL (n := 20) Try.func64 rfl rfl rfl (fun τ w ok vs hin => ?_)
 clear hin
 refine W.seq ?_
 refine W.region ?_
 refine SL.val (O.assign rfl rfl Taken.no) ?_
 refine SL.nil ?_
 refine E.to ?_
 refine W.seq ?_
 refine W.region ?_
 refine SL.val (O.move rfl rfl Taken.no) ?_
 refine SL.val (O.callp rfl rfl rfl (isNaN_h) (.cons (ArgOk.same rfl) .nil) hcallOk72 rfl Taken.no) ?_
 refine SL.val (O.assign rfl rfl Taken.no) ?_
 refine SL.nil ?_
 refine E.to ?_
 refine W.seq ?_
 refine W.region ?_
 refine SL.val (O.move rfl rfl Taken.no) ?_
 refine SL.val (O.callp rfl rfl rfl (isNaN_h) (.cons (ArgOk.same rfl) .nil) hcallOk72 rfl Taken.no) ?_
 refine SL.val (O.assign rfl rfl Taken.no) ?_
 refine SL.nil ?_
 refine E.to ?_
 refine W.seq ?_
 refine W.seq ?_
 refine W.region ?_
 refine SL.val (O.move rfl rfl Taken.no) ?_
 refine SL.nil ?_
 refine E.to ?_
 refine W.cond_f rfl ?_
 refine W.skip ?_
 refine E.to ?_
 refine W.seq ?_
 refine W.seq ?_
 refine W.region ?_
 refine SL.val (O.move rfl rfl Taken.no) ?_
 refine SL.nil ?_
 refine E.to ?_
 refine W.cond_f rfl ?_
 refine W.skip ?_
 refine E.to ?_
 refine W.seq ?_
 refine W.seq ?_
 refine W.region ?_
 refine SL.val (O.move rfl rfl Taken.no) ?_
 refine SL.val (O.move rfl rfl Taken.no) ?_
 refine SL.val (O.det (fun _ => G.R.lss rfl rfl) rfl Taken.no) ?_
 refine SL.nil ?_
 refine E.to ?_
 first | refine W.cond_d rfl (fun hc1 => ?_) (fun hc1 => ?_) | refine W.cond_nd rfl (fun hc1 => ?_) (fun hc1 => ?_) | refine W.cond rfl (fun hc1 => ?_) (fun hc1 => ?_)
 ·skip
  refine W.seq ?_
  refine W.region ?_
  refine SL.val (O.assign rfl rfl Taken.no) ?_
  refine SL.nil ?_
  refine E.to ?_
  refine W.ret ?_
  refine E.thr ?_
  refine E.fin (rs := [_]) (rn []) (.inl rfl) rfl (.cons (ResOne.tmp rfl) .nil) ?_ ?_ rfl (fixL_spec rfl)
  ·skip
   exact iv_int (cmpI_lt (by assumption))
  · exact SubS.nil
 ·skip
  refine W.skip ?_
  refine E.to ?_
  refine W.seq ?_
  refine W.seq ?_
  refine W.region ?_
  refine SL.val (O.move rfl rfl Taken.no) ?_
  refine SL.val (O.move rfl rfl Taken.no) ?_
  refine SL.val (O.det (fun _ => G.R.gtr rfl rfl) rfl Taken.no) ?_
  refine SL.nil ?_
  refine E.to ?_
  first | refine W.cond_d rfl (fun hc2 => ?_) (fun hc2 => ?_) | refine W.cond_nd rfl (fun hc2 => ?_) (fun hc2 => ?_) | refine W.cond rfl (fun hc2 => ?_) (fun hc2 => ?_)
  ·skip
   refine W.seq ?_
   refine W.region ?_
   refine SL.val (O.assign rfl rfl Taken.no) ?_
   refine SL.nil ?_
   refine E.to ?_
   refine W.ret ?_
   refine E.thr ?_
   refine E.fin (rs := [_]) (rn []) (.inl rfl) rfl (.cons (ResOne.tmp rfl) .nil) ?_ ?_ rfl (fixL_spec rfl)
   ·skip
    exact iv_int (cmpI_gt (by assumption))
   · exact SubS.nil
  ·skip
   refine W.skip ?_
   refine E.to ?_
   refine W.seq ?_
   refine W.region ?_
   refine SL.val (O.assign rfl rfl Taken.no) ?_
   refine SL.nil ?_
   refine E.to ?_
   refine W.ret ?_
   refine E.fin (rs := [_]) (rn []) (.inl rfl) rfl (.cons (ResOne.tmp rfl) .nil) ?_ ?_ rfl (fixL_spec rfl)
   ·skip
    exact iv_int (cmpI_eq (by assumption) (by assumption))
   · exact SubS.nil

set_option maxRecDepth 8000 in
/-- bookplate/session.now$1. -/
theorem now1_h {x : Lead} {id : Int} :
    Con Try.prog 63 [vA (eLd x), vI id] [] (vI (cmpI x.fr id)) [] := by
 refine Con.enterL (n := 9) Try.func63 rfl rfl rfl (fun τ w ok vs hin => ?_)
 clear hin
 refine W.seq ?_
 refine W.region ?_
 refine SL.memS (O.box (is := [_, _]) 101 rfl rfl (by simp) rfl rfl Taken.no) rfl rfl (S' := (101, _) :: _) rfl ?_
 refine SL.val (O.assign rfl rfl Taken.no) ?_
 refine SL.nil ?_
 refine E.to ?_
 refine W.seq ?_
 refine W.region ?_
 refine SL.val (O.fld_ref (o' := 0) rfl Try.underlying108 rfl (m := 0) (by kernel_rfl) rfl rfl Taken.no) ?_
 refine SL.val (O.ld1 (PtI.ref rfl rfl) rfl Try.underlying3 rfl rfl Taken.no) ?_
 refine SL.val (O.move rfl rfl Taken.no) ?_
 refine SL.val (O.callp rfl rfl rfl (cmpCompare_h) (.cons (ArgOk.same rfl) (.cons (ArgOk.same rfl) .nil)) hcallOk64 rfl Taken.no) ?_
 refine SL.val (O.assign rfl rfl Taken.no) ?_
 refine SL.nil ?_
 refine E.to ?_
 refine W.ret ?_
 refine E.fin (rs := [_]) (rn []) (.inl rfl) rfl (.cons (ResOne.tmp rfl) .nil) ?_ ?_ rfl (fixL_spec rfl)
 ·skip
  rfl
 · exact SubS.nil

set_option maxRecDepth 8000 in
/-- slices.BinarySearchFunc[[]bookplate/session.Lead,bookplate/session.Lead,int]. -/
theorem binarySearch_h {f : Nat} {caps : List UV} {l : List Lead} {id : Int} (hok : G.callOk Try.prog f = true) (hpr : ∀ x, Con Try.prog f ([vA (eLd x), vI id] ++ caps.map .u) [] (vI (cmpI x.fr id)) []) (hv : validL l) (hln : l.length ≤ 1000000) :
    Con Try.prog 62 [vL 2 (l.map eLd), vI id, .u (.clo (.func f) [] caps)] [] (.tup [vI (posL l id : Nat), vB (foundL l id)]) [] := by
 obtain ⟨i108, hi108, hz108, hs108, hb108⟩ := hinf108
 refine Con.enterL (n := 49) Try.func62 rfl rfl rfl (fun τ w ok vs hin => ?_)
 have hl0 := hin.len (i := 0) rfl
 try rw [List.length_map] at hl0
 clear hin
 refine W.seq ?_
 refine W.region ?_
 refine SL.val (O.assign rfl rfl Taken.no) ?_
 refine SL.val (O.assign rfl rfl Taken.no) ?_
 refine SL.nil ?_
 refine E.to ?_
 refine W.seq ?_
 refine W.region ?_
 refine SL.val (O.move rfl rfl Taken.no) ?_
 refine SL.val (O.lenE (SlOf.fz rfl (by decide)) (by first | exact List.length_map _ | rfl) Try.underlying52 rfl Taken.no) ?_
 refine SL.val (O.assign rfl rfl Taken.no) ?_
 refine SL.nil ?_
 refine E.to ?_
 refine W.seq ?_
 refine W.region ?_
 refine SL.val (O.move rfl rfl Taken.no) ?_
 refine SL.val (O.assign rfl rfl Taken.no) ?_
 refine SL.val (O.assign rfl rfl Taken.no) ?_
 refine SL.nil ?_
 refine E.to ?_
 refine W.seq ?_
 refine W.block ?_
 refine W.loopx2 (fun (i : Nat) (j : Nat) => [(9, vI (i : Int)), (10, vI (j : Int))]) (fun (i : Nat) (j : Nat) => []) (fun (i : Nat) (j : Nat) => i ≤ j ∧ j ≤ l.length ∧ (∀ m, m < i → ltL l id m = true) ∧ (∀ m, j ≤ m → m < l.length → ltL l id m = false)) (fun (i : Nat) (j : Nat) => j - i) (0) (l.length) (rn []) (.cons (t := 0) rfl (.cons (t := 1) rfl (.cons (t := 2) rfl (.cons (t := 6) rfl (.cons (t := 7) rfl (.cons (t := 8) rfl .nil)))))) .nil rfl ?_ ?_ rfl rfl ?_ ?_
 · exact (SubF.cons rfl (SubF.cons rfl SubF.nil))
 · exact SubS.nil
 ·skip
  exact ⟨by omega, by omega, fun m h => by omega, fun m h1 h2 => by omega⟩
 intro i j hinv
 obtain ⟨hij, hj, hlo, hhi⟩ := hinv
 have hm : i < j → (i + j) / 2 < j ∧ i ≤ (i + j) / 2 := fun h => by omega
 refine W.seq ?_
 refine W.seq ?_
 refine W.region ?_
 refine SL.val (O.move rfl rfl Taken.no) ?_
 refine SL.val (O.move rfl rfl Taken.no) ?_
 refine SL.val (O.det (fun _ => G.R.lss rfl rfl) rfl Taken.no) ?_
 refine SL.nil ?_
 refine E.to ?_
 first | refine W.cond_d rfl (fun hc1 => ?_) (fun hc1 => ?_) | refine W.cond_nd rfl (fun hc1 => ?_) (fun hc1 => ?_) | refine W.cond rfl (fun hc1 => ?_) (fun hc1 => ?_)
 ·skip
  refine W.skip ?_
  refine E.to ?_
  refine W.block ?_
  refine W.seq ?_
  refine W.region ?_
  refine SL.val (O.move rfl rfl Taken.no) ?_
  refine SL.val (O.move rfl rfl Taken.no) ?_
  refine SL.val (O.det (fun _ => by first | exact G.R.add64 rfl rfl (by omega) | exact G.R.add rfl rfl) rfl Taken.no) ?_
  refine SL.val (O.det (fun _ => by first | exact G.R.conv_in rfl Try.underlying3 Try.underlying139 (IntWalk.u64_in _ (by omega)) | exact G.R.conv rfl Try.underlying3 Try.underlying139) rfl Taken.no) ?_
  refine SL.val (O.det (fun _ => G.R.shr_c (q := 2) rfl rfl (by decide) (by decide)) rfl Taken.no) ?_
  refine SL.val (O.det (fun _ => by first | exact G.R.conv64 rfl Try.underlying139 Try.underlying3 (by omega) | exact G.R.conv rfl Try.underlying139 Try.underlying3) rfl Taken.no) ?_
  refine SL.val (O.assign rfl rfl Taken.no) ?_
  refine SL.nil ?_
  refine E.to ?_
  refine W.seq ?_
  refine W.region ?_
  refine SL.val (O.move rfl rfl Taken.no) ?_
  refine SL.val (O.move rfl rfl Taken.no) ?_
  refine SL.val (O.move rfl rfl Taken.no) ?_
  refine SL.val (O.idx_fz (i := (i + j) / 2) rfl rfl (by omega) (row_get (by omega)) Try.underlying52 hi108 hs108 rfl Taken.no) ?_
  refine SL.val (O.ldU (m := 2) (PtU.fz rfl) rfl Try.underlying108 rfl (by kernel_rfl) rfl Taken.no) ?_
  refine SL.val (O.move rfl rfl Taken.no) ?_
  refine SL.val (O.callp rfl rfl rfl (hpr l[(i + j) / 2]!) (.cons (ArgOk.same rfl) (.cons (ArgOk.same rfl) (ArgsOk.caps caps))) hok rfl Taken.no) ?_
  refine SL.val (O.det (fun _ => G.R.lss rfl rfl) rfl Taken.no) ?_
  refine SL.nil ?_
  refine E.to ?_
  refine W.pick (.cons (t := 0) rfl (.cons (t := 1) rfl (.cons (t := 2) rfl (.cons (t := 6) rfl (.cons (t := 7) rfl (.cons (t := 8) rfl (.cons (t := 9) rfl (.cons (t := 10) rfl (.cons (t := 11) rfl (.cons (t := 31) rfl .nil)))))))))) .nil ?_
  first | refine W.cond_d rfl (fun hc2 => ?_) (fun hc2 => ?_) | refine W.cond_nd rfl (fun hc2 => ?_) (fun hc2 => ?_) | refine W.cond rfl (fun hc2 => ?_) (fun hc2 => ?_)
  ·skip
   refine W.region ?_
   refine SL.val (O.move rfl rfl Taken.no) ?_
   refine SL.val (O.det (fun _ => by first | exact G.R.add64 rfl rfl (by omega) | exact G.R.add rfl rfl) rfl Taken.no) ?_
   refine SL.val (O.assign rfl rfl Taken.no) ?_
   refine SL.nil ?_
   refine E.inn ?_
   refine E.again (((i + j) / 2 + 1), (j)) (rn []) ?_ ?_ rfl (fixL_spec rfl) ?_ ?_
   · exact (SubF.cons rfl (SubF.cons rfl (SubF.cons rfl (SubF.cons rfl (SubF.cons rfl (SubF.cons rfl (SubF.cons rfl (SubF.cons rfl SubF.nil))))))))
   · exact SubS.nil
   ·try dsimp only
    exact ⟨by omega, by omega, bsL_lo hv (by omega) (cmpI_neg.1 (by assumption)), hhi⟩
   · (try dsimp only); omega
  ·skip
   refine W.region ?_
   refine SL.val (O.move rfl rfl Taken.no) ?_
   refine SL.val (O.assign rfl rfl Taken.no) ?_
   refine SL.nil ?_
   refine E.inn ?_
   refine E.again ((i), ((i + j) / 2)) (rn []) ?_ ?_ rfl (fixL_spec rfl) ?_ ?_
   · exact (SubF.cons rfl (SubF.cons rfl (SubF.cons rfl (SubF.cons rfl (SubF.cons rfl (SubF.cons rfl (SubF.cons rfl (SubF.cons rfl SubF.nil))))))))
   · exact SubS.nil
   ·try dsimp only
    exact ⟨by omega, by omega, hlo, bsL_hi hv (fun e => absurd (cmpI_neg.2 e) (by assumption))⟩
   · (try dsimp only); omega
 ·skip
  refine W.exit ?_
  refine E.th ?_
  refine E.th ?_
  refine E.hit ?_
  refine E.to ?_
  refine W.seq ?_
  refine W.region ?_
  obtain rfl : i = j := by omega
  have hpi : i = posL l id := posB_eq (ltL_mono hv id) hj hlo hhi
  refine SL.val (O.move rfl rfl Taken.no) ?_
  refine SL.val (O.move rfl rfl Taken.no) ?_
  refine SL.val (O.move rfl rfl Taken.no) ?_
  refine SL.val (O.det (fun _ => G.R.lss rfl rfl) rfl Taken.no) ?_
  refine SL.val (O.move rfl rfl Taken.no) ?_
  refine SL.case (j := 4) (g := 39) (want := true) rfl rfl (fun hg3 => ?_) (fun hg3 => ?_)
  ·skip
   first | have hg3p := G.gA1 hg3 | have hg3p := G.gA2 hg3 | have hg3p := hg3
   refine SL.val (O.move rfl rfl (Taken.yes rfl rfl hg3)) ?_
   refine SL.val (O.move rfl rfl (Taken.yes rfl rfl hg3)) ?_
   refine SL.val (O.move rfl rfl (Taken.yes rfl rfl hg3)) ?_
   refine SL.val (O.idx_fz rfl rfl (rfl) (row_get (by omega)) Try.underlying52 hi108 hs108 rfl (Taken.yes rfl rfl hg3)) ?_
   refine SL.val (O.ldU (m := 2) (PtU.fz rfl) rfl Try.underlying108 rfl (by kernel_rfl) rfl (Taken.yes rfl rfl hg3)) ?_
   refine SL.val (O.move rfl rfl (Taken.yes rfl rfl hg3)) ?_
   refine SL.val (O.callp rfl rfl rfl (hpr l[i]!) (.cons (ArgOk.same rfl) (.cons (ArgOk.same rfl) (ArgsOk.caps caps))) hok rfl (Taken.yes rfl rfl hg3)) ?_
   refine SL.val (O.det (fun _ => G.R.eql rfl rfl) rfl (Taken.yes rfl rfl hg3)) ?_
   refine SL.val (O.pick_t rfl hg3 rfl rfl Taken.no) ?_
   refine SL.val (O.assign rfl rfl Taken.no) ?_
   refine SL.val (O.assign rfl rfl Taken.no) ?_
   refine SL.nil ?_
   refine E.to ?_
   refine W.pick (.cons (t := 6) rfl (.cons (t := 7) rfl .nil)) .nil ?_
   refine W.ret ?_
   refine E.fin (rs := [_, _]) (rn []) (.inl rfl) rfl (.cons (ResOne.tmp rfl) (.cons (ResOne.tmp rfl) .nil)) ?_ ?_ rfl (fixL_spec rfl)
   ·skip
    rw [← hpi, foundL, ← hpi]
    first | rw [decide_eq_true (by assumption)] | rw [decide_eq_false (by assumption)]
    rfl
   · exact SubS.nil
  ·skip
   first | have hg3p := G.gA5 hg3 | have hg3p := G.gA6 hg3 | have hg3p := hg3
   refine SL.skip (OpOk.not rfl rfl rfl hg3) ?_
   refine SL.skip (OpOk.not rfl rfl rfl hg3) ?_
   refine SL.skip (OpOk.not rfl rfl rfl hg3) ?_
   refine SL.skip (OpOk.not rfl rfl rfl hg3) ?_
   refine SL.skip (OpOk.not rfl rfl rfl hg3) ?_
   refine SL.skip (OpOk.not rfl rfl rfl hg3) ?_
   refine SL.skip (OpOk.not rfl rfl rfl hg3) ?_
   refine SL.skip (OpOk.not rfl rfl rfl hg3) ?_
   refine SL.val (O.pick_f rfl (G.ne_t hg3) rfl rfl Taken.no) ?_
   refine SL.val (O.assign rfl rfl Taken.no) ?_
   refine SL.val (O.assign rfl rfl Taken.no) ?_
   refine SL.nil ?_
   refine E.to ?_
   refine W.pick (.cons (t := 6) rfl (.cons (t := 7) rfl .nil)) .nil ?_
   refine W.ret ?_
   refine E.fin (rs := [_, _]) (rn []) (.inl rfl) rfl (.cons (ResOne.tmp rfl) (.cons (ResOne.tmp rfl) .nil)) ?_ ?_ rfl (fixL_spec rfl)
   ·skip
    rw [← hpi, foundL, ← hpi]
    first | rw [decide_eq_true (by assumption)] | rw [decide_eq_false (by assumption)]
    rfl
   · exact SubS.nil

set_option maxRecDepth 8000 in
/-- bookplate/session.now. -/
theorem now_h {l : List Lead} {id : Int} (hv : validL l) (hln : l.length ≤ 1000000) :
    Con Try.prog 54 [vL 2 (l.map eLd), vI id] [] (vI (leadF l id)) [] := by
 obtain ⟨i108, hi108, hz108, hs108, hb108⟩ := hinf108
 refine Con.enterL (n := 21) Try.func54 rfl rfl rfl (fun τ w ok vs hin => ?_)
 have hl0 := hin.len (i := 0) rfl
 try rw [List.length_map] at hl0
 clear hin
 refine W.seq ?_
 refine W.region ?_
 refine SL.val (O.assign rfl rfl Taken.no) ?_
 refine SL.nil ?_
 refine E.to ?_
 refine W.seq ?_
 refine W.region ?_
 refine SL.val (O.move rfl rfl Taken.no) ?_
 refine SL.val (O.move rfl rfl Taken.no) ?_
 refine SL.memS (O.call (rn []) [] rfl rfl rfl (binarySearch_h (f := 63) (caps := []) (l := l) (id := id) hcallOk63 (fun x => now1_h) hv hln) (.cons (ArgOk.same rfl) (.cons (ArgOk.same rfl) (.cons ArgOk.fnc .nil))) SubS.nil rfl rfl rfl rfl rfl (.inl rfl) hcallOk62 (r' := .tup [.u _, .u _]) rfl rfl Taken.no) rfl rfl (S' := _) rfl ?_
 refine SL.val (O.move rfl rfl Taken.no) ?_
 refine SL.val (O.extract rfl rfl rfl Taken.no) ?_
 refine SL.val (O.extract rfl rfl rfl Taken.no) ?_
 refine SL.val (O.assign rfl rfl Taken.no) ?_
 refine SL.val (O.assign rfl rfl Taken.no) ?_
 refine SL.nil ?_
 refine E.to ?_
 refine W.seq ?_
 refine W.seq ?_
 refine W.region ?_
 refine SL.val (O.move rfl rfl Taken.no) ?_
 refine SL.val (O.det (fun _ => G.R.not rfl) rfl Taken.no) ?_
 refine SL.nil ?_
 refine E.to ?_
 first | refine W.cond_d rfl (fun hc1 => ?_) (fun hc1 => ?_) | refine W.cond_nd rfl (fun hc1 => ?_) (fun hc1 => ?_) | refine W.cond rfl (fun hc1 => ?_) (fun hc1 => ?_)
 ·skip
  refine W.seq ?_
  refine W.region ?_
  refine SL.val (O.move rfl rfl Taken.no) ?_
  refine SL.val (O.assign rfl rfl Taken.no) ?_
  refine SL.nil ?_
  refine E.to ?_
  refine W.ret ?_
  refine E.thr ?_
  refine E.fin (rs := [_]) (rn []) (.inl rfl) rfl (.cons (ResOne.tmp rfl) .nil) ?_ ?_ rfl (fixL_spec rfl)
  ·skip
   exact iv_int (lead_none hv (by simp_all))
  · exact SubS.nil
 ·skip
  have hf : foundL l id = true := by simp_all
  have hfo := lead_found hv hf
  refine W.skip ?_
  refine E.to ?_
  refine W.seq ?_
  refine W.region ?_
  refine SL.val (O.move rfl rfl Taken.no) ?_
  refine SL.val (O.move rfl rfl Taken.no) ?_
  refine SL.val (O.idx_fz rfl rfl (rfl) (row_get (by exact hfo.1)) Try.underlying52 hi108 hs108 rfl Taken.no) ?_
  refine SL.val (O.fld_fz rfl Try.underlying108 rfl (m := 0) (by kernel_rfl) rfl rfl Taken.no) ?_
  refine SL.val (O.ld1 (PtI.ofU (PtU.fz rfl)) rfl Try.underlying3 rfl rfl Taken.no) ?_
  refine SL.val (O.assign rfl rfl Taken.no) ?_
  refine SL.nil ?_
  refine E.to ?_
  refine W.ret ?_
  refine E.fin (rs := [_]) (rn []) (.inl rfl) rfl (.cons (ResOne.tmp rfl) .nil) ?_ ?_ rfl (fixL_spec rfl)
  ·skip
   exact iv_int hfo.2
  · exact SubS.nil

theorem sb_c4 {t : Nat} {a b c : IV} {x y : Bool} (h : x = y) : SB.cells t [a, b, c, .u (uB x)] = .cells t [a, b, c, .u (uB y)] := by rw [h]
theorem ag_t {s : Sess} {l : List Lead} {k m : Nat} (h : agK s l k m = true) : agK s l k (m + 1) = true := by rw [agK, h, Bool.true_or]
theorem ag_d {s : Sess} {l : List Lead} {k m : Nat} (h : agK s l k m = false) (hn : nowF s l k ≠ 0) : agK s l k (m + 1) = decide (nowF s l m = nowF s l k) := by rw [agK, h, Bool.false_or, decide_eq_true hn, Bool.true_and]
theorem ag_z {s : Sess} {l : List Lead} {k m : Nat} (h : agK s l k m = false) (hn : nowF s l k = 0) : agK s l k (m + 1) = false := by rw [agK, h, Bool.false_or, decide_eq_false (by rw [hn]; decide), Bool.false_and]
theorem row_yes {s : Sess} {l : List Lead} {k : Nat} (h : nowF s l k ≠ 0) : [uI s.items[k]!.id, uI s.items[k]!.sc, uI (nowF s l k), uB (mget (seenF (nowF s l) k) (nowF s l k) false)] = eEn (entryAt s l k) := by
  rw [eEn, entryAt, ← again_seen, decide_eq_true h, Bool.true_and]
theorem row_no {s : Sess} {l : List Lead} {k : Nat} (h : nowF s l k = 0) : [uI s.items[k]!.id, uI s.items[k]!.sc, uI (nowF s l k), uB false] = eEn (entryAt s l k) := by
  rw [eEn, entryAt, ← again_seen, decide_eq_false (by rw [h]; decide), Bool.false_and]
def enV (e : Entry) : List Value := [.int .i64 e.id, .int .i64 e.sc, .int .i64 e.now, .bool e.again]
theorem Entry.ext {a b : Entry} (h1 : a.id = b.id) (h2 : a.sc = b.sc) (h3 : a.now = b.now) (h4 : a.again = b.again) : a = b := by cases a; cases b; simp_all
instance : DecidableEq Entry := fun a b => if h : a.id = b.id ∧ a.sc = b.sc ∧ a.now = b.now ∧ a.again = b.again then .isTrue (Entry.ext h.1 h.2.1 h.2.2.1 h.2.2.2) else .isFalse fun e => h (by subst e; exact ⟨rfl, rfl, rfl, rfl⟩)
theorem eqEn (a b : Entry) : eqvL (enV a) (enV b) = decide (a = b) := by
  cases a; cases b
  rw [Bool.eq_iff_iff]
  simp [enV, eqvL, eqv]

set_option maxRecDepth 8000 in
/-- bookplate/bookplateref51.SameEntries. -/
theorem sameEntries_h {a b : List Entry} :
    Con Try.prog 29 [vL 4 (a.map eEn), vL 4 (b.map eEn)] [] (vB (decide (a = b))) [] := by
 obtain ⟨i66, hi66, hz66, hs66, hb66⟩ := hinf66
 refine Con.enterL (n := 26) Try.func29 rfl rfl rfl (fun τ w ok vs hin => ?_)
 have hl0 := hin.len (i := 0) rfl
 try rw [List.length_map] at hl0
 have hl1 := hin.len (i := 1) rfl
 try rw [List.length_map] at hl1
 clear hin
 refine W.seq ?_
 refine W.region ?_
 refine SL.val (O.assign rfl rfl Taken.no) ?_
 refine SL.nil ?_
 refine E.to ?_
 refine W.seq ?_
 refine W.seq ?_
 refine W.region ?_
 refine SL.val (O.move rfl rfl Taken.no) ?_
 refine SL.val (O.lenE (SlOf.fz rfl (by decide)) (by first | exact List.length_map _ | rfl) Try.underlying54 rfl Taken.no) ?_
 refine SL.val (O.move rfl rfl Taken.no) ?_
 refine SL.val (O.lenE (SlOf.fz rfl (by decide)) (by first | exact List.length_map _ | rfl) Try.underlying54 rfl Taken.no) ?_
 refine SL.val (O.det (fun _ => G.R.neq rfl rfl) rfl Taken.no) ?_
 refine SL.nil ?_
 refine E.to ?_
 first | refine W.cond_d rfl (fun hc1 => ?_) (fun hc1 => ?_) | refine W.cond_nd rfl (fun hc1 => ?_) (fun hc1 => ?_) | refine W.cond rfl (fun hc1 => ?_) (fun hc1 => ?_)
 ·skip
  refine W.seq ?_
  refine W.region ?_
  refine SL.val (O.assign rfl rfl Taken.no) ?_
  refine SL.nil ?_
  refine E.to ?_
  refine W.ret ?_
  refine E.thr ?_
  refine E.fin (rs := [_]) (rn []) (.inl rfl) rfl (.cons (ResOne.tmp rfl) .nil) ?_ ?_ rfl (fixL_spec rfl)
  ·skip
   exact iv_bool (decide_eq_false fun e => by subst e; omega)
  · exact SubS.nil
 ·skip
  refine W.skip ?_
  refine E.to ?_
  refine W.seq ?_
  refine W.seq ?_
  refine W.region ?_
  refine SL.val (O.assign rfl rfl Taken.no) ?_
  refine SL.nil ?_
  refine E.to ?_
  refine W.block ?_
  refine W.loopx1 (fun (k : Nat) => [(5, vI (k : Int))]) (fun (k : Nat) => []) (fun (k : Nat) => k ≤ a.length ∧ ∀ j, j < k → a[j]! = b[j]!) (fun (k : Nat) => a.length - k) (0) (rn []) (.cons (t := 0) rfl (.cons (t := 1) rfl .nil)) .nil rfl ?_ ?_ rfl rfl ?_ ?_
  · exact (SubF.cons rfl SubF.nil)
  · exact SubS.nil
  ·skip
   exact ⟨by omega, fun j h => by omega⟩
  intro k hinv
  obtain ⟨hk, hp⟩ := hinv
  refine W.seq ?_
  refine W.seq ?_
  refine W.region ?_
  refine SL.val (O.move rfl rfl Taken.no) ?_
  refine SL.val (O.move rfl rfl Taken.no) ?_
  refine SL.val (O.lenE (SlOf.fz rfl (by decide)) (by first | exact List.length_map _ | rfl) Try.underlying54 rfl Taken.no) ?_
  refine SL.val (O.det (fun _ => G.R.lss rfl rfl) rfl Taken.no) ?_
  refine SL.nil ?_
  refine E.to ?_
  first | refine W.cond_d rfl (fun hc2 => ?_) (fun hc2 => ?_) | refine W.cond_nd rfl (fun hc2 => ?_) (fun hc2 => ?_) | refine W.cond rfl (fun hc2 => ?_) (fun hc2 => ?_)
  ·skip
   refine W.skip ?_
   refine E.to ?_
   refine W.seq ?_
   refine W.block ?_
   refine W.seq ?_
   refine W.draw [⟨[], [], []⟩, ⟨[], [], []⟩, ⟨[], [], []⟩, ⟨[], [], []⟩, ⟨[], [], []⟩, ⟨[], [], []⟩, ⟨[], [], []⟩, ⟨[], [], []⟩, ⟨[], [], []⟩] rfl (by kernel_rfl) (by kernel_rfl) rfl rfl ?_
   refine WH.val (O.move rfl rfl Taken.no) rfl rfl ?_
   refine WH.val (O.move rfl rfl Taken.no) rfl rfl ?_
   refine WH.val (O.idx_fz rfl rfl (rfl) (row_get (by omega)) Try.underlying54 hi66 hs66 rfl Taken.no) rfl rfl ?_
   refine WH.val (O.ldU (m := 4) (PtU.fz rfl) rfl Try.underlying66 rfl (by kernel_rfl) rfl Taken.no) rfl rfl ?_
   refine WH.val (O.move rfl rfl Taken.no) rfl rfl ?_
   refine WH.val (O.move rfl rfl Taken.no) rfl rfl ?_
   refine WH.val (O.idx_fz rfl rfl (rfl) (row_get (by omega)) Try.underlying54 hi66 hs66 rfl Taken.no) rfl rfl ?_
   refine WH.val (O.ldU (m := 4) (PtU.fz rfl) rfl Try.underlying66 rfl (by kernel_rfl) rfl Taken.no) rfl rfl ?_
   refine WH.val (O.neAgg (ls := (enV a[k]!)) (ms := (enV b[k]!)) (r := (!decide (a[k]! = b[k]!))) (.inl rfl) (.inl rfl) (by kernel_rfl) (by kernel_rfl) (by kernel_rfl) (by kernel_rfl) (by rw [eqEn]) rfl Taken.no) rfl rfl ?_
   refine WH.nil ?_
   refine E.to ?_
   first | refine W.cond_d rfl (fun hc3 => ?_) (fun hc3 => ?_) | refine W.cond_nd rfl (fun hc3 => ?_) (fun hc3 => ?_) | refine W.cond rfl (fun hc3 => ?_) (fun hc3 => ?_)
   ·skip
    refine W.seq ?_
    refine W.region ?_
    refine SL.val (O.assign rfl rfl Taken.no) ?_
    refine SL.nil ?_
    refine E.to ?_
    refine W.ret ?_
    refine E.inr ?_
    refine E.thr ?_
    refine E.thr ?_
    refine E.inr ?_
    refine E.thr ?_
    refine E.fin (rs := [_]) (rn []) (.inl rfl) rfl (.cons (ResOne.tmp rfl) .nil) ?_ ?_ rfl (fixL_spec rfl)
    ·skip
     exact iv_bool (decide_eq_false fun e => by subst e; simp_all)
    · exact SubS.nil
   ·skip
    refine W.skip ?_
    refine E.inn ?_
    refine E.to ?_
    refine W.region ?_
    refine SL.val (O.move rfl rfl Taken.no) ?_
    refine SL.val (O.det (fun _ => by first | exact G.R.add64 rfl rfl (by omega) | exact G.R.add rfl rfl) rfl Taken.no) ?_
    refine SL.val (O.assign rfl rfl Taken.no) ?_
    refine SL.nil ?_
    refine E.again ((k + 1)) (rn []) ?_ ?_ rfl (fixL_spec rfl) ?_ ?_
    · exact (SubF.cons rfl (SubF.cons rfl (SubF.cons rfl SubF.nil)))
    · exact SubS.nil
    ·try dsimp only
     exact ⟨by omega, fun j hj => by rcases Nat.lt_succ_iff_lt_or_eq.1 hj with h | h; exact hp j h; subst h; first | assumption | simp_all⟩
    · (try dsimp only); omega
  ·skip
   refine W.exit ?_
   refine E.th ?_
   refine E.th ?_
   refine E.hit ?_
   refine E.to ?_
   refine W.seq ?_
   refine W.region ?_
   refine SL.val (O.assign rfl rfl Taken.no) ?_
   refine SL.nil ?_
   refine E.to ?_
   refine W.ret ?_
   refine E.fin (rs := [_]) (rn []) (.inl rfl) rfl (.cons (ResOne.tmp rfl) .nil) ?_ ?_ rfl (fixL_spec rfl)
   ·skip
    exact iv_bool (decide_eq_true (ext_get (by omega) (fun j hj => hp j (by omega))))
   · exact SubS.nil

set_option maxRecDepth 8000 in
/-- bookplate/bookplatelaw51.leads. -/
theorem leads_h {l : List Lead} (hn : l.length ≤ 1000000) :
    Con Try.prog 27 [vL 2 (l.map eLd)] [] (vL 2 (l.map eLd)) [] := by
 obtain ⟨i108, hi108, hz108, hs108, hb108⟩ := hinf108
 obtain ⟨i117, hi117, hz117, hs117, hb117⟩ := hinf117
 refine Con.enterL (n := 19) Try.func27 rfl rfl rfl (fun τ w ok vs hin => ?_)
 have hl0 := hin.len (i := 0) rfl
 try rw [List.length_map] at hl0
 clear hin
 refine W.seq ?_
 refine W.region ?_
 refine SL.val (O.assign rfl rfl Taken.no) ?_
 refine SL.nil ?_
 refine E.to ?_
 refine W.seq ?_
 refine W.region ?_
 refine SL.val (O.assign rfl rfl Taken.no) ?_
 refine SL.nil ?_
 refine E.to ?_
 refine W.seq ?_
 refine W.seq ?_
 refine W.region ?_
 refine SL.val (O.assign rfl rfl Taken.no) ?_
 refine SL.nil ?_
 refine E.to ?_
 refine W.block ?_
 refine W.adopt 3 102 108 2 (by decide) rfl rfl rfl ?_
 refine W.loopx1 (fun (k : Nat) => [(4, vI (k : Int)), (3, .own 101)]) (fun (k : Nat) => [(101, .data 108 2 ((l.take k).map eLd))]) (fun (k : Nat) => k ≤ l.length) (fun (k : Nat) => l.length - k) (0) (rn [(101, 102)]) (.cons (t := 0) rfl (.cons (t := 2) rfl .nil)) .nil rfl ?_ ?_ rfl rfl ?_ ?_
 · exact (SubF.cons rfl (SubF.cons rfl SubF.nil))
 · exact (SubS.cons rfl SubS.nil)
 ·skip
  omega
 intro k hinv
 have hk := hinv
 have htl : (l.take k).length = k := by rw [List.length_take]; omega
 refine W.seq ?_
 refine W.seq ?_
 refine W.region ?_
 refine SL.val (O.move rfl rfl Taken.no) ?_
 refine SL.val (O.move rfl rfl Taken.no) ?_
 refine SL.val (O.lenE (SlOf.fz rfl (by decide)) (by first | exact List.length_map _ | rfl) Try.underlying48 rfl Taken.no) ?_
 refine SL.val (O.det (fun _ => G.R.lss rfl rfl) rfl Taken.no) ?_
 refine SL.nil ?_
 refine E.to ?_
 first | refine W.cond_d rfl (fun hc1 => ?_) (fun hc1 => ?_) | refine W.cond_nd rfl (fun hc1 => ?_) (fun hc1 => ?_) | refine W.cond rfl (fun hc1 => ?_) (fun hc1 => ?_)
 ·skip
  refine W.skip ?_
  refine E.to ?_
  refine W.seq ?_
  refine W.block ?_
  refine W.region ?_
  refine SL.val (O.move rfl rfl Taken.no) ?_
  refine SL.val (O.move rfl rfl Taken.no) ?_
  refine SL.val (O.move rfl rfl Taken.no) ?_
  refine SL.val (O.idx_fz rfl rfl (rfl) (row_get (by omega)) Try.underlying48 hi117 hs117 rfl Taken.no) ?_
  refine SL.val (O.ldU (m := 2) (PtU.fz rfl) rfl Try.underlying117 rfl (by kernel_rfl) rfl Taken.no) ?_
  refine SL.memS (O.buildSlice 103 rfl rfl Try.underlying52 hi108 hz108 hs108 (by decide) rfl (by decide) rfl rfl rfl Taken.no) rfl rfl (S' := (103, _) :: _) rfl ?_
  refine SL.memS (O.app (k' := 104) rfl rfl (SlOf.own rfl rfl) Try.underlying52 hi108 hz108 hs108 rfl rfl (by exact map_snoc (x := l[k]!) rfl) (by rw [hb108]; first | omega | (simp only [List.length_map]; omega) | (simp <;> omega)) (by first | omega | (simp only [List.length_map]; omega) | (simp <;> omega)) rfl Taken.no) rfl rfl (S' := (104, _) :: (101, .dead) :: _) rfl ?_
  refine SL.val (O.assign rfl rfl Taken.no) ?_
  refine SL.nil ?_
  refine E.inn ?_
  refine E.to ?_
  refine W.region ?_
  refine SL.val (O.move rfl rfl Taken.no) ?_
  refine SL.val (O.det (fun _ => by first | exact G.R.add64 rfl rfl (by omega) | exact G.R.add rfl rfl) rfl Taken.no) ?_
  refine SL.val (O.assign rfl rfl Taken.no) ?_
  refine SL.nil ?_
  refine E.again ((k + 1)) (rn [(101, 104)]) ?_ ?_ rfl (fixL_spec rfl) ?_ ?_
  · exact (SubF.cons rfl (SubF.cons rfl (SubF.cons rfl (SubF.cons rfl SubF.nil))))
  · exact (SubS.val rfl (by (try dsimp only); exact sb_data (by rw [snocT (by omega)])) SubS.nil)
  ·try dsimp only
   omega
  · (try dsimp only); omega
 ·skip
  refine W.exit ?_
  refine E.th ?_
  refine E.th ?_
  refine E.hit ?_
  refine E.to ?_
  refine W.seq ?_
  refine W.region ?_
  refine SL.val (O.move rfl rfl Taken.no) ?_
  refine SL.val (O.assign rfl rfl Taken.no) ?_
  refine SL.nil ?_
  refine E.to ?_
  refine W.ret ?_
  refine E.freeze 101 rfl (F' := [(2, _)]) (⟨⟨_, rfl, rfl⟩, trivial⟩) ?_
  refine E.fin (rs := [_]) (rn []) (.inl rfl) rfl (.cons (ResOne.tmp rfl) .nil) ?_ ?_ rfl (fixL_spec rfl)
  ·skip
   obtain rfl : k = l.length := by omega
   rw [List.take_length]; rfl
  · exact SubS.nil

set_option maxRecDepth 8000 in
/-- bookplate/bookplatelaw51.entries. -/
theorem entries_h {l : List Entry} (hn : l.length ≤ 1000000) :
    Con Try.prog 30 [vL 4 (l.map eEn)] [] (vL 4 (l.map eEn)) [] := by
 obtain ⟨i66, hi66, hz66, hs66, hb66⟩ := hinf66
 obtain ⟨i109, hi109, hz109, hs109, hb109⟩ := hinf109
 refine Con.enterL (n := 19) Try.func30 rfl rfl rfl (fun τ w ok vs hin => ?_)
 have hl0 := hin.len (i := 0) rfl
 try rw [List.length_map] at hl0
 clear hin
 refine W.seq ?_
 refine W.region ?_
 refine SL.val (O.assign rfl rfl Taken.no) ?_
 refine SL.nil ?_
 refine E.to ?_
 refine W.seq ?_
 refine W.region ?_
 refine SL.val (O.assign rfl rfl Taken.no) ?_
 refine SL.nil ?_
 refine E.to ?_
 refine W.seq ?_
 refine W.seq ?_
 refine W.region ?_
 refine SL.val (O.assign rfl rfl Taken.no) ?_
 refine SL.nil ?_
 refine E.to ?_
 refine W.block ?_
 refine W.adopt 3 102 66 4 (by decide) rfl rfl rfl ?_
 refine W.loopx1 (fun (k : Nat) => [(4, vI (k : Int)), (3, .own 101)]) (fun (k : Nat) => [(101, .data 66 4 ((l.take k).map eEn))]) (fun (k : Nat) => k ≤ l.length) (fun (k : Nat) => l.length - k) (0) (rn [(101, 102)]) (.cons (t := 0) rfl (.cons (t := 2) rfl .nil)) .nil rfl ?_ ?_ rfl rfl ?_ ?_
 · exact (SubF.cons rfl (SubF.cons rfl SubF.nil))
 · exact (SubS.cons rfl SubS.nil)
 ·skip
  omega
 intro k hinv
 have hk := hinv
 have htl : (l.take k).length = k := by rw [List.length_take]; omega
 refine W.seq ?_
 refine W.seq ?_
 refine W.region ?_
 refine SL.val (O.move rfl rfl Taken.no) ?_
 refine SL.val (O.move rfl rfl Taken.no) ?_
 refine SL.val (O.lenE (SlOf.fz rfl (by decide)) (by first | exact List.length_map _ | rfl) Try.underlying49 rfl Taken.no) ?_
 refine SL.val (O.det (fun _ => G.R.lss rfl rfl) rfl Taken.no) ?_
 refine SL.nil ?_
 refine E.to ?_
 first | refine W.cond_d rfl (fun hc1 => ?_) (fun hc1 => ?_) | refine W.cond_nd rfl (fun hc1 => ?_) (fun hc1 => ?_) | refine W.cond rfl (fun hc1 => ?_) (fun hc1 => ?_)
 ·skip
  refine W.skip ?_
  refine E.to ?_
  refine W.seq ?_
  refine W.block ?_
  refine W.region ?_
  refine SL.val (O.move rfl rfl Taken.no) ?_
  refine SL.val (O.move rfl rfl Taken.no) ?_
  refine SL.val (O.move rfl rfl Taken.no) ?_
  refine SL.val (O.idx_fz rfl rfl (rfl) (row_get (by omega)) Try.underlying49 hi109 hs109 rfl Taken.no) ?_
  refine SL.val (O.ldU (m := 4) (PtU.fz rfl) rfl Try.underlying109 rfl (by kernel_rfl) rfl Taken.no) ?_
  refine SL.memS (O.buildSlice 103 rfl rfl Try.underlying54 hi66 hz66 hs66 (by decide) rfl (by decide) rfl rfl rfl Taken.no) rfl rfl (S' := (103, _) :: _) rfl ?_
  refine SL.memS (O.app (k' := 104) rfl rfl (SlOf.own rfl rfl) Try.underlying54 hi66 hz66 hs66 rfl rfl (by exact map_snoc (x := l[k]!) rfl) (by rw [hb66]; first | omega | (simp only [List.length_map]; omega) | (simp <;> omega)) (by first | omega | (simp only [List.length_map]; omega) | (simp <;> omega)) rfl Taken.no) rfl rfl (S' := (104, _) :: (101, .dead) :: _) rfl ?_
  refine SL.val (O.assign rfl rfl Taken.no) ?_
  refine SL.nil ?_
  refine E.inn ?_
  refine E.to ?_
  refine W.region ?_
  refine SL.val (O.move rfl rfl Taken.no) ?_
  refine SL.val (O.det (fun _ => by first | exact G.R.add64 rfl rfl (by omega) | exact G.R.add rfl rfl) rfl Taken.no) ?_
  refine SL.val (O.assign rfl rfl Taken.no) ?_
  refine SL.nil ?_
  refine E.again ((k + 1)) (rn [(101, 104)]) ?_ ?_ rfl (fixL_spec rfl) ?_ ?_
  · exact (SubF.cons rfl (SubF.cons rfl (SubF.cons rfl (SubF.cons rfl SubF.nil))))
  · exact (SubS.val rfl (by (try dsimp only); exact sb_data (by rw [snocT (by omega)])) SubS.nil)
  ·try dsimp only
   omega
  · (try dsimp only); omega
 ·skip
  refine W.exit ?_
  refine E.th ?_
  refine E.th ?_
  refine E.hit ?_
  refine E.to ?_
  refine W.seq ?_
  refine W.region ?_
  refine SL.val (O.move rfl rfl Taken.no) ?_
  refine SL.val (O.assign rfl rfl Taken.no) ?_
  refine SL.nil ?_
  refine E.to ?_
  refine W.ret ?_
  refine E.freeze 101 rfl (F' := [(2, _)]) (⟨⟨_, rfl, rfl⟩, trivial⟩) ?_
  refine E.fin (rs := [_]) (rn []) (.inl rfl) rfl (.cons (ResOne.tmp rfl) .nil) ?_ ?_ rfl (fixL_spec rfl)
  ·skip
   obtain rfl : k = l.length := by omega
   rw [List.take_length]; rfl
  · exact SubS.nil

set_option maxRecDepth 8000 in
/-- bookplate/session.Show. -/
theorem show_h {s : Sess} {l : List Lead} (i : Int) (hln : l.length ≤ 1000000) :
    Con Try.prog 26 [vA [uI s.size, .sl 2 (s.items.map eT)], vI i, vL 2 (l.map eLd)] [] (.tup [vL 4 ((showQ s i l).map eEn), vI (showE s i l)]) [] := by
 obtain ⟨i63, hi63, hz63, hs63, hb63⟩ := hinf63
 obtain ⟨i109, hi109, hz109, hs109, hb109⟩ := hinf109
 refine Con.enterL (n := 81) Try.func26 rfl rfl rfl (fun τ w ok vs hin => ?_)
 have hl0_1 := hin.lenA (i := 0) (j := 1) rfl rfl
 try rw [List.length_map] at hl0_1
 have hl2 := hin.len (i := 2) rfl
 try rw [List.length_map] at hl2
 clear hin
 refine W.seq ?_
 refine W.region ?_
 refine SL.memS (O.box (is := [_, _]) 101 rfl rfl (by simp) rfl rfl Taken.no) rfl rfl (S' := (101, _) :: _) rfl ?_
 refine SL.val (O.assign rfl rfl Taken.no) ?_
 refine SL.val (O.assign rfl rfl Taken.no) ?_
 refine SL.nil ?_
 refine E.to ?_
 refine W.seq ?_
 refine W.seq ?_
 refine W.region ?_
 refine SL.val (O.ldN (m := 2) (PtI.ref rfl rfl) (js := [_, _]) rfl (Nat.le_of_ble_eq_true rfl) Try.underlying27 rfl (by kernel_rfl) rfl Taken.no) ?_
 refine SL.val (O.callp rfl rfl rfl (valid_h) (.cons (ArgOk.aggU (.cons (ArgOk.same rfl) (.cons (ArgOk.same rfl) .nil))) .nil) hcallOk21 rfl Taken.no) ?_
 refine SL.val (O.det (fun _ => G.R.not rfl) rfl Taken.no) ?_
 refine SL.val (O.move rfl rfl Taken.no) ?_
 refine SL.case (j := 3) (g := 18) (want := false) rfl rfl (fun hg1 => ?_) (fun hg1 => ?_)
 ·skip
  first | have hg1p := G.gA3 hg1 | have hg1p := G.gA4 hg1 | have hg1p := hg1
  refine SL.val (O.move rfl rfl (Taken.yes rfl rfl hg1)) ?_
  refine SL.val (O.callp rfl rfl rfl (validLeads_h) (.cons (ArgOk.same rfl) .nil) hcallOk31 rfl (Taken.yes rfl rfl hg1)) ?_
  refine SL.val (O.det (fun _ => G.R.not rfl) rfl (Taken.yes rfl rfl hg1)) ?_
  refine SL.val (O.pick_f rfl hg1 rfl rfl Taken.no) ?_
  refine SL.nil ?_
  refine E.to ?_
  first | refine W.cond_d rfl (fun hc2 => ?_) (fun hc2 => ?_) | refine W.cond_nd rfl (fun hc2 => ?_) (fun hc2 => ?_) | refine W.cond rfl (fun hc2 => ?_) (fun hc2 => ?_)
  ·skip
   refine W.seq ?_
   refine W.region ?_
   refine SL.val (O.assign rfl rfl Taken.no) ?_
   refine SL.val (O.assign rfl rfl Taken.no) ?_
   refine SL.nil ?_
   refine E.to ?_
   refine W.ret ?_
   refine E.thr ?_
   refine E.nilsl 6 4 rfl ?_
   refine E.fin (rs := [_, _]) (rn []) (.inl rfl) rfl (.cons (ResOne.tmp rfl) (.cons (ResOne.tmp rfl) .nil)) ?_ ?_ rfl (fixL_spec rfl)
   ·skip
    rw [(show_1 (s := s) (i := i) (l := l) (by first | assumption | simp_all)).1, (show_1 (s := s) (i := i) (l := l) (by first | assumption | simp_all)).2]; rfl
   · exact SubS.nil
  ·skip
   have hvv : validS s ∧ validL l := by first | assumption | simp_all
   refine W.skip ?_
   refine E.to ?_
   refine W.seq ?_
   refine W.region ?_
   refine SL.val (O.ldN (m := 2) (PtI.ref rfl rfl) (js := [_, _]) rfl (Nat.le_of_ble_eq_true rfl) Try.underlying27 rfl (by kernel_rfl) rfl Taken.no) ?_
   refine SL.val (O.move rfl rfl Taken.no) ?_
   refine SL.memS (O.call (rn []) [] rfl rfl rfl (page_h (s := s) i) (.cons (ArgOk.aggU (.cons (ArgOk.same rfl) (.cons (ArgOk.same rfl) .nil))) (.cons (ArgOk.same rfl) .nil)) SubS.nil rfl rfl rfl rfl rfl (.inl rfl) hcallOk15 (r' := .tup [.u _, .u _]) rfl rfl Taken.no) rfl rfl (S' := _) rfl ?_
   refine SL.val (O.move rfl rfl Taken.no) ?_
   refine SL.val (O.extract rfl rfl rfl Taken.no) ?_
   refine SL.val (O.extract rfl rfl rfl Taken.no) ?_
   refine SL.val (O.assign rfl rfl Taken.no) ?_
   refine SL.val (O.assign rfl rfl Taken.no) ?_
   refine SL.nil ?_
   refine E.to ?_
   refine W.seq ?_
   refine W.seq ?_
   refine W.region ?_
   refine SL.val (O.move rfl rfl Taken.no) ?_
   refine SL.val (O.det (fun _ => G.R.neq rfl rfl) rfl Taken.no) ?_
   refine SL.nil ?_
   refine E.to ?_
   first | refine W.cond_d rfl (fun hc3 => ?_) (fun hc3 => ?_) | refine W.cond_nd rfl (fun hc3 => ?_) (fun hc3 => ?_) | refine W.cond rfl (fun hc3 => ?_) (fun hc3 => ?_)
   ·skip
    refine W.seq ?_
    refine W.region ?_
    refine SL.val (O.move rfl rfl Taken.no) ?_
    refine SL.val (O.assign rfl rfl Taken.no) ?_
    refine SL.val (O.assign rfl rfl Taken.no) ?_
    refine SL.nil ?_
    refine E.to ?_
    refine W.pick (.cons (t := 1) rfl (.cons (t := 2) rfl (.cons (t := 3) rfl (.cons (t := 6) rfl (.cons (t := 7) rfl (.cons (t := 8) rfl .nil)))))) (.cons (t := 101) rfl .nil) ?_
    refine W.ret ?_
    refine E.thr ?_
    refine E.nilsl 6 4 rfl ?_
    refine E.fin (rs := [_, _]) (rn []) (.inl rfl) rfl (.cons (ResOne.tmp rfl) (.cons (ResOne.tmp rfl) .nil)) ?_ ?_ rfl (fixL_spec rfl)
    ·skip
     rw [(show_e (i := i) hvv (by assumption)).1, (show_e (i := i) hvv (by assumption)).2]; rfl
    · exact SubS.nil
   ·skip
    have he0 : pageE s i = 0 := by first | assumption | omega
    obtain ⟨ho1, ho2⟩ := show_0 hvv he0
    obtain ⟨hb1, hb2⟩ := bgn_le he0
    obtain ⟨hpo1, hpo2, hpo3, hpo4⟩ := page_ok he0
    have hs := hvv.1.1
    have hbe := bgn_eq hs.1 hpo2
    have hnl := nP_le hs.1
    have hpat := fun {k : Nat} (h : k < (pageQ s i).length) => page_at he0 h
    refine W.skip ?_
    refine E.to ?_
    refine W.seq ?_
    refine W.region ?_
    refine SL.memS (O.makeMap 102 rfl Taken.no) rfl rfl (S' := (102, .mp []) :: _) rfl ?_
    refine SL.val (O.assign rfl rfl Taken.no) ?_
    refine SL.nil ?_
    refine E.to ?_
    refine W.pick (.cons (t := 1) rfl (.cons (t := 2) rfl (.cons (t := 3) rfl (.cons (t := 6) rfl (.cons (t := 7) rfl (.cons (t := 8) rfl (.cons (t := 10) rfl .nil))))))) (.cons (t := 101) rfl (.cons (t := 102) rfl .nil)) ?_
    refine W.seq ?_
    refine W.region ?_
    refine SL.val (O.assign rfl rfl Taken.no) ?_
    refine SL.nil ?_
    refine E.to ?_
    refine W.seq ?_
    refine W.seq ?_
    refine W.region ?_
    refine SL.val (O.fld_ref (o' := 1) rfl Try.underlying27 rfl (m := 0) (by kernel_rfl) rfl rfl Taken.no) ?_
    refine SL.val (O.ld1 (PtI.ref rfl rfl) rfl Try.underlying22 rfl rfl Taken.no) ?_
    refine SL.val (O.move rfl rfl Taken.no) ?_
    refine SL.val (O.det (fun _ => by first | exact G.R.sub64 rfl rfl (by omega) | exact G.R.sub rfl rfl) rfl Taken.no) ?_
    refine SL.val (O.fld_ref (o' := 0) rfl Try.underlying27 rfl (m := 0) (by kernel_rfl) rfl rfl Taken.no) ?_
    refine SL.val (O.ld1 (PtI.ref rfl rfl) rfl Try.underlying3 rfl rfl Taken.no) ?_
    refine SL.val (O.det (fun _ => G.R.mv (G.R.mul64 rfl rfl (by rw [hbe]; omega)) (congrArg (Value.int .i64) hbe)) rfl Taken.no) ?_
    refine SL.val (O.move rfl rfl Taken.no) ?_
    refine SL.val (O.lenE (SlOf.fz rfl (by decide)) (by first | exact List.length_map _ | rfl) Try.underlying22 rfl Taken.no) ?_
    refine SL.val (O.det (fun _ => by first | exact G.R.add64 rfl rfl (by omega) | exact G.R.add rfl rfl) rfl Taken.no) ?_
    refine SL.val (O.sub_fz (j := (bgn s i + (pageQ s i).length)) rfl Bnd.no (Bnd.at rfl (by first | rfl | omega)) (by first | omega | (simp only [List.length_map, Nat.le_refl, Nat.zero_le] <;> omega) | (simp <;> omega)) (by rw [List.length_map]; omega) sub_hi Try.underlying22 hi63 hs63 rfl Taken.no) ?_
    refine SL.val (O.lenE (n := bgn s i + (pageQ s i).length) (SlOf.fz rfl (by decide)) (by rw [List.length_map, List.length_take]; omega) Try.underlying22 rfl Taken.no) ?_
    refine SL.val (O.move rfl rfl Taken.no) ?_
    refine SL.nil ?_
    refine E.to ?_
    refine W.block ?_
    refine W.adopt 11 105 109 4 (by decide) rfl rfl rfl ?_
    refine W.loopx1 (fun (k : Nat) => [(45, vI (k : Int)), (10, .own 103), (11, .own 104)]) (fun (k : Nat) => [(103, .mp (mpE (fun a : Int => Value.int .i64 a) Value.bool (seenF (nowF s l) k))), (104, .data 109 4 ((outK s l (bgn s i) (k - bgn s i)).map eEn))]) (fun (k : Nat) => k ≤ bgn s i + (pageQ s i).length) (fun (k : Nat) => bgn s i + (pageQ s i).length - k) (0) (rn [(103, 102), (104, 105)]) (.cons (t := 1) rfl (.cons (t := 2) rfl (.cons (t := 3) rfl (.cons (t := 6) rfl (.cons (t := 7) rfl (.cons (t := 43) rfl (.cons (t := 44) rfl .nil))))))) (.cons (t := 101) rfl .nil) rfl ?_ ?_ rfl rfl ?_ ?_
    · exact (SubF.cons rfl (SubF.cons rfl (SubF.cons rfl SubF.nil)))
    · exact (SubS.cons rfl (SubS.val rfl (by exact sb_data (by rw [Nat.zero_sub]; rfl)) SubS.nil))
    ·skip
     omega
    intro k hinv
    have hk := hinv
    have hol := outK_len s l (bgn s i) (k - bgn s i)
    have hgt : k < bgn s i + (pageQ s i).length → (s.items.take (bgn s i + (pageQ s i).length))[k]! = s.items[k]! := fun h => take_get (by omega) (by omega)
    refine W.seq ?_
    refine W.region ?_
    refine SL.val (O.det (fun _ => G.R.lss rfl rfl) rfl Taken.no) ?_
    refine SL.nil ?_
    refine E.to ?_
    refine W.seq ?_
    first | refine W.cond_d rfl (fun hc4 => ?_) (fun hc4 => ?_) | refine W.cond_nd rfl (fun hc4 => ?_) (fun hc4 => ?_) | refine W.cond rfl (fun hc4 => ?_) (fun hc4 => ?_)
    ·skip
     refine W.skip ?_
     refine E.to ?_
     refine W.seq ?_
     refine W.block ?_
     refine W.seq ?_
     refine W.region ?_
     refine SL.val (O.move rfl rfl Taken.no) ?_
     refine SL.val (O.idx_fz rfl rfl (rfl) (row_get (by rw [List.length_take]; omega)) Try.underlying22 hi63 hs63 rfl Taken.no) ?_
     refine SL.val (O.ldU (m := 2) (PtU.fz rfl) rfl Try.underlying63 rfl (by kernel_rfl) rfl Taken.no) ?_
     refine SL.memS (O.alloc (z := .agg #[.int .i64 0, .int .i64 0]) (is := [.u (.sc (.int .i64 0)), .u (.sc (.int .i64 0))]) 106 (by kernel_rfl) rfl rfl rfl Taken.no) rfl rfl (S' := (106, _) :: _) rfl ?_
     refine SL.val (O.assign rfl rfl Taken.no) ?_
     refine SL.effS (O.st_ref (m := 2) rfl rfl rfl (js := [_, _]) rfl rfl (by kernel_rfl) (by simp) (Nat.le_of_ble_eq_true rfl) rfl (is' := [_, _]) rfl Taken.no) (S' := (106, _) :: _) rfl ?_
     refine SL.nil ?_
     refine E.to ?_
     refine W.seq ?_
     refine W.region ?_
     refine SL.val (O.move rfl rfl Taken.no) ?_
     refine SL.val (O.fld_ref (o' := 0) rfl Try.underlying63 rfl (m := 0) (by kernel_rfl) rfl rfl Taken.no) ?_
     refine SL.val (O.ld1 (PtI.ref rfl rfl) rfl Try.underlying3 rfl rfl Taken.no) ?_
     rw [hgt (by omega)]
     refine SL.val (O.callp rfl rfl rfl (now_h hvv.2 (by omega)) (.cons (ArgOk.same rfl) (.cons (ArgOk.same rfl) .nil)) hcallOk54 rfl Taken.no) ?_
     refine SL.as (i' := vI (nowF s l k)) 53 rfl (by rfl) ?_
     refine SL.val (O.assign rfl rfl Taken.no) ?_
     refine SL.nil ?_
     refine E.to ?_
     refine W.seq ?_
     refine W.seq ?_
     refine W.region ?_
     refine SL.val (O.move rfl rfl Taken.no) ?_
     refine SL.val (O.move rfl rfl Taken.no) ?_
     refine SL.val (O.det (fun _ => by first | exact G.R.sub64 rfl rfl (by omega) | exact G.R.sub rfl rfl) rfl Taken.no) ?_
     refine SL.val (O.fld_ref (o' := 0) rfl Try.underlying27 rfl (m := 0) (by kernel_rfl) rfl rfl Taken.no) ?_
     refine SL.val (O.ld1 (PtI.ref rfl rfl) rfl Try.underlying3 rfl rfl Taken.no) ?_
     refine SL.val (O.det (fun _ => G.R.mv (G.R.mul64 rfl rfl (by rw [hbe]; omega)) (congrArg (Value.int .i64) hbe)) rfl Taken.no) ?_
     refine SL.val (O.det (fun _ => G.R.geq rfl rfl) rfl Taken.no) ?_
     refine SL.nil ?_
     refine E.to ?_
     refine W.pick (.cons (t := 1) rfl (.cons (t := 2) rfl (.cons (t := 3) rfl (.cons (t := 6) rfl (.cons (t := 7) rfl (.cons (t := 10) rfl (.cons (t := 11) rfl (.cons (t := 13) rfl (.cons (t := 14) rfl (.cons (t := 43) rfl (.cons (t := 44) rfl (.cons (t := 45) rfl (.cons (t := 60) rfl .nil))))))))))))) (.cons (t := 101) rfl (.cons (t := 103) rfl (.cons (t := 104) rfl (.cons (t := 106) rfl .nil)))) ?_
     first | refine W.cond_d rfl (fun hc5 => ?_) (fun hc5 => ?_) | refine W.cond_nd rfl (fun hc5 => ?_) (fun hc5 => ?_) | refine W.cond rfl (fun hc5 => ?_) (fun hc5 => ?_)
     ·skip
      refine W.region ?_
      refine SL.val (O.move rfl rfl Taken.no) ?_
      refine SL.val (O.fld_ref (o' := 0) rfl Try.underlying63 rfl (m := 0) (by kernel_rfl) rfl rfl Taken.no) ?_
      refine SL.val (O.ld1 (PtI.ref rfl rfl) rfl Try.underlying3 rfl rfl Taken.no) ?_
      refine SL.val (O.fld_ref (o' := 1) rfl Try.underlying63 rfl (m := 0) (by kernel_rfl) rfl rfl Taken.no) ?_
      refine SL.val (O.ld1 (PtI.ref rfl rfl) rfl Try.underlying3 rfl rfl Taken.no) ?_
      refine SL.val (O.move rfl rfl Taken.no) ?_
      refine SL.val (O.move rfl rfl Taken.no) ?_
      refine SL.val (O.det (fun _ => G.R.neq rfl rfl) rfl Taken.no) ?_
      refine SL.val (O.move rfl rfl Taken.no) ?_
      refine SL.case (j := 8) (g := 69) (want := true) rfl rfl (fun hg6 => ?_) (fun hg6 => ?_)
      ·skip
       first | have hg6p := G.gA1 hg6 | have hg6p := G.gA2 hg6 | have hg6p := hg6
       refine SL.val (O.move rfl rfl (Taken.yes rfl rfl hg6)) ?_
       refine SL.val (O.move rfl rfl (Taken.yes rfl rfl hg6)) ?_
       refine SL.val (O.lookup (kf := (fun a : Int => Value.int .i64 a)) (vf := Value.bool) (l := seenF (nowF s l) k) (b := nowF s l k) (z := false) rfl rfl rfl Try.underlying115 (KeyOk.int Try.underlying3) (by kernel_rfl) rfl (Taken.yes rfl rfl hg6)) ?_
       refine SL.val (O.pick_t rfl hg6 rfl rfl Taken.no) ?_
       refine SL.val (O.build (res := [_, _, _, _]) (z := .agg #[.int .i64 0, .int .i64 0, .int .i64 0, .bool false]) (places := [(0, 1), (1, 1), (2, 1), (3, 1)]) rfl rfl Try.underlying109 (by kernel_rfl) (fun _ => by kernel_rfl) rfl rfl Taken.no) ?_
       refine SL.memS (O.buildSlice 107 rfl rfl Try.underlying49 hi109 hz109 hs109 (by decide) rfl (by decide) rfl rfl rfl Taken.no) rfl rfl (S' := (107, _) :: _) rfl ?_
       refine SL.memS (O.app (k' := 108) rfl rfl (SlOf.own rfl rfl) Try.underlying49 hi109 hz109 hs109 rfl rfl (by first | exact map_snoc (x := entryAt s l k) (row_yes (by assumption)) | exact map_snoc (x := entryAt s l k) (row_no (by omega))) (by rw [hb109]; first | omega | (simp only [List.length_map]; omega) | (simp <;> omega)) (by first | omega | (simp only [List.length_map]; omega) | (simp <;> omega)) rfl Taken.no) rfl rfl (S' := (108, _) :: (104, .dead) :: _) rfl ?_
       refine SL.val (O.assign rfl rfl Taken.no) ?_
       refine SL.nil ?_
       refine E.to ?_
       refine W.pick (.cons (t := 1) rfl (.cons (t := 2) rfl (.cons (t := 3) rfl (.cons (t := 6) rfl (.cons (t := 7) rfl (.cons (t := 10) rfl (.cons (t := 11) rfl (.cons (t := 14) rfl (.cons (t := 43) rfl (.cons (t := 44) rfl (.cons (t := 45) rfl .nil))))))))))) (.cons (t := 101) rfl (.cons (t := 103) rfl (.cons (t := 106) rfl (.cons (t := 107) rfl (.cons (t := 108) rfl .nil))))) ?_
       refine W.region ?_
       refine SL.val (O.move rfl rfl Taken.no) ?_
       refine SL.val (O.move rfl rfl Taken.no) ?_
       refine SL.effS (O.mapUpdate (kf := (fun a : Int => Value.int .i64 a)) (vf := Value.bool) (l := seenF (nowF s l) k) (b := nowF s l k) (u := true) rfl rfl rfl rfl Try.underlying115 (KeyOk.int Try.underlying3) Taken.no) (S' := (103, _) :: _) rfl ?_
       refine SL.nil ?_
       refine E.inn ?_
       refine E.to ?_
       refine W.region ?_
       refine SL.val (O.det (fun _ => by first | exact G.R.add64 rfl rfl (by omega) | exact G.R.add rfl rfl) rfl Taken.no) ?_
       refine SL.val (O.move rfl rfl Taken.no) ?_
       refine SL.nil ?_
       refine E.again ((k + 1)) (rn [(104, 108)]) ?_ ?_ rfl (fixL_spec rfl) ?_ ?_
       · exact (SubF.cons rfl (SubF.cons rfl (SubF.cons rfl (SubF.cons rfl (SubF.cons rfl (SubF.cons rfl (SubF.cons rfl (SubF.cons rfl (SubF.cons rfl (SubF.cons rfl SubF.nil))))))))))
       · exact (SubS.cons rfl (SubS.val rfl (by (try dsimp only); first | exact sb_data (by rw [show k + 1 - bgn s i = (k - bgn s i) + 1 by omega, outK_succ, show bgn s i + (k - bgn s i) = k by omega]) | exact sb_data (by rw [show k + 1 - bgn s i = 0 by omega, show k - bgn s i = 0 by omega])) (SubS.cons rfl SubS.nil)))
       ·try dsimp only
        omega
       · (try dsimp only); omega
      ·skip
       first | have hg6p := G.gA5 hg6 | have hg6p := G.gA6 hg6 | have hg6p := hg6
       refine SL.skip (OpOk.not rfl rfl rfl hg6) ?_
       refine SL.skip (OpOk.not rfl rfl rfl hg6) ?_
       refine SL.skip (OpOk.not rfl rfl rfl hg6) ?_
       refine SL.val (O.pick_f rfl (G.ne_t hg6) rfl rfl Taken.no) ?_
       refine SL.val (O.build (res := [_, _, _, _]) (z := .agg #[.int .i64 0, .int .i64 0, .int .i64 0, .bool false]) (places := [(0, 1), (1, 1), (2, 1), (3, 1)]) rfl rfl Try.underlying109 (by kernel_rfl) (fun _ => by kernel_rfl) rfl rfl Taken.no) ?_
       refine SL.memS (O.buildSlice 109 rfl rfl Try.underlying49 hi109 hz109 hs109 (by decide) rfl (by decide) rfl rfl rfl Taken.no) rfl rfl (S' := (109, _) :: _) rfl ?_
       refine SL.memS (O.app (k' := 110) rfl rfl (SlOf.own rfl rfl) Try.underlying49 hi109 hz109 hs109 rfl rfl (by first | exact map_snoc (x := entryAt s l k) (row_yes (by assumption)) | exact map_snoc (x := entryAt s l k) (row_no (by omega))) (by rw [hb109]; first | omega | (simp only [List.length_map]; omega) | (simp <;> omega)) (by first | omega | (simp only [List.length_map]; omega) | (simp <;> omega)) rfl Taken.no) rfl rfl (S' := (110, _) :: (104, .dead) :: _) rfl ?_
       refine SL.val (O.assign rfl rfl Taken.no) ?_
       refine SL.nil ?_
       refine E.to ?_
       refine W.pick (.cons (t := 1) rfl (.cons (t := 2) rfl (.cons (t := 3) rfl (.cons (t := 6) rfl (.cons (t := 7) rfl (.cons (t := 10) rfl (.cons (t := 11) rfl (.cons (t := 14) rfl (.cons (t := 43) rfl (.cons (t := 44) rfl (.cons (t := 45) rfl .nil))))))))))) (.cons (t := 101) rfl (.cons (t := 103) rfl (.cons (t := 106) rfl (.cons (t := 109) rfl (.cons (t := 110) rfl .nil))))) ?_
       refine W.region ?_
       refine SL.val (O.move rfl rfl Taken.no) ?_
       refine SL.val (O.move rfl rfl Taken.no) ?_
       refine SL.effS (O.mapUpdate (kf := (fun a : Int => Value.int .i64 a)) (vf := Value.bool) (l := seenF (nowF s l) k) (b := nowF s l k) (u := true) rfl rfl rfl rfl Try.underlying115 (KeyOk.int Try.underlying3) Taken.no) (S' := (103, _) :: _) rfl ?_
       refine SL.nil ?_
       refine E.inn ?_
       refine E.to ?_
       refine W.region ?_
       refine SL.val (O.det (fun _ => by first | exact G.R.add64 rfl rfl (by omega) | exact G.R.add rfl rfl) rfl Taken.no) ?_
       refine SL.val (O.move rfl rfl Taken.no) ?_
       refine SL.nil ?_
       refine E.again ((k + 1)) (rn [(104, 110)]) ?_ ?_ rfl (fixL_spec rfl) ?_ ?_
       · exact (SubF.cons rfl (SubF.cons rfl (SubF.cons rfl (SubF.cons rfl (SubF.cons rfl (SubF.cons rfl (SubF.cons rfl (SubF.cons rfl (SubF.cons rfl (SubF.cons rfl SubF.nil))))))))))
       · exact (SubS.cons rfl (SubS.val rfl (by (try dsimp only); first | exact sb_data (by rw [show k + 1 - bgn s i = (k - bgn s i) + 1 by omega, outK_succ, show bgn s i + (k - bgn s i) = k by omega]) | exact sb_data (by rw [show k + 1 - bgn s i = 0 by omega, show k - bgn s i = 0 by omega])) (SubS.cons rfl SubS.nil)))
       ·try dsimp only
        omega
       · (try dsimp only); omega
     ·skip
      refine W.skip ?_
      refine E.to ?_
      refine W.region ?_
      refine SL.val (O.move rfl rfl Taken.no) ?_
      refine SL.val (O.move rfl rfl Taken.no) ?_
      refine SL.effS (O.mapUpdate (kf := (fun a : Int => Value.int .i64 a)) (vf := Value.bool) (l := seenF (nowF s l) k) (b := nowF s l k) (u := true) rfl rfl rfl rfl Try.underlying115 (KeyOk.int Try.underlying3) Taken.no) (S' := (103, _) :: _) rfl ?_
      refine SL.nil ?_
      refine E.inn ?_
      refine E.to ?_
      refine W.region ?_
      refine SL.val (O.det (fun _ => by first | exact G.R.add64 rfl rfl (by omega) | exact G.R.add rfl rfl) rfl Taken.no) ?_
      refine SL.val (O.move rfl rfl Taken.no) ?_
      refine SL.nil ?_
      refine E.again ((k + 1)) (rn []) ?_ ?_ rfl (fixL_spec rfl) ?_ ?_
      · exact (SubF.cons rfl (SubF.cons rfl (SubF.cons rfl (SubF.cons rfl (SubF.cons rfl (SubF.cons rfl (SubF.cons rfl (SubF.cons rfl (SubF.cons rfl (SubF.cons rfl SubF.nil))))))))))
      · exact (SubS.cons rfl (SubS.val rfl (by (try dsimp only); first | exact sb_data (by rw [show k + 1 - bgn s i = (k - bgn s i) + 1 by omega, outK_succ, show bgn s i + (k - bgn s i) = k by omega]) | exact sb_data (by rw [show k + 1 - bgn s i = 0 by omega, show k - bgn s i = 0 by omega])) (SubS.cons rfl SubS.nil)))
      ·try dsimp only
       omega
      · (try dsimp only); omega
    ·skip
     refine W.exit ?_
     refine E.th ?_
     refine E.th ?_
     refine E.hit ?_
     refine E.to ?_
     refine W.seq ?_
     refine W.region ?_
     refine SL.val (O.move rfl rfl Taken.no) ?_
     refine SL.val (O.assign rfl rfl Taken.no) ?_
     refine SL.val (O.assign rfl rfl Taken.no) ?_
     refine SL.nil ?_
     refine E.to ?_
     refine W.ret ?_
     refine E.freeze 104 rfl (F' := [(6, _)]) (⟨⟨_, rfl, rfl⟩, trivial⟩) ?_
     refine E.fin (rs := [_, _]) (rn []) (.inl rfl) rfl (.cons (ResOne.tmp rfl) (.cons (ResOne.tmp rfl) .nil)) ?_ ?_ rfl (fixL_spec rfl)
     ·skip
      rw [ho1, ho2, show k = bgn s i + (pageQ s i).length by omega, Nat.add_sub_cancel_left]; rfl
     · exact SubS.nil
 ·skip
  first | have hg1p := G.gA7 hg1 | have hg1p := G.gA8 hg1 | have hg1p := hg1
  refine SL.skip (OpOk.not rfl rfl rfl hg1) ?_
  refine SL.skip (OpOk.not rfl rfl rfl hg1) ?_
  refine SL.skip (OpOk.not rfl rfl rfl hg1) ?_
  refine SL.val (O.pick_t rfl (G.ne_f hg1) rfl rfl Taken.no) ?_
  refine SL.nil ?_
  refine E.to ?_
  refine W.cond_t rfl ?_
  refine W.seq ?_
  refine W.region ?_
  refine SL.val (O.assign rfl rfl Taken.no) ?_
  refine SL.val (O.assign rfl rfl Taken.no) ?_
  refine SL.nil ?_
  refine E.to ?_
  refine W.ret ?_
  refine E.thr ?_
  refine E.nilsl 6 4 rfl ?_
  refine E.fin (rs := [_, _]) (rn []) (.inl rfl) rfl (.cons (ResOne.tmp rfl) (.cons (ResOne.tmp rfl) .nil)) ?_ ?_ rfl (fixL_spec rfl)
  ·skip
   rw [(show_1 (s := s) (i := i) (l := l) (by first | assumption | simp_all)).1, (show_1 (s := s) (i := i) (l := l) (by first | assumption | simp_all)).2]; rfl
  · exact SubS.nil

set_option maxRecDepth 8000 in
/-- bookplate/bookplateref51.Show. -/
theorem refShow_h {s : Sess} {l : List Lead} (i : Int) (_ : l.length ≤ 1000000) :
    Con Try.prog 28 [vA [uI s.size, .sl 2 (s.items.map eT)], vI i, vL 2 (l.map eLd)] [] (.tup [vL 4 ((showQ s i l).map eEn), vI (showE s i l)]) [] := by
 obtain ⟨i63, hi63, hz63, hs63, hb63⟩ := hinf63
 obtain ⟨i66, hi66, hz66, hs66, hb66⟩ := hinf66
 refine Con.enterL (n := 92) Try.func28 rfl rfl rfl (fun τ w ok vs hin => ?_)
 have hl0_1 := hin.lenA (i := 0) (j := 1) rfl rfl
 try rw [List.length_map] at hl0_1
 have hl2 := hin.len (i := 2) rfl
 try rw [List.length_map] at hl2
 clear hin
 refine W.seq ?_
 refine W.region ?_
 refine SL.memS (O.box (is := [_, _]) 101 rfl rfl (by simp) rfl rfl Taken.no) rfl rfl (S' := (101, _) :: _) rfl ?_
 refine SL.val (O.assign rfl rfl Taken.no) ?_
 refine SL.val (O.assign rfl rfl Taken.no) ?_
 refine SL.nil ?_
 refine E.to ?_
 refine W.seq ?_
 refine W.seq ?_
 refine W.region ?_
 refine SL.val (O.ldN (m := 2) (PtI.ref rfl rfl) (js := [_, _]) rfl (Nat.le_of_ble_eq_true rfl) Try.underlying31 rfl (by kernel_rfl) rfl Taken.no) ?_
 refine SL.val (O.callp rfl rfl rfl (refValid_h) (.cons (ArgOk.aggU (.cons (ArgOk.same rfl) (.cons (ArgOk.same rfl) .nil))) .nil) hcallOk22 rfl Taken.no) ?_
 refine SL.val (O.det (fun _ => G.R.not rfl) rfl Taken.no) ?_
 refine SL.val (O.move rfl rfl Taken.no) ?_
 refine SL.case (j := 3) (g := 17) (want := false) rfl rfl (fun hg1 => ?_) (fun hg1 => ?_)
 ·skip
  first | have hg1p := G.gA3 hg1 | have hg1p := G.gA4 hg1 | have hg1p := hg1
  refine SL.val (O.move rfl rfl (Taken.yes rfl rfl hg1)) ?_
  refine SL.val (O.callp rfl rfl rfl (refValidLeads_h) (.cons (ArgOk.same rfl) .nil) hcallOk32 rfl (Taken.yes rfl rfl hg1)) ?_
  refine SL.val (O.det (fun _ => G.R.not rfl) rfl (Taken.yes rfl rfl hg1)) ?_
  refine SL.val (O.pick_f rfl hg1 rfl rfl Taken.no) ?_
  refine SL.nil ?_
  refine E.to ?_
  first | refine W.cond_d rfl (fun hc2 => ?_) (fun hc2 => ?_) | refine W.cond_nd rfl (fun hc2 => ?_) (fun hc2 => ?_) | refine W.cond rfl (fun hc2 => ?_) (fun hc2 => ?_)
  ·skip
   refine W.seq ?_
   refine W.region ?_
   refine SL.val (O.assign rfl rfl Taken.no) ?_
   refine SL.val (O.assign rfl rfl Taken.no) ?_
   refine SL.nil ?_
   refine E.to ?_
   refine W.ret ?_
   refine E.thr ?_
   refine E.nilsl 6 4 rfl ?_
   refine E.fin (rs := [_, _]) (rn []) (.inl rfl) rfl (.cons (ResOne.tmp rfl) (.cons (ResOne.tmp rfl) .nil)) ?_ ?_ rfl (fixL_spec rfl)
   ·skip
    rw [(show_1 (s := s) (i := i) (l := l) (by first | assumption | simp_all)).1, (show_1 (s := s) (i := i) (l := l) (by first | assumption | simp_all)).2]; rfl
   · exact SubS.nil
  ·skip
   have hvv : validS s ∧ validL l := by first | assumption | simp_all
   refine W.skip ?_
   refine E.to ?_
   refine W.seq ?_
   refine W.region ?_
   refine SL.val (O.ldN (m := 2) (PtI.ref rfl rfl) (js := [_, _]) rfl (Nat.le_of_ble_eq_true rfl) Try.underlying31 rfl (by kernel_rfl) rfl Taken.no) ?_
   refine SL.val (O.move rfl rfl Taken.no) ?_
   refine SL.memS (O.call (rn []) [] rfl rfl rfl (refPage_h (s := s) i) (.cons (ArgOk.aggU (.cons (ArgOk.same rfl) (.cons (ArgOk.same rfl) .nil))) (.cons (ArgOk.same rfl) .nil)) SubS.nil rfl rfl rfl rfl rfl (.inl rfl) hcallOk17 (r' := .tup [.u _, .u _]) rfl rfl Taken.no) rfl rfl (S' := _) rfl ?_
   refine SL.val (O.move rfl rfl Taken.no) ?_
   refine SL.val (O.extract rfl rfl rfl Taken.no) ?_
   refine SL.val (O.extract rfl rfl rfl Taken.no) ?_
   refine SL.val (O.assign rfl rfl Taken.no) ?_
   refine SL.val (O.assign rfl rfl Taken.no) ?_
   refine SL.nil ?_
   refine E.to ?_
   refine W.seq ?_
   refine W.seq ?_
   refine W.region ?_
   refine SL.val (O.move rfl rfl Taken.no) ?_
   refine SL.val (O.det (fun _ => G.R.neq rfl rfl) rfl Taken.no) ?_
   refine SL.nil ?_
   refine E.to ?_
   first | refine W.cond_d rfl (fun hc3 => ?_) (fun hc3 => ?_) | refine W.cond_nd rfl (fun hc3 => ?_) (fun hc3 => ?_) | refine W.cond rfl (fun hc3 => ?_) (fun hc3 => ?_)
   ·skip
    refine W.seq ?_
    refine W.region ?_
    refine SL.val (O.move rfl rfl Taken.no) ?_
    refine SL.val (O.assign rfl rfl Taken.no) ?_
    refine SL.val (O.assign rfl rfl Taken.no) ?_
    refine SL.nil ?_
    refine E.to ?_
    refine W.pick (.cons (t := 1) rfl (.cons (t := 2) rfl (.cons (t := 3) rfl (.cons (t := 6) rfl (.cons (t := 7) rfl (.cons (t := 8) rfl .nil)))))) (.cons (t := 101) rfl .nil) ?_
    refine W.ret ?_
    refine E.thr ?_
    refine E.nilsl 6 4 rfl ?_
    refine E.fin (rs := [_, _]) (rn []) (.inl rfl) rfl (.cons (ResOne.tmp rfl) (.cons (ResOne.tmp rfl) .nil)) ?_ ?_ rfl (fixL_spec rfl)
    ·skip
     rw [(show_e (i := i) hvv (by assumption)).1, (show_e (i := i) hvv (by assumption)).2]; rfl
    · exact SubS.nil
   ·skip
    have he0 : pageE s i = 0 := by first | assumption | omega
    obtain ⟨ho1, ho2⟩ := show_0 hvv he0
    obtain ⟨hb1, hb2⟩ := bgn_le he0
    obtain ⟨hpo1, hpo2, hpo3, hpo4⟩ := page_ok he0
    have hs := hvv.1.1
    have hbe := bgn_eq hs.1 hpo2
    have hnl := nP_le hs.1
    have hpat := fun {k : Nat} (h : k < (pageQ s i).length) => page_at he0 h
    refine W.skip ?_
    refine E.to ?_
    refine W.seq ?_
    refine W.region ?_
    refine SL.val (O.assign rfl rfl Taken.no) ?_
    refine SL.nil ?_
    refine E.to ?_
    refine W.pick (.cons (t := 1) rfl (.cons (t := 2) rfl (.cons (t := 3) rfl (.cons (t := 6) rfl (.cons (t := 7) rfl (.cons (t := 8) rfl (.cons (t := 10) rfl .nil))))))) (.cons (t := 101) rfl .nil) ?_
    refine W.seq ?_
    refine W.seq ?_
    refine W.region ?_
    refine SL.val (O.assign rfl rfl Taken.no) ?_
    refine SL.nil ?_
    refine E.to ?_
    refine W.block ?_
    refine W.adopt 10 103 66 4 (by decide) rfl rfl rfl ?_
    refine W.loopx1 (fun (k : Nat) => [(11, vI (k : Int)), (10, .own 102)]) (fun (k : Nat) => [(102, .data 66 4 ((outK s l (bgn s i) k).map eEn))]) (fun (k : Nat) => k ≤ (pageQ s i).length) (fun (k : Nat) => (pageQ s i).length - k) (0) (rn [(102, 103)]) (.cons (t := 1) rfl (.cons (t := 2) rfl (.cons (t := 3) rfl (.cons (t := 6) rfl (.cons (t := 7) rfl (.cons (t := 8) rfl .nil)))))) (.cons (t := 101) rfl .nil) rfl ?_ ?_ rfl rfl ?_ ?_
    · exact (SubF.cons rfl (SubF.cons rfl SubF.nil))
    · exact (SubS.cons rfl SubS.nil)
    ·skip
     omega
    intro k hinv
    have hk := hinv
    have hol := outK_len s l (bgn s i) k
    refine W.seq ?_
    refine W.seq ?_
    refine W.region ?_
    refine SL.val (O.move rfl rfl Taken.no) ?_
    refine SL.val (O.move rfl rfl Taken.no) ?_
    refine SL.val (O.lenE (SlOf.fz rfl (by decide)) (by first | exact List.length_map _ | rfl) Try.underlying22 rfl Taken.no) ?_
    refine SL.val (O.det (fun _ => G.R.lss rfl rfl) rfl Taken.no) ?_
    refine SL.nil ?_
    refine E.to ?_
    first | refine W.cond_d rfl (fun hc4 => ?_) (fun hc4 => ?_) | refine W.cond_nd rfl (fun hc4 => ?_) (fun hc4 => ?_) | refine W.cond rfl (fun hc4 => ?_) (fun hc4 => ?_)
    ·skip
     refine W.skip ?_
     refine E.to ?_
     refine W.seq ?_
     refine W.block ?_
     refine W.seq ?_
     refine W.draw [⟨[], [], []⟩, ⟨[], [], []⟩, ⟨[], [], []⟩, ⟨[], [], []⟩, ⟨[], [], []⟩, ⟨[], [], []⟩, ⟨[], [], []⟩, ⟨[], [], []⟩, ⟨[], [], []⟩, ⟨[], [], []⟩, ⟨[], [], []⟩, ⟨[], [], []⟩, ⟨[], [], []⟩, ⟨[], [], []⟩, ⟨[], [], []⟩, ⟨[], [], []⟩, ⟨[], [], []⟩, ⟨[], [], []⟩, ⟨[104], [104], [104]⟩, ⟨[104], [104], []⟩] rfl (by kernel_rfl) (by kernel_rfl) rfl rfl ?_
     refine WH.val (O.move rfl rfl Taken.no) rfl rfl ?_
     refine WH.val (O.move rfl rfl Taken.no) rfl rfl ?_
     refine WH.val (O.idx_fz rfl rfl (rfl) (row_get (by omega)) Try.underlying22 hi63 hs63 rfl Taken.no) rfl rfl ?_
     refine WH.val (O.fld_fz rfl Try.underlying63 rfl (m := 0) (by kernel_rfl) rfl rfl Taken.no) rfl rfl ?_
     refine WH.val (O.ld1 (PtI.ofU (PtU.fz rfl)) rfl Try.underlying3 rfl rfl Taken.no) rfl rfl ?_
     refine WH.val (O.move rfl rfl Taken.no) rfl rfl ?_
     refine WH.val (O.move rfl rfl Taken.no) rfl rfl ?_
     refine WH.val (O.idx_fz rfl rfl (rfl) (row_get (by omega)) Try.underlying22 hi63 hs63 rfl Taken.no) rfl rfl ?_
     refine WH.val (O.fld_fz rfl Try.underlying63 rfl (m := 0) (by kernel_rfl) rfl rfl Taken.no) rfl rfl ?_
     refine WH.val (O.ld1 (PtI.ofU (PtU.fz rfl)) rfl Try.underlying3 rfl rfl Taken.no) rfl rfl ?_
     refine WH.val (O.move rfl rfl Taken.no) rfl rfl ?_
     refine WH.val (O.move rfl rfl Taken.no) rfl rfl ?_
     refine WH.val (O.move rfl rfl Taken.no) rfl rfl ?_
     refine WH.val (O.idx_fz rfl rfl (rfl) (row_get (by omega)) Try.underlying22 hi63 hs63 rfl Taken.no) rfl rfl ?_
     refine WH.val (O.fld_fz rfl Try.underlying63 rfl (m := 0) (by kernel_rfl) rfl rfl Taken.no) rfl rfl ?_
     refine WH.val (O.ld1 (PtI.ofU (PtU.fz rfl)) rfl Try.underlying3 rfl rfl Taken.no) rfl rfl ?_
     refine WH.val (O.callp rfl rfl rfl (refLeads_h) (.cons (ArgOk.same rfl) (.cons (ArgOk.same rfl) .nil)) hcallOk33 rfl Taken.no) rfl rfl ?_
     refine WH.val (O.build (res := [_, _, _, _]) (z := .agg #[.int .i64 0, .int .i64 0, .int .i64 0, .bool false]) (places := [(0, 1), (1, 1), (2, 1), (3, 1)]) rfl rfl Try.underlying66 (by kernel_rfl) (fun _ => by kernel_rfl) rfl rfl Taken.no) rfl rfl ?_
     refine WH.memS (O.alloc (z := .agg #[.int .i64 0, .int .i64 0, .int .i64 0, .bool false]) (is := [.u (.sc (.int .i64 0)), .u (.sc (.int .i64 0)), .u (.sc (.int .i64 0)), .u (.sc (.bool false))]) 104 (by kernel_rfl) rfl rfl rfl Taken.no) rfl rfl rfl rfl rfl (S' := (104, _) :: _) rfl ?_
     refine WH.effS (O.st_ref (m := 4) rfl rfl rfl (js := [_, _, _, _]) rfl rfl (by kernel_rfl) (by simp) (Nat.le_of_ble_eq_true rfl) rfl (is' := [_, _, _, _]) rfl Taken.no) rfl rfl rfl (S' := (104, _) :: _) rfl ?_
     refine WH.nil ?_
     refine E.to ?_
     refine W.pick (.cons (t := 1) rfl (.cons (t := 2) rfl (.cons (t := 3) rfl (.cons (t := 6) rfl (.cons (t := 7) rfl (.cons (t := 8) rfl (.cons (t := 10) rfl (.cons (t := 11) rfl (.cons (t := 12) rfl .nil))))))))) (.cons (t := 101) rfl (.cons (t := 102) rfl (.cons (t := 104) rfl .nil))) ?_
     refine W.seq ?_
     refine W.seq ?_
     refine W.region ?_
     refine SL.val (O.assign rfl rfl Taken.no) ?_
     refine SL.nil ?_
     refine E.to ?_
     refine W.block ?_
     refine W.loopx1 (fun (m : Nat) => [(13, vI (m : Int))]) (fun (m : Nat) => [(104, .cells 66 [.u (uI s.items[bgn s i + k]!.id), .u (uI s.items[bgn s i + k]!.sc), .u (uI (nowF s l (bgn s i + k))), .u (uB (agK s l (bgn s i + k) m))])]) (fun (m : Nat) => m ≤ bgn s i + k) (fun (m : Nat) => bgn s i + k - m) (0) (rn []) (.cons (t := 1) rfl (.cons (t := 2) rfl (.cons (t := 3) rfl (.cons (t := 6) rfl (.cons (t := 7) rfl (.cons (t := 8) rfl (.cons (t := 10) rfl (.cons (t := 11) rfl (.cons (t := 12) rfl .nil))))))))) (.cons (t := 101) rfl (.cons (t := 102) rfl .nil)) rfl ?_ ?_ rfl rfl ?_ ?_
     · exact (SubF.cons rfl SubF.nil)
     · exact (SubS.val rfl (by rw [hpat (by omega)]; rfl) SubS.nil)
     ·skip
      omega
     intro m hinv
     have hm := hinv
     refine W.seq ?_
     refine W.seq ?_
     refine W.region ?_
     refine SL.val (O.move rfl rfl Taken.no) ?_
     refine SL.val (O.move rfl rfl Taken.no) ?_
     refine SL.val (O.det (fun _ => by first | exact G.R.sub64 rfl rfl (by omega) | exact G.R.sub rfl rfl) rfl Taken.no) ?_
     refine SL.val (O.fld_ref (o' := 0) rfl Try.underlying31 rfl (m := 0) (by kernel_rfl) rfl rfl Taken.no) ?_
     refine SL.val (O.ld1 (PtI.ref rfl rfl) rfl Try.underlying3 rfl rfl Taken.no) ?_
     refine SL.val (O.det (fun _ => G.R.mv (G.R.mul64 rfl rfl (by rw [hbe]; omega)) (congrArg (Value.int .i64) hbe)) rfl Taken.no) ?_
     refine SL.val (O.move rfl rfl Taken.no) ?_
     refine SL.val (O.det (fun _ => by first | exact G.R.add64 rfl rfl (by omega) | exact G.R.add rfl rfl) rfl Taken.no) ?_
     refine SL.val (O.det (fun _ => G.R.lss rfl rfl) rfl Taken.no) ?_
     refine SL.nil ?_
     refine E.to ?_
     first | refine W.cond_d rfl (fun hc5 => ?_) (fun hc5 => ?_) | refine W.cond_nd rfl (fun hc5 => ?_) (fun hc5 => ?_) | refine W.cond rfl (fun hc5 => ?_) (fun hc5 => ?_)
     ·skip
      refine W.skip ?_
      refine E.to ?_
      refine W.seq ?_
      refine W.block ?_
      refine W.draw [⟨[104], [], []⟩, ⟨[104], [], []⟩, ⟨[], [], []⟩, ⟨[104], [], []⟩, ⟨[104], [], []⟩, ⟨[], [], []⟩, ⟨[], [], []⟩, ⟨[], [], []⟩, ⟨[101], [], []⟩, ⟨[101], [], []⟩, ⟨[], [], []⟩, ⟨[], [], []⟩, ⟨[], [], []⟩, ⟨[], [], []⟩, ⟨[], [], []⟩, ⟨[104], [], []⟩, ⟨[104], [], []⟩, ⟨[], [], []⟩, ⟨[], [], []⟩, ⟨[], [], []⟩, ⟨[104], [], []⟩, ⟨[104], [104], []⟩] rfl (by kernel_rfl) (by kernel_rfl) rfl rfl ?_
      refine WH.val (O.fld_ref (o' := 3) rfl Try.underlying66 rfl (m := 0) (by kernel_rfl) rfl rfl Taken.no) rfl rfl ?_
      refine WH.val (O.ld1 (PtI.ref rfl rfl) rfl Try.underlying4 rfl rfl Taken.no) rfl rfl ?_
      refine WH.val (O.move rfl rfl Taken.no) rfl rfl ?_
      refine WH.case (j := 2) (g := 68) (want := false) rfl rfl (fun hg6 => ?_) (fun hg6 => ?_)
      ·skip
       first | have hg6p := G.gA3 hg6 | have hg6p := G.gA4 hg6 | have hg6p := hg6
       refine WH.val (O.fld_ref (o' := 2) rfl Try.underlying66 rfl (m := 0) (by kernel_rfl) rfl rfl (Taken.yes rfl rfl hg6)) rfl rfl ?_
       refine WH.val (O.ld1 (PtI.ref rfl rfl) rfl Try.underlying3 rfl rfl (Taken.yes rfl rfl hg6)) rfl rfl ?_
       refine WH.val (O.det (fun _ => G.R.neq rfl rfl) rfl (Taken.yes rfl rfl hg6)) rfl rfl ?_
       refine WH.val (O.move rfl rfl (Taken.yes rfl rfl hg6)) rfl rfl ?_
       refine WH.case (j := 6) (g := 72) (want := true) rfl rfl (fun hg7 => ?_) (fun hg7 => ?_)
       ·skip
        first | have hg7p := G.gA1 hg7 | have hg7p := G.gA2 hg7 | have hg7p := hg7
        refine WH.val (O.move rfl rfl (Taken.yes rfl rfl hg7)) rfl rfl ?_
        refine WH.val (O.fld_ref (o' := 1) rfl Try.underlying31 rfl (m := 0) (by kernel_rfl) rfl rfl (Taken.yes rfl rfl hg7)) rfl rfl ?_
        refine WH.val (O.ld1 (PtI.ref rfl rfl) rfl Try.underlying22 rfl rfl (Taken.yes rfl rfl hg7)) rfl rfl ?_
        refine WH.val (O.move rfl rfl (Taken.yes rfl rfl hg7)) rfl rfl ?_
        refine WH.val (O.idx_fz rfl rfl (rfl) (row_get (by omega)) Try.underlying22 hi63 hs63 rfl (Taken.yes rfl rfl hg7)) rfl rfl ?_
        refine WH.val (O.fld_fz rfl Try.underlying63 rfl (m := 0) (by kernel_rfl) rfl rfl (Taken.yes rfl rfl hg7)) rfl rfl ?_
        refine WH.val (O.ld1 (PtI.ofU (PtU.fz rfl)) rfl Try.underlying3 rfl rfl (Taken.yes rfl rfl hg7)) rfl rfl ?_
        refine WH.val (OpOk.re (i' := vI (nowF s l m)) (O.callp rfl rfl rfl (refLeads_h) (.cons (ArgOk.same rfl) (.cons (ArgOk.same rfl) .nil)) hcallOk33 rfl (Taken.yes rfl rfl hg7)) (by rfl)) rfl rfl ?_
        refine WH.val (O.fld_ref (o' := 2) rfl Try.underlying66 rfl (m := 0) (by kernel_rfl) rfl rfl (Taken.yes rfl rfl hg7)) rfl rfl ?_
        refine WH.val (O.ld1 (PtI.ref rfl rfl) rfl Try.underlying3 rfl rfl (Taken.yes rfl rfl hg7)) rfl rfl ?_
        refine WH.val (O.det (fun _ => G.R.eql rfl rfl) rfl (Taken.yes rfl rfl hg7)) rfl rfl ?_
        refine WH.val (O.pick_t rfl hg7 rfl rfl (Taken.yes rfl rfl hg6)) rfl rfl ?_
        refine WH.val (O.pick_f rfl hg6 rfl rfl Taken.no) rfl rfl ?_
        refine WH.val (O.fld_ref (o' := 3) rfl Try.underlying66 rfl (m := 0) (by kernel_rfl) rfl rfl Taken.no) rfl rfl ?_
        refine WH.effS (O.st_ref (m := 1) rfl rfl rfl (js := [_]) rfl rfl (by kernel_rfl) (by simp) (Nat.le_of_ble_eq_true rfl) rfl (is' := [_, _, _, _]) rfl Taken.no) rfl rfl rfl (S' := (104, _) :: _) rfl ?_
        refine WH.nil ?_
        refine E.inn ?_
        refine E.to ?_
        refine W.pick (.cons (t := 1) rfl (.cons (t := 2) rfl (.cons (t := 3) rfl (.cons (t := 6) rfl (.cons (t := 7) rfl (.cons (t := 8) rfl (.cons (t := 10) rfl (.cons (t := 11) rfl (.cons (t := 12) rfl (.cons (t := 13) rfl .nil)))))))))) (.cons (t := 101) rfl (.cons (t := 102) rfl (.cons (t := 104) rfl .nil))) ?_
        refine W.region ?_
        refine SL.val (O.move rfl rfl Taken.no) ?_
        refine SL.val (O.det (fun _ => by first | exact G.R.add64 rfl rfl (by omega) | exact G.R.add rfl rfl) rfl Taken.no) ?_
        refine SL.val (O.assign rfl rfl Taken.no) ?_
        refine SL.nil ?_
        refine E.again ((m + 1)) (rn []) ?_ ?_ rfl (fixL_spec rfl) ?_ ?_
        · exact (SubF.cons rfl (SubF.cons rfl (SubF.cons rfl (SubF.cons rfl (SubF.cons rfl (SubF.cons rfl (SubF.cons rfl (SubF.cons rfl (SubF.cons rfl (SubF.cons rfl SubF.nil))))))))))
        · exact (SubS.val rfl (by (try dsimp only); first | exact sb_c4 (ag_t (by simp_all)) | exact sb_c4 (ag_d (by simp_all) (by omega)) | exact sb_c4 (ag_z (by simp_all) (by omega)) | exact (sb_c4 (ag_t (by simp_all))).symm | exact (sb_c4 (ag_d (by simp_all) (by omega))).symm | exact (sb_c4 (ag_z (by simp_all) (by omega))).symm) (SubS.cons rfl (SubS.cons rfl SubS.nil)))
        ·try dsimp only
         omega
        · (try dsimp only); omega
       ·skip
        first | have hg7p := G.gA5 hg7 | have hg7p := G.gA6 hg7 | have hg7p := hg7
        refine WH.skip (OpOk.not rfl rfl rfl hg7) ?_
        refine WH.skip (OpOk.not rfl rfl rfl hg7) ?_
        refine WH.skip (OpOk.not rfl rfl rfl hg7) ?_
        refine WH.skip (OpOk.not rfl rfl rfl hg7) ?_
        refine WH.skip (OpOk.not rfl rfl rfl hg7) ?_
        refine WH.skip (OpOk.not rfl rfl rfl hg7) ?_
        refine WH.skip (OpOk.not rfl rfl rfl hg7) ?_
        refine WH.skip (OpOk.not rfl rfl rfl hg7) ?_
        refine WH.skip (OpOk.not rfl rfl rfl hg7) ?_
        refine WH.skip (OpOk.not rfl rfl rfl hg7) ?_
        refine WH.skip (OpOk.not rfl rfl rfl hg7) ?_
        refine WH.val (O.pick_f rfl (G.ne_t hg7) rfl rfl (Taken.yes rfl rfl hg6)) rfl rfl ?_
        refine WH.val (O.pick_f rfl hg6 rfl rfl Taken.no) rfl rfl ?_
        refine WH.val (O.fld_ref (o' := 3) rfl Try.underlying66 rfl (m := 0) (by kernel_rfl) rfl rfl Taken.no) rfl rfl ?_
        refine WH.effS (O.st_ref (m := 1) rfl rfl rfl (js := [_]) rfl rfl (by kernel_rfl) (by simp) (Nat.le_of_ble_eq_true rfl) rfl (is' := [_, _, _, _]) rfl Taken.no) rfl rfl rfl (S' := (104, _) :: _) rfl ?_
        refine WH.nil ?_
        refine E.inn ?_
        refine E.to ?_
        refine W.pick (.cons (t := 1) rfl (.cons (t := 2) rfl (.cons (t := 3) rfl (.cons (t := 6) rfl (.cons (t := 7) rfl (.cons (t := 8) rfl (.cons (t := 10) rfl (.cons (t := 11) rfl (.cons (t := 12) rfl (.cons (t := 13) rfl .nil)))))))))) (.cons (t := 101) rfl (.cons (t := 102) rfl (.cons (t := 104) rfl .nil))) ?_
        refine W.region ?_
        refine SL.val (O.move rfl rfl Taken.no) ?_
        refine SL.val (O.det (fun _ => by first | exact G.R.add64 rfl rfl (by omega) | exact G.R.add rfl rfl) rfl Taken.no) ?_
        refine SL.val (O.assign rfl rfl Taken.no) ?_
        refine SL.nil ?_
        refine E.again ((m + 1)) (rn []) ?_ ?_ rfl (fixL_spec rfl) ?_ ?_
        · exact (SubF.cons rfl (SubF.cons rfl (SubF.cons rfl (SubF.cons rfl (SubF.cons rfl (SubF.cons rfl (SubF.cons rfl (SubF.cons rfl (SubF.cons rfl (SubF.cons rfl SubF.nil))))))))))
        · exact (SubS.val rfl (by (try dsimp only); first | exact sb_c4 (ag_t (by simp_all)) | exact sb_c4 (ag_d (by simp_all) (by omega)) | exact sb_c4 (ag_z (by simp_all) (by omega)) | exact (sb_c4 (ag_t (by simp_all))).symm | exact (sb_c4 (ag_d (by simp_all) (by omega))).symm | exact (sb_c4 (ag_z (by simp_all) (by omega))).symm) (SubS.cons rfl (SubS.cons rfl SubS.nil)))
        ·try dsimp only
         omega
        · (try dsimp only); omega
      ·skip
       first | have hg6p := G.gA7 hg6 | have hg6p := G.gA8 hg6 | have hg6p := hg6
       refine WH.skip (OpOk.not rfl rfl rfl hg6) ?_
       refine WH.skip (OpOk.not rfl rfl rfl hg6) ?_
       refine WH.skip (OpOk.not rfl rfl rfl hg6) ?_
       refine WH.skip (OpOk.not rfl rfl rfl hg6) ?_
       refine WH.skip (OpOk.not2 rfl rfl rfl) ?_
       refine WH.skip (OpOk.not2 rfl rfl rfl) ?_
       refine WH.skip (OpOk.not2 rfl rfl rfl) ?_
       refine WH.skip (OpOk.not2 rfl rfl rfl) ?_
       refine WH.skip (OpOk.not2 rfl rfl rfl) ?_
       refine WH.skip (OpOk.not2 rfl rfl rfl) ?_
       refine WH.skip (OpOk.not2 rfl rfl rfl) ?_
       refine WH.skip (OpOk.not2 rfl rfl rfl) ?_
       refine WH.skip (OpOk.not2 rfl rfl rfl) ?_
       refine WH.skip (OpOk.not2 rfl rfl rfl) ?_
       refine WH.skip (OpOk.not2 rfl rfl rfl) ?_
       refine WH.skip (OpOk.not rfl rfl rfl hg6) ?_
       refine WH.val (O.pick_t rfl (G.ne_f hg6) rfl rfl Taken.no) rfl rfl ?_
       refine WH.val (O.fld_ref (o' := 3) rfl Try.underlying66 rfl (m := 0) (by kernel_rfl) rfl rfl Taken.no) rfl rfl ?_
       refine WH.effS (O.st_ref (m := 1) rfl rfl rfl (js := [_]) rfl rfl (by kernel_rfl) (by simp) (Nat.le_of_ble_eq_true rfl) rfl (is' := [_, _, _, _]) rfl Taken.no) rfl rfl rfl (S' := (104, _) :: _) rfl ?_
       refine WH.nil ?_
       refine E.inn ?_
       refine E.to ?_
       refine W.pick (.cons (t := 1) rfl (.cons (t := 2) rfl (.cons (t := 3) rfl (.cons (t := 6) rfl (.cons (t := 7) rfl (.cons (t := 8) rfl (.cons (t := 10) rfl (.cons (t := 11) rfl (.cons (t := 12) rfl (.cons (t := 13) rfl .nil)))))))))) (.cons (t := 101) rfl (.cons (t := 102) rfl (.cons (t := 104) rfl .nil))) ?_
       refine W.region ?_
       refine SL.val (O.move rfl rfl Taken.no) ?_
       refine SL.val (O.det (fun _ => by first | exact G.R.add64 rfl rfl (by omega) | exact G.R.add rfl rfl) rfl Taken.no) ?_
       refine SL.val (O.assign rfl rfl Taken.no) ?_
       refine SL.nil ?_
       refine E.again ((m + 1)) (rn []) ?_ ?_ rfl (fixL_spec rfl) ?_ ?_
       · exact (SubF.cons rfl (SubF.cons rfl (SubF.cons rfl (SubF.cons rfl (SubF.cons rfl (SubF.cons rfl (SubF.cons rfl (SubF.cons rfl (SubF.cons rfl (SubF.cons rfl SubF.nil))))))))))
       · exact (SubS.val rfl (by (try dsimp only); first | exact sb_c4 (ag_t (by simp_all)) | exact sb_c4 (ag_d (by simp_all) (by omega)) | exact sb_c4 (ag_z (by simp_all) (by omega)) | exact (sb_c4 (ag_t (by simp_all))).symm | exact (sb_c4 (ag_d (by simp_all) (by omega))).symm | exact (sb_c4 (ag_z (by simp_all) (by omega))).symm) (SubS.cons rfl (SubS.cons rfl SubS.nil)))
       ·try dsimp only
        omega
       · (try dsimp only); omega
     ·skip
      refine W.exit ?_
      refine E.th ?_
      refine E.th ?_
      refine E.hit ?_
      refine E.to ?_
      refine W.region ?_
      refine SL.val (O.move rfl rfl Taken.no) ?_
      refine SL.val (O.ldN (m := 4) (PtI.ref rfl rfl) (js := [_, _, _, _]) rfl (Nat.le_of_ble_eq_true rfl) Try.underlying66 rfl (by kernel_rfl) rfl Taken.no) ?_
      refine SL.memS (O.buildSlice 105 rfl rfl Try.underlying54 hi66 hz66 hs66 (by decide) rfl (by decide) rfl rfl rfl Taken.no) rfl rfl (S' := (105, _) :: _) rfl ?_
      refine SL.memS (O.app (k' := 106) rfl rfl (SlOf.own rfl rfl) Try.underlying54 hi66 hz66 hs66 rfl rfl (by obtain rfl : m = bgn s i + k := (by omega); rewrite [agK_all]; exact map_snoc (x := entryAt s l (bgn s i + k)) rfl) (by rw [hb66]; first | omega | (simp only [List.length_map]; omega) | (simp <;> omega)) (by first | omega | (simp only [List.length_map]; omega) | (simp <;> omega)) rfl Taken.no) rfl rfl (S' := (106, _) :: (102, .dead) :: _) rfl ?_
      refine SL.val (O.assign rfl rfl Taken.no) ?_
      refine SL.nil ?_
      refine E.inn ?_
      refine E.to ?_
      refine W.region ?_
      refine SL.val (O.move rfl rfl Taken.no) ?_
      refine SL.val (O.det (fun _ => by first | exact G.R.add64 rfl rfl (by omega) | exact G.R.add rfl rfl) rfl Taken.no) ?_
      refine SL.val (O.assign rfl rfl Taken.no) ?_
      refine SL.nil ?_
      refine E.again ((k + 1)) (rn [(102, 106)]) ?_ ?_ rfl (fixL_spec rfl) ?_ ?_
      · exact (SubF.cons rfl (SubF.cons rfl (SubF.cons rfl (SubF.cons rfl (SubF.cons rfl (SubF.cons rfl (SubF.cons rfl (SubF.cons rfl SubF.nil))))))))
      · exact (SubS.val rfl (by (try dsimp only); exact sb_data (by rw [outK_succ])) (SubS.cons rfl SubS.nil))
      ·try dsimp only
       omega
      · (try dsimp only); omega
    ·skip
     refine W.exit ?_
     refine E.th ?_
     refine E.th ?_
     refine E.hit ?_
     refine E.to ?_
     refine W.seq ?_
     refine W.region ?_
     refine SL.val (O.move rfl rfl Taken.no) ?_
     refine SL.val (O.assign rfl rfl Taken.no) ?_
     refine SL.val (O.assign rfl rfl Taken.no) ?_
     refine SL.nil ?_
     refine E.to ?_
     refine W.ret ?_
     refine E.freeze 102 rfl (F' := [(6, _)]) (⟨⟨_, rfl, rfl⟩, trivial⟩) ?_
     refine E.fin (rs := [_, _]) (rn []) (.inl rfl) rfl (.cons (ResOne.tmp rfl) (.cons (ResOne.tmp rfl) .nil)) ?_ ?_ rfl (fixL_spec rfl)
     ·skip
      rw [ho1, ho2, show k = (pageQ s i).length by omega]; rfl
     · exact SubS.nil
 ·skip
  first | have hg1p := G.gA7 hg1 | have hg1p := G.gA8 hg1 | have hg1p := hg1
  refine SL.skip (OpOk.not rfl rfl rfl hg1) ?_
  refine SL.skip (OpOk.not rfl rfl rfl hg1) ?_
  refine SL.skip (OpOk.not rfl rfl rfl hg1) ?_
  refine SL.val (O.pick_t rfl (G.ne_f hg1) rfl rfl Taken.no) ?_
  refine SL.nil ?_
  refine E.to ?_
  refine W.cond_t rfl ?_
  refine W.seq ?_
  refine W.region ?_
  refine SL.val (O.assign rfl rfl Taken.no) ?_
  refine SL.val (O.assign rfl rfl Taken.no) ?_
  refine SL.nil ?_
  refine E.to ?_
  refine W.ret ?_
  refine E.thr ?_
  refine E.nilsl 6 4 rfl ?_
  refine E.fin (rs := [_, _]) (rn []) (.inl rfl) rfl (.cons (ResOne.tmp rfl) (.cons (ResOne.tmp rfl) .nil)) ?_ ?_ rfl (fixL_spec rfl)
  ·skip
   rw [(show_1 (s := s) (i := i) (l := l) (by first | assumption | simp_all)).1, (show_1 (s := s) (i := i) (l := l) (by first | assumption | simp_all)).2]; rfl
  · exact SubS.nil

end Go.Proofs.Ytoebjajbmkdcfaa
