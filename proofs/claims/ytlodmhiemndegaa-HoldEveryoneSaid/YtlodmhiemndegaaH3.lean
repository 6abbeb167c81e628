/-
  The walks.
-/
import Derived.Test.YtlodmhiemndegaaH2
namespace Go.Proofs.Ytlodmhiemndegaa
open Go Go.RowKit Go.H Go.D57

theorem hinf32 : ∃ i, Try.prog.info? 32 = some i ∧ i.zero = some (.agg #[.int .i64 0, .int .i64 0, .int .i64 0, .int .i64 0, .int .i64 0]) ∧ i.size = 5 ∧ i.bytes = 40 := G.info_of (by kernel_rfl)
theorem hcallOk24 : G.callOk Try.prog 24 = true := by kernel_rfl
theorem hcallOk25 : G.callOk Try.prog 25 = true := by kernel_rfl
theorem hcallOk36 : G.callOk Try.prog 36 = true := by kernel_rfl
theorem hcallOk46 : G.callOk Try.prog 46 = true := by kernel_rfl

/-- bookplate/bookplateref57.Valid. -/
theorem refvalid_h {q : List Hd} :
    Con Try.prog 24 [vL 5 (q.map eH)] [] (vB (decide (validQ q))) [] := by
  obtain ⟨i32, hi32, hz32, hs32, hb32⟩ := hinf32
  refine Con.enterL (n := 66) Try.func24 rfl rfl rfl (fun τ w ok vs hin => ?_)
  have hl0 := hin.len (i := 0) rfl
  try rw [List.length_map] at hl0
  clear hin
  refine W.seq ?_
  refine W.region ?_
  refine SL.val (O.assign rfl rfl Taken.no) ?_
  refine SL.nil ?_
  refine E.to ?_
  refine W.seq ?_
  refine W.seq ?_
  refine W.region ?_
  refine SL.val (O.assign rfl rfl Taken.no) ?_
  refine SL.nil ?_
  refine E.to ?_
  refine W.block ?_
  refine W.loopx1 (fun (k : Nat) => [(3, vI (k : Int))]) (fun (k : Nat) => []) (fun (k : Nat) => k ≤ q.length ∧ ∀ j, j < k → before q j) (fun (k : Nat) => q.length - k) (0) (rn []) (.cons (t := 0) rfl .nil) .nil rfl ?_ ?_ rfl rfl ?_ ?_
  · exact (SubF.cons rfl SubF.nil)
  · exact SubS.nil
  · skip
    exact ⟨by omega, fun j h => by omega⟩
  intro k hinv
  obtain ⟨hk, hp⟩ := hinv
  refine W.seq ?_
  refine W.seq ?_
  refine W.region ?_
  refine SL.val (O.move rfl rfl Taken.no) ?_
  refine SL.val (O.move rfl rfl Taken.no) ?_
  refine SL.val (O.lenE (SlOf.fz rfl (by decide)) (by first | exact List.length_map _ | rfl) Try.underlying22 rfl Taken.no) ?_
  refine SL.val (O.det (fun _ => G.R.lss rfl rfl) rfl Taken.no) ?_
  refine SL.nil ?_
  refine E.to ?_
  first | refine W.cond_d rfl (fun hc1 => ?_) (fun hc1 => ?_) | refine W.cond_nd rfl (fun hc1 => ?_) (fun hc1 => ?_) | refine W.cond rfl (fun hc1 => ?_) (fun hc1 => ?_)
  · skip
    refine W.skip ?_
    refine E.to ?_
    refine W.seq ?_
    refine W.block ?_
    refine W.seq ?_
    refine W.seq ?_
    refine W.draw [⟨[], [], []⟩, ⟨[], [], []⟩, ⟨[], [], []⟩, ⟨[], [], []⟩, ⟨[], [], []⟩, ⟨[], [], []⟩, ⟨[], [], []⟩, ⟨[], [], []⟩, ⟨[], [], []⟩, ⟨[], [], []⟩, ⟨[], [], []⟩, ⟨[], [], []⟩, ⟨[], [], []⟩, ⟨[], [], []⟩, ⟨[], [], []⟩, ⟨[], [], []⟩, ⟨[], [], []⟩, ⟨[], [], []⟩, ⟨[], [], []⟩, ⟨[], [], []⟩, ⟨[], [], []⟩, ⟨[], [], []⟩, ⟨[], [], []⟩] rfl (by kernel_rfl) (by kernel_rfl) rfl rfl ?_
    refine WH.val (O.move rfl rfl Taken.no) rfl rfl ?_
    refine WH.val (O.move rfl rfl Taken.no) rfl rfl ?_
    refine WH.val (O.idx_fz rfl rfl (rfl) (row_get (by omega)) Try.underlying22 hi32 hs32 rfl Taken.no) rfl rfl ?_
    refine WH.val (O.ldU (m := 5) (PtU.fz rfl) rfl Try.underlying32 rfl (by kernel_rfl) rfl Taken.no) rfl rfl ?_
    refine WH.val (O.callp rfl rfl rfl (refgood_h) (.cons (ArgOk.same rfl) .nil) hcallOk46 rfl Taken.no) rfl rfl ?_
    refine WH.val (O.det (fun _ => G.R.not rfl) rfl Taken.no) rfl rfl ?_
    refine WH.val (O.move rfl rfl Taken.no) rfl rfl ?_
    refine WH.case (j := 6) (g := 17) (want := false) rfl rfl (fun hg2 => ?_) (fun hg2 => ?_)
    · skip
      first | have hg2p := G.gA3 hg2 | have hg2p := G.gA4 hg2 | have hg2p := hg2
      refine WH.val (O.move rfl rfl (Taken.yes rfl rfl hg2)) rfl rfl ?_
      refine WH.val (O.det (fun _ => G.R.gtr rfl rfl) rfl (Taken.yes rfl rfl hg2)) rfl rfl ?_
      refine WH.val (O.move rfl rfl (Taken.yes rfl rfl hg2)) rfl rfl ?_
      refine WH.case (j := 9) (g := 20) (want := true) rfl rfl (fun hg3 => ?_) (fun hg3 => ?_)
      · skip
        first | have hg3p := G.gA1 hg3 | have hg3p := G.gA2 hg3 | have hg3p := hg3
        refine WH.val (O.move rfl rfl (Taken.yes rfl rfl hg3)) rfl rfl ?_
        refine WH.val (O.move rfl rfl (Taken.yes rfl rfl hg3)) rfl rfl ?_
        refine WH.val (O.det (fun _ => by first | exact G.R.sub64 rfl rfl (by omega) | exact G.R.sub rfl rfl) rfl (Taken.yes rfl rfl hg3)) rfl rfl ?_
        refine WH.val (O.idx_fz (i := (k - 1)) rfl rfl (by omega) (row_get (by omega)) Try.underlying22 hi32 hs32 rfl (Taken.yes rfl rfl hg3)) rfl rfl ?_
        refine WH.val (O.ldU (m := 5) (PtU.fz rfl) rfl Try.underlying32 rfl (by kernel_rfl) rfl (Taken.yes rfl rfl hg3)) rfl rfl ?_
        refine WH.val (O.move rfl rfl (Taken.yes rfl rfl hg3)) rfl rfl ?_
        refine WH.val (O.move rfl rfl (Taken.yes rfl rfl hg3)) rfl rfl ?_
        refine WH.val (O.idx_fz rfl rfl (rfl) (row_get (by omega)) Try.underlying22 hi32 hs32 rfl (Taken.yes rfl rfl hg3)) rfl rfl ?_
        refine WH.val (O.ldU (m := 5) (PtU.fz rfl) rfl Try.underlying32 rfl (by kernel_rfl) rfl (Taken.yes rfl rfl hg3)) rfl rfl ?_
        refine WH.val (O.callp rfl rfl rfl (earlier_h) (.cons (ArgOk.same rfl) (.cons (ArgOk.same rfl) .nil)) hcallOk25 rfl (Taken.yes rfl rfl hg3)) rfl rfl ?_
        refine WH.val (O.det (fun _ => G.R.not rfl) rfl (Taken.yes rfl rfl hg3)) rfl rfl ?_
        refine WH.val (O.pick_t rfl hg3 rfl rfl (Taken.yes rfl rfl hg2)) rfl rfl ?_
        refine WH.val (O.pick_f rfl hg2 rfl rfl Taken.no) rfl rfl ?_
        refine WH.nil ?_
        refine E.to ?_
        refine W.pick (.cons (t := 0) rfl (.cons (t := 3) rfl (.cons (t := 5) rfl (.cons (t := 6) rfl (.cons (t := 7) rfl (.cons (t := 8) rfl (.cons (t := 11) rfl (.cons (t := 12) rfl (.cons (t := 13) rfl (.cons (t := 14) rfl (.cons (t := 15) rfl (.cons (t := 16) rfl (.cons (t := 17) rfl (.cons (t := 18) rfl (.cons (t := 19) rfl (.cons (t := 20) rfl (.cons (t := 21) rfl (.cons (t := 22) rfl (.cons (t := 23) rfl (.cons (t := 24) rfl (.cons (t := 25) rfl (.cons (t := 26) rfl (.cons (t := 27) rfl (.cons (t := 28) rfl (.cons (t := 29) rfl (.cons (t := 30) rfl (.cons (t := 31) rfl (.cons (t := 32) rfl (.cons (t := 33) rfl .nil))))))))))))))))))))))))))))) .nil ?_
        first | refine W.cond_d rfl (fun hc4 => ?_) (fun hc4 => ?_) | refine W.cond_nd rfl (fun hc4 => ?_) (fun hc4 => ?_) | refine W.cond rfl (fun hc4 => ?_) (fun hc4 => ?_)
        · skip
          refine W.seq ?_
          refine W.region ?_
          refine SL.val (O.assign rfl rfl Taken.no) ?_
          refine SL.nil ?_
          refine E.to ?_
          refine W.pick (.cons (t := 0) rfl (.cons (t := 2) rfl (.cons (t := 3) rfl (.cons (t := 5) rfl (.cons (t := 6) rfl (.cons (t := 7) rfl (.cons (t := 8) rfl (.cons (t := 11) rfl (.cons (t := 12) rfl (.cons (t := 13) rfl (.cons (t := 14) rfl (.cons (t := 15) rfl (.cons (t := 16) rfl (.cons (t := 17) rfl (.cons (t := 18) rfl (.cons (t := 19) rfl (.cons (t := 20) rfl (.cons (t := 21) rfl (.cons (t := 22) rfl (.cons (t := 23) rfl (.cons (t := 24) rfl (.cons (t := 25) rfl (.cons (t := 26) rfl (.cons (t := 27) rfl (.cons (t := 28) rfl (.cons (t := 29) rfl (.cons (t := 30) rfl (.cons (t := 31) rfl (.cons (t := 32) rfl (.cons (t := 33) rfl .nil)))))))))))))))))))))))))))))) .nil ?_
          refine W.ret ?_
          refine E.thr ?_
          refine E.inr ?_
          refine E.thr ?_
          refine E.thr ?_
          refine E.inr ?_
          refine E.thr ?_
          refine E.fin (rs := [_]) (rn []) (.inl rfl) rfl (.cons (ResOne.tmp rfl) .nil) ?_ ?_ rfl (fixL_spec rfl)
          · skip
            first | exact iv_bool (valid_no (k := k) (by omega) (fun h => absurd h.1 (by assumption))) | exact iv_bool (valid_no (k := k) (by omega) (fun h => absurd (h.2.1 (by omega)) (by assumption)))
          · exact SubS.nil
        · skip
          refine W.skip ?_
          refine E.to ?_
          refine W.pick (.cons (t := 0) rfl (.cons (t := 3) rfl (.cons (t := 5) rfl (.cons (t := 6) rfl (.cons (t := 7) rfl (.cons (t := 8) rfl (.cons (t := 11) rfl (.cons (t := 12) rfl (.cons (t := 13) rfl (.cons (t := 14) rfl (.cons (t := 15) rfl (.cons (t := 16) rfl (.cons (t := 17) rfl (.cons (t := 18) rfl (.cons (t := 19) rfl (.cons (t := 20) rfl (.cons (t := 21) rfl (.cons (t := 22) rfl (.cons (t := 23) rfl (.cons (t := 24) rfl (.cons (t := 25) rfl (.cons (t := 26) rfl (.cons (t := 27) rfl (.cons (t := 28) rfl (.cons (t := 29) rfl (.cons (t := 30) rfl (.cons (t := 31) rfl (.cons (t := 32) rfl (.cons (t := 33) rfl .nil))))))))))))))))))))))))))))) .nil ?_
          refine W.seq ?_
          refine W.region ?_
          refine SL.val (O.assign rfl rfl Taken.no) ?_
          refine SL.nil ?_
          refine E.to ?_
          refine W.pick (.cons (t := 0) rfl (.cons (t := 3) rfl (.cons (t := 4) rfl (.cons (t := 5) rfl (.cons (t := 6) rfl (.cons (t := 7) rfl (.cons (t := 8) rfl (.cons (t := 11) rfl (.cons (t := 12) rfl (.cons (t := 13) rfl (.cons (t := 14) rfl (.cons (t := 15) rfl (.cons (t := 16) rfl (.cons (t := 17) rfl (.cons (t := 18) rfl (.cons (t := 19) rfl (.cons (t := 20) rfl (.cons (t := 21) rfl (.cons (t := 22) rfl (.cons (t := 23) rfl (.cons (t := 24) rfl (.cons (t := 25) rfl (.cons (t := 26) rfl (.cons (t := 27) rfl (.cons (t := 28) rfl (.cons (t := 29) rfl (.cons (t := 30) rfl (.cons (t := 31) rfl (.cons (t := 32) rfl (.cons (t := 33) rfl .nil)))))))))))))))))))))))))))))) .nil ?_
          refine W.block ?_
          refine W.loopx1 (fun (j : Nat) => [(4, vI (j : Int))]) (fun (j : Nat) => []) (fun (j : Nat) => j ≤ k ∧ ∀ i, i < j → ¬ likeH q[i]! q[k]!) (fun (j : Nat) => k - j) (0) (rn []) (.cons (t := 0) rfl (.cons (t := 3) rfl (.cons (t := 5) rfl (.cons (t := 6) rfl (.cons (t := 7) rfl (.cons (t := 8) rfl (.cons (t := 11) rfl (.cons (t := 12) rfl (.cons (t := 13) rfl (.cons (t := 14) rfl (.cons (t := 15) rfl (.cons (t := 16) rfl (.cons (t := 17) rfl (.cons (t := 18) rfl (.cons (t := 19) rfl (.cons (t := 20) rfl (.cons (t := 21) rfl (.cons (t := 22) rfl (.cons (t := 23) rfl (.cons (t := 24) rfl (.cons (t := 25) rfl (.cons (t := 26) rfl (.cons (t := 27) rfl (.cons (t := 28) rfl (.cons (t := 29) rfl (.cons (t := 30) rfl (.cons (t := 31) rfl (.cons (t := 32) rfl (.cons (t := 33) rfl .nil))))))))))))))))))))))))))))) .nil rfl ?_ ?_ rfl rfl ?_ ?_
          · exact (SubF.cons rfl SubF.nil)
          · exact SubS.nil
          · skip
            exact ⟨by omega, fun j h => by omega⟩
          intro j hinv
          obtain ⟨hj, hb⟩ := hinv
          refine W.seq ?_
          refine W.seq ?_
          refine W.region ?_
          refine SL.val (O.move rfl rfl Taken.no) ?_
          refine SL.val (O.move rfl rfl Taken.no) ?_
          refine SL.val (O.det (fun _ => G.R.lss rfl rfl) rfl Taken.no) ?_
          refine SL.nil ?_
          refine E.to ?_
          refine W.pick (.cons (t := 0) rfl (.cons (t := 3) rfl (.cons (t := 4) rfl (.cons (t := 5) rfl (.cons (t := 6) rfl (.cons (t := 7) rfl (.cons (t := 8) rfl (.cons (t := 11) rfl (.cons (t := 12) rfl (.cons (t := 13) rfl (.cons (t := 14) rfl (.cons (t := 15) rfl (.cons (t := 16) rfl (.cons (t := 17) rfl (.cons (t := 18) rfl (.cons (t := 19) rfl (.cons (t := 20) rfl (.cons (t := 21) rfl (.cons (t := 22) rfl (.cons (t := 23) rfl (.cons (t := 24) rfl (.cons (t := 25) rfl (.cons (t := 26) rfl (.cons (t := 27) rfl (.cons (t := 28) rfl (.cons (t := 29) rfl (.cons (t := 30) rfl (.cons (t := 31) rfl (.cons (t := 32) rfl (.cons (t := 33) rfl (.cons (t := 34) rfl (.cons (t := 35) rfl (.cons (t := 36) rfl .nil))))))))))))))))))))))))))))))))) .nil ?_
          first | refine W.cond_d rfl (fun hc5 => ?_) (fun hc5 => ?_) | refine W.cond_nd rfl (fun hc5 => ?_) (fun hc5 => ?_) | refine W.cond rfl (fun hc5 => ?_) (fun hc5 => ?_)
          · skip
            refine W.skip ?_
            refine E.to ?_
            refine W.pick (.cons (t := 0) rfl (.cons (t := 3) rfl (.cons (t := 4) rfl (.cons (t := 5) rfl (.cons (t := 6) rfl (.cons (t := 7) rfl (.cons (t := 8) rfl (.cons (t := 11) rfl (.cons (t := 12) rfl (.cons (t := 13) rfl (.cons (t := 14) rfl (.cons (t := 15) rfl (.cons (t := 16) rfl (.cons (t := 17) rfl (.cons (t := 18) rfl (.cons (t := 19) rfl (.cons (t := 20) rfl (.cons (t := 21) rfl (.cons (t := 22) rfl (.cons (t := 23) rfl (.cons (t := 24) rfl (.cons (t := 25) rfl (.cons (t := 26) rfl (.cons (t := 27) rfl (.cons (t := 28) rfl (.cons (t := 29) rfl (.cons (t := 30) rfl (.cons (t := 31) rfl (.cons (t := 32) rfl (.cons (t := 33) rfl (.cons (t := 34) rfl (.cons (t := 35) rfl (.cons (t := 36) rfl .nil))))))))))))))))))))))))))))))))) .nil ?_
            refine W.seq ?_
            refine W.block ?_
            refine W.seq ?_
            refine W.draw [⟨[], [], []⟩, ⟨[], [], []⟩, ⟨[], [], []⟩, ⟨[], [], []⟩, ⟨[], [], []⟩, ⟨[], [], []⟩, ⟨[], [], []⟩, ⟨[], [], []⟩, ⟨[], [], []⟩, ⟨[], [], []⟩, ⟨[], [], []⟩, ⟨[], [], []⟩, ⟨[], [], []⟩, ⟨[], [], []⟩, ⟨[], [], []⟩, ⟨[], [], []⟩, ⟨[], [], []⟩, ⟨[], [], []⟩, ⟨[], [], []⟩, ⟨[], [], []⟩, ⟨[], [], []⟩, ⟨[], [], []⟩, ⟨[], [], []⟩, ⟨[], [], []⟩] rfl (by kernel_rfl) (by kernel_rfl) rfl rfl ?_
            refine WH.val (O.move rfl rfl Taken.no) rfl rfl ?_
            refine WH.val (O.move rfl rfl Taken.no) rfl rfl ?_
            refine WH.val (O.idx_fz rfl rfl (rfl) (row_get (by omega)) Try.underlying22 hi32 hs32 rfl Taken.no) rfl rfl ?_
            refine WH.val (O.fld_fz rfl Try.underlying32 rfl (m := 0) (by kernel_rfl) rfl rfl Taken.no) rfl rfl ?_
            refine WH.val (O.ld1 (PtI.ofU (PtU.fz rfl)) rfl Try.underlying3 rfl rfl Taken.no) rfl rfl ?_
            refine WH.val (O.move rfl rfl Taken.no) rfl rfl ?_
            refine WH.val (O.move rfl rfl Taken.no) rfl rfl ?_
            refine WH.val (O.idx_fz rfl rfl (rfl) (row_get (by omega)) Try.underlying22 hi32 hs32 rfl Taken.no) rfl rfl ?_
            refine WH.val (O.fld_fz rfl Try.underlying32 rfl (m := 0) (by kernel_rfl) rfl rfl Taken.no) rfl rfl ?_
            refine WH.val (O.ld1 (PtI.ofU (PtU.fz rfl)) rfl Try.underlying3 rfl rfl Taken.no) rfl rfl ?_
            refine WH.val (O.det (fun _ => G.R.eql rfl rfl) rfl Taken.no) rfl rfl ?_
            refine WH.val (O.move rfl rfl Taken.no) rfl rfl ?_
            refine WH.case (j := 11) (g := 50) (want := false) rfl rfl (fun hg6 => ?_) (fun hg6 => ?_)
            · skip
              first | have hg6p := G.gA3 hg6 | have hg6p := G.gA4 hg6 | have hg6p := hg6
              refine WH.val (O.move rfl rfl (Taken.yes rfl rfl hg6)) rfl rfl ?_
              refine WH.val (O.move rfl rfl (Taken.yes rfl rfl hg6)) rfl rfl ?_
              refine WH.val (O.idx_fz rfl rfl (rfl) (row_get (by omega)) Try.underlying22 hi32 hs32 rfl (Taken.yes rfl rfl hg6)) rfl rfl ?_
              refine WH.val (O.fld_fz rfl Try.underlying32 rfl (m := 0) (by kernel_rfl) rfl rfl (Taken.yes rfl rfl hg6)) rfl rfl ?_
              refine WH.val (O.ld1 (PtI.ofU (PtU.fz rfl)) rfl Try.underlying3 rfl rfl (Taken.yes rfl rfl hg6)) rfl rfl ?_
              refine WH.val (O.move rfl rfl (Taken.yes rfl rfl hg6)) rfl rfl ?_
              refine WH.val (O.move rfl rfl (Taken.yes rfl rfl hg6)) rfl rfl ?_
              refine WH.val (O.idx_fz rfl rfl (rfl) (row_get (by omega)) Try.underlying22 hi32 hs32 rfl (Taken.yes rfl rfl hg6)) rfl rfl ?_
              refine WH.val (O.fld_fz rfl Try.underlying32 rfl (m := 0) (by kernel_rfl) rfl rfl (Taken.yes rfl rfl hg6)) rfl rfl ?_
              refine WH.val (O.ld1 (PtI.ofU (PtU.fz rfl)) rfl Try.underlying3 rfl rfl (Taken.yes rfl rfl hg6)) rfl rfl ?_
              refine WH.val (O.det (fun _ => G.R.eql rfl rfl) rfl (Taken.yes rfl rfl hg6)) rfl rfl ?_
              refine WH.val (O.pick_f rfl hg6 rfl rfl Taken.no) rfl rfl ?_
              refine WH.nil ?_
              refine E.to ?_
              refine W.pick (.cons (t := 0) rfl (.cons (t := 3) rfl (.cons (t := 4) rfl (.cons (t := 5) rfl (.cons (t := 6) rfl (.cons (t := 7) rfl (.cons (t := 8) rfl (.cons (t := 11) rfl (.cons (t := 12) rfl (.cons (t := 13) rfl (.cons (t := 14) rfl (.cons (t := 15) rfl (.cons (t := 16) rfl (.cons (t := 17) rfl (.cons (t := 18) rfl (.cons (t := 19) rfl (.cons (t := 20) rfl (.cons (t := 21) rfl (.cons (t := 22) rfl (.cons (t := 23) rfl (.cons (t := 24) rfl (.cons (t := 25) rfl (.cons (t := 26) rfl (.cons (t := 27) rfl (.cons (t := 28) rfl (.cons (t := 29) rfl (.cons (t := 30) rfl (.cons (t := 31) rfl (.cons (t := 32) rfl (.cons (t := 33) rfl (.cons (t := 34) rfl (.cons (t := 35) rfl (.cons (t := 36) rfl (.cons (t := 39) rfl (.cons (t := 40) rfl (.cons (t := 41) rfl (.cons (t := 42) rfl (.cons (t := 43) rfl (.cons (t := 44) rfl (.cons (t := 45) rfl (.cons (t := 46) rfl (.cons (t := 47) rfl (.cons (t := 48) rfl (.cons (t := 49) rfl (.cons (t := 50) rfl (.cons (t := 51) rfl (.cons (t := 52) rfl (.cons (t := 53) rfl (.cons (t := 54) rfl (.cons (t := 55) rfl (.cons (t := 56) rfl (.cons (t := 57) rfl (.cons (t := 58) rfl (.cons (t := 59) rfl (.cons (t := 60) rfl (.cons (t := 61) rfl (.cons (t := 62) rfl .nil))))))))))))))))))))))))))))))))))))))))))))))))))))))))) .nil ?_
              first | refine W.cond_d rfl (fun hc7 => ?_) (fun hc7 => ?_) | refine W.cond_nd rfl (fun hc7 => ?_) (fun hc7 => ?_) | refine W.cond rfl (fun hc7 => ?_) (fun hc7 => ?_)
              · skip
                refine W.seq ?_
                refine W.region ?_
                refine SL.val (O.assign rfl rfl Taken.no) ?_
                refine SL.nil ?_
                refine E.to ?_
                refine W.pick (.cons (t := 0) rfl (.cons (t := 2) rfl (.cons (t := 3) rfl (.cons (t := 4) rfl (.cons (t := 5) rfl (.cons (t := 6) rfl (.cons (t := 7) rfl (.cons (t := 8) rfl (.cons (t := 11) rfl (.cons (t := 12) rfl (.cons (t := 13) rfl (.cons (t := 14) rfl (.cons (t := 15) rfl (.cons (t := 16) rfl (.cons (t := 17) rfl (.cons (t := 18) rfl (.cons (t := 19) rfl (.cons (t := 20) rfl (.cons (t := 21) rfl (.cons (t := 22) rfl (.cons (t := 23) rfl (.cons (t := 24) rfl (.cons (t := 25) rfl (.cons (t := 26) rfl (.cons (t := 27) rfl (.cons (t := 28) rfl (.cons (t := 29) rfl (.cons (t := 30) rfl (.cons (t := 31) rfl (.cons (t := 32) rfl (.cons (t := 33) rfl (.cons (t := 34) rfl (.cons (t := 35) rfl (.cons (t := 36) rfl (.cons (t := 39) rfl (.cons (t := 40) rfl (.cons (t := 41) rfl (.cons (t := 42) rfl (.cons (t := 43) rfl (.cons (t := 44) rfl (.cons (t := 45) rfl (.cons (t := 46) rfl (.cons (t := 47) rfl (.cons (t := 48) rfl (.cons (t := 49) rfl (.cons (t := 50) rfl (.cons (t := 51) rfl (.cons (t := 52) rfl (.cons (t := 53) rfl (.cons (t := 54) rfl (.cons (t := 55) rfl (.cons (t := 56) rfl (.cons (t := 57) rfl (.cons (t := 58) rfl (.cons (t := 59) rfl (.cons (t := 60) rfl (.cons (t := 61) rfl (.cons (t := 62) rfl .nil)))))))))))))))))))))))))))))))))))))))))))))))))))))))))) .nil ?_
                refine W.ret ?_
                refine E.inr ?_
                refine E.thr ?_
                refine E.thr ?_
                refine E.inr ?_
                refine E.inr ?_
                refine E.thr ?_
                refine E.thr ?_
                refine E.inr ?_
                refine E.thr ?_
                refine E.fin (rs := [_]) (rn []) (.inl rfl) rfl (.cons (ResOne.tmp rfl) .nil) ?_ ?_ rfl (fixL_spec rfl)
                · skip
                  exact iv_bool (valid_no (k := k) (by omega) (fun h => h.2.2 j (by omega) (by unfold likeH; first | (left; assumption) | (right; assumption) | simp_all)))
                · exact SubS.nil
              · skip
                refine W.skip ?_
                refine E.inn ?_
                refine E.to ?_
                refine W.pick (.cons (t := 0) rfl (.cons (t := 3) rfl (.cons (t := 4) rfl (.cons (t := 5) rfl (.cons (t := 6) rfl (.cons (t := 7) rfl (.cons (t := 8) rfl (.cons (t := 11) rfl (.cons (t := 12) rfl (.cons (t := 13) rfl (.cons (t := 14) rfl (.cons (t := 15) rfl (.cons (t := 16) rfl (.cons (t := 17) rfl (.cons (t := 18) rfl (.cons (t := 19) rfl (.cons (t := 20) rfl (.cons (t := 21) rfl (.cons (t := 22) rfl (.cons (t := 23) rfl (.cons (t := 24) rfl (.cons (t := 25) rfl (.cons (t := 26) rfl (.cons (t := 27) rfl (.cons (t := 28) rfl (.cons (t := 29) rfl (.cons (t := 30) rfl (.cons (t := 31) rfl (.cons (t := 32) rfl (.cons (t := 33) rfl (.cons (t := 34) rfl (.cons (t := 35) rfl (.cons (t := 36) rfl (.cons (t := 39) rfl (.cons (t := 40) rfl (.cons (t := 41) rfl (.cons (t := 42) rfl (.cons (t := 43) rfl (.cons (t := 44) rfl (.cons (t := 45) rfl (.cons (t := 46) rfl (.cons (t := 47) rfl (.cons (t := 48) rfl (.cons (t := 49) rfl (.cons (t := 50) rfl (.cons (t := 51) rfl (.cons (t := 52) rfl (.cons (t := 53) rfl (.cons (t := 54) rfl (.cons (t := 55) rfl (.cons (t := 56) rfl (.cons (t := 57) rfl (.cons (t := 58) rfl (.cons (t := 59) rfl (.cons (t := 60) rfl (.cons (t := 61) rfl (.cons (t := 62) rfl .nil))))))))))))))))))))))))))))))))))))))))))))))))))))))))) .nil ?_
                refine W.region ?_
                refine SL.val (O.move rfl rfl Taken.no) ?_
                refine SL.val (O.det (fun _ => by first | exact G.R.add64 rfl rfl (by omega) | exact G.R.add rfl rfl) rfl Taken.no) ?_
                refine SL.val (O.assign rfl rfl Taken.no) ?_
                refine SL.nil ?_
                refine E.again ((j + 1)) (rn []) ?_ ?_ rfl (fixL_spec rfl) ?_ ?_
                · exact (SubF.cons rfl (SubF.cons rfl (SubF.cons rfl (SubF.cons rfl (SubF.cons rfl (SubF.cons rfl (SubF.cons rfl (SubF.cons rfl (SubF.cons rfl (SubF.cons rfl (SubF.cons rfl (SubF.cons rfl (SubF.cons rfl (SubF.cons rfl (SubF.cons rfl (SubF.cons rfl (SubF.cons rfl (SubF.cons rfl (SubF.cons rfl (SubF.cons rfl (SubF.cons rfl (SubF.cons rfl (SubF.cons rfl (SubF.cons rfl (SubF.cons rfl (SubF.cons rfl (SubF.cons rfl (SubF.cons rfl (SubF.cons rfl (SubF.cons rfl SubF.nil))))))))))))))))))))))))))))))
                · exact SubS.nil
                · try dsimp only
                  exact ⟨by omega, fun i hi => by rcases Nat.lt_succ_iff_lt_or_eq.1 hi with h | h; exact hb i h; subst h; unfold likeH; simp_all⟩
                · (try dsimp only); omega
            · skip
              first | have hg6p := G.gA7 hg6 | have hg6p := G.gA8 hg6 | have hg6p := hg6
              refine WH.skip (OpOk.not rfl rfl rfl hg6) ?_
              refine WH.skip (OpOk.not rfl rfl rfl hg6) ?_
              refine WH.skip (OpOk.not rfl rfl rfl hg6) ?_
              refine WH.skip (OpOk.not rfl rfl rfl hg6) ?_
              refine WH.skip (OpOk.not rfl rfl rfl hg6) ?_
              refine WH.skip (OpOk.not rfl rfl rfl hg6) ?_
              refine WH.skip (OpOk.not rfl rfl rfl hg6) ?_
              refine WH.skip (OpOk.not rfl rfl rfl hg6) ?_
              refine WH.skip (OpOk.not rfl rfl rfl hg6) ?_
              refine WH.skip (OpOk.not rfl rfl rfl hg6) ?_
              refine WH.skip (OpOk.not rfl rfl rfl hg6) ?_
              refine WH.val (O.pick_t rfl (G.ne_f hg6) rfl rfl Taken.no) rfl rfl ?_
              refine WH.nil ?_
              refine E.to ?_
              refine W.pick (.cons (t := 0) rfl (.cons (t := 3) rfl (.cons (t := 4) rfl (.cons (t := 5) rfl (.cons (t := 6) rfl (.cons (t := 7) rfl (.cons (t := 8) rfl (.cons (t := 11) rfl (.cons (t := 12) rfl (.cons (t := 13) rfl (.cons (t := 14) rfl (.cons (t := 15) rfl (.cons (t := 16) rfl (.cons (t := 17) rfl (.cons (t := 18) rfl (.cons (t := 19) rfl (.cons (t := 20) rfl (.cons (t := 21) rfl (.cons (t := 22) rfl (.cons (t := 23) rfl (.cons (t := 24) rfl (.cons (t := 25) rfl (.cons (t := 26) rfl (.cons (t := 27) rfl (.cons (t := 28) rfl (.cons (t := 29) rfl (.cons (t := 30) rfl (.cons (t := 31) rfl (.cons (t := 32) rfl (.cons (t := 33) rfl (.cons (t := 34) rfl (.cons (t := 35) rfl (.cons (t := 36) rfl (.cons (t := 39) rfl (.cons (t := 40) rfl (.cons (t := 41) rfl (.cons (t := 42) rfl (.cons (t := 43) rfl (.cons (t := 44) rfl (.cons (t := 45) rfl (.cons (t := 46) rfl (.cons (t := 47) rfl (.cons (t := 48) rfl (.cons (t := 49) rfl (.cons (t := 50) rfl (.cons (t := 51) rfl (.cons (t := 52) rfl (.cons (t := 53) rfl (.cons (t := 54) rfl (.cons (t := 55) rfl (.cons (t := 56) rfl (.cons (t := 57) rfl (.cons (t := 58) rfl (.cons (t := 59) rfl (.cons (t := 60) rfl (.cons (t := 61) rfl (.cons (t := 62) rfl .nil))))))))))))))))))))))))))))))))))))))))))))))))))))))))) .nil ?_
              refine W.cond_t rfl ?_
              refine W.seq ?_
              refine W.region ?_
              refine SL.val (O.assign rfl rfl Taken.no) ?_
              refine SL.nil ?_
              refine E.to ?_
              refine W.pick (.cons (t := 0) rfl (.cons (t := 2) rfl (.cons (t := 3) rfl (.cons (t := 4) rfl (.cons (t := 5) rfl (.cons (t := 6) rfl (.cons (t := 7) rfl (.cons (t := 8) rfl (.cons (t := 11) rfl (.cons (t := 12) rfl (.cons (t := 13) rfl (.cons (t := 14) rfl (.cons (t := 15) rfl (.cons (t := 16) rfl (.cons (t := 17) rfl (.cons (t := 18) rfl (.cons (t := 19) rfl (.cons (t := 20) rfl (.cons (t := 21) rfl (.cons (t := 22) rfl (.cons (t := 23) rfl (.cons (t := 24) rfl (.cons (t := 25) rfl (.cons (t := 26) rfl (.cons (t := 27) rfl (.cons (t := 28) rfl (.cons (t := 29) rfl (.cons (t := 30) rfl (.cons (t := 31) rfl (.cons (t := 32) rfl (.cons (t := 33) rfl (.cons (t := 34) rfl (.cons (t := 35) rfl (.cons (t := 36) rfl (.cons (t := 39) rfl (.cons (t := 40) rfl (.cons (t := 41) rfl (.cons (t := 42) rfl (.cons (t := 43) rfl (.cons (t := 44) rfl (.cons (t := 45) rfl (.cons (t := 46) rfl (.cons (t := 47) rfl (.cons (t := 48) rfl (.cons (t := 49) rfl (.cons (t := 50) rfl (.cons (t := 51) rfl (.cons (t := 52) rfl (.cons (t := 53) rfl (.cons (t := 54) rfl (.cons (t := 55) rfl (.cons (t := 56) rfl (.cons (t := 57) rfl (.cons (t := 58) rfl (.cons (t := 59) rfl (.cons (t := 60) rfl (.cons (t := 61) rfl (.cons (t := 62) rfl .nil)))))))))))))))))))))))))))))))))))))))))))))))))))))))))) .nil ?_
              refine W.ret ?_
              refine E.inr ?_
              refine E.thr ?_
              refine E.thr ?_
              refine E.inr ?_
              refine E.inr ?_
              refine E.thr ?_
              refine E.thr ?_
              refine E.inr ?_
              refine E.thr ?_
              refine E.fin (rs := [_]) (rn []) (.inl rfl) rfl (.cons (ResOne.tmp rfl) .nil) ?_ ?_ rfl (fixL_spec rfl)
              · skip
                exact iv_bool (valid_no (k := k) (by omega) (fun h => h.2.2 j (by omega) (by unfold likeH; first | (left; assumption) | (right; assumption) | simp_all)))
              · exact SubS.nil
          · skip
            refine W.exit ?_
            refine E.th ?_
            refine E.th ?_
            refine E.hit ?_
            refine E.inn ?_
            refine E.to ?_
            refine W.pick (.cons (t := 0) rfl (.cons (t := 3) rfl (.cons (t := 4) rfl (.cons (t := 5) rfl (.cons (t := 6) rfl (.cons (t := 7) rfl (.cons (t := 8) rfl (.cons (t := 11) rfl (.cons (t := 12) rfl (.cons (t := 13) rfl (.cons (t := 14) rfl (.cons (t := 15) rfl (.cons (t := 16) rfl (.cons (t := 17) rfl (.cons (t := 18) rfl (.cons (t := 19) rfl (.cons (t := 20) rfl (.cons (t := 21) rfl (.cons (t := 22) rfl (.cons (t := 23) rfl (.cons (t := 24) rfl (.cons (t := 25) rfl (.cons (t := 26) rfl (.cons (t := 27) rfl (.cons (t := 28) rfl (.cons (t := 29) rfl (.cons (t := 30) rfl (.cons (t := 31) rfl (.cons (t := 32) rfl (.cons (t := 33) rfl (.cons (t := 34) rfl (.cons (t := 35) rfl (.cons (t := 36) rfl .nil))))))))))))))))))))))))))))))))) .nil ?_
            refine W.region ?_
            refine SL.val (O.move rfl rfl Taken.no) ?_
            refine SL.val (O.det (fun _ => by first | exact G.R.add64 rfl rfl (by omega) | exact G.R.add rfl rfl) rfl Taken.no) ?_
            refine SL.val (O.assign rfl rfl Taken.no) ?_
            refine SL.nil ?_
            refine E.again ((k + 1)) (rn []) ?_ ?_ rfl (fixL_spec rfl) ?_ ?_
            · exact (SubF.cons rfl (SubF.cons rfl SubF.nil))
            · exact SubS.nil
            · try dsimp only
              exact ⟨by omega, valid_step hp ⟨by assumption, fun h0 => (by first | assumption | exact Decidable.not_not.1 (by assumption) | (exfalso; simp_all <;> omega)), fun j hj => hb j (by omega)⟩⟩
            · (try dsimp only); omega
      · skip
        first | have hg3p := G.gA5 hg3 | have hg3p := G.gA6 hg3 | have hg3p := hg3
        refine WH.skip (OpOk.not rfl rfl rfl hg3) ?_
        refine WH.skip (OpOk.not rfl rfl rfl hg3) ?_
        refine WH.skip (OpOk.not rfl rfl rfl hg3) ?_
        refine WH.skip (OpOk.not rfl rfl rfl hg3) ?_
        refine WH.skip (OpOk.not rfl rfl rfl hg3) ?_
        refine WH.skip (OpOk.not rfl rfl rfl hg3) ?_
        refine WH.skip (OpOk.not rfl rfl rfl hg3) ?_
        refine WH.skip (OpOk.not rfl rfl rfl hg3) ?_
        refine WH.skip (OpOk.not rfl rfl rfl hg3) ?_
        refine WH.skip (OpOk.not rfl rfl rfl hg3) ?_
        refine WH.skip (OpOk.not rfl rfl rfl hg3) ?_
        refine WH.val (O.pick_f rfl (G.ne_t hg3) rfl rfl (Taken.yes rfl rfl hg2)) rfl rfl ?_
        refine WH.val (O.pick_f rfl hg2 rfl rfl Taken.no) rfl rfl ?_
        refine WH.nil ?_
        refine E.to ?_
        refine W.pick (.cons (t := 0) rfl (.cons (t := 3) rfl (.cons (t := 5) rfl (.cons (t := 6) rfl (.cons (t := 7) rfl (.cons (t := 8) rfl (.cons (t := 11) rfl (.cons (t := 12) rfl (.cons (t := 13) rfl (.cons (t := 14) rfl (.cons (t := 15) rfl (.cons (t := 16) rfl (.cons (t := 17) rfl (.cons (t := 18) rfl (.cons (t := 19) rfl (.cons (t := 20) rfl (.cons (t := 21) rfl (.cons (t := 22) rfl (.cons (t := 23) rfl (.cons (t := 24) rfl (.cons (t := 25) rfl (.cons (t := 26) rfl (.cons (t := 27) rfl (.cons (t := 28) rfl (.cons (t := 29) rfl (.cons (t := 30) rfl (.cons (t := 31) rfl (.cons (t := 32) rfl (.cons (t := 33) rfl .nil))))))))))))))))))))))))))))) .nil ?_
        refine W.cond_f rfl ?_
        refine W.skip ?_
        refine E.to ?_
        refine W.pick (.cons (t := 0) rfl (.cons (t := 3) rfl (.cons (t := 5) rfl (.cons (t := 6) rfl (.cons (t := 7) rfl (.cons (t := 8) rfl (.cons (t := 11) rfl (.cons (t := 12) rfl (.cons (t := 13) rfl (.cons (t := 14) rfl (.cons (t := 15) rfl (.cons (t := 16) rfl (.cons (t := 17) rfl (.cons (t := 18) rfl (.cons (t := 19) rfl (.cons (t := 20) rfl (.cons (t := 21) rfl (.cons (t := 22) rfl (.cons (t := 23) rfl (.cons (t := 24) rfl (.cons (t := 25) rfl (.cons (t := 26) rfl (.cons (t := 27) rfl (.cons (t := 28) rfl (.cons (t := 29) rfl (.cons (t := 30) rfl (.cons (t := 31) rfl (.cons (t := 32) rfl (.cons (t := 33) rfl .nil))))))))))))))))))))))))))))) .nil ?_
        refine W.seq ?_
        refine W.region ?_
        refine SL.val (O.assign rfl rfl Taken.no) ?_
        refine SL.nil ?_
        refine E.to ?_
        refine W.pick (.cons (t := 0) rfl (.cons (t := 3) rfl (.cons (t := 4) rfl (.cons (t := 5) rfl (.cons (t := 6) rfl (.cons (t := 7) rfl (.cons (t := 8) rfl (.cons (t := 11) rfl (.cons (t := 12) rfl (.cons (t := 13) rfl (.cons (t := 14) rfl (.cons (t := 15) rfl (.cons (t := 16) rfl (.cons (t := 17) rfl (.cons (t := 18) rfl (.cons (t := 19) rfl (.cons (t := 20) rfl (.cons (t := 21) rfl (.cons (t := 22) rfl (.cons (t := 23) rfl (.cons (t := 24) rfl (.cons (t := 25) rfl (.cons (t := 26) rfl (.cons (t := 27) rfl (.cons (t := 28) rfl (.cons (t := 29) rfl (.cons (t := 30) rfl (.cons (t := 31) rfl (.cons (t := 32) rfl (.cons (t := 33) rfl .nil)))))))))))))))))))))))))))))) .nil ?_
        refine W.block ?_
        refine W.loopx1 (fun (j : Nat) => [(4, vI (j : Int))]) (fun (j : Nat) => []) (fun (j : Nat) => j ≤ k ∧ ∀ i, i < j → ¬ likeH q[i]! q[k]!) (fun (j : Nat) => k - j) (0) (rn []) (.cons (t := 0) rfl (.cons (t := 3) rfl (.cons (t := 5) rfl (.cons (t := 6) rfl (.cons (t := 7) rfl (.cons (t := 8) rfl (.cons (t := 11) rfl (.cons (t := 12) rfl (.cons (t := 13) rfl (.cons (t := 14) rfl (.cons (t := 15) rfl (.cons (t := 16) rfl (.cons (t := 17) rfl (.cons (t := 18) rfl (.cons (t := 19) rfl (.cons (t := 20) rfl (.cons (t := 21) rfl (.cons (t := 22) rfl (.cons (t := 23) rfl (.cons (t := 24) rfl (.cons (t := 25) rfl (.cons (t := 26) rfl (.cons (t := 27) rfl (.cons (t := 28) rfl (.cons (t := 29) rfl (.cons (t := 30) rfl (.cons (t := 31) rfl (.cons (t := 32) rfl (.cons (t := 33) rfl .nil))))))))))))))))))))))))))))) .nil rfl ?_ ?_ rfl rfl ?_ ?_
        · exact (SubF.cons rfl SubF.nil)
        · exact SubS.nil
        · skip
          exact ⟨by omega, fun j h => by omega⟩
        intro j hinv
        obtain ⟨hj, hb⟩ := hinv
        refine W.seq ?_
        refine W.seq ?_
        refine W.region ?_
        refine SL.val (O.move rfl rfl Taken.no) ?_
        refine SL.val (O.move rfl rfl Taken.no) ?_
        refine SL.val (O.det (fun _ => G.R.lss rfl rfl) rfl Taken.no) ?_
        refine SL.nil ?_
        refine E.to ?_
        refine W.pick (.cons (t := 0) rfl (.cons (t := 3) rfl (.cons (t := 4) rfl (.cons (t := 5) rfl (.cons (t := 6) rfl (.cons (t := 7) rfl (.cons (t := 8) rfl (.cons (t := 11) rfl (.cons (t := 12) rfl (.cons (t := 13) rfl (.cons (t := 14) rfl (.cons (t := 15) rfl (.cons (t := 16) rfl (.cons (t := 17) rfl (.cons (t := 18) rfl (.cons (t := 19) rfl (.cons (t := 20) rfl (.cons (t := 21) rfl (.cons (t := 22) rfl (.cons (t := 23) rfl (.cons (t := 24) rfl (.cons (t := 25) rfl (.cons (t := 26) rfl (.cons (t := 27) rfl (.cons (t := 28) rfl (.cons (t := 29) rfl (.cons (t := 30) rfl (.cons (t := 31) rfl (.cons (t := 32) rfl (.cons (t := 33) rfl (.cons (t := 34) rfl (.cons (t := 35) rfl (.cons (t := 36) rfl .nil))))))))))))))))))))))))))))))))) .nil ?_
        first | refine W.cond_d rfl (fun hc8 => ?_) (fun hc8 => ?_) | refine W.cond_nd rfl (fun hc8 => ?_) (fun hc8 => ?_) | refine W.cond rfl (fun hc8 => ?_) (fun hc8 => ?_)
        · skip
          refine W.skip ?_
          refine E.to ?_
          refine W.pick (.cons (t := 0) rfl (.cons (t := 3) rfl (.cons (t := 4) rfl (.cons (t := 5) rfl (.cons (t := 6) rfl (.cons (t := 7) rfl (.cons (t := 8) rfl (.cons (t := 11) rfl (.cons (t := 12) rfl (.cons (t := 13) rfl (.cons (t := 14) rfl (.cons (t := 15) rfl (.cons (t := 16) rfl (.cons (t := 17) rfl (.cons (t := 18) rfl (.cons (t := 19) rfl (.cons (t := 20) rfl (.cons (t := 21) rfl (.cons (t := 22) rfl (.cons (t := 23) rfl (.cons (t := 24) rfl (.cons (t := 25) rfl (.cons (t := 26) rfl (.cons (t := 27) rfl (.cons (t := 28) rfl (.cons (t := 29) rfl (.cons (t := 30) rfl (.cons (t := 31) rfl (.cons (t := 32) rfl (.cons (t := 33) rfl (.cons (t := 34) rfl (.cons (t := 35) rfl (.cons (t := 36) rfl .nil))))))))))))))))))))))))))))))))) .nil ?_
          refine W.seq ?_
          refine W.block ?_
          refine W.seq ?_
          refine W.draw [⟨[], [], []⟩, ⟨[], [], []⟩, ⟨[], [], []⟩, ⟨[], [], []⟩, ⟨[], [], []⟩, ⟨[], [], []⟩, ⟨[], [], []⟩, ⟨[], [], []⟩, ⟨[], [], []⟩, ⟨[], [], []⟩, ⟨[], [], []⟩, ⟨[], [], []⟩, ⟨[], [], []⟩, ⟨[], [], []⟩, ⟨[], [], []⟩, ⟨[], [], []⟩, ⟨[], [], []⟩, ⟨[], [], []⟩, ⟨[], [], []⟩, ⟨[], [], []⟩, ⟨[], [], []⟩, ⟨[], [], []⟩, ⟨[], [], []⟩, ⟨[], [], []⟩] rfl (by kernel_rfl) (by kernel_rfl) rfl rfl ?_
          refine WH.val (O.move rfl rfl Taken.no) rfl rfl ?_
          refine WH.val (O.move rfl rfl Taken.no) rfl rfl ?_
          refine WH.val (O.idx_fz rfl rfl (rfl) (row_get (by omega)) Try.underlying22 hi32 hs32 rfl Taken.no) rfl rfl ?_
          refine WH.val (O.fld_fz rfl Try.underlying32 rfl (m := 0) (by kernel_rfl) rfl rfl Taken.no) rfl rfl ?_
          refine WH.val (O.ld1 (PtI.ofU (PtU.fz rfl)) rfl Try.underlying3 rfl rfl Taken.no) rfl rfl ?_
          refine WH.val (O.move rfl rfl Taken.no) rfl rfl ?_
          refine WH.val (O.move rfl rfl Taken.no) rfl rfl ?_
          refine WH.val (O.idx_fz rfl rfl (rfl) (row_get (by omega)) Try.underlying22 hi32 hs32 rfl Taken.no) rfl rfl ?_
          refine WH.val (O.fld_fz rfl Try.underlying32 rfl (m := 0) (by kernel_rfl) rfl rfl Taken.no) rfl rfl ?_
          refine WH.val (O.ld1 (PtI.ofU (PtU.fz rfl)) rfl Try.underlying3 rfl rfl Taken.no) rfl rfl ?_
          refine WH.val (O.det (fun _ => G.R.eql rfl rfl) rfl Taken.no) rfl rfl ?_
          refine WH.val (O.move rfl rfl Taken.no) rfl rfl ?_
          refine WH.case (j := 11) (g := 50) (want := false) rfl rfl (fun hg9 => ?_) (fun hg9 => ?_)
          · skip
            first | have hg9p := G.gA3 hg9 | have hg9p := G.gA4 hg9 | have hg9p := hg9
            refine WH.val (O.move rfl rfl (Taken.yes rfl rfl hg9)) rfl rfl ?_
            refine WH.val (O.move rfl rfl (Taken.yes rfl rfl hg9)) rfl rfl ?_
            refine WH.val (O.idx_fz rfl rfl (rfl) (row_get (by omega)) Try.underlying22 hi32 hs32 rfl (Taken.yes rfl rfl hg9)) rfl rfl ?_
            refine WH.val (O.fld_fz rfl Try.underlying32 rfl (m := 0) (by kernel_rfl) rfl rfl (Taken.yes rfl rfl hg9)) rfl rfl ?_
            refine WH.val (O.ld1 (PtI.ofU (PtU.fz rfl)) rfl Try.underlying3 rfl rfl (Taken.yes rfl rfl hg9)) rfl rfl ?_
            refine WH.val (O.move rfl rfl (Taken.yes rfl rfl hg9)) rfl rfl ?_
            refine WH.val (O.move rfl rfl (Taken.yes rfl rfl hg9)) rfl rfl ?_
            refine WH.val (O.idx_fz rfl rfl (rfl) (row_get (by omega)) Try.underlying22 hi32 hs32 rfl (Taken.yes rfl rfl hg9)) rfl rfl ?_
            refine WH.val (O.fld_fz rfl Try.underlying32 rfl (m := 0) (by kernel_rfl) rfl rfl (Taken.yes rfl rfl hg9)) rfl rfl ?_
            refine WH.val (O.ld1 (PtI.ofU (PtU.fz rfl)) rfl Try.underlying3 rfl rfl (Taken.yes rfl rfl hg9)) rfl rfl ?_
            refine WH.val (O.det (fun _ => G.R.eql rfl rfl) rfl (Taken.yes rfl rfl hg9)) rfl rfl ?_
            refine WH.val (O.pick_f rfl hg9 rfl rfl Taken.no) rfl rfl ?_
            refine WH.nil ?_
            refine E.to ?_
            refine W.pick (.cons (t := 0) rfl (.cons (t := 3) rfl (.cons (t := 4) rfl (.cons (t := 5) rfl (.cons (t := 6) rfl (.cons (t := 7) rfl (.cons (t := 8) rfl (.cons (t := 11) rfl (.cons (t := 12) rfl (.cons (t := 13) rfl (.cons (t := 14) rfl (.cons (t := 15) rfl (.cons (t := 16) rfl (.cons (t := 17) rfl (.cons (t := 18) rfl (.cons (t := 19) rfl (.cons (t := 20) rfl (.cons (t := 21) rfl (.cons (t := 22) rfl (.cons (t := 23) rfl (.cons (t := 24) rfl (.cons (t := 25) rfl (.cons (t := 26) rfl (.cons (t := 27) rfl (.cons (t := 28) rfl (.cons (t := 29) rfl (.cons (t := 30) rfl (.cons (t := 31) rfl (.cons (t := 32) rfl (.cons (t := 33) rfl (.cons (t := 34) rfl (.cons (t := 35) rfl (.cons (t := 36) rfl (.cons (t := 39) rfl (.cons (t := 40) rfl (.cons (t := 41) rfl (.cons (t := 42) rfl (.cons (t := 43) rfl (.cons (t := 44) rfl (.cons (t := 45) rfl (.cons (t := 46) rfl (.cons (t := 47) rfl (.cons (t := 48) rfl (.cons (t := 49) rfl (.cons (t := 50) rfl (.cons (t := 51) rfl (.cons (t := 52) rfl (.cons (t := 53) rfl (.cons (t := 54) rfl (.cons (t := 55) rfl (.cons (t := 56) rfl (.cons (t := 57) rfl (.cons (t := 58) rfl (.cons (t := 59) rfl (.cons (t := 60) rfl (.cons (t := 61) rfl (.cons (t := 62) rfl .nil))))))))))))))))))))))))))))))))))))))))))))))))))))))))) .nil ?_
            first | refine W.cond_d rfl (fun hc10 => ?_) (fun hc10 => ?_) | refine W.cond_nd rfl (fun hc10 => ?_) (fun hc10 => ?_) | refine W.cond rfl (fun hc10 => ?_) (fun hc10 => ?_)
            · skip
              refine W.seq ?_
              refine W.region ?_
              refine SL.val (O.assign rfl rfl Taken.no) ?_
              refine SL.nil ?_
              refine E.to ?_
              refine W.pick (.cons (t := 0) rfl (.cons (t := 2) rfl (.cons (t := 3) rfl (.cons (t := 4) rfl (.cons (t := 5) rfl (.cons (t := 6) rfl (.cons (t := 7) rfl (.cons (t := 8) rfl (.cons (t := 11) rfl (.cons (t := 12) rfl (.cons (t := 13) rfl (.cons (t := 14) rfl (.cons (t := 15) rfl (.cons (t := 16) rfl (.cons (t := 17) rfl (.cons (t := 18) rfl (.cons (t := 19) rfl (.cons (t := 20) rfl (.cons (t := 21) rfl (.cons (t := 22) rfl (.cons (t := 23) rfl (.cons (t := 24) rfl (.cons (t := 25) rfl (.cons (t := 26) rfl (.cons (t := 27) rfl (.cons (t := 28) rfl (.cons (t := 29) rfl (.cons (t := 30) rfl (.cons (t := 31) rfl (.cons (t := 32) rfl (.cons (t := 33) rfl (.cons (t := 34) rfl (.cons (t := 35) rfl (.cons (t := 36) rfl (.cons (t := 39) rfl (.cons (t := 40) rfl (.cons (t := 41) rfl (.cons (t := 42) rfl (.cons (t := 43) rfl (.cons (t := 44) rfl (.cons (t := 45) rfl (.cons (t := 46) rfl (.cons (t := 47) rfl (.cons (t := 48) rfl (.cons (t := 49) rfl (.cons (t := 50) rfl (.cons (t := 51) rfl (.cons (t := 52) rfl (.cons (t := 53) rfl (.cons (t := 54) rfl (.cons (t := 55) rfl (.cons (t := 56) rfl (.cons (t := 57) rfl (.cons (t := 58) rfl (.cons (t := 59) rfl (.cons (t := 60) rfl (.cons (t := 61) rfl (.cons (t := 62) rfl .nil)))))))))))))))))))))))))))))))))))))))))))))))))))))))))) .nil ?_
              refine W.ret ?_
              refine E.inr ?_
              refine E.thr ?_
              refine E.thr ?_
              refine E.inr ?_
              refine E.inr ?_
              refine E.thr ?_
              refine E.thr ?_
              refine E.inr ?_
              refine E.thr ?_
              refine E.fin (rs := [_]) (rn []) (.inl rfl) rfl (.cons (ResOne.tmp rfl) .nil) ?_ ?_ rfl (fixL_spec rfl)
              · skip
                exact iv_bool (valid_no (k := k) (by omega) (fun h => h.2.2 j (by omega) (by unfold likeH; first | (left; assumption) | (right; assumption) | simp_all)))
              · exact SubS.nil
            · skip
              refine W.skip ?_
              refine E.inn ?_
              refine E.to ?_
              refine W.pick (.cons (t := 0) rfl (.cons (t := 3) rfl (.cons (t := 4) rfl (.cons (t := 5) rfl (.cons (t := 6) rfl (.cons (t := 7) rfl (.cons (t := 8) rfl (.cons (t := 11) rfl (.cons (t := 12) rfl (.cons (t := 13) rfl (.cons (t := 14) rfl (.cons (t := 15) rfl (.cons (t := 16) rfl (.cons (t := 17) rfl (.cons (t := 18) rfl (.cons (t := 19) rfl (.cons (t := 20) rfl (.cons (t := 21) rfl (.cons (t := 22) rfl (.cons (t := 23) rfl (.cons (t := 24) rfl (.cons (t := 25) rfl (.cons (t := 26) rfl (.cons (t := 27) rfl (.cons (t := 28) rfl (.cons (t := 29) rfl (.cons (t := 30) rfl (.cons (t := 31) rfl (.cons (t := 32) rfl (.cons (t := 33) rfl (.cons (t := 34) rfl (.cons (t := 35) rfl (.cons (t := 36) rfl (.cons (t := 39) rfl (.cons (t := 40) rfl (.cons (t := 41) rfl (.cons (t := 42) rfl (.cons (t := 43) rfl (.cons (t := 44) rfl (.cons (t := 45) rfl (.cons (t := 46) rfl (.cons (t := 47) rfl (.cons (t := 48) rfl (.cons (t := 49) rfl (.cons (t := 50) rfl (.cons (t := 51) rfl (.cons (t := 52) rfl (.cons (t := 53) rfl (.cons (t := 54) rfl (.cons (t := 55) rfl (.cons (t := 56) rfl (.cons (t := 57) rfl (.cons (t := 58) rfl (.cons (t := 59) rfl (.cons (t := 60) rfl (.cons (t := 61) rfl (.cons (t := 62) rfl .nil))))))))))))))))))))))))))))))))))))))))))))))))))))))))) .nil ?_
              refine W.region ?_
              refine SL.val (O.move rfl rfl Taken.no) ?_
              refine SL.val (O.det (fun _ => by first | exact G.R.add64 rfl rfl (by omega) | exact G.R.add rfl rfl) rfl Taken.no) ?_
              refine SL.val (O.assign rfl rfl Taken.no) ?_
              refine SL.nil ?_
              refine E.again ((j + 1)) (rn []) ?_ ?_ rfl (fixL_spec rfl) ?_ ?_
              · exact (SubF.cons rfl (SubF.cons rfl (SubF.cons rfl (SubF.cons rfl (SubF.cons rfl (SubF.cons rfl (SubF.cons rfl (SubF.cons rfl (SubF.cons rfl (SubF.cons rfl (SubF.cons rfl (SubF.cons rfl (SubF.cons rfl (SubF.cons rfl (SubF.cons rfl (SubF.cons rfl (SubF.cons rfl (SubF.cons rfl (SubF.cons rfl (SubF.cons rfl (SubF.cons rfl (SubF.cons rfl (SubF.cons rfl (SubF.cons rfl (SubF.cons rfl (SubF.cons rfl (SubF.cons rfl (SubF.cons rfl (SubF.cons rfl (SubF.cons rfl SubF.nil))))))))))))))))))))))))))))))
              · exact SubS.nil
              · try dsimp only
                exact ⟨by omega, fun i hi => by rcases Nat.lt_succ_iff_lt_or_eq.1 hi with h | h; exact hb i h; subst h; unfold likeH; simp_all⟩
              · (try dsimp only); omega
          · skip
            first | have hg9p := G.gA7 hg9 | have hg9p := G.gA8 hg9 | have hg9p := hg9
            refine WH.skip (OpOk.not rfl rfl rfl hg9) ?_
            refine WH.skip (OpOk.not rfl rfl rfl hg9) ?_
            refine WH.skip (OpOk.not rfl rfl rfl hg9) ?_
            refine WH.skip (OpOk.not rfl rfl rfl hg9) ?_
            refine WH.skip (OpOk.not rfl rfl rfl hg9) ?_
            refine WH.skip (OpOk.not rfl rfl rfl hg9) ?_
            refine WH.skip (OpOk.not rfl rfl rfl hg9) ?_
            refine WH.skip (OpOk.not rfl rfl rfl hg9) ?_
            refine WH.skip (OpOk.not rfl rfl rfl hg9) ?_
            refine WH.skip (OpOk.not rfl rfl rfl hg9) ?_
            refine WH.skip (OpOk.not rfl rfl rfl hg9) ?_
            refine WH.val (O.pick_t rfl (G.ne_f hg9) rfl rfl Taken.no) rfl rfl ?_
            refine WH.nil ?_
            refine E.to ?_
            refine W.pick (.cons (t := 0) rfl (.cons (t := 3) rfl (.cons (t := 4) rfl (.cons (t := 5) rfl (.cons (t := 6) rfl (.cons (t := 7) rfl (.cons (t := 8) rfl (.cons (t := 11) rfl (.cons (t := 12) rfl (.cons (t := 13) rfl (.cons (t := 14) rfl (.cons (t := 15) rfl (.cons (t := 16) rfl (.cons (t := 17) rfl (.cons (t := 18) rfl (.cons (t := 19) rfl (.cons (t := 20) rfl (.cons (t := 21) rfl (.cons (t := 22) rfl (.cons (t := 23) rfl (.cons (t := 24) rfl (.cons (t := 25) rfl (.cons (t := 26) rfl (.cons (t := 27) rfl (.cons (t := 28) rfl (.cons (t := 29) rfl (.cons (t := 30) rfl (.cons (t := 31) rfl (.cons (t := 32) rfl (.cons (t := 33) rfl (.cons (t := 34) rfl (.cons (t := 35) rfl (.cons (t := 36) rfl (.cons (t := 39) rfl (.cons (t := 40) rfl (.cons (t := 41) rfl (.cons (t := 42) rfl (.cons (t := 43) rfl (.cons (t := 44) rfl (.cons (t := 45) rfl (.cons (t := 46) rfl (.cons (t := 47) rfl (.cons (t := 48) rfl (.cons (t := 49) rfl (.cons (t := 50) rfl (.cons (t := 51) rfl (.cons (t := 52) rfl (.cons (t := 53) rfl (.cons (t := 54) rfl (.cons (t := 55) rfl (.cons (t := 56) rfl (.cons (t := 57) rfl (.cons (t := 58) rfl (.cons (t := 59) rfl (.cons (t := 60) rfl (.cons (t := 61) rfl (.cons (t := 62) rfl .nil))))))))))))))))))))))))))))))))))))))))))))))))))))))))) .nil ?_
            refine W.cond_t rfl ?_
            refine W.seq ?_
            refine W.region ?_
            refine SL.val (O.assign rfl rfl Taken.no) ?_
            refine SL.nil ?_
            refine E.to ?_
            refine W.pick (.cons (t := 0) rfl (.cons (t := 2) rfl (.cons (t := 3) rfl (.cons (t := 4) rfl (.cons (t := 5) rfl (.cons (t := 6) rfl (.cons (t := 7) rfl (.cons (t := 8) rfl (.cons (t := 11) rfl (.cons (t := 12) rfl (.cons (t := 13) rfl (.cons (t := 14) rfl (.cons (t := 15) rfl (.cons (t := 16) rfl (.cons (t := 17) rfl (.cons (t := 18) rfl (.cons (t := 19) rfl (.cons (t := 20) rfl (.cons (t := 21) rfl (.cons (t := 22) rfl (.cons (t := 23) rfl (.cons (t := 24) rfl (.cons (t := 25) rfl (.cons (t := 26) rfl (.cons (t := 27) rfl (.cons (t := 28) rfl (.cons (t := 29) rfl (.cons (t := 30) rfl (.cons (t := 31) rfl (.cons (t := 32) rfl (.cons (t := 33) rfl (.cons (t := 34) rfl (.cons (t := 35) rfl (.cons (t := 36) rfl (.cons (t := 39) rfl (.cons (t := 40) rfl (.cons (t := 41) rfl (.cons (t := 42) rfl (.cons (t := 43) rfl (.cons (t := 44) rfl (.cons (t := 45) rfl (.cons (t := 46) rfl (.cons (t := 47) rfl (.cons (t := 48) rfl (.cons (t := 49) rfl (.cons (t := 50) rfl (.cons (t := 51) rfl (.cons (t := 52) rfl (.cons (t := 53) rfl (.cons (t := 54) rfl (.cons (t := 55) rfl (.cons (t := 56) rfl (.cons (t := 57) rfl (.cons (t := 58) rfl (.cons (t := 59) rfl (.cons (t := 60) rfl (.cons (t := 61) rfl (.cons (t := 62) rfl .nil)))))))))))))))))))))))))))))))))))))))))))))))))))))))))) .nil ?_
            refine W.ret ?_
            refine E.inr ?_
            refine E.thr ?_
            refine E.thr ?_
            refine E.inr ?_
            refine E.inr ?_
            refine E.thr ?_
            refine E.thr ?_
            refine E.inr ?_
            refine E.thr ?_
            refine E.fin (rs := [_]) (rn []) (.inl rfl) rfl (.cons (ResOne.tmp rfl) .nil) ?_ ?_ rfl (fixL_spec rfl)
            · skip
              exact iv_bool (valid_no (k := k) (by omega) (fun h => h.2.2 j (by omega) (by unfold likeH; first | (left; assumption) | (right; assumption) | simp_all)))
            · exact SubS.nil
        · skip
          refine W.exit ?_
          refine E.th ?_
          refine E.th ?_
          refine E.hit ?_
          refine E.inn ?_
          refine E.to ?_
          refine W.pick (.cons (t := 0) rfl (.cons (t := 3) rfl (.cons (t := 4) rfl (.cons (t := 5) rfl (.cons (t := 6) rfl (.cons (t := 7) rfl (.cons (t := 8) rfl (.cons (t := 11) rfl (.cons (t := 12) rfl (.cons (t := 13) rfl (.cons (t := 14) rfl (.cons (t := 15) rfl (.cons (t := 16) rfl (.cons (t := 17) rfl (.cons (t := 18) rfl (.cons (t := 19) rfl (.cons (t := 20) rfl (.cons (t := 21) rfl (.cons (t := 22) rfl (.cons (t := 23) rfl (.cons (t := 24) rfl (.cons (t := 25) rfl (.cons (t := 26) rfl (.cons (t := 27) rfl (.cons (t := 28) rfl (.cons (t := 29) rfl (.cons (t := 30) rfl (.cons (t := 31) rfl (.cons (t := 32) rfl (.cons (t := 33) rfl (.cons (t := 34) rfl (.cons (t := 35) rfl (.cons (t := 36) rfl .nil))))))))))))))))))))))))))))))))) .nil ?_
          refine W.region ?_
          refine SL.val (O.move rfl rfl Taken.no) ?_
          refine SL.val (O.det (fun _ => by first | exact G.R.add64 rfl rfl (by omega) | exact G.R.add rfl rfl) rfl Taken.no) ?_
          refine SL.val (O.assign rfl rfl Taken.no) ?_
          refine SL.nil ?_
          refine E.again ((k + 1)) (rn []) ?_ ?_ rfl (fixL_spec rfl) ?_ ?_
          · exact (SubF.cons rfl (SubF.cons rfl SubF.nil))
          · exact SubS.nil
          · try dsimp only
            exact ⟨by omega, valid_step hp ⟨by assumption, fun h0 => (by first | assumption | exact Decidable.not_not.1 (by assumption) | (exfalso; simp_all <;> omega)), fun j hj => hb j (by omega)⟩⟩
          · (try dsimp only); omega
    · skip
      first | have hg2p := G.gA7 hg2 | have hg2p := G.gA8 hg2 | have hg2p := hg2
      refine WH.skip (OpOk.not rfl rfl rfl hg2) ?_
      refine WH.skip (OpOk.not rfl rfl rfl hg2) ?_
      refine WH.skip (OpOk.not rfl rfl rfl hg2) ?_
      refine WH.skip (OpOk.not2 rfl rfl rfl) ?_
      refine WH.skip (OpOk.not2 rfl rfl rfl) ?_
      refine WH.skip (OpOk.not2 rfl rfl rfl) ?_
      refine WH.skip (OpOk.not2 rfl rfl rfl) ?_
      refine WH.skip (OpOk.not2 rfl rfl rfl) ?_
      refine WH.skip (OpOk.not2 rfl rfl rfl) ?_
      refine WH.skip (OpOk.not2 rfl rfl rfl) ?_
      refine WH.skip (OpOk.not2 rfl rfl rfl) ?_
      refine WH.skip (OpOk.not2 rfl rfl rfl) ?_
      refine WH.skip (OpOk.not2 rfl rfl rfl) ?_
      refine WH.skip (OpOk.not2 rfl rfl rfl) ?_
      refine WH.skip (OpOk.not rfl rfl rfl hg2) ?_
      refine WH.val (O.pick_t rfl (G.ne_f hg2) rfl rfl Taken.no) rfl rfl ?_
      refine WH.nil ?_
      refine E.to ?_
      refine W.pick (.cons (t := 0) rfl (.cons (t := 3) rfl (.cons (t := 5) rfl (.cons (t := 6) rfl (.cons (t := 7) rfl (.cons (t := 8) rfl (.cons (t := 11) rfl (.cons (t := 12) rfl (.cons (t := 13) rfl (.cons (t := 14) rfl (.cons (t := 15) rfl (.cons (t := 16) rfl (.cons (t := 17) rfl (.cons (t := 18) rfl (.cons (t := 19) rfl (.cons (t := 20) rfl (.cons (t := 21) rfl (.cons (t := 22) rfl (.cons (t := 23) rfl (.cons (t := 24) rfl (.cons (t := 25) rfl (.cons (t := 26) rfl (.cons (t := 27) rfl (.cons (t := 28) rfl (.cons (t := 29) rfl (.cons (t := 30) rfl (.cons (t := 31) rfl (.cons (t := 32) rfl (.cons (t := 33) rfl .nil))))))))))))))))))))))))))))) .nil ?_
      refine W.cond_t rfl ?_
      refine W.seq ?_
      refine W.region ?_
      refine SL.val (O.assign rfl rfl Taken.no) ?_
      refine SL.nil ?_
      refine E.to ?_
      refine W.pick (.cons (t := 0) rfl (.cons (t := 2) rfl (.cons (t := 3) rfl (.cons (t := 5) rfl (.cons (t := 6) rfl (.cons (t := 7) rfl (.cons (t := 8) rfl (.cons (t := 11) rfl (.cons (t := 12) rfl (.cons (t := 13) rfl (.cons (t := 14) rfl (.cons (t := 15) rfl (.cons (t := 16) rfl (.cons (t := 17) rfl (.cons (t := 18) rfl (.cons (t := 19) rfl (.cons (t := 20) rfl (.cons (t := 21) rfl (.cons (t := 22) rfl (.cons (t := 23) rfl (.cons (t := 24) rfl (.cons (t := 25) rfl (.cons (t := 26) rfl (.cons (t := 27) rfl (.cons (t := 28) rfl (.cons (t := 29) rfl (.cons (t := 30) rfl (.cons (t := 31) rfl (.cons (t := 32) rfl (.cons (t := 33) rfl .nil)))))))))))))))))))))))))))))) .nil ?_
      refine W.ret ?_
      refine E.thr ?_
      refine E.inr ?_
      refine E.thr ?_
      refine E.thr ?_
      refine E.inr ?_
      refine E.thr ?_
      refine E.fin (rs := [_]) (rn []) (.inl rfl) rfl (.cons (ResOne.tmp rfl) .nil) ?_ ?_ rfl (fixL_spec rfl)
      · skip
        first | exact iv_bool (valid_no (k := k) (by omega) (fun h => absurd h.1 (by assumption))) | exact iv_bool (valid_no (k := k) (by omega) (fun h => absurd (h.2.1 (by omega)) (by assumption)))
      · exact SubS.nil
  · skip
    refine W.exit ?_
    refine E.th ?_
    refine E.th ?_
    refine E.hit ?_
    refine E.to ?_
    refine W.seq ?_
    refine W.region ?_
    refine SL.val (O.move rfl rfl Taken.no) ?_
    refine SL.val (O.lenE (SlOf.fz rfl (by decide)) (by first | exact List.length_map _ | rfl) Try.underlying22 rfl Taken.no) ?_
    refine SL.val (O.det (fun _ => G.R.leq rfl rfl) rfl Taken.no) ?_
    refine SL.val (O.assign rfl rfl Taken.no) ?_
    refine SL.nil ?_
    refine E.to ?_
    refine W.ret ?_
    refine E.fin (rs := [_]) (rn []) (.inl rfl) rfl (.cons (ResOne.tmp rfl) .nil) ?_ ?_ rfl (fixL_spec rfl)
    · skip
      exact iv_bool (valid_yes (fun j hj => hp j (by omega)))
    · exact SubS.nil

/-- bookplate/bookplateref57.next. -/
theorem refnext_h {q : List Hd} :
    Con Try.prog 36 [vL 5 (q.map eH)] [] (vI (nextI q : Int)) [] := by
  obtain ⟨i32, hi32, hz32, hs32, hb32⟩ := hinf32
  refine Con.enterL (n := 31) Try.func36 rfl rfl rfl (fun τ w ok vs hin => ?_)
  have hl0 := hin.len (i := 0) rfl
  try rw [List.length_map] at hl0
  clear hin
  refine W.seq ?_
  refine W.region ?_
  refine SL.val (O.assign rfl rfl Taken.no) ?_
  refine SL.nil ?_
  refine E.to ?_
  refine W.seq ?_
  refine W.region ?_
  refine SL.val (O.assign rfl rfl Taken.no) ?_
  refine SL.nil ?_
  refine E.to ?_
  refine W.seq ?_
  refine W.seq ?_
  refine W.region ?_
  refine SL.val (O.assign rfl rfl Taken.no) ?_
  refine SL.nil ?_
  refine E.to ?_
  refine W.block ?_
  refine W.loopx1 (fun (k : Nat) => [(3, vI (bestI q k : Nat)), (4, vI (k : Int))]) (fun (k : Nat) => []) (fun (k : Nat) => k ≤ q.length ∧ ∀ j, j < k → decide (q[j]!.ov = 2) = false) (fun (k : Nat) => q.length - k) (0) (rn []) (.cons (t := 0) rfl .nil) .nil rfl ?_ ?_ rfl rfl ?_ ?_
  · exact (SubF.cons rfl (SubF.cons rfl SubF.nil))
  · exact SubS.nil
  · skip
    exact ⟨by omega, fun j h => by omega⟩
  intro k hinv
  obtain ⟨hk, hp⟩ := hinv
  have hbl := bestI_lt q (k := k)
  have hbz : k = 0 → bestI q k = 0 := fun h => by subst h; rfl
  refine W.seq ?_
  refine W.seq ?_
  refine W.region ?_
  refine SL.val (O.move rfl rfl Taken.no) ?_
  refine SL.val (O.move rfl rfl Taken.no) ?_
  refine SL.val (O.lenE (SlOf.fz rfl (by decide)) (by first | exact List.length_map _ | rfl) Try.underlying22 rfl Taken.no) ?_
  refine SL.val (O.det (fun _ => G.R.lss rfl rfl) rfl Taken.no) ?_
  refine SL.nil ?_
  refine E.to ?_
  first | refine W.cond_d rfl (fun hc1 => ?_) (fun hc1 => ?_) | refine W.cond_nd rfl (fun hc1 => ?_) (fun hc1 => ?_) | refine W.cond rfl (fun hc1 => ?_) (fun hc1 => ?_)
  · skip
    refine W.skip ?_
    refine E.to ?_
    refine W.seq ?_
    refine W.block ?_
    refine W.seq ?_
    refine W.seq ?_
    refine W.region ?_
    refine SL.val (O.move rfl rfl Taken.no) ?_
    refine SL.val (O.move rfl rfl Taken.no) ?_
    refine SL.val (O.idx_fz rfl rfl (rfl) (row_get (by omega)) Try.underlying22 hi32 hs32 rfl Taken.no) ?_
    refine SL.val (O.fld_fz rfl Try.underlying32 rfl (m := 0) (by kernel_rfl) rfl rfl Taken.no) ?_
    refine SL.val (O.ld1 (PtI.ofU (PtU.fz rfl)) rfl Try.underlying3 rfl rfl Taken.no) ?_
    refine SL.val (O.det (fun _ => G.R.eql rfl rfl) rfl Taken.no) ?_
    refine SL.nil ?_
    refine E.to ?_
    first | refine W.cond_d rfl (fun hc2 => ?_) (fun hc2 => ?_) | refine W.cond_nd rfl (fun hc2 => ?_) (fun hc2 => ?_) | refine W.cond rfl (fun hc2 => ?_) (fun hc2 => ?_)
    · skip
      refine W.seq ?_
      refine W.region ?_
      refine SL.val (O.move rfl rfl Taken.no) ?_
      refine SL.val (O.assign rfl rfl Taken.no) ?_
      refine SL.nil ?_
      refine E.to ?_
      refine W.ret ?_
      refine E.thr ?_
      refine E.inr ?_
      refine E.thr ?_
      refine E.thr ?_
      refine E.inr ?_
      refine E.thr ?_
      refine E.fin (rs := [_]) (rn []) (.inl rfl) rfl (.cons (ResOne.tmp rfl) .nil) ?_ ?_ rfl (fixL_spec rfl)
      · skip
        exact iv_int (by rw [next_over (by omega) hp (by first | assumption | simp_all)])
      · exact SubS.nil
    · skip
      refine W.skip ?_
      refine E.to ?_
      refine W.seq ?_
      refine W.draw [⟨[], [], []⟩, ⟨[], [], []⟩, ⟨[], [], []⟩, ⟨[], [], []⟩, ⟨[], [], []⟩, ⟨[], [], []⟩, ⟨[], [], []⟩, ⟨[], [], []⟩, ⟨[], [], []⟩, ⟨[], [], []⟩, ⟨[], [], []⟩] rfl (by kernel_rfl) (by kernel_rfl) rfl rfl ?_
      refine WH.val (O.move rfl rfl Taken.no) rfl rfl ?_
      refine WH.val (O.move rfl rfl Taken.no) rfl rfl ?_
      refine WH.val (O.idx_fz rfl rfl (rfl) (row_get (by omega)) Try.underlying22 hi32 hs32 rfl Taken.no) rfl rfl ?_
      refine WH.val (O.fld_fz rfl Try.underlying32 rfl (m := 0) (by kernel_rfl) rfl rfl Taken.no) rfl rfl ?_
      refine WH.val (O.ld1 (PtI.ofU (PtU.fz rfl)) rfl Try.underlying3 rfl rfl Taken.no) rfl rfl ?_
      refine WH.val (O.move rfl rfl Taken.no) rfl rfl ?_
      refine WH.val (O.move rfl rfl Taken.no) rfl rfl ?_
      refine WH.val (O.idx_fz (i := (bestI q k)) rfl rfl (rfl) (row_get (by omega)) Try.underlying22 hi32 hs32 rfl Taken.no) rfl rfl ?_
      refine WH.val (O.fld_fz rfl Try.underlying32 rfl (m := 0) (by kernel_rfl) rfl rfl Taken.no) rfl rfl ?_
      refine WH.val (O.ld1 (PtI.ofU (PtU.fz rfl)) rfl Try.underlying3 rfl rfl Taken.no) rfl rfl ?_
      refine WH.val (O.det (fun _ => G.R.lss rfl rfl) rfl Taken.no) rfl rfl ?_
      refine WH.nil ?_
      refine E.to ?_
      first | refine W.cond_d rfl (fun hc3 => ?_) (fun hc3 => ?_) | refine W.cond_nd rfl (fun hc3 => ?_) (fun hc3 => ?_) | refine W.cond rfl (fun hc3 => ?_) (fun hc3 => ?_)
      · skip
        refine W.region ?_
        refine SL.val (O.move rfl rfl Taken.no) ?_
        refine SL.val (O.assign rfl rfl Taken.no) ?_
        refine SL.nil ?_
        refine E.inn ?_
        refine E.to ?_
        refine W.pick (.cons (t := 0) rfl (.cons (t := 3) rfl (.cons (t := 4) rfl (.cons (t := 5) rfl (.cons (t := 6) rfl (.cons (t := 7) rfl (.cons (t := 8) rfl (.cons (t := 11) rfl (.cons (t := 12) rfl (.cons (t := 13) rfl (.cons (t := 14) rfl (.cons (t := 15) rfl (.cons (t := 16) rfl (.cons (t := 18) rfl (.cons (t := 19) rfl (.cons (t := 20) rfl (.cons (t := 21) rfl (.cons (t := 22) rfl (.cons (t := 23) rfl (.cons (t := 24) rfl (.cons (t := 25) rfl (.cons (t := 26) rfl (.cons (t := 27) rfl (.cons (t := 28) rfl (.cons (t := 29) rfl .nil))))))))))))))))))))))))) .nil ?_
        refine W.region ?_
        refine SL.val (O.move rfl rfl Taken.no) ?_
        refine SL.val (O.det (fun _ => by first | exact G.R.add64 rfl rfl (by omega) | exact G.R.add rfl rfl) rfl Taken.no) ?_
        refine SL.val (O.assign rfl rfl Taken.no) ?_
        refine SL.nil ?_
        refine E.again ((k + 1)) (rn []) ?_ ?_ rfl (fixL_spec rfl) ?_ ?_
        · exact (SubF.val rfl (by (try dsimp only); first | exact iv_int (by rw [bestI_t (by assumption)]) | exact iv_int (by rw [bestI_f (by assumption)])) (SubF.cons rfl (SubF.cons rfl SubF.nil)))
        · exact SubS.nil
        · try dsimp only
          exact ⟨by omega, fun j hj => by rcases Nat.lt_succ_iff_lt_or_eq.1 hj with h | h; exact hp j h; subst h; exact decide_eq_false (by assumption)⟩
        · (try dsimp only); omega
      · skip
        refine W.skip ?_
        refine E.inn ?_
        refine E.to ?_
        refine W.region ?_
        refine SL.val (O.move rfl rfl Taken.no) ?_
        refine SL.val (O.det (fun _ => by first | exact G.R.add64 rfl rfl (by omega) | exact G.R.add rfl rfl) rfl Taken.no) ?_
        refine SL.val (O.assign rfl rfl Taken.no) ?_
        refine SL.nil ?_
        refine E.again ((k + 1)) (rn []) ?_ ?_ rfl (fixL_spec rfl) ?_ ?_
        · exact (SubF.val rfl (by (try dsimp only); first | exact iv_int (by rw [bestI_t (by assumption)]) | exact iv_int (by rw [bestI_f (by assumption)])) (SubF.cons rfl (SubF.cons rfl SubF.nil)))
        · exact SubS.nil
        · try dsimp only
          exact ⟨by omega, fun j hj => by rcases Nat.lt_succ_iff_lt_or_eq.1 hj with h | h; exact hp j h; subst h; exact decide_eq_false (by assumption)⟩
        · (try dsimp only); omega
  · skip
    refine W.exit ?_
    refine E.th ?_
    refine E.th ?_
    refine E.hit ?_
    refine E.to ?_
    refine W.seq ?_
    refine W.region ?_
    refine SL.val (O.move rfl rfl Taken.no) ?_
    refine SL.val (O.assign rfl rfl Taken.no) ?_
    refine SL.nil ?_
    refine E.to ?_
    refine W.ret ?_
    refine E.fin (rs := [_]) (rn []) (.inl rfl) rfl (.cons (ResOne.tmp rfl) .nil) ?_ ?_ rfl (fixL_spec rfl)
    · skip
      obtain rfl : k = q.length := by omega
      exact iv_int (by rw [next_best hp])
    · exact SubS.nil

/-- bookplate/bookplateref57.Next. -/
theorem refNext_h {q : List Hd} :
    Con Try.prog 13 [vL 5 (q.map eH)] [] (.tup [.agg [.u (uI (nextH q).id), .u (uI (nextH q).pat), .u (uI (nextH q).cls), .u (uI (nextH q).tim), .u (uI (nextH q).ov)], vB (decide (validQ q ∧ 0 < q.length))]) [] := by
  obtain ⟨i32, hi32, hz32, hs32, hb32⟩ := hinf32
  refine Con.enterL (n := 18) Try.func13 rfl rfl rfl (fun τ w ok vs hin => ?_)
  have hl0 := hin.len (i := 0) rfl
  try rw [List.length_map] at hl0
  clear hin
  refine W.seq ?_
  refine W.region ?_
  refine SL.memS (O.alloc (z := .agg #[.int .i64 0, .int .i64 0, .int .i64 0, .int .i64 0, .int .i64 0]) (is := [.u (.sc (.int .i64 0)), .u (.sc (.int .i64 0)), .u (.sc (.int .i64 0)), .u (.sc (.int .i64 0)), .u (.sc (.int .i64 0))]) 101 (by kernel_rfl) rfl rfl rfl Taken.no) rfl rfl (S' := (101, _) :: _) rfl ?_
  refine SL.val (O.assign rfl rfl Taken.no) ?_
  refine SL.nil ?_
  refine E.to ?_
  refine W.seq ?_
  refine W.seq ?_
  refine W.region ?_
  refine SL.val (O.move rfl rfl Taken.no) ?_
  refine SL.val (O.callp rfl rfl rfl (refvalid_h) (.cons (ArgOk.same rfl) .nil) hcallOk24 rfl Taken.no) ?_
  refine SL.val (O.det (fun _ => G.R.not rfl) rfl Taken.no) ?_
  refine SL.val (O.move rfl rfl Taken.no) ?_
  refine SL.case (j := 3) (g := 7) (want := false) rfl rfl (fun hg1 => ?_) (fun hg1 => ?_)
  · skip
    first | have hg1p := G.gA3 hg1 | have hg1p := G.gA4 hg1 | have hg1p := hg1
    refine SL.val (O.move rfl rfl (Taken.yes rfl rfl hg1)) ?_
    refine SL.val (O.lenE (SlOf.fz rfl (by decide)) (by first | exact List.length_map _ | rfl) Try.underlying22 rfl (Taken.yes rfl rfl hg1)) ?_
    refine SL.val (O.det (fun _ => G.R.eql rfl rfl) rfl (Taken.yes rfl rfl hg1)) ?_
    refine SL.val (O.pick_f rfl hg1 rfl rfl Taken.no) ?_
    refine SL.nil ?_
    refine E.to ?_
    first | refine W.cond_d rfl (fun hc2 => ?_) (fun hc2 => ?_) | refine W.cond_nd rfl (fun hc2 => ?_) (fun hc2 => ?_) | refine W.cond rfl (fun hc2 => ?_) (fun hc2 => ?_)
    · skip
      refine W.seq ?_
      refine W.region ?_
      refine SL.val (O.build (res := [_, _, _, _, _]) (z := .agg #[.int .i64 0, .int .i64 0, .int .i64 0, .int .i64 0, .int .i64 0]) (places := [(0, 1), (1, 1), (2, 1), (3, 1), (4, 1)]) rfl rfl Try.underlying32 (by kernel_rfl) (fun _ => by kernel_rfl) rfl rfl Taken.no) ?_
      refine SL.effS (O.st_ref (m := 5) rfl rfl rfl (js := [_, _, _, _, _]) rfl rfl (by kernel_rfl) (by simp) (Nat.le_of_ble_eq_true rfl) rfl (is' := [_, _, _, _, _]) rfl Taken.no) (S' := (101, _) :: _) rfl ?_
      refine SL.val (O.assign rfl rfl Taken.no) ?_
      refine SL.nil ?_
      refine E.to ?_
      refine W.ret ?_
      refine E.thr ?_
      refine E.fin (rs := [_, _]) (rn []) (.inl rfl) rfl (.cons (ResOne.cellN (m := 5) (PtI.ref rfl rfl) (js := [_, _, _, _, _]) rfl (Nat.le_of_ble_eq_true rfl) Try.underlying32 rfl (by kernel_rfl)) (.cons (ResOne.tmp rfl) .nil)) ?_ ?_ rfl (fixL_spec rfl)
      · skip
        rw [nextH_no (by simp_all), decide_eq_false (by simp_all)]; rfl
      · exact SubS.nil
    · skip
      refine W.skip ?_
      refine E.to ?_
      refine W.seq ?_
      refine W.region ?_
      refine SL.val (O.move rfl rfl Taken.no) ?_
      refine SL.val (O.move rfl rfl Taken.no) ?_
      refine SL.val (O.callp rfl rfl rfl (refnext_h) (.cons (ArgOk.same rfl) .nil) hcallOk36 rfl Taken.no) ?_
      refine SL.val (O.idx_fz (i := (nextI q)) rfl rfl (rfl) (row_get (by exact nextI_lt (by omega))) Try.underlying22 hi32 hs32 rfl Taken.no) ?_
      refine SL.val (O.ldU (m := 5) (PtU.fz rfl) rfl Try.underlying32 rfl (by kernel_rfl) rfl Taken.no) ?_
      refine SL.effS (O.st_ref (m := 5) rfl rfl rfl (js := [_, _, _, _, _]) rfl rfl (by kernel_rfl) (by simp) (Nat.le_of_ble_eq_true rfl) rfl (is' := [_, _, _, _, _]) rfl Taken.no) (S' := (101, _) :: _) rfl ?_
      refine SL.val (O.assign rfl rfl Taken.no) ?_
      refine SL.nil ?_
      refine E.to ?_
      refine W.ret ?_
      refine E.fin (rs := [_, _]) (rn []) (.inl rfl) rfl (.cons (ResOne.cellN (m := 5) (PtI.ref rfl rfl) (js := [_, _, _, _, _]) rfl (Nat.le_of_ble_eq_true rfl) Try.underlying32 rfl (by kernel_rfl)) (.cons (ResOne.tmp rfl) .nil)) ?_ ?_ rfl (fixL_spec rfl)
      · skip
        rw [nextH_yes ⟨by assumption, by omega⟩, decide_eq_true ⟨by assumption, by omega⟩]; rfl
      · exact SubS.nil
  · skip
    first | have hg1p := G.gA7 hg1 | have hg1p := G.gA8 hg1 | have hg1p := hg1
    refine SL.skip (OpOk.not rfl rfl rfl hg1) ?_
    refine SL.skip (OpOk.not rfl rfl rfl hg1) ?_
    refine SL.skip (OpOk.not rfl rfl rfl hg1) ?_
    refine SL.val (O.pick_t rfl (G.ne_f hg1) rfl rfl Taken.no) ?_
    refine SL.nil ?_
    refine E.to ?_
    refine W.cond_t rfl ?_
    refine W.seq ?_
    refine W.region ?_
    refine SL.val (O.build (res := [_, _, _, _, _]) (z := .agg #[.int .i64 0, .int .i64 0, .int .i64 0, .int .i64 0, .int .i64 0]) (places := [(0, 1), (1, 1), (2, 1), (3, 1), (4, 1)]) rfl rfl Try.underlying32 (by kernel_rfl) (fun _ => by kernel_rfl) rfl rfl Taken.no) ?_
    refine SL.effS (O.st_ref (m := 5) rfl rfl rfl (js := [_, _, _, _, _]) rfl rfl (by kernel_rfl) (by simp) (Nat.le_of_ble_eq_true rfl) rfl (is' := [_, _, _, _, _]) rfl Taken.no) (S' := (101, _) :: _) rfl ?_
    refine SL.val (O.assign rfl rfl Taken.no) ?_
    refine SL.nil ?_
    refine E.to ?_
    refine W.ret ?_
    refine E.thr ?_
    refine E.fin (rs := [_, _]) (rn []) (.inl rfl) rfl (.cons (ResOne.cellN (m := 5) (PtI.ref rfl rfl) (js := [_, _, _, _, _]) rfl (Nat.le_of_ble_eq_true rfl) Try.underlying32 rfl (by kernel_rfl)) (.cons (ResOne.tmp rfl) .nil)) ?_ ?_ rfl (fixL_spec rfl)
    · skip
      rw [nextH_no (by simp_all), decide_eq_false (by simp_all)]; rfl
    · exact SubS.nil

end Go.Proofs.Ytlodmhiemndegaa
