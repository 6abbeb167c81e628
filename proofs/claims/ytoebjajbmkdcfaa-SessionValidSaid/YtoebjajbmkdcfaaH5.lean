/-
  The walks.
-/
import Derived.Test.YtoebjajbmkdcfaaH4
namespace Go.Proofs.Ytoebjajbmkdcfaa
open Go Go.RowKit Go.H Go.D51

theorem hinf92 : ∃ i, Try.prog.info? 92 = some i ∧ i.zero = some (.agg #[.int .i64 0, .int .i64 0, .int .i64 0, .slice none 0 0]) ∧ i.size = 4 ∧ i.bytes = 48 := G.info_of (by kernel_rfl)
theorem hcallOk42 : G.callOk Try.prog 42 = true := by kernel_rfl
theorem hcallOk49 : G.callOk Try.prog 49 = true := by kernel_rfl
theorem hcallOk55 : G.callOk Try.prog 55 = true := by kernel_rfl
theorem hcallOk56 : G.callOk Try.prog 56 = true := by kernel_rfl
theorem hcallOk57 : G.callOk Try.prog 57 = true := by kernel_rfl
theorem hcallOk65 : G.callOk Try.prog 65 = true := by kernel_rfl
theorem hcallOk66 : G.callOk Try.prog 66 = true := by kernel_rfl
theorem hcallOk67 : G.callOk Try.prog 67 = true := by kernel_rfl

set_option maxRecDepth 8000 in
/-- bookplate/session.ValidStore. -/
theorem validStore_h {st : Store} :
    Con Try.prog 42 [vA [uI st.next, uI st.time, .sl 4 (st.opn.map eO)]] [] (vB (decide (validSt st))) [] := by
 have hw : 0 ≤ st.time → st.time ≤ 1000000 → IntKind.i64.wrap (st.time - 30) = st.time - 30 := fun a b => IntWalk.i64_in _ (by omega)
 obtain ⟨i119, hi119, hz119, hs119, hb119⟩ := hinf119
 refine Con.enterL (n := 90) Try.func42 rfl rfl rfl (fun τ w ok vs hin => ?_)
 have hl0_2 := hin.lenA (i := 0) (j := 2) rfl rfl
 try rw [List.length_map] at hl0_2
 clear hin
 refine W.seq ?_
 refine W.region ?_
 refine SL.memS (O.box (is := [_, _, _]) 101 rfl rfl (by simp) rfl rfl Taken.no) rfl rfl (S' := (101, _) :: _) rfl ?_
 refine SL.val (O.assign rfl rfl Taken.no) ?_
 refine SL.nil ?_
 refine E.to ?_
 refine W.seq ?_
 refine W.seq ?_
 refine W.region ?_
 refine SL.val (O.fld_ref (o' := 2) rfl Try.underlying73 rfl (m := 0) (by kernel_rfl) rfl rfl Taken.no) ?_
 refine SL.val (O.ld1 (PtI.ref rfl rfl) rfl Try.underlying71 rfl rfl Taken.no) ?_
 refine SL.val (O.lenE (SlOf.fz rfl (by decide)) (by first | exact List.length_map _ | rfl) Try.underlying71 rfl Taken.no) ?_
 refine SL.val (O.move rfl rfl Taken.no) ?_
 refine SL.nil ?_
 refine E.to ?_
 refine W.block ?_
 refine W.loopx1 (fun (k : Nat) => [(8, vI (k : Int))]) (fun (k : Nat) => []) (fun (k : Nat) => k ≤ st.opn.length ∧ (0 ≤ st.time → st.time ≤ 1000000 → ∀ j, j < k → okN st j)) (fun (k : Nat) => st.opn.length - k) (0) (rn []) (.cons (t := 1) rfl (.cons (t := 6) rfl (.cons (t := 7) rfl .nil))) (.cons (t := 101) rfl .nil) rfl ?_ ?_ rfl rfl ?_ ?_
 · exact (SubF.cons rfl SubF.nil)
 · exact SubS.nil
 ·skip
  exact ⟨by omega, fun _ _ j h => by omega⟩
 intro k hinv
 obtain ⟨hk, hp⟩ := hinv
 refine W.seq ?_
 refine W.region ?_
 refine SL.val (O.det (fun _ => G.R.lss rfl rfl) rfl Taken.no) ?_
 refine SL.nil ?_
 refine E.to ?_
 refine W.seq ?_
 first | refine W.cond_d rfl (fun hc1 => ?_) (fun hc1 => ?_) | refine W.cond_nd rfl (fun hc1 => ?_) (fun hc1 => ?_) | refine W.cond rfl (fun hc1 => ?_) (fun hc1 => ?_)
 ·skip
  refine W.skip ?_
  refine E.to ?_
  refine W.seq ?_
  refine W.block ?_
  refine W.seq ?_
  refine W.region ?_
  refine SL.val (O.move rfl rfl Taken.no) ?_
  refine SL.val (O.idx_fz rfl rfl (rfl) (row_get (by omega)) Try.underlying71 hi119 hs119 rfl Taken.no) ?_
  refine SL.val (O.ldU (m := 4) (PtU.fz rfl) rfl Try.underlying119 rfl (by kernel_rfl) rfl Taken.no) ?_
  refine SL.memS (O.alloc (z := .agg #[.int .i64 0, .int .i64 0, .int .i64 0, .slice none 0 0]) (is := [.u (.sc (.int .i64 0)), .u (.sc (.int .i64 0)), .u (.sc (.int .i64 0)), .u (.sc (.slice none 0 0))]) 102 (by kernel_rfl) rfl rfl rfl Taken.no) rfl rfl (S' := (102, _) :: _) rfl ?_
  refine SL.val (O.assign rfl rfl Taken.no) ?_
  refine SL.effS (O.st_ref (m := 4) rfl rfl rfl (js := [_, _, _, _]) rfl rfl (by kernel_rfl) (by simp) (Nat.le_of_ble_eq_true rfl) rfl (is' := [_, _, _, _]) rfl Taken.no) (S' := (102, _) :: _) rfl ?_
  refine SL.nil ?_
  refine E.to ?_
  refine W.seq ?_
  refine W.draw [⟨[102], [], []⟩, ⟨[102], [], []⟩, ⟨[], [], []⟩, ⟨[], [], []⟩, ⟨[102], [], []⟩, ⟨[102], [], []⟩, ⟨[101], [], []⟩, ⟨[101], [], []⟩, ⟨[], [], []⟩, ⟨[], [], []⟩, ⟨[], [], []⟩, ⟨[], [], []⟩, ⟨[], [], []⟩, ⟨[], [], []⟩, ⟨[101], [], []⟩, ⟨[101], [], []⟩, ⟨[], [], []⟩, ⟨[], [], []⟩, ⟨[], [], []⟩, ⟨[], [], []⟩, ⟨[], [], []⟩, ⟨[102], [], []⟩, ⟨[102], [], []⟩, ⟨[], [], []⟩, ⟨[], [], []⟩, ⟨[], [], []⟩, ⟨[], [], []⟩, ⟨[102], [], []⟩, ⟨[102], [], []⟩, ⟨[], [], []⟩, ⟨[], [], []⟩, ⟨[], [], []⟩, ⟨[102], [], []⟩, ⟨[102], [], []⟩, ⟨[101], [], []⟩, ⟨[101], [], []⟩, ⟨[], [], []⟩, ⟨[], [], []⟩, ⟨[], [], []⟩, ⟨[], [], []⟩, ⟨[102], [], []⟩, ⟨[102], [], []⟩, ⟨[101], [], []⟩, ⟨[101], [], []⟩, ⟨[], [], []⟩, ⟨[], [], []⟩, ⟨[], [], []⟩, ⟨[102], [], []⟩, ⟨[102], [], []⟩, ⟨[], [], []⟩, ⟨[], [], []⟩, ⟨[], [], []⟩] rfl (by kernel_rfl) (by kernel_rfl) rfl rfl ?_
  refine WH.val (O.fld_ref (o' := 0) rfl Try.underlying119 rfl (m := 0) (by kernel_rfl) rfl rfl Taken.no) rfl rfl ?_
  refine WH.val (O.ld1 (PtI.ref rfl rfl) rfl Try.underlying3 rfl rfl Taken.no) rfl rfl ?_
  refine WH.val (O.det (fun _ => G.R.lss rfl rfl) rfl Taken.no) rfl rfl ?_
  refine WH.val (O.move rfl rfl Taken.no) rfl rfl ?_
  refine WH.case (j := 3) (g := 16) (want := false) rfl rfl (fun hg2 => ?_) (fun hg2 => ?_)
  ·skip
   first | have hg2p := G.gA3 hg2 | have hg2p := G.gA4 hg2 | have hg2p := hg2
   refine WH.val (O.fld_ref (o' := 0) rfl Try.underlying119 rfl (m := 0) (by kernel_rfl) rfl rfl (Taken.yes rfl rfl hg2)) rfl rfl ?_
   refine WH.val (O.ld1 (PtI.ref rfl rfl) rfl Try.underlying3 rfl rfl (Taken.yes rfl rfl hg2)) rfl rfl ?_
   refine WH.val (O.fld_ref (o' := 0) rfl Try.underlying73 rfl (m := 0) (by kernel_rfl) rfl rfl (Taken.yes rfl rfl hg2)) rfl rfl ?_
   refine WH.val (O.ld1 (PtI.ref rfl rfl) rfl Try.underlying3 rfl rfl (Taken.yes rfl rfl hg2)) rfl rfl ?_
   refine WH.val (O.det (fun _ => G.R.geq rfl rfl) rfl (Taken.yes rfl rfl hg2)) rfl rfl ?_
   refine WH.val (O.pick_f rfl hg2 rfl rfl Taken.no) rfl rfl ?_
   refine WH.val (O.move rfl rfl Taken.no) rfl rfl ?_
   refine WH.case (j := 10) (g := 23) (want := false) rfl rfl (fun hg3 => ?_) (fun hg3 => ?_)
   ·skip
    first | have hg3p := G.gA3 hg3 | have hg3p := G.gA4 hg3 | have hg3p := hg3
    refine WH.val (O.move rfl rfl (Taken.yes rfl rfl hg3)) rfl rfl ?_
    refine WH.val (O.det (fun _ => G.R.gtr rfl rfl) rfl (Taken.yes rfl rfl hg3)) rfl rfl ?_
    refine WH.val (O.move rfl rfl (Taken.yes rfl rfl hg3)) rfl rfl ?_
    refine WH.case (j := 13) (g := 26) (want := true) rfl rfl (fun hg4 => ?_) (fun hg4 => ?_)
    ·skip
     first | have hg4p := G.gA1 hg4 | have hg4p := G.gA2 hg4 | have hg4p := hg4
     refine WH.val (O.fld_ref (o' := 2) rfl Try.underlying73 rfl (m := 0) (by kernel_rfl) rfl rfl (Taken.yes rfl rfl hg4)) rfl rfl ?_
     refine WH.val (O.ld1 (PtI.ref rfl rfl) rfl Try.underlying71 rfl rfl (Taken.yes rfl rfl hg4)) rfl rfl ?_
     refine WH.val (O.move rfl rfl (Taken.yes rfl rfl hg4)) rfl rfl ?_
     refine WH.val (O.det (fun _ => by first | exact G.R.sub64 rfl rfl (by omega) | exact G.R.sub rfl rfl) rfl (Taken.yes rfl rfl hg4)) rfl rfl ?_
     refine WH.val (O.idx_fz (i := (k - 1)) rfl rfl (by omega) (row_get (by omega)) Try.underlying71 hi119 hs119 rfl (Taken.yes rfl rfl hg4)) rfl rfl ?_
     refine WH.val (O.fld_fz rfl Try.underlying119 rfl (m := 0) (by kernel_rfl) rfl rfl (Taken.yes rfl rfl hg4)) rfl rfl ?_
     refine WH.val (O.ld1 (PtI.ofU (PtU.fz rfl)) rfl Try.underlying3 rfl rfl (Taken.yes rfl rfl hg4)) rfl rfl ?_
     refine WH.val (O.fld_ref (o' := 0) rfl Try.underlying119 rfl (m := 0) (by kernel_rfl) rfl rfl (Taken.yes rfl rfl hg4)) rfl rfl ?_
     refine WH.val (O.ld1 (PtI.ref rfl rfl) rfl Try.underlying3 rfl rfl (Taken.yes rfl rfl hg4)) rfl rfl ?_
     refine WH.val (O.det (fun _ => G.R.geq rfl rfl) rfl (Taken.yes rfl rfl hg4)) rfl rfl ?_
     refine WH.val (O.pick_t rfl hg4 rfl rfl (Taken.yes rfl rfl hg3)) rfl rfl ?_
     refine WH.val (O.pick_f rfl hg3 rfl rfl Taken.no) rfl rfl ?_
     refine WH.val (O.move rfl rfl Taken.no) rfl rfl ?_
     refine WH.case (j := 26) (g := 39) (want := false) rfl rfl (fun hg5 => ?_) (fun hg5 => ?_)
     ·skip
      first | have hg5p := G.gA3 hg5 | have hg5p := G.gA4 hg5 | have hg5p := hg5
      refine WH.val (O.fld_ref (o' := 1) rfl Try.underlying119 rfl (m := 0) (by kernel_rfl) rfl rfl (Taken.yes rfl rfl hg5)) rfl rfl ?_
      refine WH.val (O.ld1 (PtI.ref rfl rfl) rfl Try.underlying3 rfl rfl (Taken.yes rfl rfl hg5)) rfl rfl ?_
      refine WH.val (O.det (fun _ => G.R.lss rfl rfl) rfl (Taken.yes rfl rfl hg5)) rfl rfl ?_
      refine WH.val (O.pick_f rfl hg5 rfl rfl Taken.no) rfl rfl ?_
      refine WH.val (O.move rfl rfl Taken.no) rfl rfl ?_
      refine WH.case (j := 31) (g := 44) (want := false) rfl rfl (fun hg6 => ?_) (fun hg6 => ?_)
      ·skip
       first | have hg6p := G.gA3 hg6 | have hg6p := G.gA4 hg6 | have hg6p := hg6
       refine WH.val (O.fld_ref (o' := 1) rfl Try.underlying119 rfl (m := 0) (by kernel_rfl) rfl rfl (Taken.yes rfl rfl hg6)) rfl rfl ?_
       refine WH.val (O.ld1 (PtI.ref rfl rfl) rfl Try.underlying3 rfl rfl (Taken.yes rfl rfl hg6)) rfl rfl ?_
       refine WH.val (O.fld_ref (o' := 1) rfl Try.underlying73 rfl (m := 0) (by kernel_rfl) rfl rfl (Taken.yes rfl rfl hg6)) rfl rfl ?_
       refine WH.val (O.ld1 (PtI.ref rfl rfl) rfl Try.underlying3 rfl rfl (Taken.yes rfl rfl hg6)) rfl rfl ?_
       refine WH.val (O.det (fun _ => G.R.sub rfl rfl) rfl (Taken.yes rfl rfl hg6)) rfl rfl ?_
       refine WH.val (O.det (fun _ => G.R.lss rfl rfl) rfl (Taken.yes rfl rfl hg6)) rfl rfl ?_
       refine WH.val (O.pick_f rfl hg6 rfl rfl Taken.no) rfl rfl ?_
       refine WH.val (O.move rfl rfl Taken.no) rfl rfl ?_
       refine WH.case (j := 39) (g := 52) (want := false) rfl rfl (fun hg7 => ?_) (fun hg7 => ?_)
       ·skip
        first | have hg7p := G.gA3 hg7 | have hg7p := G.gA4 hg7 | have hg7p := hg7
        refine WH.val (O.fld_ref (o' := 1) rfl Try.underlying119 rfl (m := 0) (by kernel_rfl) rfl rfl (Taken.yes rfl rfl hg7)) rfl rfl ?_
        refine WH.val (O.ld1 (PtI.ref rfl rfl) rfl Try.underlying3 rfl rfl (Taken.yes rfl rfl hg7)) rfl rfl ?_
        refine WH.val (O.fld_ref (o' := 1) rfl Try.underlying73 rfl (m := 0) (by kernel_rfl) rfl rfl (Taken.yes rfl rfl hg7)) rfl rfl ?_
        refine WH.val (O.ld1 (PtI.ref rfl rfl) rfl Try.underlying3 rfl rfl (Taken.yes rfl rfl hg7)) rfl rfl ?_
        refine WH.val (O.det (fun _ => G.R.gtr rfl rfl) rfl (Taken.yes rfl rfl hg7)) rfl rfl ?_
        refine WH.val (O.pick_f rfl hg7 rfl rfl Taken.no) rfl rfl ?_
        refine WH.val (O.move rfl rfl Taken.no) rfl rfl ?_
        refine WH.case (j := 46) (g := 59) (want := false) rfl rfl (fun hg8 => ?_) (fun hg8 => ?_)
        ·skip
         first | have hg8p := G.gA3 hg8 | have hg8p := G.gA4 hg8 | have hg8p := hg8
         refine WH.val (O.fld_ref (o' := 2) rfl Try.underlying119 rfl (m := 1) (by kernel_rfl) rfl rfl (Taken.yes rfl rfl hg8)) rfl rfl ?_
         refine WH.val (O.ldN (m := 2) (PtI.ref rfl rfl) (js := [_, _]) rfl (Nat.le_of_ble_eq_true rfl) Try.underlying27 rfl (by kernel_rfl) rfl (Taken.yes rfl rfl hg8)) rfl rfl ?_
         refine WH.val (O.callp rfl rfl rfl (valid_h (s := st.opn[k]!.s)) (.cons (ArgOk.aggU (.cons (ArgOk.same rfl) (.cons (ArgOk.same rfl) .nil))) .nil) hcallOk21 rfl (Taken.yes rfl rfl hg8)) rfl rfl ?_
         refine WH.val (O.det (fun _ => G.R.not rfl) rfl (Taken.yes rfl rfl hg8)) rfl rfl ?_
         refine WH.val (O.pick_f rfl hg8 rfl rfl Taken.no) rfl rfl ?_
         refine WH.nil ?_
         refine E.to ?_
         refine W.pick (.cons (t := 1) rfl (.cons (t := 6) rfl (.cons (t := 7) rfl (.cons (t := 8) rfl (.cons (t := 64) rfl .nil))))) (.cons (t := 101) rfl (.cons (t := 102) rfl .nil)) ?_
         first | refine W.cond_d rfl (fun hc9 => ?_) (fun hc9 => ?_) | refine W.cond_nd rfl (fun hc9 => ?_) (fun hc9 => ?_) | refine W.cond rfl (fun hc9 => ?_) (fun hc9 => ?_)
         ·skip
          refine W.seq ?_
          refine W.region ?_
          refine SL.val (O.assign rfl rfl Taken.no) ?_
          refine SL.nil ?_
          refine E.to ?_
          refine W.ret ?_
          refine E.inr ?_
          refine E.thr ?_
          refine E.thr ?_
          refine E.inr ?_
          refine E.thr ?_
          refine E.fin (rs := [_]) (rn []) (.inl rfl) rfl (.cons (ResOne.tmp rfl) .nil) ?_ ?_ rfl (fixL_spec rfl)
          ·skip
           exact iv_bool (dec_f (fun h => by have h1 := h.1; have h2 := h.2 k (by omega); have hw := hw (by omega) (by omega); rw [hw] at *; unfold okN okO at h2; first | omega | exact absurd h2.1.2.2.2.2.2 (by first | assumption | simp_all)))
          · exact SubS.nil
         ·skip
          refine W.skip ?_
          refine E.inn ?_
          refine E.to ?_
          refine W.region ?_
          refine SL.val (O.det (fun _ => by first | exact G.R.add64 rfl rfl (by omega) | exact G.R.add rfl rfl) rfl Taken.no) ?_
          refine SL.val (O.move rfl rfl Taken.no) ?_
          refine SL.nil ?_
          refine E.again ((k + 1)) (rn []) ?_ ?_ rfl (fixL_spec rfl) ?_ ?_
          · exact (SubF.cons rfl (SubF.cons rfl (SubF.cons rfl (SubF.cons rfl SubF.nil))))
          · exact (SubS.cons rfl SubS.nil)
          ·try dsimp only
           exact ⟨by omega, fun h1 h2 => okN_step (hp h1 h2) (by have hw := hw h1 h2; rw [hw] at *; exact ⟨⟨by omega, by omega, by omega, by omega, by omega, by first | assumption | simp_all⟩, fun h0 => by omega⟩)⟩
          · (try dsimp only); omega
        ·skip
         first | have hg8p := G.gA7 hg8 | have hg8p := G.gA8 hg8 | have hg8p := hg8
         refine WH.skip (OpOk.not rfl rfl rfl hg8) ?_
         refine WH.skip (OpOk.not rfl rfl rfl hg8) ?_
         refine WH.skip (OpOk.not rfl rfl rfl hg8) ?_
         refine WH.skip (OpOk.not rfl rfl rfl hg8) ?_
         refine WH.val (O.pick_t rfl (G.ne_f hg8) rfl rfl Taken.no) rfl rfl ?_
         refine WH.nil ?_
         refine E.to ?_
         refine W.pick (.cons (t := 1) rfl (.cons (t := 6) rfl (.cons (t := 7) rfl (.cons (t := 8) rfl (.cons (t := 64) rfl .nil))))) (.cons (t := 101) rfl (.cons (t := 102) rfl .nil)) ?_
         refine W.cond_t rfl ?_
         refine W.seq ?_
         refine W.region ?_
         refine SL.val (O.assign rfl rfl Taken.no) ?_
         refine SL.nil ?_
         refine E.to ?_
         refine W.ret ?_
         refine E.inr ?_
         refine E.thr ?_
         refine E.thr ?_
         refine E.inr ?_
         refine E.thr ?_
         refine E.fin (rs := [_]) (rn []) (.inl rfl) rfl (.cons (ResOne.tmp rfl) .nil) ?_ ?_ rfl (fixL_spec rfl)
         ·skip
          exact iv_bool (dec_f (fun h => by have h1 := h.1; have h2 := h.2 k (by omega); have hw := hw (by omega) (by omega); rw [hw] at *; unfold okN okO at h2; first | omega | exact absurd h2.1.2.2.2.2.2 (by first | assumption | simp_all)))
         · exact SubS.nil
       ·skip
        first | have hg7p := G.gA7 hg7 | have hg7p := G.gA8 hg7 | have hg7p := hg7
        refine WH.skip (OpOk.not rfl rfl rfl hg7) ?_
        refine WH.skip (OpOk.not rfl rfl rfl hg7) ?_
        refine WH.skip (OpOk.not rfl rfl rfl hg7) ?_
        refine WH.skip (OpOk.not rfl rfl rfl hg7) ?_
        refine WH.skip (OpOk.not rfl rfl rfl hg7) ?_
        refine WH.val (O.pick_t rfl (G.ne_f hg7) rfl rfl Taken.no) rfl rfl ?_
        refine WH.val (O.move rfl rfl Taken.no) rfl rfl ?_
        have hg10 : true ≠ false := by decide
        refine WH.skip (OpOk.not rfl rfl rfl hg10) ?_
        refine WH.skip (OpOk.not rfl rfl rfl hg10) ?_
        refine WH.skip (OpOk.not rfl rfl rfl hg10) ?_
        refine WH.skip (OpOk.not rfl rfl rfl hg10) ?_
        refine WH.val (O.pick_t rfl rfl rfl rfl Taken.no) rfl rfl ?_
        refine WH.nil ?_
        refine E.to ?_
        refine W.pick (.cons (t := 1) rfl (.cons (t := 6) rfl (.cons (t := 7) rfl (.cons (t := 8) rfl (.cons (t := 64) rfl .nil))))) (.cons (t := 101) rfl (.cons (t := 102) rfl .nil)) ?_
        refine W.cond_t rfl ?_
        refine W.seq ?_
        refine W.region ?_
        refine SL.val (O.assign rfl rfl Taken.no) ?_
        refine SL.nil ?_
        refine E.to ?_
        refine W.ret ?_
        refine E.inr ?_
        refine E.thr ?_
        refine E.thr ?_
        refine E.inr ?_
        refine E.thr ?_
        refine E.fin (rs := [_]) (rn []) (.inl rfl) rfl (.cons (ResOne.tmp rfl) .nil) ?_ ?_ rfl (fixL_spec rfl)
        ·skip
         exact iv_bool (dec_f (fun h => by have h1 := h.1; have h2 := h.2 k (by omega); have hw := hw (by omega) (by omega); rw [hw] at *; unfold okN okO at h2; first | omega | exact absurd h2.1.2.2.2.2.2 (by first | assumption | simp_all)))
        · exact SubS.nil
      ·skip
       first | have hg6p := G.gA7 hg6 | have hg6p := G.gA8 hg6 | have hg6p := hg6
       refine WH.skip (OpOk.not rfl rfl rfl hg6) ?_
       refine WH.skip (OpOk.not rfl rfl rfl hg6) ?_
       refine WH.skip (OpOk.not rfl rfl rfl hg6) ?_
       refine WH.skip (OpOk.not rfl rfl rfl hg6) ?_
       refine WH.skip (OpOk.not rfl rfl rfl hg6) ?_
       refine WH.skip (OpOk.not rfl rfl rfl hg6) ?_
       refine WH.val (O.pick_t rfl (G.ne_f hg6) rfl rfl Taken.no) rfl rfl ?_
       refine WH.val (O.move rfl rfl Taken.no) rfl rfl ?_
       have hg11 : true ≠ false := by decide
       refine WH.skip (OpOk.not rfl rfl rfl hg11) ?_
       refine WH.skip (OpOk.not rfl rfl rfl hg11) ?_
       refine WH.skip (OpOk.not rfl rfl rfl hg11) ?_
       refine WH.skip (OpOk.not rfl rfl rfl hg11) ?_
       refine WH.skip (OpOk.not rfl rfl rfl hg11) ?_
       refine WH.val (O.pick_t rfl rfl rfl rfl Taken.no) rfl rfl ?_
       refine WH.val (O.move rfl rfl Taken.no) rfl rfl ?_
       have hg12 : true ≠ false := by decide
       refine WH.skip (OpOk.not rfl rfl rfl hg12) ?_
       refine WH.skip (OpOk.not rfl rfl rfl hg12) ?_
       refine WH.skip (OpOk.not rfl rfl rfl hg12) ?_
       refine WH.skip (OpOk.not rfl rfl rfl hg12) ?_
       refine WH.val (O.pick_t rfl rfl rfl rfl Taken.no) rfl rfl ?_
       refine WH.nil ?_
       refine E.to ?_
       refine W.pick (.cons (t := 1) rfl (.cons (t := 6) rfl (.cons (t := 7) rfl (.cons (t := 8) rfl (.cons (t := 64) rfl .nil))))) (.cons (t := 101) rfl (.cons (t := 102) rfl .nil)) ?_
       refine W.cond_t rfl ?_
       refine W.seq ?_
       refine W.region ?_
       refine SL.val (O.assign rfl rfl Taken.no) ?_
       refine SL.nil ?_
       refine E.to ?_
       refine W.ret ?_
       refine E.inr ?_
       refine E.thr ?_
       refine E.thr ?_
       refine E.inr ?_
       refine E.thr ?_
       refine E.fin (rs := [_]) (rn []) (.inl rfl) rfl (.cons (ResOne.tmp rfl) .nil) ?_ ?_ rfl (fixL_spec rfl)
       ·skip
        exact iv_bool (dec_f (fun h => by have h1 := h.1; have h2 := h.2 k (by omega); have hw := hw (by omega) (by omega); rw [hw] at *; unfold okN okO at h2; first | omega | exact absurd h2.1.2.2.2.2.2 (by first | assumption | simp_all)))
       · exact SubS.nil
     ·skip
      first | have hg5p := G.gA7 hg5 | have hg5p := G.gA8 hg5 | have hg5p := hg5
      refine WH.skip (OpOk.not rfl rfl rfl hg5) ?_
      refine WH.skip (OpOk.not rfl rfl rfl hg5) ?_
      refine WH.skip (OpOk.not rfl rfl rfl hg5) ?_
      refine WH.val (O.pick_t rfl (G.ne_f hg5) rfl rfl Taken.no) rfl rfl ?_
      refine WH.val (O.move rfl rfl Taken.no) rfl rfl ?_
      have hg13 : true ≠ false := by decide
      refine WH.skip (OpOk.not rfl rfl rfl hg13) ?_
      refine WH.skip (OpOk.not rfl rfl rfl hg13) ?_
      refine WH.skip (OpOk.not rfl rfl rfl hg13) ?_
      refine WH.skip (OpOk.not rfl rfl rfl hg13) ?_
      refine WH.skip (OpOk.not rfl rfl rfl hg13) ?_
      refine WH.skip (OpOk.not rfl rfl rfl hg13) ?_
      refine WH.val (O.pick_t rfl rfl rfl rfl Taken.no) rfl rfl ?_
      refine WH.val (O.move rfl rfl Taken.no) rfl rfl ?_
      have hg14 : true ≠ false := by decide
      refine WH.skip (OpOk.not rfl rfl rfl hg14) ?_
      refine WH.skip (OpOk.not rfl rfl rfl hg14) ?_
      refine WH.skip (OpOk.not rfl rfl rfl hg14) ?_
      refine WH.skip (OpOk.not rfl rfl rfl hg14) ?_
      refine WH.skip (OpOk.not rfl rfl rfl hg14) ?_
      refine WH.val (O.pick_t rfl rfl rfl rfl Taken.no) rfl rfl ?_
      refine WH.val (O.move rfl rfl Taken.no) rfl rfl ?_
      have hg15 : true ≠ false := by decide
      refine WH.skip (OpOk.not rfl rfl rfl hg15) ?_
      refine WH.skip (OpOk.not rfl rfl rfl hg15) ?_
      refine WH.skip (OpOk.not rfl rfl rfl hg15) ?_
      refine WH.skip (OpOk.not rfl rfl rfl hg15) ?_
      refine WH.val (O.pick_t rfl rfl rfl rfl Taken.no) rfl rfl ?_
      refine WH.nil ?_
      refine E.to ?_
      refine W.pick (.cons (t := 1) rfl (.cons (t := 6) rfl (.cons (t := 7) rfl (.cons (t := 8) rfl (.cons (t := 64) rfl .nil))))) (.cons (t := 101) rfl (.cons (t := 102) rfl .nil)) ?_
      refine W.cond_t rfl ?_
      refine W.seq ?_
      refine W.region ?_
      refine SL.val (O.assign rfl rfl Taken.no) ?_
      refine SL.nil ?_
      refine E.to ?_
      refine W.ret ?_
      refine E.inr ?_
      refine E.thr ?_
      refine E.thr ?_
      refine E.inr ?_
      refine E.thr ?_
      refine E.fin (rs := [_]) (rn []) (.inl rfl) rfl (.cons (ResOne.tmp rfl) .nil) ?_ ?_ rfl (fixL_spec rfl)
      ·skip
       exact iv_bool (dec_f (fun h => by have h1 := h.1; have h2 := h.2 k (by omega); have hw := hw (by omega) (by omega); rw [hw] at *; unfold okN okO at h2; first | omega | exact absurd h2.1.2.2.2.2.2 (by first | assumption | simp_all)))
      · exact SubS.nil
    ·skip
     first | have hg4p := G.gA5 hg4 | have hg4p := G.gA6 hg4 | have hg4p := hg4
     refine WH.skip (OpOk.not rfl rfl rfl hg4) ?_
     refine WH.skip (OpOk.not rfl rfl rfl hg4) ?_
     refine WH.skip (OpOk.not rfl rfl rfl hg4) ?_
     refine WH.skip (OpOk.not rfl rfl rfl hg4) ?_
     refine WH.skip (OpOk.not rfl rfl rfl hg4) ?_
     refine WH.skip (OpOk.not rfl rfl rfl hg4) ?_
     refine WH.skip (OpOk.not rfl rfl rfl hg4) ?_
     refine WH.skip (OpOk.not rfl rfl rfl hg4) ?_
     refine WH.skip (OpOk.not rfl rfl rfl hg4) ?_
     refine WH.skip (OpOk.not rfl rfl rfl hg4) ?_
     refine WH.val (O.pick_f rfl (G.ne_t hg4) rfl rfl (Taken.yes rfl rfl hg3)) rfl rfl ?_
     refine WH.val (O.pick_f rfl hg3 rfl rfl Taken.no) rfl rfl ?_
     refine WH.val (O.move rfl rfl Taken.no) rfl rfl ?_
     have hg16 : false = false := by decide
     refine WH.val (O.fld_ref (o' := 1) rfl Try.underlying119 rfl (m := 0) (by kernel_rfl) rfl rfl (Taken.yes rfl rfl hg16)) rfl rfl ?_
     refine WH.val (O.ld1 (PtI.ref rfl rfl) rfl Try.underlying3 rfl rfl (Taken.yes rfl rfl hg16)) rfl rfl ?_
     refine WH.val (O.det (fun _ => G.R.lss rfl rfl) rfl (Taken.yes rfl rfl hg16)) rfl rfl ?_
     refine WH.val (O.pick_f rfl rfl rfl rfl Taken.no) rfl rfl ?_
     refine WH.val (O.move rfl rfl Taken.no) rfl rfl ?_
     refine WH.case (j := 31) (g := 44) (want := false) rfl rfl (fun hg17 => ?_) (fun hg17 => ?_)
     ·skip
      first | have hg17p := G.gA3 hg17 | have hg17p := G.gA4 hg17 | have hg17p := hg17
      refine WH.val (O.fld_ref (o' := 1) rfl Try.underlying119 rfl (m := 0) (by kernel_rfl) rfl rfl (Taken.yes rfl rfl hg17)) rfl rfl ?_
      refine WH.val (O.ld1 (PtI.ref rfl rfl) rfl Try.underlying3 rfl rfl (Taken.yes rfl rfl hg17)) rfl rfl ?_
      refine WH.val (O.fld_ref (o' := 1) rfl Try.underlying73 rfl (m := 0) (by kernel_rfl) rfl rfl (Taken.yes rfl rfl hg17)) rfl rfl ?_
      refine WH.val (O.ld1 (PtI.ref rfl rfl) rfl Try.underlying3 rfl rfl (Taken.yes rfl rfl hg17)) rfl rfl ?_
      refine WH.val (O.det (fun _ => G.R.sub rfl rfl) rfl (Taken.yes rfl rfl hg17)) rfl rfl ?_
      refine WH.val (O.det (fun _ => G.R.lss rfl rfl) rfl (Taken.yes rfl rfl hg17)) rfl rfl ?_
      refine WH.val (O.pick_f rfl hg17 rfl rfl Taken.no) rfl rfl ?_
      refine WH.val (O.move rfl rfl Taken.no) rfl rfl ?_
      refine WH.case (j := 39) (g := 52) (want := false) rfl rfl (fun hg18 => ?_) (fun hg18 => ?_)
      ·skip
       first | have hg18p := G.gA3 hg18 | have hg18p := G.gA4 hg18 | have hg18p := hg18
       refine WH.val (O.fld_ref (o' := 1) rfl Try.underlying119 rfl (m := 0) (by kernel_rfl) rfl rfl (Taken.yes rfl rfl hg18)) rfl rfl ?_
       refine WH.val (O.ld1 (PtI.ref rfl rfl) rfl Try.underlying3 rfl rfl (Taken.yes rfl rfl hg18)) rfl rfl ?_
       refine WH.val (O.fld_ref (o' := 1) rfl Try.underlying73 rfl (m := 0) (by kernel_rfl) rfl rfl (Taken.yes rfl rfl hg18)) rfl rfl ?_
       refine WH.val (O.ld1 (PtI.ref rfl rfl) rfl Try.underlying3 rfl rfl (Taken.yes rfl rfl hg18)) rfl rfl ?_
       refine WH.val (O.det (fun _ => G.R.gtr rfl rfl) rfl (Taken.yes rfl rfl hg18)) rfl rfl ?_
       refine WH.val (O.pick_f rfl hg18 rfl rfl Taken.no) rfl rfl ?_
       refine WH.val (O.move rfl rfl Taken.no) rfl rfl ?_
       refine WH.case (j := 46) (g := 59) (want := false) rfl rfl (fun hg19 => ?_) (fun hg19 => ?_)
       ·skip
        first | have hg19p := G.gA3 hg19 | have hg19p := G.gA4 hg19 | have hg19p := hg19
        refine WH.val (O.fld_ref (o' := 2) rfl Try.underlying119 rfl (m := 1) (by kernel_rfl) rfl rfl (Taken.yes rfl rfl hg19)) rfl rfl ?_
        refine WH.val (O.ldN (m := 2) (PtI.ref rfl rfl) (js := [_, _]) rfl (Nat.le_of_ble_eq_true rfl) Try.underlying27 rfl (by kernel_rfl) rfl (Taken.yes rfl rfl hg19)) rfl rfl ?_
        refine WH.val (O.callp rfl rfl rfl (valid_h (s := st.opn[k]!.s)) (.cons (ArgOk.aggU (.cons (ArgOk.same rfl) (.cons (ArgOk.same rfl) .nil))) .nil) hcallOk21 rfl (Taken.yes rfl rfl hg19)) rfl rfl ?_
        refine WH.val (O.det (fun _ => G.R.not rfl) rfl (Taken.yes rfl rfl hg19)) rfl rfl ?_
        refine WH.val (O.pick_f rfl hg19 rfl rfl Taken.no) rfl rfl ?_
        refine WH.nil ?_
        refine E.to ?_
        refine W.pick (.cons (t := 1) rfl (.cons (t := 6) rfl (.cons (t := 7) rfl (.cons (t := 8) rfl (.cons (t := 64) rfl .nil))))) (.cons (t := 101) rfl (.cons (t := 102) rfl .nil)) ?_
        first | refine W.cond_d rfl (fun hc20 => ?_) (fun hc20 => ?_) | refine W.cond_nd rfl (fun hc20 => ?_) (fun hc20 => ?_) | refine W.cond rfl (fun hc20 => ?_) (fun hc20 => ?_)
        ·skip
         refine W.seq ?_
         refine W.region ?_
         refine SL.val (O.assign rfl rfl Taken.no) ?_
         refine SL.nil ?_
         refine E.to ?_
         refine W.ret ?_
         refine E.inr ?_
         refine E.thr ?_
         refine E.thr ?_
         refine E.inr ?_
         refine E.thr ?_
         refine E.fin (rs := [_]) (rn []) (.inl rfl) rfl (.cons (ResOne.tmp rfl) .nil) ?_ ?_ rfl (fixL_spec rfl)
         ·skip
          exact iv_bool (dec_f (fun h => by have h1 := h.1; have h2 := h.2 k (by omega); have hw := hw (by omega) (by omega); rw [hw] at *; unfold okN okO at h2; first | omega | exact absurd h2.1.2.2.2.2.2 (by first | assumption | simp_all)))
         · exact SubS.nil
        ·skip
         refine W.skip ?_
         refine E.inn ?_
         refine E.to ?_
         refine W.region ?_
         refine SL.val (O.det (fun _ => by first | exact G.R.add64 rfl rfl (by omega) | exact G.R.add rfl rfl) rfl Taken.no) ?_
         refine SL.val (O.move rfl rfl Taken.no) ?_
         refine SL.nil ?_
         refine E.again ((k + 1)) (rn []) ?_ ?_ rfl (fixL_spec rfl) ?_ ?_
         · exact (SubF.cons rfl (SubF.cons rfl (SubF.cons rfl (SubF.cons rfl SubF.nil))))
         · exact (SubS.cons rfl SubS.nil)
         ·try dsimp only
          exact ⟨by omega, fun h1 h2 => okN_step (hp h1 h2) (by have hw := hw h1 h2; rw [hw] at *; exact ⟨⟨by omega, by omega, by omega, by omega, by omega, by first | assumption | simp_all⟩, fun h0 => by omega⟩)⟩
         · (try dsimp only); omega
       ·skip
        first | have hg19p := G.gA7 hg19 | have hg19p := G.gA8 hg19 | have hg19p := hg19
        refine WH.skip (OpOk.not rfl rfl rfl hg19) ?_
        refine WH.skip (OpOk.not rfl rfl rfl hg19) ?_
        refine WH.skip (OpOk.not rfl rfl rfl hg19) ?_
        refine WH.skip (OpOk.not rfl rfl rfl hg19) ?_
        refine WH.val (O.pick_t rfl (G.ne_f hg19) rfl rfl Taken.no) rfl rfl ?_
        refine WH.nil ?_
        refine E.to ?_
        refine W.pick (.cons (t := 1) rfl (.cons (t := 6) rfl (.cons (t := 7) rfl (.cons (t := 8) rfl (.cons (t := 64) rfl .nil))))) (.cons (t := 101) rfl (.cons (t := 102) rfl .nil)) ?_
        refine W.cond_t rfl ?_
        refine W.seq ?_
        refine W.region ?_
        refine SL.val (O.assign rfl rfl Taken.no) ?_
        refine SL.nil ?_
        refine E.to ?_
        refine W.ret ?_
        refine E.inr ?_
        refine E.thr ?_
        refine E.thr ?_
        refine E.inr ?_
        refine E.thr ?_
        refine E.fin (rs := [_]) (rn []) (.inl rfl) rfl (.cons (ResOne.tmp rfl) .nil) ?_ ?_ rfl (fixL_spec rfl)
        ·skip
         exact iv_bool (dec_f (fun h => by have h1 := h.1; have h2 := h.2 k (by omega); have hw := hw (by omega) (by omega); rw [hw] at *; unfold okN okO at h2; first | omega | exact absurd h2.1.2.2.2.2.2 (by first | assumption | simp_all)))
        · exact SubS.nil
      ·skip
       first | have hg18p := G.gA7 hg18 | have hg18p := G.gA8 hg18 | have hg18p := hg18
       refine WH.skip (OpOk.not rfl rfl rfl hg18) ?_
       refine WH.skip (OpOk.not rfl rfl rfl hg18) ?_
       refine WH.skip (OpOk.not rfl rfl rfl hg18) ?_
       refine WH.skip (OpOk.not rfl rfl rfl hg18) ?_
       refine WH.skip (OpOk.not rfl rfl rfl hg18) ?_
       refine WH.val (O.pick_t rfl (G.ne_f hg18) rfl rfl Taken.no) rfl rfl ?_
       refine WH.val (O.move rfl rfl Taken.no) rfl rfl ?_
       have hg21 : true ≠ false := by decide
       refine WH.skip (OpOk.not rfl rfl rfl hg21) ?_
       refine WH.skip (OpOk.not rfl rfl rfl hg21) ?_
       refine WH.skip (OpOk.not rfl rfl rfl hg21) ?_
       refine WH.skip (OpOk.not rfl rfl rfl hg21) ?_
       refine WH.val (O.pick_t rfl rfl rfl rfl Taken.no) rfl rfl ?_
       refine WH.nil ?_
       refine E.to ?_
       refine W.pick (.cons (t := 1) rfl (.cons (t := 6) rfl (.cons (t := 7) rfl (.cons (t := 8) rfl (.cons (t := 64) rfl .nil))))) (.cons (t := 101) rfl (.cons (t := 102) rfl .nil)) ?_
       refine W.cond_t rfl ?_
       refine W.seq ?_
       refine W.region ?_
       refine SL.val (O.assign rfl rfl Taken.no) ?_
       refine SL.nil ?_
       refine E.to ?_
       refine W.ret ?_
       refine E.inr ?_
       refine E.thr ?_
       refine E.thr ?_
       refine E.inr ?_
       refine E.thr ?_
       refine E.fin (rs := [_]) (rn []) (.inl rfl) rfl (.cons (ResOne.tmp rfl) .nil) ?_ ?_ rfl (fixL_spec rfl)
       ·skip
        exact iv_bool (dec_f (fun h => by have h1 := h.1; have h2 := h.2 k (by omega); have hw := hw (by omega) (by omega); rw [hw] at *; unfold okN okO at h2; first | omega | exact absurd h2.1.2.2.2.2.2 (by first | assumption | simp_all)))
       · exact SubS.nil
     ·skip
      first | have hg17p := G.gA7 hg17 | have hg17p := G.gA8 hg17 | have hg17p := hg17
      refine WH.skip (OpOk.not rfl rfl rfl hg17) ?_
      refine WH.skip (OpOk.not rfl rfl rfl hg17) ?_
      refine WH.skip (OpOk.not rfl rfl rfl hg17) ?_
      refine WH.skip (OpOk.not rfl rfl rfl hg17) ?_
      refine WH.skip (OpOk.not rfl rfl rfl hg17) ?_
      refine WH.skip (OpOk.not rfl rfl rfl hg17) ?_
      refine WH.val (O.pick_t rfl (G.ne_f hg17) rfl rfl Taken.no) rfl rfl ?_
      refine WH.val (O.move rfl rfl Taken.no) rfl rfl ?_
      have hg22 : true ≠ false := by decide
      refine WH.skip (OpOk.not rfl rfl rfl hg22) ?_
      refine WH.skip (OpOk.not rfl rfl rfl hg22) ?_
      refine WH.skip (OpOk.not rfl rfl rfl hg22) ?_
      refine WH.skip (OpOk.not rfl rfl rfl hg22) ?_
      refine WH.skip (OpOk.not rfl rfl rfl hg22) ?_
      refine WH.val (O.pick_t rfl rfl rfl rfl Taken.no) rfl rfl ?_
      refine WH.val (O.move rfl rfl Taken.no) rfl rfl ?_
      have hg23 : true ≠ false := by decide
      refine WH.skip (OpOk.not rfl rfl rfl hg23) ?_
      refine WH.skip (OpOk.not rfl rfl rfl hg23) ?_
      refine WH.skip (OpOk.not rfl rfl rfl hg23) ?_
      refine WH.skip (OpOk.not rfl rfl rfl hg23) ?_
      refine WH.val (O.pick_t rfl rfl rfl rfl Taken.no) rfl rfl ?_
      refine WH.nil ?_
      refine E.to ?_
      refine W.pick (.cons (t := 1) rfl (.cons (t := 6) rfl (.cons (t := 7) rfl (.cons (t := 8) rfl (.cons (t := 64) rfl .nil))))) (.cons (t := 101) rfl (.cons (t := 102) rfl .nil)) ?_
      refine W.cond_t rfl ?_
      refine W.seq ?_
      refine W.region ?_
      refine SL.val (O.assign rfl rfl Taken.no) ?_
      refine SL.nil ?_
      refine E.to ?_
      refine W.ret ?_
      refine E.inr ?_
      refine E.thr ?_
      refine E.thr ?_
      refine E.inr ?_
      refine E.thr ?_
      refine E.fin (rs := [_]) (rn []) (.inl rfl) rfl (.cons (ResOne.tmp rfl) .nil) ?_ ?_ rfl (fixL_spec rfl)
      ·skip
       exact iv_bool (dec_f (fun h => by have h1 := h.1; have h2 := h.2 k (by omega); have hw := hw (by omega) (by omega); rw [hw] at *; unfold okN okO at h2; first | omega | exact absurd h2.1.2.2.2.2.2 (by first | assumption | simp_all)))
      · exact SubS.nil
   ·skip
    first | have hg3p := G.gA7 hg3 | have hg3p := G.gA8 hg3 | have hg3p := hg3
    refine WH.skip (OpOk.not rfl rfl rfl hg3) ?_
    refine WH.skip (OpOk.not rfl rfl rfl hg3) ?_
    refine WH.skip (OpOk.not rfl rfl rfl hg3) ?_
    refine WH.skip (OpOk.not2 rfl rfl rfl) ?_
    refine WH.skip (OpOk.not2 rfl rfl rfl) ?_
    refine WH.skip (OpOk.not2 rfl rfl rfl) ?_
    refine WH.skip (OpOk.not2 rfl rfl rfl) ?_
    refine WH.skip (OpOk.not2 rfl rfl rfl) ?_
    refine WH.skip (OpOk.not2 rfl rfl rfl) ?_
    refine WH.skip (OpOk.not2 rfl rfl rfl) ?_
    refine WH.skip (OpOk.not2 rfl rfl rfl) ?_
    refine WH.skip (OpOk.not2 rfl rfl rfl) ?_
    refine WH.skip (OpOk.not2 rfl rfl rfl) ?_
    refine WH.skip (OpOk.not rfl rfl rfl hg3) ?_
    refine WH.val (O.pick_t rfl (G.ne_f hg3) rfl rfl Taken.no) rfl rfl ?_
    refine WH.val (O.move rfl rfl Taken.no) rfl rfl ?_
    have hg24 : true ≠ false := by decide
    refine WH.skip (OpOk.not rfl rfl rfl hg24) ?_
    refine WH.skip (OpOk.not rfl rfl rfl hg24) ?_
    refine WH.skip (OpOk.not rfl rfl rfl hg24) ?_
    refine WH.val (O.pick_t rfl rfl rfl rfl Taken.no) rfl rfl ?_
    refine WH.val (O.move rfl rfl Taken.no) rfl rfl ?_
    have hg25 : true ≠ false := by decide
    refine WH.skip (OpOk.not rfl rfl rfl hg25) ?_
    refine WH.skip (OpOk.not rfl rfl rfl hg25) ?_
    refine WH.skip (OpOk.not rfl rfl rfl hg25) ?_
    refine WH.skip (OpOk.not rfl rfl rfl hg25) ?_
    refine WH.skip (OpOk.not rfl rfl rfl hg25) ?_
    refine WH.skip (OpOk.not rfl rfl rfl hg25) ?_
    refine WH.val (O.pick_t rfl rfl rfl rfl Taken.no) rfl rfl ?_
    refine WH.val (O.move rfl rfl Taken.no) rfl rfl ?_
    have hg26 : true ≠ false := by decide
    refine WH.skip (OpOk.not rfl rfl rfl hg26) ?_
    refine WH.skip (OpOk.not rfl rfl rfl hg26) ?_
    refine WH.skip (OpOk.not rfl rfl rfl hg26) ?_
    refine WH.skip (OpOk.not rfl rfl rfl hg26) ?_
    refine WH.skip (OpOk.not rfl rfl rfl hg26) ?_
    refine WH.val (O.pick_t rfl rfl rfl rfl Taken.no) rfl rfl ?_
    refine WH.val (O.move rfl rfl Taken.no) rfl rfl ?_
    have hg27 : true ≠ false := by decide
    refine WH.skip (OpOk.not rfl rfl rfl hg27) ?_
    refine WH.skip (OpOk.not rfl rfl rfl hg27) ?_
    refine WH.skip (OpOk.not rfl rfl rfl hg27) ?_
    refine WH.skip (OpOk.not rfl rfl rfl hg27) ?_
    refine WH.val (O.pick_t rfl rfl rfl rfl Taken.no) rfl rfl ?_
    refine WH.nil ?_
    refine E.to ?_
    refine W.pick (.cons (t := 1) rfl (.cons (t := 6) rfl (.cons (t := 7) rfl (.cons (t := 8) rfl (.cons (t := 64) rfl .nil))))) (.cons (t := 101) rfl (.cons (t := 102) rfl .nil)) ?_
    refine W.cond_t rfl ?_
    refine W.seq ?_
    refine W.region ?_
    refine SL.val (O.assign rfl rfl Taken.no) ?_
    refine SL.nil ?_
    refine E.to ?_
    refine W.ret ?_
    refine E.inr ?_
    refine E.thr ?_
    refine E.thr ?_
    refine E.inr ?_
    refine E.thr ?_
    refine E.fin (rs := [_]) (rn []) (.inl rfl) rfl (.cons (ResOne.tmp rfl) .nil) ?_ ?_ rfl (fixL_spec rfl)
    ·skip
     exact iv_bool (dec_f (fun h => by have h1 := h.1; have h2 := h.2 k (by omega); have hw := hw (by omega) (by omega); rw [hw] at *; unfold okN okO at h2; first | omega | exact absurd h2.1.2.2.2.2.2 (by first | assumption | simp_all)))
    · exact SubS.nil
  ·skip
   first | have hg2p := G.gA7 hg2 | have hg2p := G.gA8 hg2 | have hg2p := hg2
   refine WH.skip (OpOk.not rfl rfl rfl hg2) ?_
   refine WH.skip (OpOk.not rfl rfl rfl hg2) ?_
   refine WH.skip (OpOk.not rfl rfl rfl hg2) ?_
   refine WH.skip (OpOk.not rfl rfl rfl hg2) ?_
   refine WH.skip (OpOk.not rfl rfl rfl hg2) ?_
   refine WH.val (O.pick_t rfl (G.ne_f hg2) rfl rfl Taken.no) rfl rfl ?_
   refine WH.val (O.move rfl rfl Taken.no) rfl rfl ?_
   have hg28 : true ≠ false := by decide
   refine WH.skip (OpOk.not rfl rfl rfl hg28) ?_
   refine WH.skip (OpOk.not rfl rfl rfl hg28) ?_
   refine WH.skip (OpOk.not rfl rfl rfl hg28) ?_
   refine WH.skip (OpOk.not2 rfl rfl rfl) ?_
   refine WH.skip (OpOk.not2 rfl rfl rfl) ?_
   refine WH.skip (OpOk.not2 rfl rfl rfl) ?_
   refine WH.skip (OpOk.not2 rfl rfl rfl) ?_
   refine WH.skip (OpOk.not2 rfl rfl rfl) ?_
   refine WH.skip (OpOk.not2 rfl rfl rfl) ?_
   refine WH.skip (OpOk.not2 rfl rfl rfl) ?_
   refine WH.skip (OpOk.not2 rfl rfl rfl) ?_
   refine WH.skip (OpOk.not2 rfl rfl rfl) ?_
   refine WH.skip (OpOk.not2 rfl rfl rfl) ?_
   refine WH.skip (OpOk.not rfl rfl rfl hg28) ?_
   refine WH.val (O.pick_t rfl rfl rfl rfl Taken.no) rfl rfl ?_
   refine WH.val (O.move rfl rfl Taken.no) rfl rfl ?_
   have hg29 : true ≠ false := by decide
   refine WH.skip (OpOk.not rfl rfl rfl hg29) ?_
   refine WH.skip (OpOk.not rfl rfl rfl hg29) ?_
   refine WH.skip (OpOk.not rfl rfl rfl hg29) ?_
   refine WH.val (O.pick_t rfl rfl rfl rfl Taken.no) rfl rfl ?_
   refine WH.val (O.move rfl rfl Taken.no) rfl rfl ?_
   have hg30 : true ≠ false := by decide
   refine WH.skip (OpOk.not rfl rfl rfl hg30) ?_
   refine WH.skip (OpOk.not rfl rfl rfl hg30) ?_
   refine WH.skip (OpOk.not rfl rfl rfl hg30) ?_
   refine WH.skip (OpOk.not rfl rfl rfl hg30) ?_
   refine WH.skip (OpOk.not rfl rfl rfl hg30) ?_
   refine WH.skip (OpOk.not rfl rfl rfl hg30) ?_
   refine WH.val (O.pick_t rfl rfl rfl rfl Taken.no) rfl rfl ?_
   refine WH.val (O.move rfl rfl Taken.no) rfl rfl ?_
   have hg31 : true ≠ false := by decide
   refine WH.skip (OpOk.not rfl rfl rfl hg31) ?_
   refine WH.skip (OpOk.not rfl rfl rfl hg31) ?_
   refine WH.skip (OpOk.not rfl rfl rfl hg31) ?_
   refine WH.skip (OpOk.not rfl rfl rfl hg31) ?_
   refine WH.skip (OpOk.not rfl rfl rfl hg31) ?_
   refine WH.val (O.pick_t rfl rfl rfl rfl Taken.no) rfl rfl ?_
   refine WH.val (O.move rfl rfl Taken.no) rfl rfl ?_
   have hg32 : true ≠ false := by decide
   refine WH.skip (OpOk.not rfl rfl rfl hg32) ?_
   refine WH.skip (OpOk.not rfl rfl rfl hg32) ?_
   refine WH.skip (OpOk.not rfl rfl rfl hg32) ?_
   refine WH.skip (OpOk.not rfl rfl rfl hg32) ?_
   refine WH.val (O.pick_t rfl rfl rfl rfl Taken.no) rfl rfl ?_
   refine WH.nil ?_
   refine E.to ?_
   refine W.pick (.cons (t := 1) rfl (.cons (t := 6) rfl (.cons (t := 7) rfl (.cons (t := 8) rfl (.cons (t := 64) rfl .nil))))) (.cons (t := 101) rfl (.cons (t := 102) rfl .nil)) ?_
   refine W.cond_t rfl ?_
   refine W.seq ?_
   refine W.region ?_
   refine SL.val (O.assign rfl rfl Taken.no) ?_
   refine SL.nil ?_
   refine E.to ?_
   refine W.ret ?_
   refine E.inr ?_
   refine E.thr ?_
   refine E.thr ?_
   refine E.inr ?_
   refine E.thr ?_
   refine E.fin (rs := [_]) (rn []) (.inl rfl) rfl (.cons (ResOne.tmp rfl) .nil) ?_ ?_ rfl (fixL_spec rfl)
   ·skip
    exact iv_bool (dec_f (fun h => by have h1 := h.1; have h2 := h.2 k (by omega); have hw := hw (by omega) (by omega); rw [hw] at *; unfold okN okO at h2; first | omega | exact absurd h2.1.2.2.2.2.2 (by first | assumption | simp_all)))
   · exact SubS.nil
 ·skip
  refine W.exit ?_
  refine E.th ?_
  refine E.th ?_
  refine E.hit ?_
  refine E.to ?_
  refine W.seq ?_
  refine W.region ?_
  obtain rfl : k = st.opn.length := by omega
  have hv : 0 ≤ st.time → st.time ≤ 1000000 → (validSt st ↔ (1 ≤ st.next ∧ st.next ≤ 1000000000 ∧ 0 ≤ st.time ∧ st.time ≤ 1000000 ∧ st.opn.length ≤ 50)) := fun a b => ⟨fun h => h.1, fun h => ⟨h, hp a b⟩⟩
  refine SL.val (O.fld_ref (o' := 0) rfl Try.underlying73 rfl (m := 0) (by kernel_rfl) rfl rfl Taken.no) ?_
  refine SL.val (O.ld1 (PtI.ref rfl rfl) rfl Try.underlying3 rfl rfl Taken.no) ?_
  refine SL.val (O.det (fun _ => G.R.geq rfl rfl) rfl Taken.no) ?_
  refine SL.val (O.move rfl rfl Taken.no) ?_
  refine SL.case (j := 3) (g := 69) (want := true) rfl rfl (fun hg33 => ?_) (fun hg33 => ?_)
  ·skip
   first | have hg33p := G.gA1 hg33 | have hg33p := G.gA2 hg33 | have hg33p := hg33
   refine SL.val (O.fld_ref (o' := 0) rfl Try.underlying73 rfl (m := 0) (by kernel_rfl) rfl rfl (Taken.yes rfl rfl hg33)) ?_
   refine SL.val (O.ld1 (PtI.ref rfl rfl) rfl Try.underlying3 rfl rfl (Taken.yes rfl rfl hg33)) ?_
   refine SL.val (O.det (fun _ => G.R.leq rfl rfl) rfl (Taken.yes rfl rfl hg33)) ?_
   refine SL.val (O.pick_t rfl hg33 rfl rfl Taken.no) ?_
   refine SL.val (O.move rfl rfl Taken.no) ?_
   refine SL.case (j := 8) (g := 74) (want := true) rfl rfl (fun hg34 => ?_) (fun hg34 => ?_)
   ·skip
    first | have hg34p := G.gA1 hg34 | have hg34p := G.gA2 hg34 | have hg34p := hg34
    refine SL.val (O.fld_ref (o' := 1) rfl Try.underlying73 rfl (m := 0) (by kernel_rfl) rfl rfl (Taken.yes rfl rfl hg34)) ?_
    refine SL.val (O.ld1 (PtI.ref rfl rfl) rfl Try.underlying3 rfl rfl (Taken.yes rfl rfl hg34)) ?_
    refine SL.val (O.det (fun _ => G.R.geq rfl rfl) rfl (Taken.yes rfl rfl hg34)) ?_
    refine SL.val (O.pick_t rfl hg34 rfl rfl Taken.no) ?_
    refine SL.val (O.move rfl rfl Taken.no) ?_
    refine SL.case (j := 13) (g := 79) (want := true) rfl rfl (fun hg35 => ?_) (fun hg35 => ?_)
    ·skip
     first | have hg35p := G.gA1 hg35 | have hg35p := G.gA2 hg35 | have hg35p := hg35
     refine SL.val (O.fld_ref (o' := 1) rfl Try.underlying73 rfl (m := 0) (by kernel_rfl) rfl rfl (Taken.yes rfl rfl hg35)) ?_
     refine SL.val (O.ld1 (PtI.ref rfl rfl) rfl Try.underlying3 rfl rfl (Taken.yes rfl rfl hg35)) ?_
     refine SL.val (O.det (fun _ => G.R.leq rfl rfl) rfl (Taken.yes rfl rfl hg35)) ?_
     refine SL.val (O.pick_t rfl hg35 rfl rfl Taken.no) ?_
     refine SL.val (O.move rfl rfl Taken.no) ?_
     refine SL.case (j := 18) (g := 84) (want := true) rfl rfl (fun hg36 => ?_) (fun hg36 => ?_)
     ·skip
      first | have hg36p := G.gA1 hg36 | have hg36p := G.gA2 hg36 | have hg36p := hg36
      refine SL.val (O.fld_ref (o' := 2) rfl Try.underlying73 rfl (m := 0) (by kernel_rfl) rfl rfl (Taken.yes rfl rfl hg36)) ?_
      refine SL.val (O.ld1 (PtI.ref rfl rfl) rfl Try.underlying71 rfl rfl (Taken.yes rfl rfl hg36)) ?_
      refine SL.val (O.lenE (SlOf.fz rfl (by decide)) (by first | exact List.length_map _ | rfl) Try.underlying71 rfl (Taken.yes rfl rfl hg36)) ?_
      refine SL.val (O.det (fun _ => G.R.leq rfl rfl) rfl (Taken.yes rfl rfl hg36)) ?_
      refine SL.val (O.pick_t rfl hg36 rfl rfl Taken.no) ?_
      refine SL.val (O.assign rfl rfl Taken.no) ?_
      refine SL.nil ?_
      refine E.to ?_
      refine W.pick (.cons (t := 2) rfl .nil) (.cons (t := 101) rfl .nil) ?_
      refine W.ret ?_
      refine E.fin (rs := [_]) (rn []) (.inl rfl) rfl (.cons (ResOne.tmp rfl) .nil) ?_ ?_ rfl (fixL_spec rfl)
      ·skip
       exact iv_bool (by first | exact dec_f (fun h => by have := h.1; omega) | exact dec_iff (by rw [hv (by omega) (by omega)]; omega))
      · exact SubS.nil
     ·skip
      first | have hg36p := G.gA5 hg36 | have hg36p := G.gA6 hg36 | have hg36p := hg36
      refine SL.skip (OpOk.not rfl rfl rfl hg36) ?_
      refine SL.skip (OpOk.not rfl rfl rfl hg36) ?_
      refine SL.skip (OpOk.not rfl rfl rfl hg36) ?_
      refine SL.skip (OpOk.not rfl rfl rfl hg36) ?_
      refine SL.val (O.pick_f rfl (G.ne_t hg36) rfl rfl Taken.no) ?_
      refine SL.val (O.assign rfl rfl Taken.no) ?_
      refine SL.nil ?_
      refine E.to ?_
      refine W.pick (.cons (t := 2) rfl .nil) (.cons (t := 101) rfl .nil) ?_
      refine W.ret ?_
      refine E.fin (rs := [_]) (rn []) (.inl rfl) rfl (.cons (ResOne.tmp rfl) .nil) ?_ ?_ rfl (fixL_spec rfl)
      ·skip
       exact iv_bool (by first | exact dec_f (fun h => by have := h.1; omega) | exact dec_iff (by rw [hv (by omega) (by omega)]; omega))
      · exact SubS.nil
    ·skip
     first | have hg35p := G.gA5 hg35 | have hg35p := G.gA6 hg35 | have hg35p := hg35
     refine SL.skip (OpOk.not rfl rfl rfl hg35) ?_
     refine SL.skip (OpOk.not rfl rfl rfl hg35) ?_
     refine SL.skip (OpOk.not rfl rfl rfl hg35) ?_
     refine SL.val (O.pick_f rfl (G.ne_t hg35) rfl rfl Taken.no) ?_
     refine SL.val (O.move rfl rfl Taken.no) ?_
     have hg37 : false ≠ true := by decide
     refine SL.skip (OpOk.not rfl rfl rfl hg37) ?_
     refine SL.skip (OpOk.not rfl rfl rfl hg37) ?_
     refine SL.skip (OpOk.not rfl rfl rfl hg37) ?_
     refine SL.skip (OpOk.not rfl rfl rfl hg37) ?_
     refine SL.val (O.pick_f rfl rfl rfl rfl Taken.no) ?_
     refine SL.val (O.assign rfl rfl Taken.no) ?_
     refine SL.nil ?_
     refine E.to ?_
     refine W.pick (.cons (t := 2) rfl .nil) (.cons (t := 101) rfl .nil) ?_
     refine W.ret ?_
     refine E.fin (rs := [_]) (rn []) (.inl rfl) rfl (.cons (ResOne.tmp rfl) .nil) ?_ ?_ rfl (fixL_spec rfl)
     ·skip
      exact iv_bool (by first | exact dec_f (fun h => by have := h.1; omega) | exact dec_iff (by rw [hv (by omega) (by omega)]; omega))
     · exact SubS.nil
   ·skip
    first | have hg34p := G.gA5 hg34 | have hg34p := G.gA6 hg34 | have hg34p := hg34
    refine SL.skip (OpOk.not rfl rfl rfl hg34) ?_
    refine SL.skip (OpOk.not rfl rfl rfl hg34) ?_
    refine SL.skip (OpOk.not rfl rfl rfl hg34) ?_
    refine SL.val (O.pick_f rfl (G.ne_t hg34) rfl rfl Taken.no) ?_
    refine SL.val (O.move rfl rfl Taken.no) ?_
    have hg38 : false ≠ true := by decide
    refine SL.skip (OpOk.not rfl rfl rfl hg38) ?_
    refine SL.skip (OpOk.not rfl rfl rfl hg38) ?_
    refine SL.skip (OpOk.not rfl rfl rfl hg38) ?_
    refine SL.val (O.pick_f rfl rfl rfl rfl Taken.no) ?_
    refine SL.val (O.move rfl rfl Taken.no) ?_
    have hg39 : false ≠ true := by decide
    refine SL.skip (OpOk.not rfl rfl rfl hg39) ?_
    refine SL.skip (OpOk.not rfl rfl rfl hg39) ?_
    refine SL.skip (OpOk.not rfl rfl rfl hg39) ?_
    refine SL.skip (OpOk.not rfl rfl rfl hg39) ?_
    refine SL.val (O.pick_f rfl rfl rfl rfl Taken.no) ?_
    refine SL.val (O.assign rfl rfl Taken.no) ?_
    refine SL.nil ?_
    refine E.to ?_
    refine W.pick (.cons (t := 2) rfl .nil) (.cons (t := 101) rfl .nil) ?_
    refine W.ret ?_
    refine E.fin (rs := [_]) (rn []) (.inl rfl) rfl (.cons (ResOne.tmp rfl) .nil) ?_ ?_ rfl (fixL_spec rfl)
    ·skip
     exact iv_bool (by first | exact dec_f (fun h => by have := h.1; omega) | exact dec_iff (by rw [hv (by omega) (by omega)]; omega))
    · exact SubS.nil
  ·skip
   first | have hg33p := G.gA5 hg33 | have hg33p := G.gA6 hg33 | have hg33p := hg33
   refine SL.skip (OpOk.not rfl rfl rfl hg33) ?_
   refine SL.skip (OpOk.not rfl rfl rfl hg33) ?_
   refine SL.skip (OpOk.not rfl rfl rfl hg33) ?_
   refine SL.val (O.pick_f rfl (G.ne_t hg33) rfl rfl Taken.no) ?_
   refine SL.val (O.move rfl rfl Taken.no) ?_
   have hg40 : false ≠ true := by decide
   refine SL.skip (OpOk.not rfl rfl rfl hg40) ?_
   refine SL.skip (OpOk.not rfl rfl rfl hg40) ?_
   refine SL.skip (OpOk.not rfl rfl rfl hg40) ?_
   refine SL.val (O.pick_f rfl rfl rfl rfl Taken.no) ?_
   refine SL.val (O.move rfl rfl Taken.no) ?_
   have hg41 : false ≠ true := by decide
   refine SL.skip (OpOk.not rfl rfl rfl hg41) ?_
   refine SL.skip (OpOk.not rfl rfl rfl hg41) ?_
   refine SL.skip (OpOk.not rfl rfl rfl hg41) ?_
   refine SL.val (O.pick_f rfl rfl rfl rfl Taken.no) ?_
   refine SL.val (O.move rfl rfl Taken.no) ?_
   have hg42 : false ≠ true := by decide
   refine SL.skip (OpOk.not rfl rfl rfl hg42) ?_
   refine SL.skip (OpOk.not rfl rfl rfl hg42) ?_
   refine SL.skip (OpOk.not rfl rfl rfl hg42) ?_
   refine SL.skip (OpOk.not rfl rfl rfl hg42) ?_
   refine SL.val (O.pick_f rfl rfl rfl rfl Taken.no) ?_
   refine SL.val (O.assign rfl rfl Taken.no) ?_
   refine SL.nil ?_
   refine E.to ?_
   refine W.pick (.cons (t := 2) rfl .nil) (.cons (t := 101) rfl .nil) ?_
   refine W.ret ?_
   refine E.fin (rs := [_]) (rn []) (.inl rfl) rfl (.cons (ResOne.tmp rfl) .nil) ?_ ?_ rfl (fixL_spec rfl)
   ·skip
    exact iv_bool (by first | exact dec_f (fun h => by have := h.1; omega) | exact dec_iff (by rw [hv (by omega) (by omega)]; omega))
   · exact SubS.nil

set_option maxRecDepth 8000 in
/-- bookplate/bookplateref51.ValidStore. -/
theorem refValidStore_h {st : Store} :
    Con Try.prog 49 [vA [uI st.next, uI st.time, .sl 4 (st.opn.map eO)]] [] (vB (decide (validSt st))) [] := by
 obtain ⟨i92, hi92, hz92, hs92, hb92⟩ := hinf92
 refine Con.enterL (n := 93) Try.func49 rfl rfl rfl (fun τ w ok vs hin => ?_)
 have hl0_2 := hin.lenA (i := 0) (j := 2) rfl rfl
 try rw [List.length_map] at hl0_2
 clear hin
 refine W.seq ?_
 refine W.region ?_
 refine SL.memS (O.box (is := [_, _, _]) 101 rfl rfl (by simp) rfl rfl Taken.no) rfl rfl (S' := (101, _) :: _) rfl ?_
 refine SL.val (O.assign rfl rfl Taken.no) ?_
 refine SL.nil ?_
 refine E.to ?_
 refine W.seq ?_
 refine W.seq ?_
 refine W.region ?_
 refine SL.val (O.fld_ref (o' := 0) rfl Try.underlying77 rfl (m := 0) (by kernel_rfl) rfl rfl Taken.no) ?_
 refine SL.val (O.ld1 (PtI.ref rfl rfl) rfl Try.underlying3 rfl rfl Taken.no) ?_
 refine SL.val (O.det (fun _ => G.R.lss rfl rfl) rfl Taken.no) ?_
 refine SL.val (O.move rfl rfl Taken.no) ?_
 refine SL.case (j := 3) (g := 8) (want := false) rfl rfl (fun hg1 => ?_) (fun hg1 => ?_)
 ·skip
  first | have hg1p := G.gA3 hg1 | have hg1p := G.gA4 hg1 | have hg1p := hg1
  refine SL.val (O.fld_ref (o' := 0) rfl Try.underlying77 rfl (m := 0) (by kernel_rfl) rfl rfl (Taken.yes rfl rfl hg1)) ?_
  refine SL.val (O.ld1 (PtI.ref rfl rfl) rfl Try.underlying3 rfl rfl (Taken.yes rfl rfl hg1)) ?_
  refine SL.val (O.det (fun _ => G.R.gtr rfl rfl) rfl (Taken.yes rfl rfl hg1)) ?_
  refine SL.val (O.pick_f rfl hg1 rfl rfl Taken.no) ?_
  refine SL.val (O.move rfl rfl Taken.no) ?_
  refine SL.case (j := 8) (g := 13) (want := false) rfl rfl (fun hg2 => ?_) (fun hg2 => ?_)
  ·skip
   first | have hg2p := G.gA3 hg2 | have hg2p := G.gA4 hg2 | have hg2p := hg2
   refine SL.val (O.fld_ref (o' := 1) rfl Try.underlying77 rfl (m := 0) (by kernel_rfl) rfl rfl (Taken.yes rfl rfl hg2)) ?_
   refine SL.val (O.ld1 (PtI.ref rfl rfl) rfl Try.underlying3 rfl rfl (Taken.yes rfl rfl hg2)) ?_
   refine SL.val (O.det (fun _ => G.R.lss rfl rfl) rfl (Taken.yes rfl rfl hg2)) ?_
   refine SL.val (O.pick_f rfl hg2 rfl rfl Taken.no) ?_
   refine SL.val (O.move rfl rfl Taken.no) ?_
   refine SL.case (j := 13) (g := 18) (want := false) rfl rfl (fun hg3 => ?_) (fun hg3 => ?_)
   ·skip
    first | have hg3p := G.gA3 hg3 | have hg3p := G.gA4 hg3 | have hg3p := hg3
    refine SL.val (O.fld_ref (o' := 1) rfl Try.underlying77 rfl (m := 0) (by kernel_rfl) rfl rfl (Taken.yes rfl rfl hg3)) ?_
    refine SL.val (O.ld1 (PtI.ref rfl rfl) rfl Try.underlying3 rfl rfl (Taken.yes rfl rfl hg3)) ?_
    refine SL.val (O.det (fun _ => G.R.gtr rfl rfl) rfl (Taken.yes rfl rfl hg3)) ?_
    refine SL.val (O.pick_f rfl hg3 rfl rfl Taken.no) ?_
    refine SL.val (O.move rfl rfl Taken.no) ?_
    refine SL.case (j := 18) (g := 23) (want := false) rfl rfl (fun hg4 => ?_) (fun hg4 => ?_)
    ·skip
     first | have hg4p := G.gA3 hg4 | have hg4p := G.gA4 hg4 | have hg4p := hg4
     refine SL.val (O.fld_ref (o' := 2) rfl Try.underlying77 rfl (m := 0) (by kernel_rfl) rfl rfl (Taken.yes rfl rfl hg4)) ?_
     refine SL.val (O.ld1 (PtI.ref rfl rfl) rfl Try.underlying75 rfl rfl (Taken.yes rfl rfl hg4)) ?_
     refine SL.val (O.lenE (SlOf.fz rfl (by decide)) (by first | exact List.length_map _ | rfl) Try.underlying75 rfl (Taken.yes rfl rfl hg4)) ?_
     refine SL.val (O.det (fun _ => G.R.gtr rfl rfl) rfl (Taken.yes rfl rfl hg4)) ?_
     refine SL.val (O.pick_f rfl hg4 rfl rfl Taken.no) ?_
     refine SL.nil ?_
     refine E.to ?_
     refine W.pick (.cons (t := 1) rfl (.cons (t := 2) rfl (.cons (t := 28) rfl .nil))) (.cons (t := 101) rfl .nil) ?_
     first | refine W.cond_d rfl (fun hc5 => ?_) (fun hc5 => ?_) | refine W.cond_nd rfl (fun hc5 => ?_) (fun hc5 => ?_) | refine W.cond rfl (fun hc5 => ?_) (fun hc5 => ?_)
     ·skip
      refine W.seq ?_
      refine W.region ?_
      refine SL.val (O.assign rfl rfl Taken.no) ?_
      refine SL.nil ?_
      refine E.to ?_
      refine W.ret ?_
      refine E.thr ?_
      refine E.fin (rs := [_]) (rn []) (.inl rfl) rfl (.cons (ResOne.tmp rfl) .nil) ?_ ?_ rfl (fixL_spec rfl)
      ·skip
       exact iv_bool (dec_f (fun h => by have := h.1; omega))
      · exact SubS.nil
     ·skip
      have hr : 1 ≤ st.next ∧ st.next ≤ 1000000000 ∧ 0 ≤ st.time ∧ st.time ≤ 1000000 ∧ st.opn.length ≤ 50 := by omega
      refine W.skip ?_
      refine E.to ?_
      refine W.seq ?_
      refine W.seq ?_
      refine W.region ?_
      refine SL.val (O.assign rfl rfl Taken.no) ?_
      refine SL.nil ?_
      refine E.to ?_
      refine W.block ?_
      refine W.loopx1 (fun (k : Nat) => [(3, vI (k : Int))]) (fun (k : Nat) => []) (fun (k : Nat) => k ≤ st.opn.length ∧ ∀ j, j < k → okN st j) (fun (k : Nat) => st.opn.length - k) (0) (rn []) (.cons (t := 1) rfl .nil) (.cons (t := 101) rfl .nil) rfl ?_ ?_ rfl rfl ?_ ?_
      · exact (SubF.cons rfl SubF.nil)
      · exact SubS.nil
      ·skip
       exact ⟨by omega, fun j h => by omega⟩
      intro k hinv
      obtain ⟨hk, hp⟩ := hinv
      refine W.seq ?_
      refine W.seq ?_
      refine W.region ?_
      refine SL.val (O.move rfl rfl Taken.no) ?_
      refine SL.val (O.fld_ref (o' := 2) rfl Try.underlying77 rfl (m := 0) (by kernel_rfl) rfl rfl Taken.no) ?_
      refine SL.val (O.ld1 (PtI.ref rfl rfl) rfl Try.underlying75 rfl rfl Taken.no) ?_
      refine SL.val (O.lenE (SlOf.fz rfl (by decide)) (by first | exact List.length_map _ | rfl) Try.underlying75 rfl Taken.no) ?_
      refine SL.val (O.det (fun _ => G.R.lss rfl rfl) rfl Taken.no) ?_
      refine SL.nil ?_
      refine E.to ?_
      first | refine W.cond_d rfl (fun hc6 => ?_) (fun hc6 => ?_) | refine W.cond_nd rfl (fun hc6 => ?_) (fun hc6 => ?_) | refine W.cond rfl (fun hc6 => ?_) (fun hc6 => ?_)
      ·skip
       refine W.skip ?_
       refine E.to ?_
       refine W.seq ?_
       refine W.block ?_
       refine W.seq ?_
       refine W.region ?_
       refine SL.val (O.fld_ref (o' := 2) rfl Try.underlying77 rfl (m := 0) (by kernel_rfl) rfl rfl Taken.no) ?_
       refine SL.val (O.ld1 (PtI.ref rfl rfl) rfl Try.underlying75 rfl rfl Taken.no) ?_
       refine SL.val (O.move rfl rfl Taken.no) ?_
       refine SL.val (O.idx_fz rfl rfl (rfl) (row_get (by omega)) Try.underlying75 hi92 hs92 rfl Taken.no) ?_
       refine SL.val (O.ldU (m := 4) (PtU.fz rfl) rfl Try.underlying92 rfl (by kernel_rfl) rfl Taken.no) ?_
       refine SL.memS (O.alloc (z := .agg #[.int .i64 0, .int .i64 0, .int .i64 0, .slice none 0 0]) (is := [.u (.sc (.int .i64 0)), .u (.sc (.int .i64 0)), .u (.sc (.int .i64 0)), .u (.sc (.slice none 0 0))]) 102 (by kernel_rfl) rfl rfl rfl Taken.no) rfl rfl (S' := (102, _) :: _) rfl ?_
       refine SL.effS (O.st_ref (m := 4) rfl rfl rfl (js := [_, _, _, _]) rfl rfl (by kernel_rfl) (by simp) (Nat.le_of_ble_eq_true rfl) rfl (is' := [_, _, _, _]) rfl Taken.no) (S' := (102, _) :: _) rfl ?_
       refine SL.nil ?_
       refine E.to ?_
       refine W.seq ?_
       refine W.draw [⟨[102], [], []⟩, ⟨[102], [], []⟩, ⟨[], [], []⟩, ⟨[], [], []⟩, ⟨[102], [], []⟩, ⟨[102], [], []⟩, ⟨[101], [], []⟩, ⟨[101], [], []⟩, ⟨[], [], []⟩, ⟨[], [], []⟩, ⟨[], [], []⟩, ⟨[], [], []⟩, ⟨[], [], []⟩, ⟨[], [], []⟩, ⟨[101], [], []⟩, ⟨[101], [], []⟩, ⟨[], [], []⟩, ⟨[], [], []⟩, ⟨[], [], []⟩, ⟨[], [], []⟩, ⟨[], [], []⟩, ⟨[102], [], []⟩, ⟨[102], [], []⟩, ⟨[], [], []⟩, ⟨[], [], []⟩, ⟨[], [], []⟩, ⟨[], [], []⟩, ⟨[102], [], []⟩, ⟨[102], [], []⟩, ⟨[101], [], []⟩, ⟨[101], [], []⟩, ⟨[], [], []⟩, ⟨[], [], []⟩, ⟨[], [], []⟩, ⟨[], [], []⟩, ⟨[102], [], []⟩, ⟨[102], [], []⟩, ⟨[], [], []⟩, ⟨[], [], []⟩, ⟨[], [], []⟩, ⟨[102], [], []⟩, ⟨[102], [], []⟩, ⟨[101], [], []⟩, ⟨[101], [], []⟩, ⟨[], [], []⟩, ⟨[], [], []⟩, ⟨[], [], []⟩, ⟨[102], [], []⟩, ⟨[102], [], []⟩, ⟨[], [], []⟩, ⟨[], [], []⟩, ⟨[], [], []⟩] rfl (by kernel_rfl) (by kernel_rfl) rfl rfl ?_
       refine WH.val (O.fld_ref (o' := 0) rfl Try.underlying92 rfl (m := 0) (by kernel_rfl) rfl rfl Taken.no) rfl rfl ?_
       refine WH.val (O.ld1 (PtI.ref rfl rfl) rfl Try.underlying3 rfl rfl Taken.no) rfl rfl ?_
       refine WH.val (O.det (fun _ => G.R.lss rfl rfl) rfl Taken.no) rfl rfl ?_
       refine WH.val (O.move rfl rfl Taken.no) rfl rfl ?_
       refine WH.case (j := 3) (g := 44) (want := false) rfl rfl (fun hg7 => ?_) (fun hg7 => ?_)
       ·skip
        first | have hg7p := G.gA3 hg7 | have hg7p := G.gA4 hg7 | have hg7p := hg7
        refine WH.val (O.fld_ref (o' := 0) rfl Try.underlying92 rfl (m := 0) (by kernel_rfl) rfl rfl (Taken.yes rfl rfl hg7)) rfl rfl ?_
        refine WH.val (O.ld1 (PtI.ref rfl rfl) rfl Try.underlying3 rfl rfl (Taken.yes rfl rfl hg7)) rfl rfl ?_
        refine WH.val (O.fld_ref (o' := 0) rfl Try.underlying77 rfl (m := 0) (by kernel_rfl) rfl rfl (Taken.yes rfl rfl hg7)) rfl rfl ?_
        refine WH.val (O.ld1 (PtI.ref rfl rfl) rfl Try.underlying3 rfl rfl (Taken.yes rfl rfl hg7)) rfl rfl ?_
        refine WH.val (O.det (fun _ => G.R.geq rfl rfl) rfl (Taken.yes rfl rfl hg7)) rfl rfl ?_
        refine WH.val (O.pick_f rfl hg7 rfl rfl Taken.no) rfl rfl ?_
        refine WH.val (O.move rfl rfl Taken.no) rfl rfl ?_
        refine WH.case (j := 10) (g := 51) (want := false) rfl rfl (fun hg8 => ?_) (fun hg8 => ?_)
        ·skip
         first | have hg8p := G.gA3 hg8 | have hg8p := G.gA4 hg8 | have hg8p := hg8
         refine WH.val (O.move rfl rfl (Taken.yes rfl rfl hg8)) rfl rfl ?_
         refine WH.val (O.det (fun _ => G.R.gtr rfl rfl) rfl (Taken.yes rfl rfl hg8)) rfl rfl ?_
         refine WH.val (O.move rfl rfl (Taken.yes rfl rfl hg8)) rfl rfl ?_
         refine WH.case (j := 13) (g := 54) (want := true) rfl rfl (fun hg9 => ?_) (fun hg9 => ?_)
         ·skip
          first | have hg9p := G.gA1 hg9 | have hg9p := G.gA2 hg9 | have hg9p := hg9
          refine WH.val (O.fld_ref (o' := 2) rfl Try.underlying77 rfl (m := 0) (by kernel_rfl) rfl rfl (Taken.yes rfl rfl hg9)) rfl rfl ?_
          refine WH.val (O.ld1 (PtI.ref rfl rfl) rfl Try.underlying75 rfl rfl (Taken.yes rfl rfl hg9)) rfl rfl ?_
          refine WH.val (O.move rfl rfl (Taken.yes rfl rfl hg9)) rfl rfl ?_
          refine WH.val (O.det (fun _ => by first | exact G.R.sub64 rfl rfl (by omega) | exact G.R.sub rfl rfl) rfl (Taken.yes rfl rfl hg9)) rfl rfl ?_
          refine WH.val (O.idx_fz (i := (k - 1)) rfl rfl (by omega) (row_get (by omega)) Try.underlying75 hi92 hs92 rfl (Taken.yes rfl rfl hg9)) rfl rfl ?_
          refine WH.val (O.fld_fz rfl Try.underlying92 rfl (m := 0) (by kernel_rfl) rfl rfl (Taken.yes rfl rfl hg9)) rfl rfl ?_
          refine WH.val (O.ld1 (PtI.ofU (PtU.fz rfl)) rfl Try.underlying3 rfl rfl (Taken.yes rfl rfl hg9)) rfl rfl ?_
          refine WH.val (O.fld_ref (o' := 0) rfl Try.underlying92 rfl (m := 0) (by kernel_rfl) rfl rfl (Taken.yes rfl rfl hg9)) rfl rfl ?_
          refine WH.val (O.ld1 (PtI.ref rfl rfl) rfl Try.underlying3 rfl rfl (Taken.yes rfl rfl hg9)) rfl rfl ?_
          refine WH.val (O.det (fun _ => G.R.geq rfl rfl) rfl (Taken.yes rfl rfl hg9)) rfl rfl ?_
          refine WH.val (O.pick_t rfl hg9 rfl rfl (Taken.yes rfl rfl hg8)) rfl rfl ?_
          refine WH.val (O.pick_f rfl hg8 rfl rfl Taken.no) rfl rfl ?_
          refine WH.val (O.move rfl rfl Taken.no) rfl rfl ?_
          refine WH.case (j := 26) (g := 67) (want := false) rfl rfl (fun hg10 => ?_) (fun hg10 => ?_)
          ·skip
           first | have hg10p := G.gA3 hg10 | have hg10p := G.gA4 hg10 | have hg10p := hg10
           refine WH.val (O.fld_ref (o' := 1) rfl Try.underlying92 rfl (m := 0) (by kernel_rfl) rfl rfl (Taken.yes rfl rfl hg10)) rfl rfl ?_
           refine WH.val (O.ld1 (PtI.ref rfl rfl) rfl Try.underlying3 rfl rfl (Taken.yes rfl rfl hg10)) rfl rfl ?_
           refine WH.val (O.fld_ref (o' := 1) rfl Try.underlying77 rfl (m := 0) (by kernel_rfl) rfl rfl (Taken.yes rfl rfl hg10)) rfl rfl ?_
           refine WH.val (O.ld1 (PtI.ref rfl rfl) rfl Try.underlying3 rfl rfl (Taken.yes rfl rfl hg10)) rfl rfl ?_
           refine WH.val (O.det (fun _ => by first | exact G.R.sub64 rfl rfl (by omega) | exact G.R.sub rfl rfl) rfl (Taken.yes rfl rfl hg10)) rfl rfl ?_
           refine WH.val (O.det (fun _ => G.R.lss rfl rfl) rfl (Taken.yes rfl rfl hg10)) rfl rfl ?_
           refine WH.val (O.pick_f rfl hg10 rfl rfl Taken.no) rfl rfl ?_
           refine WH.val (O.move rfl rfl Taken.no) rfl rfl ?_
           refine WH.case (j := 34) (g := 75) (want := false) rfl rfl (fun hg11 => ?_) (fun hg11 => ?_)
           ·skip
            first | have hg11p := G.gA3 hg11 | have hg11p := G.gA4 hg11 | have hg11p := hg11
            refine WH.val (O.fld_ref (o' := 1) rfl Try.underlying92 rfl (m := 0) (by kernel_rfl) rfl rfl (Taken.yes rfl rfl hg11)) rfl rfl ?_
            refine WH.val (O.ld1 (PtI.ref rfl rfl) rfl Try.underlying3 rfl rfl (Taken.yes rfl rfl hg11)) rfl rfl ?_
            refine WH.val (O.det (fun _ => G.R.lss rfl rfl) rfl (Taken.yes rfl rfl hg11)) rfl rfl ?_
            refine WH.val (O.pick_f rfl hg11 rfl rfl Taken.no) rfl rfl ?_
            refine WH.val (O.move rfl rfl Taken.no) rfl rfl ?_
            refine WH.case (j := 39) (g := 80) (want := false) rfl rfl (fun hg12 => ?_) (fun hg12 => ?_)
            ·skip
             first | have hg12p := G.gA3 hg12 | have hg12p := G.gA4 hg12 | have hg12p := hg12
             refine WH.val (O.fld_ref (o' := 1) rfl Try.underlying92 rfl (m := 0) (by kernel_rfl) rfl rfl (Taken.yes rfl rfl hg12)) rfl rfl ?_
             refine WH.val (O.ld1 (PtI.ref rfl rfl) rfl Try.underlying3 rfl rfl (Taken.yes rfl rfl hg12)) rfl rfl ?_
             refine WH.val (O.fld_ref (o' := 1) rfl Try.underlying77 rfl (m := 0) (by kernel_rfl) rfl rfl (Taken.yes rfl rfl hg12)) rfl rfl ?_
             refine WH.val (O.ld1 (PtI.ref rfl rfl) rfl Try.underlying3 rfl rfl (Taken.yes rfl rfl hg12)) rfl rfl ?_
             refine WH.val (O.det (fun _ => G.R.gtr rfl rfl) rfl (Taken.yes rfl rfl hg12)) rfl rfl ?_
             refine WH.val (O.pick_f rfl hg12 rfl rfl Taken.no) rfl rfl ?_
             refine WH.val (O.move rfl rfl Taken.no) rfl rfl ?_
             refine WH.case (j := 46) (g := 87) (want := false) rfl rfl (fun hg13 => ?_) (fun hg13 => ?_)
             ·skip
              first | have hg13p := G.gA3 hg13 | have hg13p := G.gA4 hg13 | have hg13p := hg13
              refine WH.val (O.fld_ref (o' := 2) rfl Try.underlying92 rfl (m := 1) (by kernel_rfl) rfl rfl (Taken.yes rfl rfl hg13)) rfl rfl ?_
              refine WH.val (O.ldN (m := 2) (PtI.ref rfl rfl) (js := [_, _]) rfl (Nat.le_of_ble_eq_true rfl) Try.underlying31 rfl (by kernel_rfl) rfl (Taken.yes rfl rfl hg13)) rfl rfl ?_
              refine WH.val (O.callp rfl rfl rfl (refValid_h (s := st.opn[k]!.s)) (.cons (ArgOk.aggU (.cons (ArgOk.same rfl) (.cons (ArgOk.same rfl) .nil))) .nil) hcallOk22 rfl (Taken.yes rfl rfl hg13)) rfl rfl ?_
              refine WH.val (O.det (fun _ => G.R.not rfl) rfl (Taken.yes rfl rfl hg13)) rfl rfl ?_
              refine WH.val (O.pick_f rfl hg13 rfl rfl Taken.no) rfl rfl ?_
              refine WH.nil ?_
              refine E.to ?_
              refine W.pick (.cons (t := 1) rfl (.cons (t := 3) rfl (.cons (t := 92) rfl .nil))) (.cons (t := 101) rfl (.cons (t := 102) rfl .nil)) ?_
              first | refine W.cond_d rfl (fun hc14 => ?_) (fun hc14 => ?_) | refine W.cond_nd rfl (fun hc14 => ?_) (fun hc14 => ?_) | refine W.cond rfl (fun hc14 => ?_) (fun hc14 => ?_)
              ·skip
               refine W.seq ?_
               refine W.region ?_
               refine SL.val (O.assign rfl rfl Taken.no) ?_
               refine SL.nil ?_
               refine E.to ?_
               refine W.ret ?_
               refine E.inr ?_
               refine E.thr ?_
               refine E.thr ?_
               refine E.inr ?_
               refine E.thr ?_
               refine E.fin (rs := [_]) (rn []) (.inl rfl) rfl (.cons (ResOne.tmp rfl) .nil) ?_ ?_ rfl (fixL_spec rfl)
               ·skip
                exact iv_bool (dec_f (fun h => by have h2 := h.2 k (by omega); unfold okN okO at h2; first | omega | exact absurd h2.1.2.2.2.2.2 (by first | assumption | simp_all)))
               · exact SubS.nil
              ·skip
               refine W.skip ?_
               refine E.inn ?_
               refine E.to ?_
               refine W.region ?_
               refine SL.val (O.move rfl rfl Taken.no) ?_
               refine SL.val (O.det (fun _ => by first | exact G.R.add64 rfl rfl (by omega) | exact G.R.add rfl rfl) rfl Taken.no) ?_
               refine SL.val (O.assign rfl rfl Taken.no) ?_
               refine SL.nil ?_
               refine E.again ((k + 1)) (rn []) ?_ ?_ rfl (fixL_spec rfl) ?_ ?_
               · exact (SubF.cons rfl (SubF.cons rfl SubF.nil))
               · exact (SubS.cons rfl SubS.nil)
               ·try dsimp only
                exact ⟨by omega, okN_step hp ⟨⟨by omega, by omega, by omega, by omega, by omega, by first | assumption | simp_all⟩, fun h0 => by omega⟩⟩
               · (try dsimp only); omega
             ·skip
              first | have hg13p := G.gA7 hg13 | have hg13p := G.gA8 hg13 | have hg13p := hg13
              refine WH.skip (OpOk.not rfl rfl rfl hg13) ?_
              refine WH.skip (OpOk.not rfl rfl rfl hg13) ?_
              refine WH.skip (OpOk.not rfl rfl rfl hg13) ?_
              refine WH.skip (OpOk.not rfl rfl rfl hg13) ?_
              refine WH.val (O.pick_t rfl (G.ne_f hg13) rfl rfl Taken.no) rfl rfl ?_
              refine WH.nil ?_
              refine E.to ?_
              refine W.pick (.cons (t := 1) rfl (.cons (t := 3) rfl (.cons (t := 92) rfl .nil))) (.cons (t := 101) rfl (.cons (t := 102) rfl .nil)) ?_
              refine W.cond_t rfl ?_
              refine W.seq ?_
              refine W.region ?_
              refine SL.val (O.assign rfl rfl Taken.no) ?_
              refine SL.nil ?_
              refine E.to ?_
              refine W.ret ?_
              refine E.inr ?_
              refine E.thr ?_
              refine E.thr ?_
              refine E.inr ?_
              refine E.thr ?_
              refine E.fin (rs := [_]) (rn []) (.inl rfl) rfl (.cons (ResOne.tmp rfl) .nil) ?_ ?_ rfl (fixL_spec rfl)
              ·skip
               exact iv_bool (dec_f (fun h => by have h2 := h.2 k (by omega); unfold okN okO at h2; first | omega | exact absurd h2.1.2.2.2.2.2 (by first | assumption | simp_all)))
              · exact SubS.nil
            ·skip
             first | have hg12p := G.gA7 hg12 | have hg12p := G.gA8 hg12 | have hg12p := hg12
             refine WH.skip (OpOk.not rfl rfl rfl hg12) ?_
             refine WH.skip (OpOk.not rfl rfl rfl hg12) ?_
             refine WH.skip (OpOk.not rfl rfl rfl hg12) ?_
             refine WH.skip (OpOk.not rfl rfl rfl hg12) ?_
             refine WH.skip (OpOk.not rfl rfl rfl hg12) ?_
             refine WH.val (O.pick_t rfl (G.ne_f hg12) rfl rfl Taken.no) rfl rfl ?_
             refine WH.val (O.move rfl rfl Taken.no) rfl rfl ?_
             have hg15 : true ≠ false := by decide
             refine WH.skip (OpOk.not rfl rfl rfl hg15) ?_
             refine WH.skip (OpOk.not rfl rfl rfl hg15) ?_
             refine WH.skip (OpOk.not rfl rfl rfl hg15) ?_
             refine WH.skip (OpOk.not rfl rfl rfl hg15) ?_
             refine WH.val (O.pick_t rfl rfl rfl rfl Taken.no) rfl rfl ?_
             refine WH.nil ?_
             refine E.to ?_
             refine W.pick (.cons (t := 1) rfl (.cons (t := 3) rfl (.cons (t := 92) rfl .nil))) (.cons (t := 101) rfl (.cons (t := 102) rfl .nil)) ?_
             refine W.cond_t rfl ?_
             refine W.seq ?_
             refine W.region ?_
             refine SL.val (O.assign rfl rfl Taken.no) ?_
             refine SL.nil ?_
             refine E.to ?_
             refine W.ret ?_
             refine E.inr ?_
             refine E.thr ?_
             refine E.thr ?_
             refine E.inr ?_
             refine E.thr ?_
             refine E.fin (rs := [_]) (rn []) (.inl rfl) rfl (.cons (ResOne.tmp rfl) .nil) ?_ ?_ rfl (fixL_spec rfl)
             ·skip
              exact iv_bool (dec_f (fun h => by have h2 := h.2 k (by omega); unfold okN okO at h2; first | omega | exact absurd h2.1.2.2.2.2.2 (by first | assumption | simp_all)))
             · exact SubS.nil
           ·skip
            first | have hg11p := G.gA7 hg11 | have hg11p := G.gA8 hg11 | have hg11p := hg11
            refine WH.skip (OpOk.not rfl rfl rfl hg11) ?_
            refine WH.skip (OpOk.not rfl rfl rfl hg11) ?_
            refine WH.skip (OpOk.not rfl rfl rfl hg11) ?_
            refine WH.val (O.pick_t rfl (G.ne_f hg11) rfl rfl Taken.no) rfl rfl ?_
            refine WH.val (O.move rfl rfl Taken.no) rfl rfl ?_
            have hg16 : true ≠ false := by decide
            refine WH.skip (OpOk.not rfl rfl rfl hg16) ?_
            refine WH.skip (OpOk.not rfl rfl rfl hg16) ?_
            refine WH.skip (OpOk.not rfl rfl rfl hg16) ?_
            refine WH.skip (OpOk.not rfl rfl rfl hg16) ?_
            refine WH.skip (OpOk.not rfl rfl rfl hg16) ?_
            refine WH.val (O.pick_t rfl rfl rfl rfl Taken.no) rfl rfl ?_
            refine WH.val (O.move rfl rfl Taken.no) rfl rfl ?_
            have hg17 : true ≠ false := by decide
            refine WH.skip (OpOk.not rfl rfl rfl hg17) ?_
            refine WH.skip (OpOk.not rfl rfl rfl hg17) ?_
            refine WH.skip (OpOk.not rfl rfl rfl hg17) ?_
            refine WH.skip (OpOk.not rfl rfl rfl hg17) ?_
            refine WH.val (O.pick_t rfl rfl rfl rfl Taken.no) rfl rfl ?_
            refine WH.nil ?_
            refine E.to ?_
            refine W.pick (.cons (t := 1) rfl (.cons (t := 3) rfl (.cons (t := 92) rfl .nil))) (.cons (t := 101) rfl (.cons (t := 102) rfl .nil)) ?_
            refine W.cond_t rfl ?_
            refine W.seq ?_
            refine W.region ?_
            refine SL.val (O.assign rfl rfl Taken.no) ?_
            refine SL.nil ?_
            refine E.to ?_
            refine W.ret ?_
            refine E.inr ?_
            refine E.thr ?_
            refine E.thr ?_
            refine E.inr ?_
            refine E.thr ?_
            refine E.fin (rs := [_]) (rn []) (.inl rfl) rfl (.cons (ResOne.tmp rfl) .nil) ?_ ?_ rfl (fixL_spec rfl)
            ·skip
             exact iv_bool (dec_f (fun h => by have h2 := h.2 k (by omega); unfold okN okO at h2; first | omega | exact absurd h2.1.2.2.2.2.2 (by first | assumption | simp_all)))
            · exact SubS.nil
          ·skip
           first | have hg10p := G.gA7 hg10 | have hg10p := G.gA8 hg10 | have hg10p := hg10
           refine WH.skip (OpOk.not rfl rfl rfl hg10) ?_
           refine WH.skip (OpOk.not rfl rfl rfl hg10) ?_
           refine WH.skip (OpOk.not rfl rfl rfl hg10) ?_
           refine WH.skip (OpOk.not rfl rfl rfl hg10) ?_
           refine WH.skip (OpOk.not rfl rfl rfl hg10) ?_
           refine WH.skip (OpOk.not rfl rfl rfl hg10) ?_
           refine WH.val (O.pick_t rfl (G.ne_f hg10) rfl rfl Taken.no) rfl rfl ?_
           refine WH.val (O.move rfl rfl Taken.no) rfl rfl ?_
           have hg18 : true ≠ false := by decide
           refine WH.skip (OpOk.not rfl rfl rfl hg18) ?_
           refine WH.skip (OpOk.not rfl rfl rfl hg18) ?_
           refine WH.skip (OpOk.not rfl rfl rfl hg18) ?_
           refine WH.val (O.pick_t rfl rfl rfl rfl Taken.no) rfl rfl ?_
           refine WH.val (O.move rfl rfl Taken.no) rfl rfl ?_
           have hg19 : true ≠ false := by decide
           refine WH.skip (OpOk.not rfl rfl rfl hg19) ?_
           refine WH.skip (OpOk.not rfl rfl rfl hg19) ?_
           refine WH.skip (OpOk.not rfl rfl rfl hg19) ?_
           refine WH.skip (OpOk.not rfl rfl rfl hg19) ?_
           refine WH.skip (OpOk.not rfl rfl rfl hg19) ?_
           refine WH.val (O.pick_t rfl rfl rfl rfl Taken.no) rfl rfl ?_
           refine WH.val (O.move rfl rfl Taken.no) rfl rfl ?_
           have hg20 : true ≠ false := by decide
           refine WH.skip (OpOk.not rfl rfl rfl hg20) ?_
           refine WH.skip (OpOk.not rfl rfl rfl hg20) ?_
           refine WH.skip (OpOk.not rfl rfl rfl hg20) ?_
           refine WH.skip (OpOk.not rfl rfl rfl hg20) ?_
           refine WH.val (O.pick_t rfl rfl rfl rfl Taken.no) rfl rfl ?_
           refine WH.nil ?_
           refine E.to ?_
           refine W.pick (.cons (t := 1) rfl (.cons (t := 3) rfl (.cons (t := 92) rfl .nil))) (.cons (t := 101) rfl (.cons (t := 102) rfl .nil)) ?_
           refine W.cond_t rfl ?_
           refine W.seq ?_
           refine W.region ?_
           refine SL.val (O.assign rfl rfl Taken.no) ?_
           refine SL.nil ?_
           refine E.to ?_
           refine W.ret ?_
           refine E.inr ?_
           refine E.thr ?_
           refine E.thr ?_
           refine E.inr ?_
           refine E.thr ?_
           refine E.fin (rs := [_]) (rn []) (.inl rfl) rfl (.cons (ResOne.tmp rfl) .nil) ?_ ?_ rfl (fixL_spec rfl)
           ·skip
            exact iv_bool (dec_f (fun h => by have h2 := h.2 k (by omega); unfold okN okO at h2; first | omega | exact absurd h2.1.2.2.2.2.2 (by first | assumption | simp_all)))
           · exact SubS.nil
         ·skip
          first | have hg9p := G.gA5 hg9 | have hg9p := G.gA6 hg9 | have hg9p := hg9
          refine WH.skip (OpOk.not rfl rfl rfl hg9) ?_
          refine WH.skip (OpOk.not rfl rfl rfl hg9) ?_
          refine WH.skip (OpOk.not rfl rfl rfl hg9) ?_
          refine WH.skip (OpOk.not rfl rfl rfl hg9) ?_
          refine WH.skip (OpOk.not rfl rfl rfl hg9) ?_
          refine WH.skip (OpOk.not rfl rfl rfl hg9) ?_
          refine WH.skip (OpOk.not rfl rfl rfl hg9) ?_
          refine WH.skip (OpOk.not rfl rfl rfl hg9) ?_
          refine WH.skip (OpOk.not rfl rfl rfl hg9) ?_
          refine WH.skip (OpOk.not rfl rfl rfl hg9) ?_
          refine WH.val (O.pick_f rfl (G.ne_t hg9) rfl rfl (Taken.yes rfl rfl hg8)) rfl rfl ?_
          refine WH.val (O.pick_f rfl hg8 rfl rfl Taken.no) rfl rfl ?_
          refine WH.val (O.move rfl rfl Taken.no) rfl rfl ?_
          have hg21 : false = false := by decide
          refine WH.val (O.fld_ref (o' := 1) rfl Try.underlying92 rfl (m := 0) (by kernel_rfl) rfl rfl (Taken.yes rfl rfl hg21)) rfl rfl ?_
          refine WH.val (O.ld1 (PtI.ref rfl rfl) rfl Try.underlying3 rfl rfl (Taken.yes rfl rfl hg21)) rfl rfl ?_
          refine WH.val (O.fld_ref (o' := 1) rfl Try.underlying77 rfl (m := 0) (by kernel_rfl) rfl rfl (Taken.yes rfl rfl hg21)) rfl rfl ?_
          refine WH.val (O.ld1 (PtI.ref rfl rfl) rfl Try.underlying3 rfl rfl (Taken.yes rfl rfl hg21)) rfl rfl ?_
          refine WH.val (O.det (fun _ => by first | exact G.R.sub64 rfl rfl (by omega) | exact G.R.sub rfl rfl) rfl (Taken.yes rfl rfl hg21)) rfl rfl ?_
          refine WH.val (O.det (fun _ => G.R.lss rfl rfl) rfl (Taken.yes rfl rfl hg21)) rfl rfl ?_
          refine WH.val (O.pick_f rfl rfl rfl rfl Taken.no) rfl rfl ?_
          refine WH.val (O.move rfl rfl Taken.no) rfl rfl ?_
          refine WH.case (j := 34) (g := 75) (want := false) rfl rfl (fun hg22 => ?_) (fun hg22 => ?_)
          ·skip
           first | have hg22p := G.gA3 hg22 | have hg22p := G.gA4 hg22 | have hg22p := hg22
           refine WH.val (O.fld_ref (o' := 1) rfl Try.underlying92 rfl (m := 0) (by kernel_rfl) rfl rfl (Taken.yes rfl rfl hg22)) rfl rfl ?_
           refine WH.val (O.ld1 (PtI.ref rfl rfl) rfl Try.underlying3 rfl rfl (Taken.yes rfl rfl hg22)) rfl rfl ?_
           refine WH.val (O.det (fun _ => G.R.lss rfl rfl) rfl (Taken.yes rfl rfl hg22)) rfl rfl ?_
           refine WH.val (O.pick_f rfl hg22 rfl rfl Taken.no) rfl rfl ?_
           refine WH.val (O.move rfl rfl Taken.no) rfl rfl ?_
           refine WH.case (j := 39) (g := 80) (want := false) rfl rfl (fun hg23 => ?_) (fun hg23 => ?_)
           ·skip
            first | have hg23p := G.gA3 hg23 | have hg23p := G.gA4 hg23 | have hg23p := hg23
            refine WH.val (O.fld_ref (o' := 1) rfl Try.underlying92 rfl (m := 0) (by kernel_rfl) rfl rfl (Taken.yes rfl rfl hg23)) rfl rfl ?_
            refine WH.val (O.ld1 (PtI.ref rfl rfl) rfl Try.underlying3 rfl rfl (Taken.yes rfl rfl hg23)) rfl rfl ?_
            refine WH.val (O.fld_ref (o' := 1) rfl Try.underlying77 rfl (m := 0) (by kernel_rfl) rfl rfl (Taken.yes rfl rfl hg23)) rfl rfl ?_
            refine WH.val (O.ld1 (PtI.ref rfl rfl) rfl Try.underlying3 rfl rfl (Taken.yes rfl rfl hg23)) rfl rfl ?_
            refine WH.val (O.det (fun _ => G.R.gtr rfl rfl) rfl (Taken.yes rfl rfl hg23)) rfl rfl ?_
            refine WH.val (O.pick_f rfl hg23 rfl rfl Taken.no) rfl rfl ?_
            refine WH.val (O.move rfl rfl Taken.no) rfl rfl ?_
            refine WH.case (j := 46) (g := 87) (want := false) rfl rfl (fun hg24 => ?_) (fun hg24 => ?_)
            ·skip
             first | have hg24p := G.gA3 hg24 | have hg24p := G.gA4 hg24 | have hg24p := hg24
             refine WH.val (O.fld_ref (o' := 2) rfl Try.underlying92 rfl (m := 1) (by kernel_rfl) rfl rfl (Taken.yes rfl rfl hg24)) rfl rfl ?_
             refine WH.val (O.ldN (m := 2) (PtI.ref rfl rfl) (js := [_, _]) rfl (Nat.le_of_ble_eq_true rfl) Try.underlying31 rfl (by kernel_rfl) rfl (Taken.yes rfl rfl hg24)) rfl rfl ?_
             refine WH.val (O.callp rfl rfl rfl (refValid_h (s := st.opn[k]!.s)) (.cons (ArgOk.aggU (.cons (ArgOk.same rfl) (.cons (ArgOk.same rfl) .nil))) .nil) hcallOk22 rfl (Taken.yes rfl rfl hg24)) rfl rfl ?_
             refine WH.val (O.det (fun _ => G.R.not rfl) rfl (Taken.yes rfl rfl hg24)) rfl rfl ?_
             refine WH.val (O.pick_f rfl hg24 rfl rfl Taken.no) rfl rfl ?_
             refine WH.nil ?_
             refine E.to ?_
             refine W.pick (.cons (t := 1) rfl (.cons (t := 3) rfl (.cons (t := 92) rfl .nil))) (.cons (t := 101) rfl (.cons (t := 102) rfl .nil)) ?_
             first | refine W.cond_d rfl (fun hc25 => ?_) (fun hc25 => ?_) | refine W.cond_nd rfl (fun hc25 => ?_) (fun hc25 => ?_) | refine W.cond rfl (fun hc25 => ?_) (fun hc25 => ?_)
             ·skip
              refine W.seq ?_
              refine W.region ?_
              refine SL.val (O.assign rfl rfl Taken.no) ?_
              refine SL.nil ?_
              refine E.to ?_
              refine W.ret ?_
              refine E.inr ?_
              refine E.thr ?_
              refine E.thr ?_
              refine E.inr ?_
              refine E.thr ?_
              refine E.fin (rs := [_]) (rn []) (.inl rfl) rfl (.cons (ResOne.tmp rfl) .nil) ?_ ?_ rfl (fixL_spec rfl)
              ·skip
               exact iv_bool (dec_f (fun h => by have h2 := h.2 k (by omega); unfold okN okO at h2; first | omega | exact absurd h2.1.2.2.2.2.2 (by first | assumption | simp_all)))
              · exact SubS.nil
             ·skip
              refine W.skip ?_
              refine E.inn ?_
              refine E.to ?_
              refine W.region ?_
              refine SL.val (O.move rfl rfl Taken.no) ?_
              refine SL.val (O.det (fun _ => by first | exact G.R.add64 rfl rfl (by omega) | exact G.R.add rfl rfl) rfl Taken.no) ?_
              refine SL.val (O.assign rfl rfl Taken.no) ?_
              refine SL.nil ?_
              refine E.again ((k + 1)) (rn []) ?_ ?_ rfl (fixL_spec rfl) ?_ ?_
              · exact (SubF.cons rfl (SubF.cons rfl SubF.nil))
              · exact (SubS.cons rfl SubS.nil)
              ·try dsimp only
               exact ⟨by omega, okN_step hp ⟨⟨by omega, by omega, by omega, by omega, by omega, by first | assumption | simp_all⟩, fun h0 => by omega⟩⟩
              · (try dsimp only); omega
            ·skip
             first | have hg24p := G.gA7 hg24 | have hg24p := G.gA8 hg24 | have hg24p := hg24
             refine WH.skip (OpOk.not rfl rfl rfl hg24) ?_
             refine WH.skip (OpOk.not rfl rfl rfl hg24) ?_
             refine WH.skip (OpOk.not rfl rfl rfl hg24) ?_
             refine WH.skip (OpOk.not rfl rfl rfl hg24) ?_
             refine WH.val (O.pick_t rfl (G.ne_f hg24) rfl rfl Taken.no) rfl rfl ?_
             refine WH.nil ?_
             refine E.to ?_
             refine W.pick (.cons (t := 1) rfl (.cons (t := 3) rfl (.cons (t := 92) rfl .nil))) (.cons (t := 101) rfl (.cons (t := 102) rfl .nil)) ?_
             refine W.cond_t rfl ?_
             refine W.seq ?_
             refine W.region ?_
             refine SL.val (O.assign rfl rfl Taken.no) ?_
             refine SL.nil ?_
             refine E.to ?_
             refine W.ret ?_
             refine E.inr ?_
             refine E.thr ?_
             refine E.thr ?_
             refine E.inr ?_
             refine E.thr ?_
             refine E.fin (rs := [_]) (rn []) (.inl rfl) rfl (.cons (ResOne.tmp rfl) .nil) ?_ ?_ rfl (fixL_spec rfl)
             ·skip
              exact iv_bool (dec_f (fun h => by have h2 := h.2 k (by omega); unfold okN okO at h2; first | omega | exact absurd h2.1.2.2.2.2.2 (by first | assumption | simp_all)))
             · exact SubS.nil
           ·skip
            first | have hg23p := G.gA7 hg23 | have hg23p := G.gA8 hg23 | have hg23p := hg23
            refine WH.skip (OpOk.not rfl rfl rfl hg23) ?_
            refine WH.skip (OpOk.not rfl rfl rfl hg23) ?_
            refine WH.skip (OpOk.not rfl rfl rfl hg23) ?_
            refine WH.skip (OpOk.not rfl rfl rfl hg23) ?_
            refine WH.skip (OpOk.not rfl rfl rfl hg23) ?_
            refine WH.val (O.pick_t rfl (G.ne_f hg23) rfl rfl Taken.no) rfl rfl ?_
            refine WH.val (O.move rfl rfl Taken.no) rfl rfl ?_
            have hg26 : true ≠ false := by decide
            refine WH.skip (OpOk.not rfl rfl rfl hg26) ?_
            refine WH.skip (OpOk.not rfl rfl rfl hg26) ?_
            refine WH.skip (OpOk.not rfl rfl rfl hg26) ?_
            refine WH.skip (OpOk.not rfl rfl rfl hg26) ?_
            refine WH.val (O.pick_t rfl rfl rfl rfl Taken.no) rfl rfl ?_
            refine WH.nil ?_
            refine E.to ?_
            refine W.pick (.cons (t := 1) rfl (.cons (t := 3) rfl (.cons (t := 92) rfl .nil))) (.cons (t := 101) rfl (.cons (t := 102) rfl .nil)) ?_
            refine W.cond_t rfl ?_
            refine W.seq ?_
            refine W.region ?_
            refine SL.val (O.assign rfl rfl Taken.no) ?_
            refine SL.nil ?_
            refine E.to ?_
            refine W.ret ?_
            refine E.inr ?_
            refine E.thr ?_
            refine E.thr ?_
            refine E.inr ?_
            refine E.thr ?_
            refine E.fin (rs := [_]) (rn []) (.inl rfl) rfl (.cons (ResOne.tmp rfl) .nil) ?_ ?_ rfl (fixL_spec rfl)
            ·skip
             exact iv_bool (dec_f (fun h => by have h2 := h.2 k (by omega); unfold okN okO at h2; first | omega | exact absurd h2.1.2.2.2.2.2 (by first | assumption | simp_all)))
            · exact SubS.nil
          ·skip
           first | have hg22p := G.gA7 hg22 | have hg22p := G.gA8 hg22 | have hg22p := hg22
           refine WH.skip (OpOk.not rfl rfl rfl hg22) ?_
           refine WH.skip (OpOk.not rfl rfl rfl hg22) ?_
           refine WH.skip (OpOk.not rfl rfl rfl hg22) ?_
           refine WH.val (O.pick_t rfl (G.ne_f hg22) rfl rfl Taken.no) rfl rfl ?_
           refine WH.val (O.move rfl rfl Taken.no) rfl rfl ?_
           have hg27 : true ≠ false := by decide
           refine WH.skip (OpOk.not rfl rfl rfl hg27) ?_
           refine WH.skip (OpOk.not rfl rfl rfl hg27) ?_
           refine WH.skip (OpOk.not rfl rfl rfl hg27) ?_
           refine WH.skip (OpOk.not rfl rfl rfl hg27) ?_
           refine WH.skip (OpOk.not rfl rfl rfl hg27) ?_
           refine WH.val (O.pick_t rfl rfl rfl rfl Taken.no) rfl rfl ?_
           refine WH.val (O.move rfl rfl Taken.no) rfl rfl ?_
           have hg28 : true ≠ false := by decide
           refine WH.skip (OpOk.not rfl rfl rfl hg28) ?_
           refine WH.skip (OpOk.not rfl rfl rfl hg28) ?_
           refine WH.skip (OpOk.not rfl rfl rfl hg28) ?_
           refine WH.skip (OpOk.not rfl rfl rfl hg28) ?_
           refine WH.val (O.pick_t rfl rfl rfl rfl Taken.no) rfl rfl ?_
           refine WH.nil ?_
           refine E.to ?_
           refine W.pick (.cons (t := 1) rfl (.cons (t := 3) rfl (.cons (t := 92) rfl .nil))) (.cons (t := 101) rfl (.cons (t := 102) rfl .nil)) ?_
           refine W.cond_t rfl ?_
           refine W.seq ?_
           refine W.region ?_
           refine SL.val (O.assign rfl rfl Taken.no) ?_
           refine SL.nil ?_
           refine E.to ?_
           refine W.ret ?_
           refine E.inr ?_
           refine E.thr ?_
           refine E.thr ?_
           refine E.inr ?_
           refine E.thr ?_
           refine E.fin (rs := [_]) (rn []) (.inl rfl) rfl (.cons (ResOne.tmp rfl) .nil) ?_ ?_ rfl (fixL_spec rfl)
           ·skip
            exact iv_bool (dec_f (fun h => by have h2 := h.2 k (by omega); unfold okN okO at h2; first | omega | exact absurd h2.1.2.2.2.2.2 (by first | assumption | simp_all)))
           · exact SubS.nil
        ·skip
         first | have hg8p := G.gA7 hg8 | have hg8p := G.gA8 hg8 | have hg8p := hg8
         refine WH.skip (OpOk.not rfl rfl rfl hg8) ?_
         refine WH.skip (OpOk.not rfl rfl rfl hg8) ?_
         refine WH.skip (OpOk.not rfl rfl rfl hg8) ?_
         refine WH.skip (OpOk.not2 rfl rfl rfl) ?_
         refine WH.skip (OpOk.not2 rfl rfl rfl) ?_
         refine WH.skip (OpOk.not2 rfl rfl rfl) ?_
         refine WH.skip (OpOk.not2 rfl rfl rfl) ?_
         refine WH.skip (OpOk.not2 rfl rfl rfl) ?_
         refine WH.skip (OpOk.not2 rfl rfl rfl) ?_
         refine WH.skip (OpOk.not2 rfl rfl rfl) ?_
         refine WH.skip (OpOk.not2 rfl rfl rfl) ?_
         refine WH.skip (OpOk.not2 rfl rfl rfl) ?_
         refine WH.skip (OpOk.not2 rfl rfl rfl) ?_
         refine WH.skip (OpOk.not rfl rfl rfl hg8) ?_
         refine WH.val (O.pick_t rfl (G.ne_f hg8) rfl rfl Taken.no) rfl rfl ?_
         refine WH.val (O.move rfl rfl Taken.no) rfl rfl ?_
         have hg29 : true ≠ false := by decide
         refine WH.skip (OpOk.not rfl rfl rfl hg29) ?_
         refine WH.skip (OpOk.not rfl rfl rfl hg29) ?_
         refine WH.skip (OpOk.not rfl rfl rfl hg29) ?_
         refine WH.skip (OpOk.not rfl rfl rfl hg29) ?_
         refine WH.skip (OpOk.not rfl rfl rfl hg29) ?_
         refine WH.skip (OpOk.not rfl rfl rfl hg29) ?_
         refine WH.val (O.pick_t rfl rfl rfl rfl Taken.no) rfl rfl ?_
         refine WH.val (O.move rfl rfl Taken.no) rfl rfl ?_
         have hg30 : true ≠ false := by decide
         refine WH.skip (OpOk.not rfl rfl rfl hg30) ?_
         refine WH.skip (OpOk.not rfl rfl rfl hg30) ?_
         refine WH.skip (OpOk.not rfl rfl rfl hg30) ?_
         refine WH.val (O.pick_t rfl rfl rfl rfl Taken.no) rfl rfl ?_
         refine WH.val (O.move rfl rfl Taken.no) rfl rfl ?_
         have hg31 : true ≠ false := by decide
         refine WH.skip (OpOk.not rfl rfl rfl hg31) ?_
         refine WH.skip (OpOk.not rfl rfl rfl hg31) ?_
         refine WH.skip (OpOk.not rfl rfl rfl hg31) ?_
         refine WH.skip (OpOk.not rfl rfl rfl hg31) ?_
         refine WH.skip (OpOk.not rfl rfl rfl hg31) ?_
         refine WH.val (O.pick_t rfl rfl rfl rfl Taken.no) rfl rfl ?_
         refine WH.val (O.move rfl rfl Taken.no) rfl rfl ?_
         have hg32 : true ≠ false := by decide
         refine WH.skip (OpOk.not rfl rfl rfl hg32) ?_
         refine WH.skip (OpOk.not rfl rfl rfl hg32) ?_
         refine WH.skip (OpOk.not rfl rfl rfl hg32) ?_
         refine WH.skip (OpOk.not rfl rfl rfl hg32) ?_
         refine WH.val (O.pick_t rfl rfl rfl rfl Taken.no) rfl rfl ?_
         refine WH.nil ?_
         refine E.to ?_
         refine W.pick (.cons (t := 1) rfl (.cons (t := 3) rfl (.cons (t := 92) rfl .nil))) (.cons (t := 101) rfl (.cons (t := 102) rfl .nil)) ?_
         refine W.cond_t rfl ?_
         refine W.seq ?_
         refine W.region ?_
         refine SL.val (O.assign rfl rfl Taken.no) ?_
         refine SL.nil ?_
         refine E.to ?_
         refine W.ret ?_
         refine E.inr ?_
         refine E.thr ?_
         refine E.thr ?_
         refine E.inr ?_
         refine E.thr ?_
         refine E.fin (rs := [_]) (rn []) (.inl rfl) rfl (.cons (ResOne.tmp rfl) .nil) ?_ ?_ rfl (fixL_spec rfl)
         ·skip
          exact iv_bool (dec_f (fun h => by have h2 := h.2 k (by omega); unfold okN okO at h2; first | omega | exact absurd h2.1.2.2.2.2.2 (by first | assumption | simp_all)))
         · exact SubS.nil
       ·skip
        first | have hg7p := G.gA7 hg7 | have hg7p := G.gA8 hg7 | have hg7p := hg7
        refine WH.skip (OpOk.not rfl rfl rfl hg7) ?_
        refine WH.skip (OpOk.not rfl rfl rfl hg7) ?_
        refine WH.skip (OpOk.not rfl rfl rfl hg7) ?_
        refine WH.skip (OpOk.not rfl rfl rfl hg7) ?_
        refine WH.skip (OpOk.not rfl rfl rfl hg7) ?_
        refine WH.val (O.pick_t rfl (G.ne_f hg7) rfl rfl Taken.no) rfl rfl ?_
        refine WH.val (O.move rfl rfl Taken.no) rfl rfl ?_
        have hg33 : true ≠ false := by decide
        refine WH.skip (OpOk.not rfl rfl rfl hg33) ?_
        refine WH.skip (OpOk.not rfl rfl rfl hg33) ?_
        refine WH.skip (OpOk.not rfl rfl rfl hg33) ?_
        refine WH.skip (OpOk.not2 rfl rfl rfl) ?_
        refine WH.skip (OpOk.not2 rfl rfl rfl) ?_
        refine WH.skip (OpOk.not2 rfl rfl rfl) ?_
        refine WH.skip (OpOk.not2 rfl rfl rfl) ?_
        refine WH.skip (OpOk.not2 rfl rfl rfl) ?_
        refine WH.skip (OpOk.not2 rfl rfl rfl) ?_
        refine WH.skip (OpOk.not2 rfl rfl rfl) ?_
        refine WH.skip (OpOk.not2 rfl rfl rfl) ?_
        refine WH.skip (OpOk.not2 rfl rfl rfl) ?_
        refine WH.skip (OpOk.not2 rfl rfl rfl) ?_
        refine WH.skip (OpOk.not rfl rfl rfl hg33) ?_
        refine WH.val (O.pick_t rfl rfl rfl rfl Taken.no) rfl rfl ?_
        refine WH.val (O.move rfl rfl Taken.no) rfl rfl ?_
        have hg34 : true ≠ false := by decide
        refine WH.skip (OpOk.not rfl rfl rfl hg34) ?_
        refine WH.skip (OpOk.not rfl rfl rfl hg34) ?_
        refine WH.skip (OpOk.not rfl rfl rfl hg34) ?_
        refine WH.skip (OpOk.not rfl rfl rfl hg34) ?_
        refine WH.skip (OpOk.not rfl rfl rfl hg34) ?_
        refine WH.skip (OpOk.not rfl rfl rfl hg34) ?_
        refine WH.val (O.pick_t rfl rfl rfl rfl Taken.no) rfl rfl ?_
        refine WH.val (O.move rfl rfl Taken.no) rfl rfl ?_
        have hg35 : true ≠ false := by decide
        refine WH.skip (OpOk.not rfl rfl rfl hg35) ?_
        refine WH.skip (OpOk.not rfl rfl rfl hg35) ?_
        refine WH.skip (OpOk.not rfl rfl rfl hg35) ?_
        refine WH.val (O.pick_t rfl rfl rfl rfl Taken.no) rfl rfl ?_
        refine WH.val (O.move rfl rfl Taken.no) rfl rfl ?_
        have hg36 : true ≠ false := by decide
        refine WH.skip (OpOk.not rfl rfl rfl hg36) ?_
        refine WH.skip (OpOk.not rfl rfl rfl hg36) ?_
        refine WH.skip (OpOk.not rfl rfl rfl hg36) ?_
        refine WH.skip (OpOk.not rfl rfl rfl hg36) ?_
        refine WH.skip (OpOk.not rfl rfl rfl hg36) ?_
        refine WH.val (O.pick_t rfl rfl rfl rfl Taken.no) rfl rfl ?_
        refine WH.val (O.move rfl rfl Taken.no) rfl rfl ?_
        have hg37 : true ≠ false := by decide
        refine WH.skip (OpOk.not rfl rfl rfl hg37) ?_
        refine WH.skip (OpOk.not rfl rfl rfl hg37) ?_
        refine WH.skip (OpOk.not rfl rfl rfl hg37) ?_
        refine WH.skip (OpOk.not rfl rfl rfl hg37) ?_
        refine WH.val (O.pick_t rfl rfl rfl rfl Taken.no) rfl rfl ?_
        refine WH.nil ?_
        refine E.to ?_
        refine W.pick (.cons (t := 1) rfl (.cons (t := 3) rfl (.cons (t := 92) rfl .nil))) (.cons (t := 101) rfl (.cons (t := 102) rfl .nil)) ?_
        refine W.cond_t rfl ?_
        refine W.seq ?_
        refine W.region ?_
        refine SL.val (O.assign rfl rfl Taken.no) ?_
        refine SL.nil ?_
        refine E.to ?_
        refine W.ret ?_
        refine E.inr ?_
        refine E.thr ?_
        refine E.thr ?_
        refine E.inr ?_
        refine E.thr ?_
        refine E.fin (rs := [_]) (rn []) (.inl rfl) rfl (.cons (ResOne.tmp rfl) .nil) ?_ ?_ rfl (fixL_spec rfl)
        ·skip
         exact iv_bool (dec_f (fun h => by have h2 := h.2 k (by omega); unfold okN okO at h2; first | omega | exact absurd h2.1.2.2.2.2.2 (by first | assumption | simp_all)))
        · exact SubS.nil
      ·skip
       refine W.exit ?_
       refine E.th ?_
       refine E.th ?_
       refine E.hit ?_
       refine E.to ?_
       refine W.seq ?_
       refine W.region ?_
       refine SL.val (O.assign rfl rfl Taken.no) ?_
       refine SL.nil ?_
       refine E.to ?_
       refine W.ret ?_
       refine E.fin (rs := [_]) (rn []) (.inl rfl) rfl (.cons (ResOne.tmp rfl) .nil) ?_ ?_ rfl (fixL_spec rfl)
       ·skip
        exact iv_bool (dec_t ⟨hr, fun j hj => hp j (by omega)⟩)
       · exact SubS.nil
    ·skip
     first | have hg4p := G.gA7 hg4 | have hg4p := G.gA8 hg4 | have hg4p := hg4
     refine SL.skip (OpOk.not rfl rfl rfl hg4) ?_
     refine SL.skip (OpOk.not rfl rfl rfl hg4) ?_
     refine SL.skip (OpOk.not rfl rfl rfl hg4) ?_
     refine SL.skip (OpOk.not rfl rfl rfl hg4) ?_
     refine SL.val (O.pick_t rfl (G.ne_f hg4) rfl rfl Taken.no) ?_
     refine SL.nil ?_
     refine E.to ?_
     refine W.pick (.cons (t := 1) rfl (.cons (t := 2) rfl (.cons (t := 28) rfl .nil))) (.cons (t := 101) rfl .nil) ?_
     refine W.cond_t rfl ?_
     refine W.seq ?_
     refine W.region ?_
     refine SL.val (O.assign rfl rfl Taken.no) ?_
     refine SL.nil ?_
     refine E.to ?_
     refine W.ret ?_
     refine E.thr ?_
     refine E.fin (rs := [_]) (rn []) (.inl rfl) rfl (.cons (ResOne.tmp rfl) .nil) ?_ ?_ rfl (fixL_spec rfl)
     ·skip
      exact iv_bool (dec_f (fun h => by have := h.1; omega))
     · exact SubS.nil
   ·skip
    first | have hg3p := G.gA7 hg3 | have hg3p := G.gA8 hg3 | have hg3p := hg3
    refine SL.skip (OpOk.not rfl rfl rfl hg3) ?_
    refine SL.skip (OpOk.not rfl rfl rfl hg3) ?_
    refine SL.skip (OpOk.not rfl rfl rfl hg3) ?_
    refine SL.val (O.pick_t rfl (G.ne_f hg3) rfl rfl Taken.no) ?_
    refine SL.val (O.move rfl rfl Taken.no) ?_
    have hg38 : true ≠ false := by decide
    refine SL.skip (OpOk.not rfl rfl rfl hg38) ?_
    refine SL.skip (OpOk.not rfl rfl rfl hg38) ?_
    refine SL.skip (OpOk.not rfl rfl rfl hg38) ?_
    refine SL.skip (OpOk.not rfl rfl rfl hg38) ?_
    refine SL.val (O.pick_t rfl rfl rfl rfl Taken.no) ?_
    refine SL.nil ?_
    refine E.to ?_
    refine W.pick (.cons (t := 1) rfl (.cons (t := 2) rfl (.cons (t := 28) rfl .nil))) (.cons (t := 101) rfl .nil) ?_
    refine W.cond_t rfl ?_
    refine W.seq ?_
    refine W.region ?_
    refine SL.val (O.assign rfl rfl Taken.no) ?_
    refine SL.nil ?_
    refine E.to ?_
    refine W.ret ?_
    refine E.thr ?_
    refine E.fin (rs := [_]) (rn []) (.inl rfl) rfl (.cons (ResOne.tmp rfl) .nil) ?_ ?_ rfl (fixL_spec rfl)
    ·skip
     exact iv_bool (dec_f (fun h => by have := h.1; omega))
    · exact SubS.nil
  ·skip
   first | have hg2p := G.gA7 hg2 | have hg2p := G.gA8 hg2 | have hg2p := hg2
   refine SL.skip (OpOk.not rfl rfl rfl hg2) ?_
   refine SL.skip (OpOk.not rfl rfl rfl hg2) ?_
   refine SL.skip (OpOk.not rfl rfl rfl hg2) ?_
   refine SL.val (O.pick_t rfl (G.ne_f hg2) rfl rfl Taken.no) ?_
   refine SL.val (O.move rfl rfl Taken.no) ?_
   have hg39 : true ≠ false := by decide
   refine SL.skip (OpOk.not rfl rfl rfl hg39) ?_
   refine SL.skip (OpOk.not rfl rfl rfl hg39) ?_
   refine SL.skip (OpOk.not rfl rfl rfl hg39) ?_
   refine SL.val (O.pick_t rfl rfl rfl rfl Taken.no) ?_
   refine SL.val (O.move rfl rfl Taken.no) ?_
   have hg40 : true ≠ false := by decide
   refine SL.skip (OpOk.not rfl rfl rfl hg40) ?_
   refine SL.skip (OpOk.not rfl rfl rfl hg40) ?_
   refine SL.skip (OpOk.not rfl rfl rfl hg40) ?_
   refine SL.skip (OpOk.not rfl rfl rfl hg40) ?_
   refine SL.val (O.pick_t rfl rfl rfl rfl Taken.no) ?_
   refine SL.nil ?_
   refine E.to ?_
   refine W.pick (.cons (t := 1) rfl (.cons (t := 2) rfl (.cons (t := 28) rfl .nil))) (.cons (t := 101) rfl .nil) ?_
   refine W.cond_t rfl ?_
   refine W.seq ?_
   refine W.region ?_
   refine SL.val (O.assign rfl rfl Taken.no) ?_
   refine SL.nil ?_
   refine E.to ?_
   refine W.ret ?_
   refine E.thr ?_
   refine E.fin (rs := [_]) (rn []) (.inl rfl) rfl (.cons (ResOne.tmp rfl) .nil) ?_ ?_ rfl (fixL_spec rfl)
   ·skip
    exact iv_bool (dec_f (fun h => by have := h.1; omega))
   · exact SubS.nil
 ·skip
  first | have hg1p := G.gA7 hg1 | have hg1p := G.gA8 hg1 | have hg1p := hg1
  refine SL.skip (OpOk.not rfl rfl rfl hg1) ?_
  refine SL.skip (OpOk.not rfl rfl rfl hg1) ?_
  refine SL.skip (OpOk.not rfl rfl rfl hg1) ?_
  refine SL.val (O.pick_t rfl (G.ne_f hg1) rfl rfl Taken.no) ?_
  refine SL.val (O.move rfl rfl Taken.no) ?_
  have hg41 : true ≠ false := by decide
  refine SL.skip (OpOk.not rfl rfl rfl hg41) ?_
  refine SL.skip (OpOk.not rfl rfl rfl hg41) ?_
  refine SL.skip (OpOk.not rfl rfl rfl hg41) ?_
  refine SL.val (O.pick_t rfl rfl rfl rfl Taken.no) ?_
  refine SL.val (O.move rfl rfl Taken.no) ?_
  have hg42 : true ≠ false := by decide
  refine SL.skip (OpOk.not rfl rfl rfl hg42) ?_
  refine SL.skip (OpOk.not rfl rfl rfl hg42) ?_
  refine SL.skip (OpOk.not rfl rfl rfl hg42) ?_
  refine SL.val (O.pick_t rfl rfl rfl rfl Taken.no) ?_
  refine SL.val (O.move rfl rfl Taken.no) ?_
  have hg43 : true ≠ false := by decide
  refine SL.skip (OpOk.not rfl rfl rfl hg43) ?_
  refine SL.skip (OpOk.not rfl rfl rfl hg43) ?_
  refine SL.skip (OpOk.not rfl rfl rfl hg43) ?_
  refine SL.skip (OpOk.not rfl rfl rfl hg43) ?_
  refine SL.val (O.pick_t rfl rfl rfl rfl Taken.no) ?_
  refine SL.nil ?_
  refine E.to ?_
  refine W.pick (.cons (t := 1) rfl (.cons (t := 2) rfl (.cons (t := 28) rfl .nil))) (.cons (t := 101) rfl .nil) ?_
  refine W.cond_t rfl ?_
  refine W.seq ?_
  refine W.region ?_
  refine SL.val (O.assign rfl rfl Taken.no) ?_
  refine SL.nil ?_
  refine E.to ?_
  refine W.ret ?_
  refine E.thr ?_
  refine E.fin (rs := [_]) (rn []) (.inl rfl) rfl (.cons (ResOne.tmp rfl) .nil) ?_ ?_ rfl (fixL_spec rfl)
  ·skip
   exact iv_bool (dec_f (fun h => by have := h.1; omega))
  · exact SubS.nil

set_option maxRecDepth 8000 in
/-- bookplate/session.proceed. -/
theorem proceed_h {st : Store} {now : Int} :
    Con Try.prog 57 [vA [uI st.next, uI st.time, .sl 4 (st.opn.map eO)], vI now] [] (.tup [.agg [vI (prcN st now), vI (prcT st now), .own 0], vB (decide (right st now))]) [(0, .data 119 4 ((prcQ st now).map eO))] := by
 refine Con.enterL (n := 29) Try.func57 rfl rfl rfl (fun τ w ok vs hin => ?_)
 have hl0_2 := hin.lenA (i := 0) (j := 2) rfl rfl
 try rw [List.length_map] at hl0_2
 clear hin
 refine W.seq ?_
 refine W.region ?_
 refine SL.memS (O.box (is := [_, _, _]) 101 rfl rfl (by simp) rfl rfl Taken.no) rfl rfl (S' := (101, _) :: _) rfl ?_
 refine SL.memS (O.box (is := [_]) 102 rfl rfl (by simp) rfl rfl Taken.no) rfl rfl (S' := (102, _) :: _) rfl ?_
 refine SL.memS (O.alloc (z := .agg #[.int .i64 0, .int .i64 0, .slice none 0 0]) (is := [.u (.sc (.int .i64 0)), .u (.sc (.int .i64 0)), .u (.sc (.slice none 0 0))]) 103 (by kernel_rfl) rfl rfl rfl Taken.no) rfl rfl (S' := (103, _) :: _) rfl ?_
 refine SL.val (O.assign rfl rfl Taken.no) ?_
 refine SL.nil ?_
 refine E.to ?_
 refine W.seq ?_
 refine W.seq ?_
 refine W.region ?_
 refine SL.val (O.ldN (m := 3) (PtI.ref rfl rfl) (js := [_, _, _]) rfl (Nat.le_of_ble_eq_true rfl) Try.underlying73 rfl (by kernel_rfl) rfl Taken.no) ?_
 refine SL.val (O.callp rfl rfl rfl (validStore_h (st := st)) (.cons (ArgOk.aggU (.cons (ArgOk.same rfl) (.cons (ArgOk.same rfl) (.cons (ArgOk.same rfl) .nil)))) .nil) hcallOk42 rfl Taken.no) ?_
 refine SL.val (O.det (fun _ => G.R.not rfl) rfl Taken.no) ?_
 refine SL.val (O.move rfl rfl Taken.no) ?_
 refine SL.case (j := 3) (g := 9) (want := false) rfl rfl (fun hg1 => ?_) (fun hg1 => ?_)
 ·skip
  first | have hg1p := G.gA3 hg1 | have hg1p := G.gA4 hg1 | have hg1p := hg1
  refine SL.val (O.ld1 (PtI.ref rfl rfl) rfl Try.underlying3 rfl rfl (Taken.yes rfl rfl hg1)) ?_
  refine SL.val (O.fld_ref (o' := 1) rfl Try.underlying73 rfl (m := 0) (by kernel_rfl) rfl rfl (Taken.yes rfl rfl hg1)) ?_
  refine SL.val (O.ld1 (PtI.ref rfl rfl) rfl Try.underlying3 rfl rfl (Taken.yes rfl rfl hg1)) ?_
  refine SL.val (O.det (fun _ => G.R.lss rfl rfl) rfl (Taken.yes rfl rfl hg1)) ?_
  refine SL.val (O.pick_f rfl hg1 rfl rfl Taken.no) ?_
  refine SL.val (O.move rfl rfl Taken.no) ?_
  refine SL.case (j := 9) (g := 15) (want := false) rfl rfl (fun hg2 => ?_) (fun hg2 => ?_)
  ·skip
   first | have hg2p := G.gA3 hg2 | have hg2p := G.gA4 hg2 | have hg2p := hg2
   refine SL.val (O.ld1 (PtI.ref rfl rfl) rfl Try.underlying3 rfl rfl (Taken.yes rfl rfl hg2)) ?_
   refine SL.val (O.det (fun _ => G.R.gtr rfl rfl) rfl (Taken.yes rfl rfl hg2)) ?_
   refine SL.val (O.pick_f rfl hg2 rfl rfl Taken.no) ?_
   refine SL.nil ?_
   refine E.to ?_
   first | refine W.cond_d rfl (fun hc3 => ?_) (fun hc3 => ?_) | refine W.cond_nd rfl (fun hc3 => ?_) (fun hc3 => ?_) | refine W.cond rfl (fun hc3 => ?_) (fun hc3 => ?_)
   ·skip
    refine W.seq ?_
    refine W.region ?_
    refine SL.val (O.build (res := [_, _, _]) (z := .agg #[.int .i64 0, .int .i64 0, .slice none 0 0]) (places := [(0, 1), (1, 1), (2, 1)]) rfl rfl Try.underlying73 (by kernel_rfl) (fun _ => by kernel_rfl) rfl rfl Taken.no) ?_
    refine SL.effS (O.st_ref (m := 3) rfl rfl rfl (js := [_, _, _]) rfl rfl (by kernel_rfl) (by simp) (Nat.le_of_ble_eq_true rfl) rfl (is' := [_, _, _]) rfl Taken.no) (S' := (103, _) :: _) rfl ?_
    refine SL.val (O.assign rfl rfl Taken.no) ?_
    refine SL.nil ?_
    refine E.to ?_
    refine W.ret ?_
    refine E.thr ?_
    refine E.adoptC 103 2 104 119 4 (is' := [_, _, _]) (by decide) rfl rfl rfl rfl rfl ?_
    refine E.fin (rs := [_, _]) (rn [(0, 104)]) (.inl rfl) rfl (.cons (ResOne.cellN (m := 3) (PtI.ref rfl rfl) (js := [_, _, _]) rfl (Nat.le_of_ble_eq_true rfl) Try.underlying73 rfl (by kernel_rfl)) (.cons (ResOne.tmp rfl) .nil)) ?_ ?_ rfl (fixL_spec rfl)
    ·skip
     have hn : ¬ right st now := fun h => by obtain ⟨a, b, c⟩ := h; first | omega | exact absurd a (by first | assumption | simp_all) | simp_all
     rw [(prc_n hn).2.1, (prc_n hn).2.2, decide_eq_false hn]; rfl
    · exact (SubS.val rfl (by rw [(prc_n (by first | assumption | exact fun h => by obtain ⟨a, b, c⟩ := h; first | omega | simp_all)).1]; rfl) SubS.nil)
   ·skip
    have hy : right st now := by first | exact ⟨by first | assumption | simp_all, by omega, by omega⟩ | (unfold right; simp_all <;> omega)
    have h50 := hy.1.1
    have hr2 := hy.2
    refine W.skip ?_
    refine E.to ?_
    refine W.seq ?_
    refine W.region ?_
    refine SL.val (O.ld1 (PtI.ref rfl rfl) rfl Try.underlying3 rfl rfl Taken.no) ?_
    refine SL.val (O.fld_ref (o' := 1) rfl Try.underlying73 rfl (m := 0) (by kernel_rfl) rfl rfl Taken.no) ?_
    refine SL.effS (O.st_ref (m := 1) rfl rfl rfl (js := [_]) rfl rfl (by kernel_rfl) (by simp) (Nat.le_of_ble_eq_true rfl) rfl (is' := [_, _, _]) rfl Taken.no) (S' := (101, _) :: _) rfl ?_
    refine SL.nil ?_
    refine E.to ?_
    refine W.seq ?_
    refine W.region ?_
    refine SL.val (O.fld_ref (o' := 2) rfl Try.underlying73 rfl (m := 0) (by kernel_rfl) rfl rfl Taken.no) ?_
    refine SL.val (O.ld1 (PtI.ref rfl rfl) rfl Try.underlying71 rfl rfl Taken.no) ?_
    refine SL.memS (O.call (rn [(0, 105)]) [] rfl rfl rfl (cloneO (l := st.opn) (by omega)) (.cons (ArgOk.same rfl) .nil) SubS.nil rfl rfl rfl rfl rfl (.inl rfl) hcallOk66 (r' := .own 105) rfl rfl Taken.no) rfl rfl (S' := (105, .data _ _ _) :: _) rfl ?_
    refine SL.val (O.makeFunc rfl rfl rfl Taken.no) ?_
    refine SL.freezeP [_] 102 rfl rfl (F' := [(3, _), (25, _)]) (⟨⟨_, rfl, rfl⟩, ⟨_, rfl, rfl⟩, trivial⟩) ?_
    refine SL.memS (O.call (rn [(0, 105), (1, 106)]) [] rfl rfl rfl (deleteFuncO (q := st.opn) (pr := fun x => decide (x.used < now - 30)) (f := 67) (caps := [.ptr [uI now]]) hcallOk67 (fun x => proceed1_h (by omega)) (by omega)) (.cons (ArgOk.same rfl) (.cons (ArgOk.cloU .nil (.cons (ArgOk.same rfl) .nil)) .nil)) (SubS.cons rfl SubS.nil) rfl rfl rfl rfl rfl (.inl rfl) hcallOk65 (r' := .own 106) rfl rfl Taken.no) rfl rfl (S' := (106, .data _ _ _) :: (105, .dead) :: _) rfl ?_
    refine SL.val (O.fld_ref (o' := 2) rfl Try.underlying73 rfl (m := 0) (by kernel_rfl) rfl rfl Taken.no) ?_
    refine SL.effS (O.st_ref (m := 1) rfl rfl rfl (js := [_]) rfl rfl (by kernel_rfl) (by simp) (Nat.le_of_ble_eq_true rfl) rfl (is' := [_, _, _]) rfl Taken.no) (S' := (101, _) :: _) rfl ?_
    refine SL.nil ?_
    refine E.to ?_
    refine W.pick (.cons (t := 2) rfl (.cons (t := 4) rfl (.cons (t := 5) rfl .nil))) (.cons (t := 101) rfl (.cons (t := 103) rfl (.cons (t := 106) rfl .nil))) ?_
    refine W.seq ?_
    refine W.region ?_
    refine SL.val (O.ldN (m := 3) (PtI.ref rfl rfl) (js := [_, _, _]) rfl (Nat.le_of_ble_eq_true rfl) Try.underlying73 rfl (by kernel_rfl) rfl Taken.no) ?_
    refine SL.effS (O.st_ref (m := 3) rfl rfl rfl (js := [_, _, _]) rfl rfl (by kernel_rfl) (by simp) (Nat.le_of_ble_eq_true rfl) rfl (is' := [_, _, _]) rfl Taken.no) (S' := (103, _) :: _) rfl ?_
    refine SL.val (O.assign rfl rfl Taken.no) ?_
    refine SL.nil ?_
    refine E.to ?_
    refine W.ret ?_
    refine E.fin (rs := [_, _]) (rn [(0, 106)]) (.inl rfl) rfl (.cons (ResOne.cellN (m := 3) (PtI.ref rfl rfl) (js := [_, _, _]) rfl (Nat.le_of_ble_eq_true rfl) Try.underlying73 rfl (by kernel_rfl)) (.cons (ResOne.tmp rfl) .nil)) ?_ ?_ rfl (fixL_spec rfl)
    ·skip
     rw [(prc_y hy).2.1, (prc_y hy).2.2, decide_eq_true hy]; rfl
    · exact (SubS.val rfl (by rw [(prc_y hy).1, later_filter]; rfl) SubS.nil)
  ·skip
   first | have hg2p := G.gA7 hg2 | have hg2p := G.gA8 hg2 | have hg2p := hg2
   refine SL.skip (OpOk.not rfl rfl rfl hg2) ?_
   refine SL.skip (OpOk.not rfl rfl rfl hg2) ?_
   refine SL.val (O.pick_t rfl (G.ne_f hg2) rfl rfl Taken.no) ?_
   refine SL.nil ?_
   refine E.to ?_
   refine W.cond_t rfl ?_
   refine W.seq ?_
   refine W.region ?_
   refine SL.val (O.build (res := [_, _, _]) (z := .agg #[.int .i64 0, .int .i64 0, .slice none 0 0]) (places := [(0, 1), (1, 1), (2, 1)]) rfl rfl Try.underlying73 (by kernel_rfl) (fun _ => by kernel_rfl) rfl rfl Taken.no) ?_
   refine SL.effS (O.st_ref (m := 3) rfl rfl rfl (js := [_, _, _]) rfl rfl (by kernel_rfl) (by simp) (Nat.le_of_ble_eq_true rfl) rfl (is' := [_, _, _]) rfl Taken.no) (S' := (103, _) :: _) rfl ?_
   refine SL.val (O.assign rfl rfl Taken.no) ?_
   refine SL.nil ?_
   refine E.to ?_
   refine W.ret ?_
   refine E.thr ?_
   refine E.adoptC 103 2 107 119 4 (is' := [_, _, _]) (by decide) rfl rfl rfl rfl rfl ?_
   refine E.fin (rs := [_, _]) (rn [(0, 107)]) (.inl rfl) rfl (.cons (ResOne.cellN (m := 3) (PtI.ref rfl rfl) (js := [_, _, _]) rfl (Nat.le_of_ble_eq_true rfl) Try.underlying73 rfl (by kernel_rfl)) (.cons (ResOne.tmp rfl) .nil)) ?_ ?_ rfl (fixL_spec rfl)
   ·skip
    have hn : ¬ right st now := fun h => by obtain ⟨a, b, c⟩ := h; first | omega | exact absurd a (by first | assumption | simp_all) | simp_all
    rw [(prc_n hn).2.1, (prc_n hn).2.2, decide_eq_false hn]; rfl
   · exact (SubS.val rfl (by rw [(prc_n (by first | assumption | exact fun h => by obtain ⟨a, b, c⟩ := h; first | omega | simp_all)).1]; rfl) SubS.nil)
 ·skip
  first | have hg1p := G.gA7 hg1 | have hg1p := G.gA8 hg1 | have hg1p := hg1
  refine SL.skip (OpOk.not rfl rfl rfl hg1) ?_
  refine SL.skip (OpOk.not rfl rfl rfl hg1) ?_
  refine SL.skip (OpOk.not rfl rfl rfl hg1) ?_
  refine SL.skip (OpOk.not rfl rfl rfl hg1) ?_
  refine SL.val (O.pick_t rfl (G.ne_f hg1) rfl rfl Taken.no) ?_
  refine SL.val (O.move rfl rfl Taken.no) ?_
  have hg4 : true ≠ false := by decide
  refine SL.skip (OpOk.not rfl rfl rfl hg4) ?_
  refine SL.skip (OpOk.not rfl rfl rfl hg4) ?_
  refine SL.val (O.pick_t rfl rfl rfl rfl Taken.no) ?_
  refine SL.nil ?_
  refine E.to ?_
  refine W.cond_t rfl ?_
  refine W.seq ?_
  refine W.region ?_
  refine SL.val (O.build (res := [_, _, _]) (z := .agg #[.int .i64 0, .int .i64 0, .slice none 0 0]) (places := [(0, 1), (1, 1), (2, 1)]) rfl rfl Try.underlying73 (by kernel_rfl) (fun _ => by kernel_rfl) rfl rfl Taken.no) ?_
  refine SL.effS (O.st_ref (m := 3) rfl rfl rfl (js := [_, _, _]) rfl rfl (by kernel_rfl) (by simp) (Nat.le_of_ble_eq_true rfl) rfl (is' := [_, _, _]) rfl Taken.no) (S' := (103, _) :: _) rfl ?_
  refine SL.val (O.assign rfl rfl Taken.no) ?_
  refine SL.nil ?_
  refine E.to ?_
  refine W.ret ?_
  refine E.thr ?_
  refine E.adoptC 103 2 108 119 4 (is' := [_, _, _]) (by decide) rfl rfl rfl rfl rfl ?_
  refine E.fin (rs := [_, _]) (rn [(0, 108)]) (.inl rfl) rfl (.cons (ResOne.cellN (m := 3) (PtI.ref rfl rfl) (js := [_, _, _]) rfl (Nat.le_of_ble_eq_true rfl) Try.underlying73 rfl (by kernel_rfl)) (.cons (ResOne.tmp rfl) .nil)) ?_ ?_ rfl (fixL_spec rfl)
  ·skip
   have hn : ¬ right st now := fun h => by obtain ⟨a, b, c⟩ := h; first | omega | exact absurd a (by first | assumption | simp_all) | simp_all
   rw [(prc_n hn).2.1, (prc_n hn).2.2, decide_eq_false hn]; rfl
  · exact (SubS.val rfl (by rw [(prc_n (by first | assumption | exact fun h => by obtain ⟨a, b, c⟩ := h; first | omega | simp_all)).1]; rfl) SubS.nil)

set_option maxRecDepth 8000 in
/-- bookplate/bookplateref51.right. -/
theorem right_h {st : Store} {now : Int} :
    Con Try.prog 55 [vA [uI st.next, uI st.time, .sl 4 (st.opn.map eO)], vI now] [] (vB (decide (right st now))) [] := by
 refine Con.enterL (n := 17) Try.func55 rfl rfl rfl (fun τ w ok vs hin => ?_)
 have hl0_2 := hin.lenA (i := 0) (j := 2) rfl rfl
 try rw [List.length_map] at hl0_2
 clear hin
 refine W.seq ?_
 refine W.region ?_
 refine SL.memS (O.box (is := [_, _, _]) 101 rfl rfl (by simp) rfl rfl Taken.no) rfl rfl (S' := (101, _) :: _) rfl ?_
 refine SL.val (O.assign rfl rfl Taken.no) ?_
 refine SL.nil ?_
 refine E.to ?_
 refine W.seq ?_
 refine W.region ?_
 refine SL.val (O.ldN (m := 3) (PtI.ref rfl rfl) (js := [_, _, _]) rfl (Nat.le_of_ble_eq_true rfl) Try.underlying77 rfl (by kernel_rfl) rfl Taken.no) ?_
 refine SL.val (O.callp rfl rfl rfl (refValidStore_h (st := st)) (.cons (ArgOk.aggU (.cons (ArgOk.same rfl) (.cons (ArgOk.same rfl) (.cons (ArgOk.same rfl) .nil)))) .nil) hcallOk49 rfl Taken.no) ?_
 refine SL.val (O.move rfl rfl Taken.no) ?_
 refine SL.case (j := 2) (g := 7) (want := true) rfl rfl (fun hg1 => ?_) (fun hg1 => ?_)
 ·skip
  first | have hg1p := G.gA1 hg1 | have hg1p := G.gA2 hg1 | have hg1p := hg1
  refine SL.val (O.move rfl rfl (Taken.yes rfl rfl hg1)) ?_
  refine SL.val (O.fld_ref (o' := 1) rfl Try.underlying77 rfl (m := 0) (by kernel_rfl) rfl rfl (Taken.yes rfl rfl hg1)) ?_
  refine SL.val (O.ld1 (PtI.ref rfl rfl) rfl Try.underlying3 rfl rfl (Taken.yes rfl rfl hg1)) ?_
  refine SL.val (O.det (fun _ => G.R.geq rfl rfl) rfl (Taken.yes rfl rfl hg1)) ?_
  refine SL.val (O.pick_t rfl hg1 rfl rfl Taken.no) ?_
  refine SL.val (O.move rfl rfl Taken.no) ?_
  refine SL.case (j := 8) (g := 13) (want := true) rfl rfl (fun hg2 => ?_) (fun hg2 => ?_)
  ·skip
   first | have hg2p := G.gA1 hg2 | have hg2p := G.gA2 hg2 | have hg2p := hg2
   refine SL.val (O.move rfl rfl (Taken.yes rfl rfl hg2)) ?_
   refine SL.val (O.det (fun _ => G.R.leq rfl rfl) rfl (Taken.yes rfl rfl hg2)) ?_
   refine SL.val (O.pick_t rfl hg2 rfl rfl Taken.no) ?_
   refine SL.val (O.assign rfl rfl Taken.no) ?_
   refine SL.nil ?_
   refine E.to ?_
   refine W.ret ?_
   refine E.fin (rs := [_]) (rn []) (.inl rfl) rfl (.cons (ResOne.tmp rfl) .nil) ?_ ?_ rfl (fixL_spec rfl)
   ·skip
    exact iv_bool (by unfold right; rw [Bool.eq_iff_iff]; first | (simp_all; done) | (simp_all; omega))
   · exact SubS.nil
  ·skip
   first | have hg2p := G.gA5 hg2 | have hg2p := G.gA6 hg2 | have hg2p := hg2
   refine SL.skip (OpOk.not rfl rfl rfl hg2) ?_
   refine SL.skip (OpOk.not rfl rfl rfl hg2) ?_
   refine SL.val (O.pick_f rfl (G.ne_t hg2) rfl rfl Taken.no) ?_
   refine SL.val (O.assign rfl rfl Taken.no) ?_
   refine SL.nil ?_
   refine E.to ?_
   refine W.ret ?_
   refine E.fin (rs := [_]) (rn []) (.inl rfl) rfl (.cons (ResOne.tmp rfl) .nil) ?_ ?_ rfl (fixL_spec rfl)
   ·skip
    exact iv_bool (by unfold right; rw [Bool.eq_iff_iff]; first | (simp_all; done) | (simp_all; omega))
   · exact SubS.nil
 ·skip
  first | have hg1p := G.gA5 hg1 | have hg1p := G.gA6 hg1 | have hg1p := hg1
  refine SL.skip (OpOk.not rfl rfl rfl hg1) ?_
  refine SL.skip (OpOk.not rfl rfl rfl hg1) ?_
  refine SL.skip (OpOk.not rfl rfl rfl hg1) ?_
  refine SL.skip (OpOk.not rfl rfl rfl hg1) ?_
  refine SL.val (O.pick_f rfl (G.ne_t hg1) rfl rfl Taken.no) ?_
  refine SL.val (O.move rfl rfl Taken.no) ?_
  have hg3 : false ≠ true := by decide
  refine SL.skip (OpOk.not rfl rfl rfl hg3) ?_
  refine SL.skip (OpOk.not rfl rfl rfl hg3) ?_
  refine SL.val (O.pick_f rfl rfl rfl rfl Taken.no) ?_
  refine SL.val (O.assign rfl rfl Taken.no) ?_
  refine SL.nil ?_
  refine E.to ?_
  refine W.ret ?_
  refine E.fin (rs := [_]) (rn []) (.inl rfl) rfl (.cons (ResOne.tmp rfl) .nil) ?_ ?_ rfl (fixL_spec rfl)
  ·skip
   exact iv_bool (by unfold right; rw [Bool.eq_iff_iff]; first | (simp_all; done) | (simp_all; omega))
  · exact SubS.nil

set_option maxRecDepth 8000 in
/-- bookplate/bookplateref51.later. -/
theorem later_h {st : Store} {now : Int} (hr : right st now) :
    Con Try.prog 56 [vA [uI st.next, uI st.time, .sl 4 (st.opn.map eO)], vI now] [] (.agg [vI st.next, vI now, .own 0]) [(0, .data 92 4 ((laterQ st now).map eO))] := by
 have h50 := hr.1.1
 have hr2 := hr.2
 obtain ⟨i92, hi92, hz92, hs92, hb92⟩ := hinf92
 refine Con.enterL (n := 38) Try.func56 rfl rfl rfl (fun τ w ok vs hin => ?_)
 have hl0_2 := hin.lenA (i := 0) (j := 2) rfl rfl
 try rw [List.length_map] at hl0_2
 clear hin
 refine W.seq ?_
 refine W.region ?_
 refine SL.memS (O.box (is := [_, _, _]) 101 rfl rfl (by simp) rfl rfl Taken.no) rfl rfl (S' := (101, _) :: _) rfl ?_
 refine SL.memS (O.alloc (z := .agg #[.int .i64 0, .int .i64 0, .slice none 0 0]) (is := [.u (.sc (.int .i64 0)), .u (.sc (.int .i64 0)), .u (.sc (.slice none 0 0))]) 102 (by kernel_rfl) rfl rfl rfl Taken.no) rfl rfl (S' := (102, _) :: _) rfl ?_
 refine SL.nil ?_
 refine E.to ?_
 refine W.seq ?_
 refine W.region ?_
 refine SL.val (O.fld_ref (o' := 0) rfl Try.underlying77 rfl (m := 0) (by kernel_rfl) rfl rfl Taken.no) ?_
 refine SL.val (O.ld1 (PtI.ref rfl rfl) rfl Try.underlying3 rfl rfl Taken.no) ?_
 refine SL.val (O.move rfl rfl Taken.no) ?_
 refine SL.val (O.build (res := [_, _, _]) (z := .agg #[.int .i64 0, .int .i64 0, .slice none 0 0]) (places := [(0, 1), (1, 1), (2, 1)]) rfl rfl Try.underlying77 (by kernel_rfl) (fun _ => by kernel_rfl) rfl rfl Taken.no) ?_
 refine SL.memS (O.alloc (z := .agg #[.int .i64 0, .int .i64 0, .slice none 0 0]) (is := [.u (.sc (.int .i64 0)), .u (.sc (.int .i64 0)), .u (.sc (.slice none 0 0))]) 103 (by kernel_rfl) rfl rfl rfl Taken.no) rfl rfl (S' := (103, _) :: _) rfl ?_
 refine SL.effS (O.st_ref (m := 3) rfl rfl rfl (js := [_, _, _]) rfl rfl (by kernel_rfl) (by simp) (Nat.le_of_ble_eq_true rfl) rfl (is' := [_, _, _]) rfl Taken.no) (S' := (103, _) :: _) rfl ?_
 refine SL.nil ?_
 refine E.to ?_
 refine W.seq ?_
 refine W.seq ?_
 refine W.region ?_
 refine SL.val (O.assign rfl rfl Taken.no) ?_
 refine SL.nil ?_
 refine E.to ?_
 refine W.block ?_
 refine W.adoptC 103 2 105 92 4 (is' := [_, _, _]) (by decide) rfl rfl rfl rfl rfl ?_
 refine W.loopx1 (fun (k : Nat) => [(6, vI (k : Int))]) (fun (k : Nat) => [(104, .data 92 4 (((st.opn.take k).filter (liveO now)).map eO)), (103, .cells 77 [.u (uI st.next), .u (uI now), .own 104])]) (fun (k : Nat) => k ≤ st.opn.length) (fun (k : Nat) => st.opn.length - k) (0) (rn [(104, 105)]) (.cons (t := 1) rfl (.cons (t := 2) rfl (.cons (t := 4) rfl (.cons (t := 5) rfl .nil)))) (.cons (t := 101) rfl (.cons (t := 102) rfl .nil)) rfl ?_ ?_ rfl rfl ?_ ?_
 · exact (SubF.cons rfl SubF.nil)
 · exact (SubS.cons rfl (SubS.cons rfl SubS.nil))
 ·skip
  omega
 intro k hinv
 have hk := hinv
 have hfl := List.length_filter_le (liveO now) (st.opn.take k)
 have htl : (st.opn.take k).length = k := by rw [List.length_take]; omega
 refine W.seq ?_
 refine W.seq ?_
 refine W.region ?_
 refine SL.val (O.move rfl rfl Taken.no) ?_
 refine SL.val (O.fld_ref (o' := 2) rfl Try.underlying77 rfl (m := 0) (by kernel_rfl) rfl rfl Taken.no) ?_
 refine SL.val (O.ld1 (PtI.ref rfl rfl) rfl Try.underlying75 rfl rfl Taken.no) ?_
 refine SL.val (O.lenE (SlOf.fz rfl (by decide)) (by first | exact List.length_map _ | rfl) Try.underlying75 rfl Taken.no) ?_
 refine SL.val (O.det (fun _ => G.R.lss rfl rfl) rfl Taken.no) ?_
 refine SL.nil ?_
 refine E.to ?_
 first | refine W.cond_d rfl (fun hc1 => ?_) (fun hc1 => ?_) | refine W.cond_nd rfl (fun hc1 => ?_) (fun hc1 => ?_) | refine W.cond rfl (fun hc1 => ?_) (fun hc1 => ?_)
 ·skip
  refine W.skip ?_
  refine E.to ?_
  refine W.seq ?_
  refine W.block ?_
  refine W.seq ?_
  refine W.region ?_
  refine SL.val (O.fld_ref (o' := 2) rfl Try.underlying77 rfl (m := 0) (by kernel_rfl) rfl rfl Taken.no) ?_
  refine SL.val (O.ld1 (PtI.ref rfl rfl) rfl Try.underlying75 rfl rfl Taken.no) ?_
  refine SL.val (O.move rfl rfl Taken.no) ?_
  refine SL.val (O.idx_fz rfl rfl (rfl) (row_get (by omega)) Try.underlying75 hi92 hs92 rfl Taken.no) ?_
  refine SL.val (O.fld_fz rfl Try.underlying92 rfl (m := 0) (by kernel_rfl) rfl rfl Taken.no) ?_
  refine SL.val (O.ld1 (PtI.ofU (PtU.fz rfl)) rfl Try.underlying3 rfl rfl Taken.no) ?_
  refine SL.val (O.move rfl rfl Taken.no) ?_
  refine SL.val (O.det (fun _ => by first | exact G.R.sub64 rfl rfl (by omega) | exact G.R.sub rfl rfl) rfl Taken.no) ?_
  refine SL.val (O.det (fun _ => G.R.geq rfl rfl) rfl Taken.no) ?_
  refine SL.nil ?_
  refine E.to ?_
  first | refine W.cond_d rfl (fun hc2 => ?_) (fun hc2 => ?_) | refine W.cond_nd rfl (fun hc2 => ?_) (fun hc2 => ?_) | refine W.cond rfl (fun hc2 => ?_) (fun hc2 => ?_)
  ·skip
   refine W.draw [⟨[103], [], []⟩, ⟨[103, 104], [], []⟩, ⟨[101], [], []⟩, ⟨[101], [], []⟩, ⟨[], [], []⟩, ⟨[], [], []⟩, ⟨[], [], []⟩, ⟨[106], [106], [106]⟩, ⟨[104, 106, 107], [104, 107], [107]⟩, ⟨[103], [], []⟩, ⟨[103, 107], [103], []⟩] rfl (by kernel_rfl) (by kernel_rfl) rfl rfl ?_
   refine WH.val (O.fld_ref (o' := 2) rfl Try.underlying77 rfl (m := 0) (by kernel_rfl) rfl rfl Taken.no) rfl rfl ?_
   refine WH.val (O.ld1 (PtI.ref rfl rfl) rfl Try.underlying75 rfl rfl Taken.no) rfl rfl ?_
   refine WH.val (O.fld_ref (o' := 2) rfl Try.underlying77 rfl (m := 0) (by kernel_rfl) rfl rfl Taken.no) rfl rfl ?_
   refine WH.val (O.ld1 (PtI.ref rfl rfl) rfl Try.underlying75 rfl rfl Taken.no) rfl rfl ?_
   refine WH.val (O.move rfl rfl Taken.no) rfl rfl ?_
   refine WH.val (O.idx_fz rfl rfl (rfl) (row_get (by omega)) Try.underlying75 hi92 hs92 rfl Taken.no) rfl rfl ?_
   refine WH.val (O.ldU (m := 4) (PtU.fz rfl) rfl Try.underlying92 rfl (by kernel_rfl) rfl Taken.no) rfl rfl ?_
   refine WH.memS (O.buildSlice 106 rfl rfl Try.underlying75 hi92 hz92 hs92 (by decide) rfl (by decide) rfl rfl rfl Taken.no) rfl rfl rfl rfl rfl (S' := (106, _) :: _) rfl ?_
   refine WH.memS (O.app (k' := 107) rfl rfl (SlOf.own rfl rfl) Try.underlying75 hi92 hz92 hs92 rfl rfl (by exact map_snoc (x := st.opn[k]!) rfl) (by rw [hb92]; first | omega | (simp only [List.length_map]; omega) | (simp <;> omega)) (by first | omega | (simp only [List.length_map]; omega) | (simp <;> omega)) rfl Taken.no) rfl rfl rfl rfl rfl (S' := (107, _) :: (104, .dead) :: _) rfl ?_
   refine WH.val (O.fld_ref (o' := 2) rfl Try.underlying77 rfl (m := 0) (by kernel_rfl) rfl rfl Taken.no) rfl rfl ?_
   refine WH.effS (O.st_ref (m := 1) rfl rfl rfl (js := [_]) rfl rfl (by kernel_rfl) (by simp) (Nat.le_of_ble_eq_true rfl) rfl (is' := [_, _, _]) rfl Taken.no) rfl rfl rfl (S' := (103, _) :: _) rfl ?_
   refine WH.nil ?_
   refine E.inn ?_
   refine E.to ?_
   refine W.pick (.cons (t := 1) rfl (.cons (t := 2) rfl (.cons (t := 4) rfl (.cons (t := 5) rfl (.cons (t := 6) rfl .nil))))) (.cons (t := 101) rfl (.cons (t := 102) rfl (.cons (t := 103) rfl (.cons (t := 106) rfl (.cons (t := 107) rfl .nil))))) ?_
   refine W.region ?_
   refine SL.val (O.move rfl rfl Taken.no) ?_
   refine SL.val (O.det (fun _ => by first | exact G.R.add64 rfl rfl (by omega) | exact G.R.add rfl rfl) rfl Taken.no) ?_
   refine SL.val (O.assign rfl rfl Taken.no) ?_
   refine SL.nil ?_
   refine E.again ((k + 1)) (rn [(104, 107)]) ?_ ?_ rfl (fixL_spec rfl) ?_ ?_
   · exact (SubF.cons rfl (SubF.cons rfl (SubF.cons rfl (SubF.cons rfl (SubF.cons rfl SubF.nil)))))
   · exact (SubS.val rfl (by (try dsimp only); first | exact sb_data (by rw [live_y (by omega) (by omega)]) | exact sb_data (by rw [live_n (by omega) (by omega)])) (SubS.cons rfl (SubS.cons rfl (SubS.cons rfl SubS.nil))))
   ·try dsimp only
    omega
   · (try dsimp only); omega
  ·skip
   refine W.skip ?_
   refine E.inn ?_
   refine E.to ?_
   refine W.region ?_
   refine SL.val (O.move rfl rfl Taken.no) ?_
   refine SL.val (O.det (fun _ => by first | exact G.R.add64 rfl rfl (by omega) | exact G.R.add rfl rfl) rfl Taken.no) ?_
   refine SL.val (O.assign rfl rfl Taken.no) ?_
   refine SL.nil ?_
   refine E.again ((k + 1)) (rn []) ?_ ?_ rfl (fixL_spec rfl) ?_ ?_
   · exact (SubF.cons rfl (SubF.cons rfl (SubF.cons rfl (SubF.cons rfl (SubF.cons rfl SubF.nil)))))
   · exact (SubS.val rfl (by (try dsimp only); first | exact sb_data (by rw [live_y (by omega) (by omega)]) | exact sb_data (by rw [live_n (by omega) (by omega)])) (SubS.cons rfl (SubS.cons rfl (SubS.cons rfl SubS.nil))))
   ·try dsimp only
    omega
   · (try dsimp only); omega
 ·skip
  refine W.exit ?_
  refine E.th ?_
  refine E.th ?_
  refine E.hit ?_
  refine E.to ?_
  refine W.seq ?_
  refine W.region ?_
  refine SL.val (O.ldN (m := 3) (PtI.ref rfl rfl) (js := [_, _, _]) rfl (Nat.le_of_ble_eq_true rfl) Try.underlying77 rfl (by kernel_rfl) rfl Taken.no) ?_
  refine SL.effS (O.st_ref (m := 3) rfl rfl rfl (js := [_, _, _]) rfl rfl (by kernel_rfl) (by simp) (Nat.le_of_ble_eq_true rfl) rfl (is' := [_, _, _]) rfl Taken.no) (S' := (102, _) :: _) rfl ?_
  refine SL.nil ?_
  refine E.to ?_
  refine W.ret ?_
  refine E.fin (rs := [_]) (rn [(0, 104)]) (.inl rfl) rfl (.cons (ResOne.cellN (m := 3) (PtI.ref rfl rfl) (js := [_, _, _]) rfl (Nat.le_of_ble_eq_true rfl) Try.underlying77 rfl (by kernel_rfl)) .nil) ?_ ?_ rfl (fixL_spec rfl)
  ·skip
   rfl
  · exact (SubS.val rfl (by obtain rfl : k = st.opn.length := (by omega); exact sb_data (by rw [List.take_length]; rfl)) SubS.nil)

set_option maxRecDepth 8000 in
/-- bookplate/session.New. -/
theorem new_h  :
    Con Try.prog 35 [] [] (.agg [vI newSt.next, vI newSt.time, vL 4 (newSt.opn.map eO)]) [] := by
 refine Con.enterL (n := 2) Try.func35 rfl rfl rfl (fun τ w ok vs hin => ?_)
 clear hin
 refine W.seq ?_
 refine W.region ?_
 refine SL.memS (O.alloc (z := .agg #[.int .i64 0, .int .i64 0, .slice none 0 0]) (is := [.u (.sc (.int .i64 0)), .u (.sc (.int .i64 0)), .u (.sc (.slice none 0 0))]) 101 (by kernel_rfl) rfl rfl rfl Taken.no) rfl rfl (S' := (101, _) :: _) rfl ?_
 refine SL.nil ?_
 refine E.to ?_
 refine W.seq ?_
 refine W.region ?_
 refine SL.val (O.build (res := [_, _, _]) (z := .agg #[.int .i64 0, .int .i64 0, .slice none 0 0]) (places := [(0, 1), (1, 1), (2, 1)]) rfl rfl Try.underlying73 (by kernel_rfl) (fun _ => by kernel_rfl) rfl rfl Taken.no) ?_
 refine SL.effS (O.st_ref (m := 3) rfl rfl rfl (js := [_, _, _]) rfl rfl (by kernel_rfl) (by simp) (Nat.le_of_ble_eq_true rfl) rfl (is' := [_, _, _]) rfl Taken.no) (S' := (101, _) :: _) rfl ?_
 refine SL.nil ?_
 refine E.to ?_
 refine W.ret ?_
 refine E.nilslC 101 2 4 (is' := [_, _, _]) rfl rfl rfl ?_
 refine E.fin (rs := [_]) (rn []) (.inl rfl) rfl (.cons (ResOne.cellN (m := 3) (PtI.ref rfl rfl) (js := [_, _, _]) rfl (Nat.le_of_ble_eq_true rfl) Try.underlying73 rfl (by kernel_rfl)) .nil) ?_ ?_ rfl (fixL_spec rfl)
 ·skip
  rfl
 · exact SubS.nil

set_option maxRecDepth 8000 in
/-- bookplate/bookplateref51.New. -/
theorem refNew_h  :
    Con Try.prog 36 [] [] (.agg [vI newSt.next, vI newSt.time, vL 4 (newSt.opn.map eO)]) [] := by
 refine Con.enterL (n := 2) Try.func36 rfl rfl rfl (fun τ w ok vs hin => ?_)
 clear hin
 refine W.seq ?_
 refine W.region ?_
 refine SL.memS (O.alloc (z := .agg #[.int .i64 0, .int .i64 0, .slice none 0 0]) (is := [.u (.sc (.int .i64 0)), .u (.sc (.int .i64 0)), .u (.sc (.slice none 0 0))]) 101 (by kernel_rfl) rfl rfl rfl Taken.no) rfl rfl (S' := (101, _) :: _) rfl ?_
 refine SL.nil ?_
 refine E.to ?_
 refine W.seq ?_
 refine W.region ?_
 refine SL.val (O.build (res := [_, _, _]) (z := .agg #[.int .i64 0, .int .i64 0, .slice none 0 0]) (places := [(0, 1), (1, 1), (2, 1)]) rfl rfl Try.underlying77 (by kernel_rfl) (fun _ => by kernel_rfl) rfl rfl Taken.no) ?_
 refine SL.effS (O.st_ref (m := 3) rfl rfl rfl (js := [_, _, _]) rfl rfl (by kernel_rfl) (by simp) (Nat.le_of_ble_eq_true rfl) rfl (is' := [_, _, _]) rfl Taken.no) (S' := (101, _) :: _) rfl ?_
 refine SL.nil ?_
 refine E.to ?_
 refine W.ret ?_
 refine E.nilslC 101 2 4 (is' := [_, _, _]) rfl rfl rfl ?_
 refine E.fin (rs := [_]) (rn []) (.inl rfl) rfl (.cons (ResOne.cellN (m := 3) (PtI.ref rfl rfl) (js := [_, _, _]) rfl (Nat.le_of_ble_eq_true rfl) Try.underlying77 rfl (by kernel_rfl)) .nil) ?_ ?_ rfl (fixL_spec rfl)
 ·skip
  rfl
 · exact SubS.nil

set_option maxRecDepth 8000 in
/-- bookplate/session.Open. -/
theorem open_h {st : Store} {s : Sess} {now : Int} :
    Con Try.prog 43 [vA [uI st.next, uI st.time, .sl 4 (st.opn.map eO)], vA [uI s.size, .sl 2 (s.items.map eT)], vI now] [] (.tup [.agg [vI (opnS st s now).next, vI (opnS st s now).time, vL 4 ((opnS st s now).opn.map eO)], vI (opnN st s now), vI (opnE st s now)]) [] := by
 obtain ⟨i119, hi119, hz119, hs119, hb119⟩ := hinf119
 refine Con.enterL (n := 57) Try.func43 rfl rfl rfl (fun τ w ok vs hin => ?_)
 have hl0_2 := hin.lenA (i := 0) (j := 2) rfl rfl
 try rw [List.length_map] at hl0_2
 have hl1_1 := hin.lenA (i := 1) (j := 1) rfl rfl
 try rw [List.length_map] at hl1_1
 clear hin
 refine W.seq ?_
 refine W.region ?_
 refine SL.memS (O.box (is := [_, _, _]) 101 rfl rfl (by simp) rfl rfl Taken.no) rfl rfl (S' := (101, _) :: _) rfl ?_
 refine SL.memS (O.box (is := [_, _]) 102 rfl rfl (by simp) rfl rfl Taken.no) rfl rfl (S' := (102, _) :: _) rfl ?_
 refine SL.memS (O.alloc (z := .agg #[.int .i64 0, .int .i64 0, .slice none 0 0]) (is := [.u (.sc (.int .i64 0)), .u (.sc (.int .i64 0)), .u (.sc (.slice none 0 0))]) 103 (by kernel_rfl) rfl rfl rfl Taken.no) rfl rfl (S' := (103, _) :: _) rfl ?_
 refine SL.val (O.assign rfl rfl Taken.no) ?_
 refine SL.val (O.assign rfl rfl Taken.no) ?_
 refine SL.nil ?_
 refine E.to ?_
 refine W.seq ?_
 refine W.region ?_
 refine SL.val (O.ldN (m := 3) (PtI.ref rfl rfl) (js := [_, _, _]) rfl (Nat.le_of_ble_eq_true rfl) Try.underlying73 rfl (by kernel_rfl) rfl Taken.no) ?_
 refine SL.val (O.move rfl rfl Taken.no) ?_
 refine SL.memS (O.call (rn [(0, 104)]) [] rfl rfl rfl (proceed_h (st := st) (now := now)) (.cons (ArgOk.aggU (.cons (ArgOk.same rfl) (.cons (ArgOk.same rfl) (.cons (ArgOk.same rfl) .nil)))) (.cons (ArgOk.same rfl) .nil)) SubS.nil rfl rfl rfl rfl rfl (.inl rfl) hcallOk57 (r' := .tup [.agg [.u _, .u _, .own 104], .u _]) rfl rfl Taken.no) rfl rfl (S' := (104, .data _ _ _) :: _) rfl ?_
 refine SL.val (O.move rfl rfl Taken.no) ?_
 refine SL.val (O.extract rfl rfl rfl Taken.no) ?_
 refine SL.val (O.extract rfl rfl rfl Taken.no) ?_
 refine SL.effS (O.st_ref (m := 3) rfl rfl rfl (js := [_, _, _]) rfl rfl (by kernel_rfl) (by simp) (Nat.le_of_ble_eq_true rfl) rfl (is' := [_, _, _]) rfl Taken.no) (S' := (101, _) :: _) rfl ?_
 refine SL.val (O.assign rfl rfl Taken.no) ?_
 refine SL.nil ?_
 refine E.to ?_
 refine W.seq ?_
 refine W.seq ?_
 refine W.region ?_
 refine SL.val (O.move rfl rfl Taken.no) ?_
 refine SL.val (O.det (fun _ => G.R.not rfl) rfl Taken.no) ?_
 refine SL.val (O.move rfl rfl Taken.no) ?_
 refine SL.case (j := 2) (g := 19) (want := false) rfl rfl (fun hg1 => ?_) (fun hg1 => ?_)
 ·skip
  first | have hg1p := G.gA3 hg1 | have hg1p := G.gA4 hg1 | have hg1p := hg1
  refine SL.val (O.ldN (m := 2) (PtI.ref rfl rfl) (js := [_, _]) rfl (Nat.le_of_ble_eq_true rfl) Try.underlying27 rfl (by kernel_rfl) rfl (Taken.yes rfl rfl hg1)) ?_
  refine SL.val (O.callp rfl rfl rfl (valid_h (s := s)) (.cons (ArgOk.aggU (.cons (ArgOk.same rfl) (.cons (ArgOk.same rfl) .nil))) .nil) hcallOk21 rfl (Taken.yes rfl rfl hg1)) ?_
  refine SL.val (O.det (fun _ => G.R.not rfl) rfl (Taken.yes rfl rfl hg1)) ?_
  refine SL.val (O.pick_f rfl hg1 rfl rfl Taken.no) ?_
  refine SL.nil ?_
  refine E.to ?_
  first | refine W.cond_d rfl (fun hc2 => ?_) (fun hc2 => ?_) | refine W.cond_nd rfl (fun hc2 => ?_) (fun hc2 => ?_) | refine W.cond rfl (fun hc2 => ?_) (fun hc2 => ?_)
  ·skip
   refine W.seq ?_
   refine W.region ?_
   refine SL.val (O.build (res := [_, _, _]) (z := .agg #[.int .i64 0, .int .i64 0, .slice none 0 0]) (places := [(0, 1), (1, 1), (2, 1)]) rfl rfl Try.underlying73 (by kernel_rfl) (fun _ => by kernel_rfl) rfl rfl Taken.no) ?_
   refine SL.effS (O.st_ref (m := 3) rfl rfl rfl (js := [_, _, _]) rfl rfl (by kernel_rfl) (by simp) (Nat.le_of_ble_eq_true rfl) rfl (is' := [_, _, _]) rfl Taken.no) (S' := (103, _) :: _) rfl ?_
   refine SL.val (O.assign rfl rfl Taken.no) ?_
   refine SL.val (O.assign rfl rfl Taken.no) ?_
   refine SL.nil ?_
   refine E.to ?_
   refine W.pick (.cons (t := 2) rfl (.cons (t := 3) rfl (.cons (t := 4) rfl (.cons (t := 6) rfl (.cons (t := 7) rfl (.cons (t := 8) rfl .nil)))))) (.cons (t := 101) rfl (.cons (t := 102) rfl (.cons (t := 103) rfl (.cons (t := 104) rfl .nil)))) ?_
   refine W.ret ?_
   refine E.thr ?_
   refine E.nilslC 103 2 4 (is' := [_, _, _]) rfl rfl rfl ?_
   refine E.fin (rs := [_, _, _]) (rn []) (.inl rfl) rfl (.cons (ResOne.cellN (m := 3) (PtI.ref rfl rfl) (js := [_, _, _]) rfl (Nat.le_of_ble_eq_true rfl) Try.underlying73 rfl (by kernel_rfl)) (.cons (ResOne.tmp rfl) (.cons (ResOne.tmp rfl) .nil))) ?_ ?_ rfl (fixL_spec rfl)
   ·skip
    have hn : ¬ (right st now ∧ validS s) := by simp_all
    rw [(opn_1 hn).1, (opn_1 hn).2.1, (opn_1 hn).2.2]; rfl
   · exact SubS.nil
  ·skip
   have hy : right st now ∧ validS s := by simp_all
   have h50 := hy.1.1.1
   have hr2 := hy.1.2
   have hsl := hy.2.1
   obtain ⟨p1, p2, p3⟩ := prc_y hy.1
   have hll := laterQ_len st now
   rw [p1, p2, p3]
   refine W.skip ?_
   refine E.to ?_
   refine W.seq ?_
   refine W.seq ?_
   refine W.region ?_
   refine SL.val (O.fld_ref (o' := 2) rfl Try.underlying73 rfl (m := 0) (by kernel_rfl) rfl rfl Taken.no) ?_
   refine SL.val (O.ld1 (PtI.ref rfl rfl) rfl Try.underlying71 rfl rfl Taken.no) ?_
   refine SL.val (O.lenE (SlOf.own rfl rfl) (by first | exact List.length_map _ | rfl) Try.underlying71 rfl Taken.no) ?_
   refine SL.val (O.det (fun _ => G.R.eql rfl rfl) rfl Taken.no) ?_
   refine SL.val (O.move rfl rfl Taken.no) ?_
   refine SL.case (j := 4) (g := 29) (want := false) rfl rfl (fun hg3 => ?_) (fun hg3 => ?_)
   ·skip
    first | have hg3p := G.gA3 hg3 | have hg3p := G.gA4 hg3 | have hg3p := hg3
    refine SL.val (O.fld_ref (o' := 0) rfl Try.underlying73 rfl (m := 0) (by kernel_rfl) rfl rfl (Taken.yes rfl rfl hg3)) ?_
    refine SL.val (O.ld1 (PtI.ref rfl rfl) rfl Try.underlying3 rfl rfl (Taken.yes rfl rfl hg3)) ?_
    refine SL.val (O.det (fun _ => G.R.eql rfl rfl) rfl (Taken.yes rfl rfl hg3)) ?_
    refine SL.val (O.pick_f rfl hg3 rfl rfl Taken.no) ?_
    refine SL.nil ?_
    refine E.to ?_
    refine W.pick (.cons (t := 2) rfl (.cons (t := 3) rfl (.cons (t := 4) rfl (.cons (t := 6) rfl (.cons (t := 7) rfl (.cons (t := 8) rfl (.cons (t := 33) rfl .nil))))))) (.cons (t := 101) rfl (.cons (t := 102) rfl (.cons (t := 103) rfl (.cons (t := 104) rfl .nil)))) ?_
    first | refine W.cond_d rfl (fun hc4 => ?_) (fun hc4 => ?_) | refine W.cond_nd rfl (fun hc4 => ?_) (fun hc4 => ?_) | refine W.cond rfl (fun hc4 => ?_) (fun hc4 => ?_)
    ·skip
     refine W.seq ?_
     refine W.region ?_
     refine SL.val (O.ldN (m := 3) (PtI.ref rfl rfl) (js := [_, _, _]) rfl (Nat.le_of_ble_eq_true rfl) Try.underlying73 rfl (by kernel_rfl) rfl Taken.no) ?_
     refine SL.effS (O.st_ref (m := 3) rfl rfl rfl (js := [_, _, _]) rfl rfl (by kernel_rfl) (by simp) (Nat.le_of_ble_eq_true rfl) rfl (is' := [_, _, _]) rfl Taken.no) (S' := (103, _) :: _) rfl ?_
     refine SL.val (O.assign rfl rfl Taken.no) ?_
     refine SL.val (O.assign rfl rfl Taken.no) ?_
     refine SL.nil ?_
     refine E.to ?_
     refine W.ret ?_
     refine E.thr ?_
     refine E.freezeC 103 2 104 (is' := [_, _, _]) rfl rfl rfl rfl ?_
     refine E.fin (rs := [_, _, _]) (rn []) (.inl rfl) rfl (.cons (ResOne.cellN (m := 3) (PtI.ref rfl rfl) (js := [_, _, _]) rfl (Nat.le_of_ble_eq_true rfl) Try.underlying73 rfl (by kernel_rfl)) (.cons (ResOne.tmp rfl) (.cons (ResOne.tmp rfl) .nil))) ?_ ?_ rfl (fixL_spec rfl)
     ·skip
      rw [(opn_20 hy (by omega)).1, (opn_20 hy (by omega)).2.1, (opn_20 hy (by omega)).2.2]; rfl
     · exact SubS.nil
    ·skip
     refine W.skip ?_
     refine E.to ?_
     refine W.seq ?_
     refine W.region ?_
     refine SL.val (O.fld_ref (o' := 0) rfl Try.underlying73 rfl (m := 0) (by kernel_rfl) rfl rfl Taken.no) ?_
     refine SL.val (O.ld1 (PtI.ref rfl rfl) rfl Try.underlying3 rfl rfl Taken.no) ?_
     refine SL.val (O.assign rfl rfl Taken.no) ?_
     refine SL.nil ?_
     refine E.to ?_
     refine W.seq ?_
     refine W.region ?_
     refine SL.val (O.fld_ref (o' := 0) rfl Try.underlying73 rfl (m := 0) (by kernel_rfl) rfl rfl Taken.no) ?_
     refine SL.val (O.ld1 (PtI.ref rfl rfl) rfl Try.underlying3 rfl rfl Taken.no) ?_
     refine SL.val (O.det (fun _ => by first | exact G.R.add64 rfl rfl (by omega) | exact G.R.add rfl rfl) rfl Taken.no) ?_
     refine SL.val (O.fld_ref (o' := 0) rfl Try.underlying73 rfl (m := 0) (by kernel_rfl) rfl rfl Taken.no) ?_
     refine SL.effS (O.st_ref (m := 1) rfl rfl rfl (js := [_]) rfl rfl (by kernel_rfl) (by simp) (Nat.le_of_ble_eq_true rfl) rfl (is' := [_, _, _]) rfl Taken.no) (S' := (101, _) :: _) rfl ?_
     refine SL.nil ?_
     refine E.to ?_
     refine W.seq ?_
     refine W.draw [⟨[101], [], []⟩, ⟨[101, 104], [], []⟩, ⟨[], [], []⟩, ⟨[], [], []⟩, ⟨[102], [], []⟩, ⟨[102], [], []⟩, ⟨[102], [], []⟩, ⟨[102], [], []⟩, ⟨[], [], []⟩, ⟨[], [], []⟩, ⟨[], [], []⟩, ⟨[105], [105], [105]⟩, ⟨[104, 105, 106], [104, 106], [106]⟩, ⟨[101], [], []⟩, ⟨[101, 106], [101], []⟩] rfl (by kernel_rfl) (by kernel_rfl) rfl rfl ?_
     refine WH.val (O.fld_ref (o' := 2) rfl Try.underlying73 rfl (m := 0) (by kernel_rfl) rfl rfl Taken.no) rfl rfl ?_
     refine WH.val (O.ld1 (PtI.ref rfl rfl) rfl Try.underlying71 rfl rfl Taken.no) rfl rfl ?_
     refine WH.val (O.move rfl rfl Taken.no) rfl rfl ?_
     refine WH.val (O.move rfl rfl Taken.no) rfl rfl ?_
     refine WH.val (O.fld_ref (o' := 0) rfl Try.underlying27 rfl (m := 0) (by kernel_rfl) rfl rfl Taken.no) rfl rfl ?_
     refine WH.val (O.ld1 (PtI.ref rfl rfl) rfl Try.underlying3 rfl rfl Taken.no) rfl rfl ?_
     refine WH.val (O.fld_ref (o' := 1) rfl Try.underlying27 rfl (m := 0) (by kernel_rfl) rfl rfl Taken.no) rfl rfl ?_
     refine WH.val (O.ld1 (PtI.ref rfl rfl) rfl Try.underlying22 rfl rfl Taken.no) rfl rfl ?_
     refine WH.val (O.callp rfl rfl rfl (Con.fz (cloneH (l := s.items) (by omega)) rfl rfl) (.cons (ArgOk.same rfl) .nil) hcallOk50 rfl Taken.no) rfl rfl ?_
     refine WH.val (O.build (res := [_, _]) (z := .agg #[.int .i64 0, .slice none 0 0]) (places := [(0, 1), (1, 1)]) rfl rfl Try.underlying27 (by kernel_rfl) (fun _ => by kernel_rfl) rfl rfl Taken.no) rfl rfl ?_
     refine WH.val (O.build (res := [_, _, _, _]) (z := .agg #[.int .i64 0, .int .i64 0, .int .i64 0, .slice none 0 0]) (places := [(0, 1), (1, 1), (2, 2)]) rfl rfl Try.underlying119 (by kernel_rfl) (fun _ => by kernel_rfl) rfl rfl Taken.no) rfl rfl ?_
     refine WH.memS (O.buildSlice 105 rfl rfl Try.underlying71 hi119 hz119 hs119 (by decide) rfl (by decide) rfl rfl rfl Taken.no) rfl rfl rfl rfl rfl (S' := (105, _) :: _) rfl ?_
     refine WH.memS (O.app (k' := 106) rfl rfl (SlOf.own rfl rfl) Try.underlying71 hi119 hz119 hs119 rfl rfl (by exact map_snoc (x := (⟨st.next, now, s⟩ : Opn)) rfl) (by rw [hb119]; first | omega | (simp only [List.length_map]; omega) | (simp <;> omega)) (by first | omega | (simp only [List.length_map]; omega) | (simp <;> omega)) rfl Taken.no) rfl rfl rfl rfl rfl (S' := (106, _) :: (104, .dead) :: _) rfl ?_
     refine WH.val (O.fld_ref (o' := 2) rfl Try.underlying73 rfl (m := 0) (by kernel_rfl) rfl rfl Taken.no) rfl rfl ?_
     refine WH.effS (O.st_ref (m := 1) rfl rfl rfl (js := [_]) rfl rfl (by kernel_rfl) (by simp) (Nat.le_of_ble_eq_true rfl) rfl (is' := [_, _, _]) rfl Taken.no) rfl rfl rfl (S' := (101, _) :: _) rfl ?_
     refine WH.nil ?_
     refine E.to ?_
     refine W.pick (.cons (t := 3) rfl (.cons (t := 6) rfl (.cons (t := 7) rfl (.cons (t := 8) rfl (.cons (t := 10) rfl .nil))))) (.cons (t := 101) rfl (.cons (t := 102) rfl (.cons (t := 103) rfl (.cons (t := 105) rfl (.cons (t := 106) rfl .nil))))) ?_
     refine W.seq ?_
     refine W.region ?_
     refine SL.val (O.ldN (m := 3) (PtI.ref rfl rfl) (js := [_, _, _]) rfl (Nat.le_of_ble_eq_true rfl) Try.underlying73 rfl (by kernel_rfl) rfl Taken.no) ?_
     refine SL.val (O.move rfl rfl Taken.no) ?_
     refine SL.effS (O.st_ref (m := 3) rfl rfl rfl (js := [_, _, _]) rfl rfl (by kernel_rfl) (by simp) (Nat.le_of_ble_eq_true rfl) rfl (is' := [_, _, _]) rfl Taken.no) (S' := (103, _) :: _) rfl ?_
     refine SL.val (O.assign rfl rfl Taken.no) ?_
     refine SL.val (O.assign rfl rfl Taken.no) ?_
     refine SL.nil ?_
     refine E.to ?_
     refine W.ret ?_
     refine E.freezeC 103 2 106 (is' := [_, _, _]) rfl rfl rfl rfl ?_
     refine E.fin (rs := [_, _, _]) (rn []) (.inl rfl) rfl (.cons (ResOne.cellN (m := 3) (PtI.ref rfl rfl) (js := [_, _, _]) rfl (Nat.le_of_ble_eq_true rfl) Try.underlying73 rfl (by kernel_rfl)) (.cons (ResOne.tmp rfl) (.cons (ResOne.tmp rfl) .nil))) ?_ ?_ rfl (fixL_spec rfl)
     ·skip
      rw [(opn_0 hy (by omega)).1, (opn_0 hy (by omega)).2.1, (opn_0 hy (by omega)).2.2]; rfl
     · exact SubS.nil
   ·skip
    first | have hg3p := G.gA7 hg3 | have hg3p := G.gA8 hg3 | have hg3p := hg3
    refine SL.skip (OpOk.not rfl rfl rfl hg3) ?_
    refine SL.skip (OpOk.not rfl rfl rfl hg3) ?_
    refine SL.skip (OpOk.not rfl rfl rfl hg3) ?_
    refine SL.val (O.pick_t rfl (G.ne_f hg3) rfl rfl Taken.no) ?_
    refine SL.nil ?_
    refine E.to ?_
    refine W.pick (.cons (t := 2) rfl (.cons (t := 3) rfl (.cons (t := 4) rfl (.cons (t := 6) rfl (.cons (t := 7) rfl (.cons (t := 8) rfl (.cons (t := 33) rfl .nil))))))) (.cons (t := 101) rfl (.cons (t := 102) rfl (.cons (t := 103) rfl (.cons (t := 104) rfl .nil)))) ?_
    refine W.cond_t rfl ?_
    refine W.seq ?_
    refine W.region ?_
    refine SL.val (O.ldN (m := 3) (PtI.ref rfl rfl) (js := [_, _, _]) rfl (Nat.le_of_ble_eq_true rfl) Try.underlying73 rfl (by kernel_rfl) rfl Taken.no) ?_
    refine SL.effS (O.st_ref (m := 3) rfl rfl rfl (js := [_, _, _]) rfl rfl (by kernel_rfl) (by simp) (Nat.le_of_ble_eq_true rfl) rfl (is' := [_, _, _]) rfl Taken.no) (S' := (103, _) :: _) rfl ?_
    refine SL.val (O.assign rfl rfl Taken.no) ?_
    refine SL.val (O.assign rfl rfl Taken.no) ?_
    refine SL.nil ?_
    refine E.to ?_
    refine W.ret ?_
    refine E.thr ?_
    refine E.freezeC 103 2 104 (is' := [_, _, _]) rfl rfl rfl rfl ?_
    refine E.fin (rs := [_, _, _]) (rn []) (.inl rfl) rfl (.cons (ResOne.cellN (m := 3) (PtI.ref rfl rfl) (js := [_, _, _]) rfl (Nat.le_of_ble_eq_true rfl) Try.underlying73 rfl (by kernel_rfl)) (.cons (ResOne.tmp rfl) (.cons (ResOne.tmp rfl) .nil))) ?_ ?_ rfl (fixL_spec rfl)
    ·skip
     rw [(opn_20 hy (by omega)).1, (opn_20 hy (by omega)).2.1, (opn_20 hy (by omega)).2.2]; rfl
    · exact SubS.nil
 ·skip
  first | have hg1p := G.gA7 hg1 | have hg1p := G.gA8 hg1 | have hg1p := hg1
  refine SL.skip (OpOk.not rfl rfl rfl hg1) ?_
  refine SL.skip (OpOk.not rfl rfl rfl hg1) ?_
  refine SL.skip (OpOk.not rfl rfl rfl hg1) ?_
  refine SL.val (O.pick_t rfl (G.ne_f hg1) rfl rfl Taken.no) ?_
  refine SL.nil ?_
  refine E.to ?_
  refine W.cond_t rfl ?_
  refine W.seq ?_
  refine W.region ?_
  refine SL.val (O.build (res := [_, _, _]) (z := .agg #[.int .i64 0, .int .i64 0, .slice none 0 0]) (places := [(0, 1), (1, 1), (2, 1)]) rfl rfl Try.underlying73 (by kernel_rfl) (fun _ => by kernel_rfl) rfl rfl Taken.no) ?_
  refine SL.effS (O.st_ref (m := 3) rfl rfl rfl (js := [_, _, _]) rfl rfl (by kernel_rfl) (by simp) (Nat.le_of_ble_eq_true rfl) rfl (is' := [_, _, _]) rfl Taken.no) (S' := (103, _) :: _) rfl ?_
  refine SL.val (O.assign rfl rfl Taken.no) ?_
  refine SL.val (O.assign rfl rfl Taken.no) ?_
  refine SL.nil ?_
  refine E.to ?_
  refine W.pick (.cons (t := 2) rfl (.cons (t := 3) rfl (.cons (t := 4) rfl (.cons (t := 6) rfl (.cons (t := 7) rfl (.cons (t := 8) rfl .nil)))))) (.cons (t := 101) rfl (.cons (t := 102) rfl (.cons (t := 103) rfl (.cons (t := 104) rfl .nil)))) ?_
  refine W.ret ?_
  refine E.thr ?_
  refine E.nilslC 103 2 4 (is' := [_, _, _]) rfl rfl rfl ?_
  refine E.fin (rs := [_, _, _]) (rn []) (.inl rfl) rfl (.cons (ResOne.cellN (m := 3) (PtI.ref rfl rfl) (js := [_, _, _]) rfl (Nat.le_of_ble_eq_true rfl) Try.underlying73 rfl (by kernel_rfl)) (.cons (ResOne.tmp rfl) (.cons (ResOne.tmp rfl) .nil))) ?_ ?_ rfl (fixL_spec rfl)
  ·skip
   have hn : ¬ (right st now ∧ validS s) := by simp_all
   rw [(opn_1 hn).1, (opn_1 hn).2.1, (opn_1 hn).2.2]; rfl
  · exact SubS.nil

set_option maxRecDepth 8000 in
/-- bookplate/bookplateref51.Open. -/
theorem refOpen_h {st : Store} {s : Sess} {now : Int} :
    Con Try.prog 45 [vA [uI st.next, uI st.time, .sl 4 (st.opn.map eO)], vA [uI s.size, .sl 2 (s.items.map eT)], vI now] [] (.tup [.agg [vI (opnS st s now).next, vI (opnS st s now).time, vL 4 ((opnS st s now).opn.map eO)], vI (opnN st s now), vI (opnE st s now)]) [] := by
 obtain ⟨i92, hi92, hz92, hs92, hb92⟩ := hinf92
 refine Con.enterL (n := 51) Try.func45 rfl rfl rfl (fun τ w ok vs hin => ?_)
 have hl0_2 := hin.lenA (i := 0) (j := 2) rfl rfl
 try rw [List.length_map] at hl0_2
 have hl1_1 := hin.lenA (i := 1) (j := 1) rfl rfl
 try rw [List.length_map] at hl1_1
 clear hin
 refine W.seq ?_
 refine W.region ?_
 refine SL.memS (O.box (is := [_, _, _]) 101 rfl rfl (by simp) rfl rfl Taken.no) rfl rfl (S' := (101, _) :: _) rfl ?_
 refine SL.memS (O.box (is := [_, _]) 102 rfl rfl (by simp) rfl rfl Taken.no) rfl rfl (S' := (102, _) :: _) rfl ?_
 refine SL.memS (O.alloc (z := .agg #[.int .i64 0, .int .i64 0, .slice none 0 0]) (is := [.u (.sc (.int .i64 0)), .u (.sc (.int .i64 0)), .u (.sc (.slice none 0 0))]) 103 (by kernel_rfl) rfl rfl rfl Taken.no) rfl rfl (S' := (103, _) :: _) rfl ?_
 refine SL.val (O.assign rfl rfl Taken.no) ?_
 refine SL.val (O.assign rfl rfl Taken.no) ?_
 refine SL.nil ?_
 refine E.to ?_
 refine W.seq ?_
 refine W.seq ?_
 refine W.region ?_
 refine SL.val (O.ldN (m := 3) (PtI.ref rfl rfl) (js := [_, _, _]) rfl (Nat.le_of_ble_eq_true rfl) Try.underlying77 rfl (by kernel_rfl) rfl Taken.no) ?_
 refine SL.val (O.move rfl rfl Taken.no) ?_
 refine SL.val (O.callp rfl rfl rfl (right_h (st := st) (now := now)) (.cons (ArgOk.aggU (.cons (ArgOk.same rfl) (.cons (ArgOk.same rfl) (.cons (ArgOk.same rfl) .nil)))) (.cons (ArgOk.same rfl) .nil)) hcallOk55 rfl Taken.no) ?_
 refine SL.val (O.det (fun _ => G.R.not rfl) rfl Taken.no) ?_
 refine SL.val (O.move rfl rfl Taken.no) ?_
 refine SL.case (j := 4) (g := 14) (want := false) rfl rfl (fun hg1 => ?_) (fun hg1 => ?_)
 ·skip
  first | have hg1p := G.gA3 hg1 | have hg1p := G.gA4 hg1 | have hg1p := hg1
  refine SL.val (O.ldN (m := 2) (PtI.ref rfl rfl) (js := [_, _]) rfl (Nat.le_of_ble_eq_true rfl) Try.underlying31 rfl (by kernel_rfl) rfl (Taken.yes rfl rfl hg1)) ?_
  refine SL.val (O.callp rfl rfl rfl (refValid_h) (.cons (ArgOk.aggU (.cons (ArgOk.same rfl) (.cons (ArgOk.same rfl) .nil))) .nil) hcallOk22 rfl (Taken.yes rfl rfl hg1)) ?_
  refine SL.val (O.det (fun _ => G.R.not rfl) rfl (Taken.yes rfl rfl hg1)) ?_
  refine SL.val (O.pick_f rfl hg1 rfl rfl Taken.no) ?_
  refine SL.nil ?_
  refine E.to ?_
  first | refine W.cond_d rfl (fun hc2 => ?_) (fun hc2 => ?_) | refine W.cond_nd rfl (fun hc2 => ?_) (fun hc2 => ?_) | refine W.cond rfl (fun hc2 => ?_) (fun hc2 => ?_)
  ·skip
   refine W.seq ?_
   refine W.region ?_
   refine SL.val (O.build (res := [_, _, _]) (z := .agg #[.int .i64 0, .int .i64 0, .slice none 0 0]) (places := [(0, 1), (1, 1), (2, 1)]) rfl rfl Try.underlying77 (by kernel_rfl) (fun _ => by kernel_rfl) rfl rfl Taken.no) ?_
   refine SL.effS (O.st_ref (m := 3) rfl rfl rfl (js := [_, _, _]) rfl rfl (by kernel_rfl) (by simp) (Nat.le_of_ble_eq_true rfl) rfl (is' := [_, _, _]) rfl Taken.no) (S' := (103, _) :: _) rfl ?_
   refine SL.val (O.assign rfl rfl Taken.no) ?_
   refine SL.val (O.assign rfl rfl Taken.no) ?_
   refine SL.nil ?_
   refine E.to ?_
   refine W.ret ?_
   refine E.thr ?_
   refine E.nilslC 103 2 4 (is' := [_, _, _]) rfl rfl rfl ?_
   refine E.fin (rs := [_, _, _]) (rn []) (.inl rfl) rfl (.cons (ResOne.cellN (m := 3) (PtI.ref rfl rfl) (js := [_, _, _]) rfl (Nat.le_of_ble_eq_true rfl) Try.underlying77 rfl (by kernel_rfl)) (.cons (ResOne.tmp rfl) (.cons (ResOne.tmp rfl) .nil))) ?_ ?_ rfl (fixL_spec rfl)
   ·skip
    have hn : ¬ (right st now ∧ validS s) := by simp_all
    rw [(opn_1 hn).1, (opn_1 hn).2.1, (opn_1 hn).2.2]; rfl
   · exact SubS.nil
  ·skip
   have hy : right st now ∧ validS s := by simp_all
   have h50 := hy.1.1.1
   have hr2 := hy.1.2
   have hsl := hy.2.1
   have hll := laterQ_len st now
   refine W.skip ?_
   refine E.to ?_
   refine W.seq ?_
   refine W.region ?_
   refine SL.val (O.ldN (m := 3) (PtI.ref rfl rfl) (js := [_, _, _]) rfl (Nat.le_of_ble_eq_true rfl) Try.underlying77 rfl (by kernel_rfl) rfl Taken.no) ?_
   refine SL.val (O.move rfl rfl Taken.no) ?_
   refine SL.memS (O.call (rn [(0, 104)]) [] rfl rfl rfl (later_h (st := st) (now := now) hy.1) (.cons (ArgOk.aggU (.cons (ArgOk.same rfl) (.cons (ArgOk.same rfl) (.cons (ArgOk.same rfl) .nil)))) (.cons (ArgOk.same rfl) .nil)) SubS.nil rfl rfl rfl rfl rfl (.inl rfl) hcallOk56 (r' := .agg [.u _, .u _, .own 104]) rfl rfl Taken.no) rfl rfl (S' := (104, .data _ _ _) :: _) rfl ?_
   refine SL.memS (O.alloc (z := .agg #[.int .i64 0, .int .i64 0, .slice none 0 0]) (is := [.u (.sc (.int .i64 0)), .u (.sc (.int .i64 0)), .u (.sc (.slice none 0 0))]) 105 (by kernel_rfl) rfl rfl rfl Taken.no) rfl rfl (S' := (105, _) :: _) rfl ?_
   refine SL.effS (O.st_ref (m := 3) rfl rfl rfl (js := [_, _, _]) rfl rfl (by kernel_rfl) (by simp) (Nat.le_of_ble_eq_true rfl) rfl (is' := [_, _, _]) rfl Taken.no) (S' := (105, _) :: _) rfl ?_
   refine SL.nil ?_
   refine E.to ?_
   refine W.seq ?_
   refine W.seq ?_
   refine W.region ?_
   refine SL.val (O.fld_ref (o' := 2) rfl Try.underlying77 rfl (m := 0) (by kernel_rfl) rfl rfl Taken.no) ?_
   refine SL.val (O.ld1 (PtI.ref rfl rfl) rfl Try.underlying75 rfl rfl Taken.no) ?_
   refine SL.val (O.lenE (SlOf.own rfl rfl) (by first | exact List.length_map _ | rfl) Try.underlying75 rfl Taken.no) ?_
   refine SL.val (O.det (fun _ => G.R.geq rfl rfl) rfl Taken.no) ?_
   refine SL.val (O.move rfl rfl Taken.no) ?_
   refine SL.case (j := 4) (g := 27) (want := false) rfl rfl (fun hg3 => ?_) (fun hg3 => ?_)
   ·skip
    first | have hg3p := G.gA3 hg3 | have hg3p := G.gA4 hg3 | have hg3p := hg3
    refine SL.val (O.fld_ref (o' := 0) rfl Try.underlying77 rfl (m := 0) (by kernel_rfl) rfl rfl (Taken.yes rfl rfl hg3)) ?_
    refine SL.val (O.ld1 (PtI.ref rfl rfl) rfl Try.underlying3 rfl rfl (Taken.yes rfl rfl hg3)) ?_
    refine SL.val (O.det (fun _ => G.R.geq rfl rfl) rfl (Taken.yes rfl rfl hg3)) ?_
    refine SL.val (O.pick_f rfl hg3 rfl rfl Taken.no) ?_
    refine SL.nil ?_
    refine E.to ?_
    refine W.pick (.cons (t := 2) rfl (.cons (t := 4) rfl (.cons (t := 6) rfl (.cons (t := 7) rfl (.cons (t := 8) rfl (.cons (t := 9) rfl (.cons (t := 31) rfl .nil))))))) (.cons (t := 101) rfl (.cons (t := 102) rfl (.cons (t := 103) rfl (.cons (t := 104) rfl (.cons (t := 105) rfl .nil))))) ?_
    first | refine W.cond_d rfl (fun hc4 => ?_) (fun hc4 => ?_) | refine W.cond_nd rfl (fun hc4 => ?_) (fun hc4 => ?_) | refine W.cond rfl (fun hc4 => ?_) (fun hc4 => ?_)
    ·skip
     refine W.seq ?_
     refine W.region ?_
     refine SL.val (O.ldN (m := 3) (PtI.ref rfl rfl) (js := [_, _, _]) rfl (Nat.le_of_ble_eq_true rfl) Try.underlying77 rfl (by kernel_rfl) rfl Taken.no) ?_
     refine SL.effS (O.st_ref (m := 3) rfl rfl rfl (js := [_, _, _]) rfl rfl (by kernel_rfl) (by simp) (Nat.le_of_ble_eq_true rfl) rfl (is' := [_, _, _]) rfl Taken.no) (S' := (103, _) :: _) rfl ?_
     refine SL.val (O.assign rfl rfl Taken.no) ?_
     refine SL.val (O.assign rfl rfl Taken.no) ?_
     refine SL.nil ?_
     refine E.to ?_
     refine W.ret ?_
     refine E.thr ?_
     refine E.freezeC 103 2 104 (is' := [_, _, _]) rfl rfl rfl rfl ?_
     refine E.fin (rs := [_, _, _]) (rn []) (.inl rfl) rfl (.cons (ResOne.cellN (m := 3) (PtI.ref rfl rfl) (js := [_, _, _]) rfl (Nat.le_of_ble_eq_true rfl) Try.underlying77 rfl (by kernel_rfl)) (.cons (ResOne.tmp rfl) (.cons (ResOne.tmp rfl) .nil))) ?_ ?_ rfl (fixL_spec rfl)
     ·skip
      rw [(opn_20 hy (by first | omega | simp_all [later])).1, (opn_20 hy (by first | omega | simp_all [later])).2.1, (opn_20 hy (by first | omega | simp_all [later])).2.2]; rfl
     · exact SubS.nil
    ·skip
     refine W.skip ?_
     refine E.to ?_
     refine W.seq ?_
     refine W.region ?_
     refine SL.val (O.fld_ref (o' := 2) rfl Try.underlying77 rfl (m := 0) (by kernel_rfl) rfl rfl Taken.no) ?_
     refine SL.val (O.ld1 (PtI.ref rfl rfl) rfl Try.underlying75 rfl rfl Taken.no) ?_
     refine SL.val (O.fld_ref (o' := 0) rfl Try.underlying77 rfl (m := 0) (by kernel_rfl) rfl rfl Taken.no) ?_
     refine SL.val (O.ld1 (PtI.ref rfl rfl) rfl Try.underlying3 rfl rfl Taken.no) ?_
     refine SL.val (O.move rfl rfl Taken.no) ?_
     refine SL.val (O.ldN (m := 2) (PtI.ref rfl rfl) (js := [_, _]) rfl (Nat.le_of_ble_eq_true rfl) Try.underlying31 rfl (by kernel_rfl) rfl Taken.no) ?_
     refine SL.val (O.build (res := [_, _, _, _]) (z := .agg #[.int .i64 0, .int .i64 0, .int .i64 0, .slice none 0 0]) (places := [(0, 1), (1, 1), (2, 2)]) rfl rfl Try.underlying92 (by kernel_rfl) (fun _ => by kernel_rfl) rfl rfl Taken.no) ?_
     refine SL.memS (O.buildSlice 106 rfl rfl Try.underlying75 hi92 hz92 hs92 (by decide) rfl (by decide) rfl rfl rfl Taken.no) rfl rfl (S' := (106, _) :: _) rfl ?_
     refine SL.memS (O.app (k' := 107) rfl rfl (SlOf.own rfl rfl) Try.underlying75 hi92 hz92 hs92 rfl rfl (by exact map_snoc (x := (⟨st.next, now, s⟩ : Opn)) rfl) (by rw [hb92]; first | omega | (simp only [List.length_map]; omega) | (simp <;> omega)) (by first | omega | (simp only [List.length_map]; omega) | (simp <;> omega)) rfl Taken.no) rfl rfl (S' := (107, _) :: (104, .dead) :: _) rfl ?_
     refine SL.val (O.fld_ref (o' := 2) rfl Try.underlying77 rfl (m := 0) (by kernel_rfl) rfl rfl Taken.no) ?_
     refine SL.effS (O.st_ref (m := 1) rfl rfl rfl (js := [_]) rfl rfl (by kernel_rfl) (by simp) (Nat.le_of_ble_eq_true rfl) rfl (is' := [_, _, _]) rfl Taken.no) (S' := (105, _) :: _) rfl ?_
     refine SL.nil ?_
     refine E.to ?_
     refine W.seq ?_
     refine W.region ?_
     refine SL.val (O.fld_ref (o' := 0) rfl Try.underlying77 rfl (m := 0) (by kernel_rfl) rfl rfl Taken.no) ?_
     refine SL.val (O.ld1 (PtI.ref rfl rfl) rfl Try.underlying3 rfl rfl Taken.no) ?_
     refine SL.val (O.det (fun _ => by first | exact G.R.add64 rfl rfl (by omega) | exact G.R.add rfl rfl) rfl Taken.no) ?_
     refine SL.val (O.fld_ref (o' := 0) rfl Try.underlying77 rfl (m := 0) (by kernel_rfl) rfl rfl Taken.no) ?_
     refine SL.effS (O.st_ref (m := 1) rfl rfl rfl (js := [_]) rfl rfl (by kernel_rfl) (by simp) (Nat.le_of_ble_eq_true rfl) rfl (is' := [_, _, _]) rfl Taken.no) (S' := (105, _) :: _) rfl ?_
     refine SL.nil ?_
     refine E.to ?_
     refine W.seq ?_
     refine W.draw [⟨[105, 107], [], []⟩, ⟨[105], [], []⟩, ⟨[105], [], []⟩, ⟨[], [], []⟩, ⟨[103, 107], [103], []⟩, ⟨[], [], []⟩, ⟨[], [], []⟩] rfl (by kernel_rfl) (by kernel_rfl) rfl rfl ?_
     refine WH.val (O.ldN (m := 3) (PtI.ref rfl rfl) (js := [_, _, _]) rfl (Nat.le_of_ble_eq_true rfl) Try.underlying77 rfl (by kernel_rfl) rfl Taken.no) rfl rfl ?_
     refine WH.val (O.fld_ref (o' := 0) rfl Try.underlying77 rfl (m := 0) (by kernel_rfl) rfl rfl Taken.no) rfl rfl ?_
     refine WH.val (O.ld1 (PtI.ref rfl rfl) rfl Try.underlying3 rfl rfl Taken.no) rfl rfl ?_
     refine WH.val (O.det (fun _ => by first | exact G.R.sub64 rfl rfl (by omega) | exact G.R.sub rfl rfl) rfl Taken.no) rfl rfl ?_
     refine WH.effS (O.st_ref (m := 3) rfl rfl rfl (js := [_, _, _]) rfl rfl (by kernel_rfl) (by simp) (Nat.le_of_ble_eq_true rfl) rfl (is' := [_, _, _]) rfl Taken.no) rfl rfl rfl (S' := (103, _) :: _) rfl ?_
     refine WH.val (O.assign rfl rfl Taken.no) rfl rfl ?_
     refine WH.val (O.assign rfl rfl Taken.no) rfl rfl ?_
     refine WH.nil ?_
     refine E.to ?_
     refine W.pick (.cons (t := 6) rfl (.cons (t := 7) rfl (.cons (t := 8) rfl .nil))) (.cons (t := 101) rfl (.cons (t := 102) rfl (.cons (t := 103) rfl (.cons (t := 105) rfl (.cons (t := 106) rfl (.cons (t := 107) rfl .nil)))))) ?_
     refine W.ret ?_
     refine E.freezeC 103 2 107 (is' := [_, _, _]) rfl rfl rfl rfl ?_
     refine E.fin (rs := [_, _, _]) (rn []) (.inl rfl) rfl (.cons (ResOne.cellN (m := 3) (PtI.ref rfl rfl) (js := [_, _, _]) rfl (Nat.le_of_ble_eq_true rfl) Try.underlying77 rfl (by kernel_rfl)) (.cons (ResOne.tmp rfl) (.cons (ResOne.tmp rfl) .nil))) ?_ ?_ rfl (fixL_spec rfl)
     ·skip
      rw [show st.next + 1 - 1 = st.next by omega]
      rw [(opn_0 hy (by first | omega | simp_all [later])).1, (opn_0 hy (by first | omega | simp_all [later])).2.1, (opn_0 hy (by first | omega | simp_all [later])).2.2]; rfl
     · exact SubS.nil
   ·skip
    first | have hg3p := G.gA7 hg3 | have hg3p := G.gA8 hg3 | have hg3p := hg3
    refine SL.skip (OpOk.not rfl rfl rfl hg3) ?_
    refine SL.skip (OpOk.not rfl rfl rfl hg3) ?_
    refine SL.skip (OpOk.not rfl rfl rfl hg3) ?_
    refine SL.val (O.pick_t rfl (G.ne_f hg3) rfl rfl Taken.no) ?_
    refine SL.nil ?_
    refine E.to ?_
    refine W.pick (.cons (t := 2) rfl (.cons (t := 4) rfl (.cons (t := 6) rfl (.cons (t := 7) rfl (.cons (t := 8) rfl (.cons (t := 9) rfl (.cons (t := 31) rfl .nil))))))) (.cons (t := 101) rfl (.cons (t := 102) rfl (.cons (t := 103) rfl (.cons (t := 104) rfl (.cons (t := 105) rfl .nil))))) ?_
    refine W.cond_t rfl ?_
    refine W.seq ?_
    refine W.region ?_
    refine SL.val (O.ldN (m := 3) (PtI.ref rfl rfl) (js := [_, _, _]) rfl (Nat.le_of_ble_eq_true rfl) Try.underlying77 rfl (by kernel_rfl) rfl Taken.no) ?_
    refine SL.effS (O.st_ref (m := 3) rfl rfl rfl (js := [_, _, _]) rfl rfl (by kernel_rfl) (by simp) (Nat.le_of_ble_eq_true rfl) rfl (is' := [_, _, _]) rfl Taken.no) (S' := (103, _) :: _) rfl ?_
    refine SL.val (O.assign rfl rfl Taken.no) ?_
    refine SL.val (O.assign rfl rfl Taken.no) ?_
    refine SL.nil ?_
    refine E.to ?_
    refine W.ret ?_
    refine E.thr ?_
    refine E.freezeC 103 2 104 (is' := [_, _, _]) rfl rfl rfl rfl ?_
    refine E.fin (rs := [_, _, _]) (rn []) (.inl rfl) rfl (.cons (ResOne.cellN (m := 3) (PtI.ref rfl rfl) (js := [_, _, _]) rfl (Nat.le_of_ble_eq_true rfl) Try.underlying77 rfl (by kernel_rfl)) (.cons (ResOne.tmp rfl) (.cons (ResOne.tmp rfl) .nil))) ?_ ?_ rfl (fixL_spec rfl)
    ·skip
     rw [(opn_20 hy (by first | omega | simp_all [later])).1, (opn_20 hy (by first | omega | simp_all [later])).2.1, (opn_20 hy (by first | omega | simp_all [later])).2.2]; rfl
    · exact SubS.nil
 ·skip
  first | have hg1p := G.gA7 hg1 | have hg1p := G.gA8 hg1 | have hg1p := hg1
  refine SL.skip (OpOk.not rfl rfl rfl hg1) ?_
  refine SL.skip (OpOk.not rfl rfl rfl hg1) ?_
  refine SL.skip (OpOk.not rfl rfl rfl hg1) ?_
  refine SL.val (O.pick_t rfl (G.ne_f hg1) rfl rfl Taken.no) ?_
  refine SL.nil ?_
  refine E.to ?_
  refine W.cond_t rfl ?_
  refine W.seq ?_
  refine W.region ?_
  refine SL.val (O.build (res := [_, _, _]) (z := .agg #[.int .i64 0, .int .i64 0, .slice none 0 0]) (places := [(0, 1), (1, 1), (2, 1)]) rfl rfl Try.underlying77 (by kernel_rfl) (fun _ => by kernel_rfl) rfl rfl Taken.no) ?_
  refine SL.effS (O.st_ref (m := 3) rfl rfl rfl (js := [_, _, _]) rfl rfl (by kernel_rfl) (by simp) (Nat.le_of_ble_eq_true rfl) rfl (is' := [_, _, _]) rfl Taken.no) (S' := (103, _) :: _) rfl ?_
  refine SL.val (O.assign rfl rfl Taken.no) ?_
  refine SL.val (O.assign rfl rfl Taken.no) ?_
  refine SL.nil ?_
  refine E.to ?_
  refine W.ret ?_
  refine E.thr ?_
  refine E.nilslC 103 2 4 (is' := [_, _, _]) rfl rfl rfl ?_
  refine E.fin (rs := [_, _, _]) (rn []) (.inl rfl) rfl (.cons (ResOne.cellN (m := 3) (PtI.ref rfl rfl) (js := [_, _, _]) rfl (Nat.le_of_ble_eq_true rfl) Try.underlying77 rfl (by kernel_rfl)) (.cons (ResOne.tmp rfl) (.cons (ResOne.tmp rfl) .nil))) ?_ ?_ rfl (fixL_spec rfl)
  ·skip
   have hn : ¬ (right st now ∧ validS s) := by simp_all
   rw [(opn_1 hn).1, (opn_1 hn).2.1, (opn_1 hn).2.2]; rfl
  · exact SubS.nil

end Go.Proofs.Ytoebjajbmkdcfaa
