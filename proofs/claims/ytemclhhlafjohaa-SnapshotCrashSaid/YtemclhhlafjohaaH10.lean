/-
  The walks.
-/
import Derived.Test.YtemclhhlafjohaaH9
namespace Go.Proofs.Ytemclhhlafjohaa
open Go Go.RowKit Go.H Go.D21 Go.D20 Go.D02

theorem hcallOk12 : G.callOk Try.prog 12 = true := by kernel_rfl
theorem hcallOk21 : G.callOk Try.prog 21 = true := by kernel_rfl
theorem hcallOk41 : G.callOk Try.prog 41 = true := by kernel_rfl
theorem hcallOk43 : G.callOk Try.prog 43 = true := by kernel_rfl
theorem hcallOk44 : G.callOk Try.prog 44 = true := by kernel_rfl
theorem hcallOk45 : G.callOk Try.prog 45 = true := by kernel_rfl
theorem hcallOk46 : G.callOk Try.prog 46 = true := by kernel_rfl

set_option maxRecDepth 8000 in
/-- bookplate/snapshot.Valid. -/
theorem svalid_h {a : AS} (h : a.Ok) :
    Con Try.prog 21 [vA [uI (a.base : Int), .sl 1 (a.file.map eB), uI a.sy, .sl 1 (a.snaps.map eL)]] [] (vB true) [] := by
 have hfl := AS.flen h
 have hbs := h.bs
 have hsh := h.sh
 have hsm := h.sm.2
 have htw := h.two
 have hsl := a.sn_len
 have hll := a.lg_len
 have hvw := AS.valid h
 have hpy := AS.pays h
 have hne : 0 < a.base → 0 < a.sn.length := fun q => List.length_pos_iff.2 (h.ne q)
 have hsy := valid_range hvw
 obtain ⟨i22, hi22, hz22, hs22, hb22⟩ := hinf22
 refine Con.enterL (n := 78) Try.func21 rfl rfl rfl (fun τ w ok vs hin => ?_)
 have hl0_1 := hin.lenA (i := 0) (j := 1) rfl rfl
 try rw [List.length_map] at hl0_1
 have hl0_3 := hin.lenA (i := 0) (j := 3) rfl rfl
 try rw [List.length_map] at hl0_3
 clear hin
 refine W.seq ?_
 refine W.region ?_
 refine SL.memS (O.box (is := [_, _, _, _]) 101 rfl rfl (by simp) rfl rfl Taken.no) rfl rfl (S' := (101, _) :: _) rfl ?_
 refine SL.val (O.assign rfl rfl Taken.no) ?_
 refine SL.nil ?_
 refine E.to ?_
 refine W.seq ?_
 refine W.seq ?_
 refine W.region ?_
 refine SL.val (O.fld_ref (o' := 1) rfl Try.underlying46 rfl (m := 1) (by kernel_rfl) rfl rfl Taken.no) ?_
 refine SL.val (O.ldN (m := 2) (PtI.ref rfl rfl) (js := [_, _]) rfl (Nat.le_of_ble_eq_true rfl) Try.underlying44 rfl (by kernel_rfl) rfl Taken.no) ?_
 refine SL.val (O.callp rfl rfl rfl (valid_h (l := a.file) a.sy (by omega)) (.cons (ArgOk.aggU (.cons (ArgOk.same rfl) (.cons (ArgOk.same rfl) .nil))) .nil) hcallOk42 rfl Taken.no) ?_
 refine SL.as (i' := vB true) 12 rfl (by exact iv_bool (decide_eq_true hvw)) ?_
 refine SL.val (O.det (fun _ => G.R.mv (G.R.not rfl) rfl) rfl Taken.no) ?_
 refine SL.val (O.move rfl rfl Taken.no) ?_
 have hg1 : false = false := by decide
 refine SL.val (O.fld_ref (o' := 0) rfl Try.underlying46 rfl (m := 0) (by kernel_rfl) rfl rfl (Taken.yes rfl rfl hg1)) ?_
 refine SL.val (O.ld1 (PtI.ref rfl rfl) rfl Try.underlying3 rfl rfl (Taken.yes rfl rfl hg1)) ?_
 refine SL.val (O.det (fun _ => G.R.lss rfl rfl) rfl (Taken.yes rfl rfl hg1)) ?_
 refine SL.val (O.pick_f rfl rfl rfl rfl Taken.no) ?_
 refine SL.val (O.move rfl rfl Taken.no) ?_
 refine SL.case (j := 9) (g := 19) (want := false) rfl rfl (fun hg2 => ?_) (fun hg2 => ?_)
 ·skip
  first | have hg2p := G.gA3 hg2 | have hg2p := G.gA4 hg2 | have hg2p := hg2
  refine SL.val (O.fld_ref (o' := 0) rfl Try.underlying46 rfl (m := 0) (by kernel_rfl) rfl rfl (Taken.yes rfl rfl hg2)) ?_
  refine SL.val (O.ld1 (PtI.ref rfl rfl) rfl Try.underlying3 rfl rfl (Taken.yes rfl rfl hg2)) ?_
  refine SL.val (O.det (fun _ => G.R.gtr rfl rfl) rfl (Taken.yes rfl rfl hg2)) ?_
  refine SL.val (O.pick_f rfl hg2 rfl rfl Taken.no) ?_
  refine SL.val (O.move rfl rfl Taken.no) ?_
  refine SL.case (j := 14) (g := 24) (want := false) rfl rfl (fun hg3 => ?_) (fun hg3 => ?_)
  ·skip
   first | have hg3p := G.gA3 hg3 | have hg3p := G.gA4 hg3 | have hg3p := hg3
   refine SL.val (O.fld_ref (o' := 3) rfl Try.underlying46 rfl (m := 0) (by kernel_rfl) rfl rfl (Taken.yes rfl rfl hg3)) ?_
   refine SL.val (O.ld1 (PtI.ref rfl rfl) rfl Try.underlying32 rfl rfl (Taken.yes rfl rfl hg3)) ?_
   refine SL.val (O.lenE (SlOf.fz rfl (by decide)) (by first | exact List.length_map _ | rfl) Try.underlying32 rfl (Taken.yes rfl rfl hg3)) ?_
   refine SL.val (O.det (fun _ => G.R.gtr rfl rfl) rfl (Taken.yes rfl rfl hg3)) ?_
   refine SL.val (O.pick_f rfl hg3 rfl rfl Taken.no) ?_
   refine SL.val (O.move rfl rfl Taken.no) ?_
   refine SL.case (j := 20) (g := 30) (want := false) rfl rfl (fun hg4 => ?_) (fun hg4 => ?_)
   ·skip
    first | have hg4p := G.gA3 hg4 | have hg4p := G.gA4 hg4 | have hg4p := hg4
    refine SL.val (O.fld_ref (o' := 0) rfl Try.underlying46 rfl (m := 0) (by kernel_rfl) rfl rfl (Taken.yes rfl rfl hg4)) ?_
    refine SL.val (O.ld1 (PtI.ref rfl rfl) rfl Try.underlying3 rfl rfl (Taken.yes rfl rfl hg4)) ?_
    refine SL.val (O.det (fun _ => G.R.gtr rfl rfl) rfl (Taken.yes rfl rfl hg4)) ?_
    refine SL.val (O.move rfl rfl (Taken.yes rfl rfl hg4)) ?_
    refine SL.case (j := 24) (g := 34) (want := true) rfl rfl (fun hg5 => ?_) (fun hg5 => ?_)
    ·skip
     first | have hg5p := G.gA1 hg5 | have hg5p := G.gA2 hg5 | have hg5p := hg5
     refine SL.val (O.fld_ref (o' := 3) rfl Try.underlying46 rfl (m := 0) (by kernel_rfl) rfl rfl (Taken.yes rfl rfl hg5)) ?_
     refine SL.val (O.ld1 (PtI.ref rfl rfl) rfl Try.underlying32 rfl rfl (Taken.yes rfl rfl hg5)) ?_
     refine SL.val (O.lenE (SlOf.fz rfl (by decide)) (by first | exact List.length_map _ | rfl) Try.underlying32 rfl (Taken.yes rfl rfl hg5)) ?_
     refine SL.val (O.det (fun _ => G.R.eql rfl rfl) rfl (Taken.yes rfl rfl hg5)) ?_
     refine SL.val (O.pick_t rfl hg5 rfl rfl (Taken.yes rfl rfl hg4)) ?_
     refine SL.val (O.pick_f rfl hg4 rfl rfl Taken.no) ?_
     refine SL.nil ?_
     refine E.to ?_
     refine W.pick (.cons (t := 1) rfl (.cons (t := 2) rfl (.cons (t := 40) rfl .nil))) (.cons (t := 101) rfl .nil) ?_
     first | refine W.cond_d rfl (fun hc6 => ?_) (fun hc6 => ?_) | refine W.cond_nd rfl (fun hc6 => ?_) (fun hc6 => ?_) | refine W.cond rfl (fun hc6 => ?_) (fun hc6 => ?_)
     ·skip
      exfalso; omega
     ·skip
      refine W.skip ?_
      refine E.to ?_
      refine W.seq ?_
      refine W.draw [⟨[], [], [], [101]⟩, ⟨[101], [], [], []⟩, ⟨[], [], [], []⟩, ⟨[], [], [], [101]⟩, ⟨[101], [], [], []⟩, ⟨[], [], [], [101]⟩, ⟨[101], [], [], []⟩, ⟨[], [], [], []⟩, ⟨[], [], [], []⟩, ⟨[], [], [], []⟩, ⟨[], [], [], []⟩, ⟨[], [], [], []⟩] rfl (by kernel_rfl) (by kernel_rfl) rfl rfl ?_
      refine WH.val (O.fld_ref (o' := 0) rfl Try.underlying46 rfl (m := 0) (by kernel_rfl) rfl rfl Taken.no) rfl rfl ?_
      refine WH.val (O.ld1 (PtI.ref rfl rfl) rfl Try.underlying3 rfl rfl Taken.no) rfl rfl ?_
      refine WH.val (O.det (fun _ => by first | exact G.R.sub64 rfl rfl (by omega) | exact G.R.sub rfl rfl) rfl Taken.no) rfl rfl ?_
      refine WH.val (O.fld_ref (o' := 0) rfl Try.underlying46 rfl (m := 0) (by kernel_rfl) rfl rfl Taken.no) rfl rfl ?_
      refine WH.val (O.ld1 (PtI.ref rfl rfl) rfl Try.underlying3 rfl rfl Taken.no) rfl rfl ?_
      refine WH.val (O.fld_ref (o' := 1) rfl Try.underlying46 rfl (m := 1) (by kernel_rfl) rfl rfl Taken.no) rfl rfl ?_
      refine WH.val (O.ldN (m := 2) (PtI.ref rfl rfl) (js := [_, _]) rfl (Nat.le_of_ble_eq_true rfl) Try.underlying44 rfl (by kernel_rfl) rfl Taken.no) rfl rfl ?_
      refine WH.val (OpOk.re (i' := vL 1 (a.lg.map eL)) (O.callp rfl rfl rfl (payloads_h (l := a.file) a.sy (by omega)) (.cons (ArgOk.aggU (.cons (ArgOk.same rfl) (.cons (ArgOk.same rfl) .nil))) .nil) hcallOk43 rfl Taken.no) (by rw [if_pos hvw, hpy])) rfl rfl ?_
      refine WH.val (O.lenE (SlOf.fz rfl (by decide)) (by first | exact List.length_map _ | rfl) Try.underlying32 rfl Taken.no) rfl rfl ?_
      refine WH.val (O.det (fun _ => by first | exact G.R.add64 rfl rfl (by omega) | exact G.R.add rfl rfl) rfl Taken.no) rfl rfl ?_
      refine WH.val (O.assign rfl rfl Taken.no) rfl rfl ?_
      refine WH.val (O.assign rfl rfl Taken.no) rfl rfl ?_
      refine WH.nil ?_
      refine E.to ?_
      refine W.seq ?_
      refine W.seq ?_
      refine W.region ?_
      refine SL.val (O.fld_ref (o' := 3) rfl Try.underlying46 rfl (m := 0) (by kernel_rfl) rfl rfl Taken.no) ?_
      refine SL.val (O.ld1 (PtI.ref rfl rfl) rfl Try.underlying32 rfl rfl Taken.no) ?_
      refine SL.val (O.lenE (SlOf.fz rfl (by decide)) (by first | exact List.length_map _ | rfl) Try.underlying32 rfl Taken.no) ?_
      refine SL.val (O.move rfl rfl Taken.no) ?_
      refine SL.nil ?_
      refine E.to ?_
      refine W.block ?_
      refine W.loopx1 (fun (k : Nat) => [(54, vI (k : Int)), (3, vI (a.last k))]) (fun (k : Nat) => []) (fun (k : Nat) => k ≤ a.sn.length) (fun (k : Nat) => a.sn.length - k) (0) (rn []) (.cons (t := 4) rfl (.cons (t := 52) rfl (.cons (t := 53) rfl .nil))) (.cons (t := 101) rfl .nil) rfl ?_ ?_ rfl rfl ?_ ?_
      · exact (SubF.cons rfl (SubF.cons rfl SubF.nil))
      · exact SubS.nil
      ·skip
       omega
      intro k hinv
      have hk := hinv
      refine W.seq ?_
      refine W.region ?_
      refine SL.val (O.det (fun _ => G.R.lss rfl rfl) rfl Taken.no) ?_
      refine SL.nil ?_
      refine E.to ?_
      refine W.seq ?_
      first | refine W.cond_d rfl (fun hc7 => ?_) (fun hc7 => ?_) | refine W.cond_nd rfl (fun hc7 => ?_) (fun hc7 => ?_) | refine W.cond rfl (fun hc7 => ?_) (fun hc7 => ?_)
      ·skip
       have hk2 : k < a.sn.length := by omega
       have hat := AS.sn_at h hk2
       have hlt := AS.last_lt h hk2
       refine W.skip ?_
       refine E.to ?_
       refine W.seq ?_
       refine W.block ?_
       refine W.seq ?_
       refine W.region ?_
       refine SL.val (O.idx_fz rfl rfl (rfl) (row_get (by omega)) Try.underlying32 hi22 hs22 rfl Taken.no) ?_
       refine SL.val (O.ld1 (PtI.ofU (PtU.fz rfl)) rfl Try.underlying22 rfl rfl Taken.no) ?_
       refine SL.val (O.assign rfl rfl Taken.no) ?_
       refine SL.nil ?_
       refine E.to ?_
       refine W.seq ?_
       refine W.region ?_
       refine SL.val (O.move rfl rfl Taken.no) ?_
       refine SL.memS (O.call (rn []) [] rfl rfl rfl (read_h (l := a.snaps[k]!) (by omega)) (.cons (ArgOk.same rfl) .nil) SubS.nil rfl rfl rfl rfl rfl (.inl rfl) hcallOk10 (r' := .tup [.u _, .u _, .u _]) rfl rfl Taken.no) rfl rfl (S' := _) rfl ?_
       refine SL.val (O.move rfl rfl Taken.no) ?_
       refine SL.val (O.extract rfl rfl rfl Taken.no) ?_
       refine SL.val (O.extract rfl rfl rfl Taken.no) ?_
       refine SL.val (O.extract rfl rfl rfl Taken.no) ?_
       refine SL.val (O.assign rfl rfl Taken.no) ?_
       refine SL.val (O.assign rfl rfl Taken.no) ?_
       refine SL.val (O.assign rfl rfl Taken.no) ?_
       refine SL.nil ?_
       refine E.to ?_
       refine W.seq ?_
       refine W.seq ?_
       refine W.region ?_
       refine SL.val (O.move rfl rfl Taken.no) ?_
       refine SL.val (O.det (fun _ => G.R.neq rfl rfl) rfl Taken.no) ?_
       refine SL.val (O.move rfl rfl Taken.no) ?_
       refine SL.case (j := 2) (g := 66) (want := false) rfl rfl (fun hg8 => ?_) (fun hg8 => ?_)
       ·skip
        first | have hg8p := G.gA3 hg8 | have hg8p := G.gA4 hg8 | have hg8p := hg8
        refine SL.val (O.move rfl rfl (Taken.yes rfl rfl hg8)) ?_
        refine SL.val (O.move rfl rfl (Taken.yes rfl rfl hg8)) ?_
        refine SL.val (O.det (fun _ => G.R.leq rfl rfl) rfl (Taken.yes rfl rfl hg8)) ?_
        refine SL.val (O.pick_f rfl hg8 rfl rfl Taken.no) ?_
        refine SL.val (O.move rfl rfl Taken.no) ?_
        refine SL.case (j := 7) (g := 71) (want := false) rfl rfl (fun hg9 => ?_) (fun hg9 => ?_)
        ·skip
         first | have hg9p := G.gA3 hg9 | have hg9p := G.gA4 hg9 | have hg9p := hg9
         refine SL.val (O.move rfl rfl (Taken.yes rfl rfl hg9)) ?_
         refine SL.val (O.move rfl rfl (Taken.yes rfl rfl hg9)) ?_
         refine SL.val (O.det (fun _ => G.R.gtr rfl rfl) rfl (Taken.yes rfl rfl hg9)) ?_
         refine SL.val (O.pick_f rfl hg9 rfl rfl Taken.no) ?_
         refine SL.nil ?_
         refine E.to ?_
         refine W.pick (.cons (t := 3) rfl (.cons (t := 4) rfl (.cons (t := 7) rfl (.cons (t := 52) rfl (.cons (t := 53) rfl (.cons (t := 54) rfl (.cons (t := 75) rfl .nil))))))) (.cons (t := 101) rfl .nil) ?_
         first | refine W.cond_d rfl (fun hc10 => ?_) (fun hc10 => ?_) | refine W.cond_nd rfl (fun hc10 => ?_) (fun hc10 => ?_) | refine W.cond rfl (fun hc10 => ?_) (fun hc10 => ?_)
         ·skip
          exfalso; omega
         ·skip
          refine W.skip ?_
          refine E.to ?_
          refine W.region ?_
          refine SL.val (O.move rfl rfl Taken.no) ?_
          refine SL.val (O.assign rfl rfl Taken.no) ?_
          refine SL.nil ?_
          refine E.inn ?_
          refine E.to ?_
          refine W.region ?_
          refine SL.val (O.det (fun _ => by first | exact G.R.add64 rfl rfl (by omega) | exact G.R.add rfl rfl) rfl Taken.no) ?_
          refine SL.val (O.move rfl rfl Taken.no) ?_
          refine SL.nil ?_
          refine E.again ((k + 1)) (rn []) ?_ ?_ rfl (fixL_spec rfl) ?_ ?_
          · exact (SubF.cons rfl (SubF.val rfl (by (try dsimp only); exact iv_int (by rw [AS.last_s]; exact hat.2.2.1)) (SubF.cons rfl (SubF.cons rfl (SubF.cons rfl SubF.nil)))))
          · exact (SubS.cons rfl SubS.nil)
          ·try dsimp only
           omega
          · (try dsimp only); omega
        ·skip
         first | have hg9p := G.gA7 hg9 | have hg9p := G.gA8 hg9 | have hg9p := hg9
         refine SL.skip (OpOk.not rfl rfl rfl hg9) ?_
         refine SL.skip (OpOk.not rfl rfl rfl hg9) ?_
         refine SL.skip (OpOk.not rfl rfl rfl hg9) ?_
         refine SL.val (O.pick_t rfl (G.ne_f hg9) rfl rfl Taken.no) ?_
         refine SL.nil ?_
         refine E.to ?_
         refine W.pick (.cons (t := 3) rfl (.cons (t := 4) rfl (.cons (t := 7) rfl (.cons (t := 52) rfl (.cons (t := 53) rfl (.cons (t := 54) rfl (.cons (t := 75) rfl .nil))))))) (.cons (t := 101) rfl .nil) ?_
         refine W.cond_t rfl ?_
         refine W.seq ?_
         refine W.region ?_
         refine SL.val (O.assign rfl rfl Taken.no) ?_
         refine SL.nil ?_
         refine E.to ?_
         refine W.ret ?_
         refine E.thr ?_
         refine E.inr ?_
         refine E.thr ?_
         refine E.thr ?_
         refine E.inr ?_
         refine E.thr ?_
         refine E.fin (rs := [_]) (rn []) (.inl rfl) rfl (.cons (ResOne.tmp rfl) .nil) ?_ ?_ rfl (fixL_spec rfl)
         ·skip
          exfalso; omega
         · exact SubS.nil
       ·skip
        first | have hg8p := G.gA7 hg8 | have hg8p := G.gA8 hg8 | have hg8p := hg8
        refine SL.skip (OpOk.not rfl rfl rfl hg8) ?_
        refine SL.skip (OpOk.not rfl rfl rfl hg8) ?_
        refine SL.skip (OpOk.not rfl rfl rfl hg8) ?_
        refine SL.val (O.pick_t rfl (G.ne_f hg8) rfl rfl Taken.no) ?_
        refine SL.val (O.move rfl rfl Taken.no) ?_
        have hg11 : true ≠ false := by decide
        refine SL.skip (OpOk.not rfl rfl rfl hg11) ?_
        refine SL.skip (OpOk.not rfl rfl rfl hg11) ?_
        refine SL.skip (OpOk.not rfl rfl rfl hg11) ?_
        refine SL.val (O.pick_t rfl rfl rfl rfl Taken.no) ?_
        refine SL.nil ?_
        refine E.to ?_
        refine W.pick (.cons (t := 3) rfl (.cons (t := 4) rfl (.cons (t := 7) rfl (.cons (t := 52) rfl (.cons (t := 53) rfl (.cons (t := 54) rfl (.cons (t := 75) rfl .nil))))))) (.cons (t := 101) rfl .nil) ?_
        refine W.cond_t rfl ?_
        refine W.seq ?_
        refine W.region ?_
        refine SL.val (O.assign rfl rfl Taken.no) ?_
        refine SL.nil ?_
        refine E.to ?_
        refine W.ret ?_
        refine E.thr ?_
        refine E.inr ?_
        refine E.thr ?_
        refine E.thr ?_
        refine E.inr ?_
        refine E.thr ?_
        refine E.fin (rs := [_]) (rn []) (.inl rfl) rfl (.cons (ResOne.tmp rfl) .nil) ?_ ?_ rfl (fixL_spec rfl)
        ·skip
         exfalso; omega
        · exact SubS.nil
      ·skip
       refine W.exit ?_
       refine E.th ?_
       refine E.th ?_
       refine E.hit ?_
       refine E.to ?_
       refine W.seq ?_
       refine W.region ?_
       refine SL.val (O.assign rfl rfl Taken.no) ?_
       refine SL.nil ?_
       refine E.to ?_
       refine W.ret ?_
       refine E.fin (rs := [_]) (rn []) (.inl rfl) rfl (.cons (ResOne.tmp rfl) .nil) ?_ ?_ rfl (fixL_spec rfl)
       ·skip
        rfl
       · exact SubS.nil
    ·skip
     first | have hg5p := G.gA5 hg5 | have hg5p := G.gA6 hg5 | have hg5p := hg5
     refine SL.skip (OpOk.not rfl rfl rfl hg5) ?_
     refine SL.skip (OpOk.not rfl rfl rfl hg5) ?_
     refine SL.skip (OpOk.not rfl rfl rfl hg5) ?_
     refine SL.skip (OpOk.not rfl rfl rfl hg5) ?_
     refine SL.val (O.pick_f rfl (G.ne_t hg5) rfl rfl (Taken.yes rfl rfl hg4)) ?_
     refine SL.val (O.pick_f rfl hg4 rfl rfl Taken.no) ?_
     refine SL.nil ?_
     refine E.to ?_
     refine W.pick (.cons (t := 1) rfl (.cons (t := 2) rfl (.cons (t := 40) rfl .nil))) (.cons (t := 101) rfl .nil) ?_
     refine W.cond_f rfl ?_
     refine W.skip ?_
     refine E.to ?_
     refine W.seq ?_
     refine W.draw [⟨[], [], [], [101]⟩, ⟨[101], [], [], []⟩, ⟨[], [], [], []⟩, ⟨[], [], [], [101]⟩, ⟨[101], [], [], []⟩, ⟨[], [], [], [101]⟩, ⟨[101], [], [], []⟩, ⟨[], [], [], []⟩, ⟨[], [], [], []⟩, ⟨[], [], [], []⟩, ⟨[], [], [], []⟩, ⟨[], [], [], []⟩] rfl (by kernel_rfl) (by kernel_rfl) rfl rfl ?_
     refine WH.val (O.fld_ref (o' := 0) rfl Try.underlying46 rfl (m := 0) (by kernel_rfl) rfl rfl Taken.no) rfl rfl ?_
     refine WH.val (O.ld1 (PtI.ref rfl rfl) rfl Try.underlying3 rfl rfl Taken.no) rfl rfl ?_
     refine WH.val (O.det (fun _ => by first | exact G.R.sub64 rfl rfl (by omega) | exact G.R.sub rfl rfl) rfl Taken.no) rfl rfl ?_
     refine WH.val (O.fld_ref (o' := 0) rfl Try.underlying46 rfl (m := 0) (by kernel_rfl) rfl rfl Taken.no) rfl rfl ?_
     refine WH.val (O.ld1 (PtI.ref rfl rfl) rfl Try.underlying3 rfl rfl Taken.no) rfl rfl ?_
     refine WH.val (O.fld_ref (o' := 1) rfl Try.underlying46 rfl (m := 1) (by kernel_rfl) rfl rfl Taken.no) rfl rfl ?_
     refine WH.val (O.ldN (m := 2) (PtI.ref rfl rfl) (js := [_, _]) rfl (Nat.le_of_ble_eq_true rfl) Try.underlying44 rfl (by kernel_rfl) rfl Taken.no) rfl rfl ?_
     refine WH.val (OpOk.re (i' := vL 1 (a.lg.map eL)) (O.callp rfl rfl rfl (payloads_h (l := a.file) a.sy (by omega)) (.cons (ArgOk.aggU (.cons (ArgOk.same rfl) (.cons (ArgOk.same rfl) .nil))) .nil) hcallOk43 rfl Taken.no) (by rw [if_pos hvw, hpy])) rfl rfl ?_
     refine WH.val (O.lenE (SlOf.fz rfl (by decide)) (by first | exact List.length_map _ | rfl) Try.underlying32 rfl Taken.no) rfl rfl ?_
     refine WH.val (O.det (fun _ => by first | exact G.R.add64 rfl rfl (by omega) | exact G.R.add rfl rfl) rfl Taken.no) rfl rfl ?_
     refine WH.val (O.assign rfl rfl Taken.no) rfl rfl ?_
     refine WH.val (O.assign rfl rfl Taken.no) rfl rfl ?_
     refine WH.nil ?_
     refine E.to ?_
     refine W.seq ?_
     refine W.seq ?_
     refine W.region ?_
     refine SL.val (O.fld_ref (o' := 3) rfl Try.underlying46 rfl (m := 0) (by kernel_rfl) rfl rfl Taken.no) ?_
     refine SL.val (O.ld1 (PtI.ref rfl rfl) rfl Try.underlying32 rfl rfl Taken.no) ?_
     refine SL.val (O.lenE (SlOf.fz rfl (by decide)) (by first | exact List.length_map _ | rfl) Try.underlying32 rfl Taken.no) ?_
     refine SL.val (O.move rfl rfl Taken.no) ?_
     refine SL.nil ?_
     refine E.to ?_
     refine W.block ?_
     refine W.loopx1 (fun (k : Nat) => [(54, vI (k : Int)), (3, vI (a.last k))]) (fun (k : Nat) => []) (fun (k : Nat) => k ≤ a.sn.length) (fun (k : Nat) => a.sn.length - k) (0) (rn []) (.cons (t := 4) rfl (.cons (t := 52) rfl (.cons (t := 53) rfl .nil))) (.cons (t := 101) rfl .nil) rfl ?_ ?_ rfl rfl ?_ ?_
     · exact (SubF.cons rfl (SubF.cons rfl SubF.nil))
     · exact SubS.nil
     ·skip
      omega
     intro k hinv
     have hk := hinv
     refine W.seq ?_
     refine W.region ?_
     refine SL.val (O.det (fun _ => G.R.lss rfl rfl) rfl Taken.no) ?_
     refine SL.nil ?_
     refine E.to ?_
     refine W.seq ?_
     first | refine W.cond_d rfl (fun hc12 => ?_) (fun hc12 => ?_) | refine W.cond_nd rfl (fun hc12 => ?_) (fun hc12 => ?_) | refine W.cond rfl (fun hc12 => ?_) (fun hc12 => ?_)
     ·skip
      have hk2 : k < a.sn.length := by omega
      have hat := AS.sn_at h hk2
      have hlt := AS.last_lt h hk2
      refine W.skip ?_
      refine E.to ?_
      refine W.seq ?_
      refine W.block ?_
      refine W.seq ?_
      refine W.region ?_
      refine SL.val (O.idx_fz rfl rfl (rfl) (row_get (by omega)) Try.underlying32 hi22 hs22 rfl Taken.no) ?_
      refine SL.val (O.ld1 (PtI.ofU (PtU.fz rfl)) rfl Try.underlying22 rfl rfl Taken.no) ?_
      refine SL.val (O.assign rfl rfl Taken.no) ?_
      refine SL.nil ?_
      refine E.to ?_
      refine W.seq ?_
      refine W.region ?_
      refine SL.val (O.move rfl rfl Taken.no) ?_
      refine SL.memS (O.call (rn []) [] rfl rfl rfl (read_h (l := a.snaps[k]!) (by omega)) (.cons (ArgOk.same rfl) .nil) SubS.nil rfl rfl rfl rfl rfl (.inl rfl) hcallOk10 (r' := .tup [.u _, .u _, .u _]) rfl rfl Taken.no) rfl rfl (S' := _) rfl ?_
      refine SL.val (O.move rfl rfl Taken.no) ?_
      refine SL.val (O.extract rfl rfl rfl Taken.no) ?_
      refine SL.val (O.extract rfl rfl rfl Taken.no) ?_
      refine SL.val (O.extract rfl rfl rfl Taken.no) ?_
      refine SL.val (O.assign rfl rfl Taken.no) ?_
      refine SL.val (O.assign rfl rfl Taken.no) ?_
      refine SL.val (O.assign rfl rfl Taken.no) ?_
      refine SL.nil ?_
      refine E.to ?_
      refine W.seq ?_
      refine W.seq ?_
      refine W.region ?_
      refine SL.val (O.move rfl rfl Taken.no) ?_
      refine SL.val (O.det (fun _ => G.R.neq rfl rfl) rfl Taken.no) ?_
      refine SL.val (O.move rfl rfl Taken.no) ?_
      refine SL.case (j := 2) (g := 66) (want := false) rfl rfl (fun hg13 => ?_) (fun hg13 => ?_)
      ·skip
       first | have hg13p := G.gA3 hg13 | have hg13p := G.gA4 hg13 | have hg13p := hg13
       refine SL.val (O.move rfl rfl (Taken.yes rfl rfl hg13)) ?_
       refine SL.val (O.move rfl rfl (Taken.yes rfl rfl hg13)) ?_
       refine SL.val (O.det (fun _ => G.R.leq rfl rfl) rfl (Taken.yes rfl rfl hg13)) ?_
       refine SL.val (O.pick_f rfl hg13 rfl rfl Taken.no) ?_
       refine SL.val (O.move rfl rfl Taken.no) ?_
       refine SL.case (j := 7) (g := 71) (want := false) rfl rfl (fun hg14 => ?_) (fun hg14 => ?_)
       ·skip
        first | have hg14p := G.gA3 hg14 | have hg14p := G.gA4 hg14 | have hg14p := hg14
        refine SL.val (O.move rfl rfl (Taken.yes rfl rfl hg14)) ?_
        refine SL.val (O.move rfl rfl (Taken.yes rfl rfl hg14)) ?_
        refine SL.val (O.det (fun _ => G.R.gtr rfl rfl) rfl (Taken.yes rfl rfl hg14)) ?_
        refine SL.val (O.pick_f rfl hg14 rfl rfl Taken.no) ?_
        refine SL.nil ?_
        refine E.to ?_
        refine W.pick (.cons (t := 3) rfl (.cons (t := 4) rfl (.cons (t := 7) rfl (.cons (t := 52) rfl (.cons (t := 53) rfl (.cons (t := 54) rfl (.cons (t := 75) rfl .nil))))))) (.cons (t := 101) rfl .nil) ?_
        first | refine W.cond_d rfl (fun hc15 => ?_) (fun hc15 => ?_) | refine W.cond_nd rfl (fun hc15 => ?_) (fun hc15 => ?_) | refine W.cond rfl (fun hc15 => ?_) (fun hc15 => ?_)
        ·skip
         exfalso; omega
        ·skip
         refine W.skip ?_
         refine E.to ?_
         refine W.region ?_
         refine SL.val (O.move rfl rfl Taken.no) ?_
         refine SL.val (O.assign rfl rfl Taken.no) ?_
         refine SL.nil ?_
         refine E.inn ?_
         refine E.to ?_
         refine W.region ?_
         refine SL.val (O.det (fun _ => by first | exact G.R.add64 rfl rfl (by omega) | exact G.R.add rfl rfl) rfl Taken.no) ?_
         refine SL.val (O.move rfl rfl Taken.no) ?_
         refine SL.nil ?_
         refine E.again ((k + 1)) (rn []) ?_ ?_ rfl (fixL_spec rfl) ?_ ?_
         · exact (SubF.cons rfl (SubF.val rfl (by (try dsimp only); exact iv_int (by rw [AS.last_s]; exact hat.2.2.1)) (SubF.cons rfl (SubF.cons rfl (SubF.cons rfl SubF.nil)))))
         · exact (SubS.cons rfl SubS.nil)
         ·try dsimp only
          omega
         · (try dsimp only); omega
       ·skip
        first | have hg14p := G.gA7 hg14 | have hg14p := G.gA8 hg14 | have hg14p := hg14
        refine SL.skip (OpOk.not rfl rfl rfl hg14) ?_
        refine SL.skip (OpOk.not rfl rfl rfl hg14) ?_
        refine SL.skip (OpOk.not rfl rfl rfl hg14) ?_
        refine SL.val (O.pick_t rfl (G.ne_f hg14) rfl rfl Taken.no) ?_
        refine SL.nil ?_
        refine E.to ?_
        refine W.pick (.cons (t := 3) rfl (.cons (t := 4) rfl (.cons (t := 7) rfl (.cons (t := 52) rfl (.cons (t := 53) rfl (.cons (t := 54) rfl (.cons (t := 75) rfl .nil))))))) (.cons (t := 101) rfl .nil) ?_
        refine W.cond_t rfl ?_
        refine W.seq ?_
        refine W.region ?_
        refine SL.val (O.assign rfl rfl Taken.no) ?_
        refine SL.nil ?_
        refine E.to ?_
        refine W.ret ?_
        refine E.thr ?_
        refine E.inr ?_
        refine E.thr ?_
        refine E.thr ?_
        refine E.inr ?_
        refine E.thr ?_
        refine E.fin (rs := [_]) (rn []) (.inl rfl) rfl (.cons (ResOne.tmp rfl) .nil) ?_ ?_ rfl (fixL_spec rfl)
        ·skip
         exfalso; omega
        · exact SubS.nil
      ·skip
       first | have hg13p := G.gA7 hg13 | have hg13p := G.gA8 hg13 | have hg13p := hg13
       refine SL.skip (OpOk.not rfl rfl rfl hg13) ?_
       refine SL.skip (OpOk.not rfl rfl rfl hg13) ?_
       refine SL.skip (OpOk.not rfl rfl rfl hg13) ?_
       refine SL.val (O.pick_t rfl (G.ne_f hg13) rfl rfl Taken.no) ?_
       refine SL.val (O.move rfl rfl Taken.no) ?_
       have hg16 : true ≠ false := by decide
       refine SL.skip (OpOk.not rfl rfl rfl hg16) ?_
       refine SL.skip (OpOk.not rfl rfl rfl hg16) ?_
       refine SL.skip (OpOk.not rfl rfl rfl hg16) ?_
       refine SL.val (O.pick_t rfl rfl rfl rfl Taken.no) ?_
       refine SL.nil ?_
       refine E.to ?_
       refine W.pick (.cons (t := 3) rfl (.cons (t := 4) rfl (.cons (t := 7) rfl (.cons (t := 52) rfl (.cons (t := 53) rfl (.cons (t := 54) rfl (.cons (t := 75) rfl .nil))))))) (.cons (t := 101) rfl .nil) ?_
       refine W.cond_t rfl ?_
       refine W.seq ?_
       refine W.region ?_
       refine SL.val (O.assign rfl rfl Taken.no) ?_
       refine SL.nil ?_
       refine E.to ?_
       refine W.ret ?_
       refine E.thr ?_
       refine E.inr ?_
       refine E.thr ?_
       refine E.thr ?_
       refine E.inr ?_
       refine E.thr ?_
       refine E.fin (rs := [_]) (rn []) (.inl rfl) rfl (.cons (ResOne.tmp rfl) .nil) ?_ ?_ rfl (fixL_spec rfl)
       ·skip
        exfalso; omega
       · exact SubS.nil
     ·skip
      refine W.exit ?_
      refine E.th ?_
      refine E.th ?_
      refine E.hit ?_
      refine E.to ?_
      refine W.seq ?_
      refine W.region ?_
      refine SL.val (O.assign rfl rfl Taken.no) ?_
      refine SL.nil ?_
      refine E.to ?_
      refine W.ret ?_
      refine E.fin (rs := [_]) (rn []) (.inl rfl) rfl (.cons (ResOne.tmp rfl) .nil) ?_ ?_ rfl (fixL_spec rfl)
      ·skip
       rfl
      · exact SubS.nil
   ·skip
    first | have hg4p := G.gA7 hg4 | have hg4p := G.gA8 hg4 | have hg4p := hg4
    refine SL.skip (OpOk.not rfl rfl rfl hg4) ?_
    refine SL.skip (OpOk.not rfl rfl rfl hg4) ?_
    refine SL.skip (OpOk.not rfl rfl rfl hg4) ?_
    refine SL.skip (OpOk.not rfl rfl rfl hg4) ?_
    refine SL.skip (OpOk.not2 rfl rfl rfl) ?_
    refine SL.skip (OpOk.not2 rfl rfl rfl) ?_
    refine SL.skip (OpOk.not2 rfl rfl rfl) ?_
    refine SL.skip (OpOk.not2 rfl rfl rfl) ?_
    refine SL.skip (OpOk.not rfl rfl rfl hg4) ?_
    refine SL.val (O.pick_t rfl (G.ne_f hg4) rfl rfl Taken.no) ?_
    refine SL.nil ?_
    refine E.to ?_
    refine W.pick (.cons (t := 1) rfl (.cons (t := 2) rfl (.cons (t := 40) rfl .nil))) (.cons (t := 101) rfl .nil) ?_
    refine W.cond_t rfl ?_
    refine W.seq ?_
    refine W.region ?_
    refine SL.val (O.assign rfl rfl Taken.no) ?_
    refine SL.nil ?_
    refine E.to ?_
    refine W.ret ?_
    refine E.thr ?_
    refine E.fin (rs := [_]) (rn []) (.inl rfl) rfl (.cons (ResOne.tmp rfl) .nil) ?_ ?_ rfl (fixL_spec rfl)
    ·skip
     exfalso; omega
    · exact SubS.nil
  ·skip
   first | have hg3p := G.gA7 hg3 | have hg3p := G.gA8 hg3 | have hg3p := hg3
   refine SL.skip (OpOk.not rfl rfl rfl hg3) ?_
   refine SL.skip (OpOk.not rfl rfl rfl hg3) ?_
   refine SL.skip (OpOk.not rfl rfl rfl hg3) ?_
   refine SL.skip (OpOk.not rfl rfl rfl hg3) ?_
   refine SL.val (O.pick_t rfl (G.ne_f hg3) rfl rfl Taken.no) ?_
   refine SL.val (O.move rfl rfl Taken.no) ?_
   have hg17 : true ≠ false := by decide
   refine SL.skip (OpOk.not rfl rfl rfl hg17) ?_
   refine SL.skip (OpOk.not rfl rfl rfl hg17) ?_
   refine SL.skip (OpOk.not rfl rfl rfl hg17) ?_
   refine SL.skip (OpOk.not rfl rfl rfl hg17) ?_
   refine SL.skip (OpOk.not2 rfl rfl rfl) ?_
   refine SL.skip (OpOk.not2 rfl rfl rfl) ?_
   refine SL.skip (OpOk.not2 rfl rfl rfl) ?_
   refine SL.skip (OpOk.not2 rfl rfl rfl) ?_
   refine SL.skip (OpOk.not rfl rfl rfl hg17) ?_
   refine SL.val (O.pick_t rfl rfl rfl rfl Taken.no) ?_
   refine SL.nil ?_
   refine E.to ?_
   refine W.pick (.cons (t := 1) rfl (.cons (t := 2) rfl (.cons (t := 40) rfl .nil))) (.cons (t := 101) rfl .nil) ?_
   refine W.cond_t rfl ?_
   refine W.seq ?_
   refine W.region ?_
   refine SL.val (O.assign rfl rfl Taken.no) ?_
   refine SL.nil ?_
   refine E.to ?_
   refine W.ret ?_
   refine E.thr ?_
   refine E.fin (rs := [_]) (rn []) (.inl rfl) rfl (.cons (ResOne.tmp rfl) .nil) ?_ ?_ rfl (fixL_spec rfl)
   ·skip
    exfalso; omega
   · exact SubS.nil
 ·skip
  first | have hg2p := G.gA7 hg2 | have hg2p := G.gA8 hg2 | have hg2p := hg2
  refine SL.skip (OpOk.not rfl rfl rfl hg2) ?_
  refine SL.skip (OpOk.not rfl rfl rfl hg2) ?_
  refine SL.skip (OpOk.not rfl rfl rfl hg2) ?_
  refine SL.val (O.pick_t rfl (G.ne_f hg2) rfl rfl Taken.no) ?_
  refine SL.val (O.move rfl rfl Taken.no) ?_
  have hg18 : true ≠ false := by decide
  refine SL.skip (OpOk.not rfl rfl rfl hg18) ?_
  refine SL.skip (OpOk.not rfl rfl rfl hg18) ?_
  refine SL.skip (OpOk.not rfl rfl rfl hg18) ?_
  refine SL.skip (OpOk.not rfl rfl rfl hg18) ?_
  refine SL.val (O.pick_t rfl rfl rfl rfl Taken.no) ?_
  refine SL.val (O.move rfl rfl Taken.no) ?_
  have hg19 : true ≠ false := by decide
  refine SL.skip (OpOk.not rfl rfl rfl hg19) ?_
  refine SL.skip (OpOk.not rfl rfl rfl hg19) ?_
  refine SL.skip (OpOk.not rfl rfl rfl hg19) ?_
  refine SL.skip (OpOk.not rfl rfl rfl hg19) ?_
  refine SL.skip (OpOk.not2 rfl rfl rfl) ?_
  refine SL.skip (OpOk.not2 rfl rfl rfl) ?_
  refine SL.skip (OpOk.not2 rfl rfl rfl) ?_
  refine SL.skip (OpOk.not2 rfl rfl rfl) ?_
  refine SL.skip (OpOk.not rfl rfl rfl hg19) ?_
  refine SL.val (O.pick_t rfl rfl rfl rfl Taken.no) ?_
  refine SL.nil ?_
  refine E.to ?_
  refine W.pick (.cons (t := 1) rfl (.cons (t := 2) rfl (.cons (t := 40) rfl .nil))) (.cons (t := 101) rfl .nil) ?_
  refine W.cond_t rfl ?_
  refine W.seq ?_
  refine W.region ?_
  refine SL.val (O.assign rfl rfl Taken.no) ?_
  refine SL.nil ?_
  refine E.to ?_
  refine W.ret ?_
  refine E.thr ?_
  refine E.fin (rs := [_]) (rn []) (.inl rfl) rfl (.cons (ResOne.tmp rfl) .nil) ?_ ?_ rfl (fixL_spec rfl)
  ·skip
   exfalso; omega
  · exact SubS.nil

set_option maxRecDepth 8000 in
/-- bookplate/snapshot.clones. -/
theorem clones_h {l : List Bs} (hl : l.length ≤ 1000000) (hs : ∀ b ∈ l, b.length ≤ 1000000) :
    Con Try.prog 46 [vL 1 (l.map eL)] [] (.own 0) [(0, .data 22 1 (l.map eL))] := by
 obtain ⟨i22, hi22, hz22, hs22, hb22⟩ := hinf22
 refine Con.enterL (n := 19) Try.func46 rfl rfl rfl (fun τ w ok vs hin => ?_)
 have hl0 := hin.len (i := 0) rfl
 try rw [List.length_map] at hl0
 clear hin
 refine W.seq ?_
 refine W.region ?_
 refine SL.val (O.assign rfl rfl Taken.no) ?_
 refine SL.nil ?_
 refine E.to ?_
 refine W.seq ?_
 refine W.region ?_
 refine SL.val (O.assign rfl rfl Taken.no) ?_
 refine SL.nil ?_
 refine E.to ?_
 refine W.seq ?_
 refine W.seq ?_
 refine W.region ?_
 refine SL.val (O.move rfl rfl Taken.no) ?_
 refine SL.val (O.lenE (SlOf.fz rfl (by decide)) (by first | exact List.length_map _ | rfl) Try.underlying32 rfl Taken.no) ?_
 refine SL.val (O.move rfl rfl Taken.no) ?_
 refine SL.nil ?_
 refine E.to ?_
 refine W.block ?_
 refine W.adopt 3 102 22 1 (by decide) rfl rfl rfl ?_
 refine W.loopx1 (fun (k : Nat) => [(8, vI (k : Int)), (3, .own 101)]) (fun (k : Nat) => [(101, .data 22 1 ((l.take k).map eL))]) (fun (k : Nat) => k ≤ l.length) (fun (k : Nat) => l.length - k) (0) (rn [(101, 102)]) (.cons (t := 2) rfl (.cons (t := 6) rfl (.cons (t := 7) rfl .nil))) .nil rfl ?_ ?_ rfl rfl ?_ ?_
 · exact (SubF.cons rfl (SubF.cons rfl SubF.nil))
 · exact (SubS.cons rfl SubS.nil)
 ·skip
  omega
 intro k hinv
 have hk := hinv
 have htl : (l.take k).length = k := by rw [List.length_take]; omega
 refine W.seq ?_
 refine W.region ?_
 refine SL.val (O.det (fun _ => G.R.lss rfl rfl) rfl Taken.no) ?_
 refine SL.nil ?_
 refine E.to ?_
 refine W.seq ?_
 first | refine W.cond_d rfl (fun hc1 => ?_) (fun hc1 => ?_) | refine W.cond_nd rfl (fun hc1 => ?_) (fun hc1 => ?_) | refine W.cond rfl (fun hc1 => ?_) (fun hc1 => ?_)
 ·skip
  have hbk : l[k]!.length ≤ 1000000 := hs _ (by rw [getElem!_pos l k (by omega)]; exact List.getElem_mem _)
  refine W.skip ?_
  refine E.to ?_
  refine W.seq ?_
  refine W.block ?_
  refine W.seq ?_
  refine W.region ?_
  refine SL.val (O.idx_fz rfl rfl (rfl) (row_get (by omega)) Try.underlying32 hi22 hs22 rfl Taken.no) ?_
  refine SL.val (O.ld1 (PtI.ofU (PtU.fz rfl)) rfl Try.underlying22 rfl rfl Taken.no) ?_
  refine SL.val (O.assign rfl rfl Taken.no) ?_
  refine SL.nil ?_
  refine E.to ?_
  refine W.region ?_
  refine SL.val (O.move rfl rfl Taken.no) ?_
  refine SL.val (O.move rfl rfl Taken.no) ?_
  refine SL.val (O.callp rfl rfl rfl (Con.fz (clone_h (l := l[k]!) (by omega)) rfl rfl) (.cons (ArgOk.same rfl) .nil) hcallOk32 rfl Taken.no) ?_
  refine SL.memS (O.buildSlice 103 (rows := [l[k]!].map eL) rfl rfl Try.underlying32 hi22 hz22 hs22 (by decide) rfl (by decide) rfl rfl rfl Taken.no) rfl rfl (S' := (103, .data 22 1 ([l[k]!].map eL)) :: _) rfl ?_
  refine SL.memS (O.app (k' := 104) rfl rfl (SlOf.own rfl rfl) Try.underlying32 hi22 hz22 hs22 rfl rfl (by exact app_map) (by rw [hb22]; first | omega | (simp only [List.length_map]; omega) | (simp <;> omega)) (by first | omega | (simp only [List.length_map]; omega) | (simp <;> omega)) rfl Taken.no) rfl rfl (S' := (104, _) :: (101, .dead) :: _) rfl ?_
  refine SL.val (O.assign rfl rfl Taken.no) ?_
  refine SL.nil ?_
  refine E.inn ?_
  refine E.to ?_
  refine W.region ?_
  refine SL.val (O.det (fun _ => by first | exact G.R.add64 rfl rfl (by omega) | exact G.R.add rfl rfl) rfl Taken.no) ?_
  refine SL.val (O.move rfl rfl Taken.no) ?_
  refine SL.nil ?_
  refine E.again ((k + 1)) (rn [(101, 104)]) ?_ ?_ rfl (fixL_spec rfl) ?_ ?_
  · exact (SubF.cons rfl (SubF.cons rfl (SubF.cons rfl (SubF.cons rfl (SubF.cons rfl SubF.nil)))))
  · exact (SubS.val rfl (by (try dsimp only); exact sb_data (by rw [snocB (by omega)])) SubS.nil)
  ·try dsimp only
   omega
  · (try dsimp only); omega
 ·skip
  refine W.exit ?_
  refine E.th ?_
  refine E.th ?_
  refine E.hit ?_
  refine E.to ?_
  refine W.seq ?_
  refine W.region ?_
  refine SL.val (O.move rfl rfl Taken.no) ?_
  refine SL.val (O.assign rfl rfl Taken.no) ?_
  refine SL.nil ?_
  refine E.to ?_
  refine W.ret ?_
  refine E.fin (rs := [_]) (rn [(0, 101)]) (.inl rfl) rfl (.cons (ResOne.tmp rfl) .nil) ?_ ?_ rfl (fixL_spec rfl)
  ·skip
   rfl
  · exact (SubS.val rfl (by exact sb_data (by rw [List.take_of_length_le (by omega)])) SubS.nil)

set_option maxRecDepth 8000 in
/-- bookplate/snapshot.Append. -/
theorem sappend_h {a : AS} {p : Bs} (h : a.Ok) (hl : a.hist.length < 40) (hp : p.length ≤ 100) :
    Con Try.prog 26 [vA [uI (a.base : Int), .sl 1 (a.file.map eB), uI a.sy, .sl 1 (a.snaps.map eL)], vL 1 (p.map eB)] [] (.tup [.agg [vI ((a.app p).base : Int), vL 1 ((a.app p).file.map eB), vI (a.app p).sy, vL 1 ((a.app p).snaps.map eL)], vI 0]) [] := by
 have hfl := AS.flen h
 have hbs := h.bs
 have hsh := h.sh
 have hsm := h.sm.2
 have htw := h.two
 have hsl := a.sn_len
 have hll := a.lg_len
 have hvw := AS.valid h
 have hpy := AS.pays h
 have hne : 0 < a.base → 0 < a.sn.length := fun q => List.length_pos_iff.2 (h.ne q)
 have hsy := valid_range hvw
 have hf := AS.app_facts h hp
 have ho := AS.app_ok h hl hp
 have hvw2 := AS.valid ho
 have hpy2 := AS.pays ho
 have hfl2 := AS.flen ho
 have hll2 := AS.app_lg h p
 refine Con.enterL (n := 38) Try.func26 rfl rfl rfl (fun τ w ok vs hin => ?_)
 have hl0_1 := hin.lenA (i := 0) (j := 1) rfl rfl
 try rw [List.length_map] at hl0_1
 have hl0_3 := hin.lenA (i := 0) (j := 3) rfl rfl
 try rw [List.length_map] at hl0_3
 have hl1 := hin.len (i := 1) rfl
 try rw [List.length_map] at hl1
 clear hin
 refine W.seq ?_
 refine W.region ?_
 refine SL.memS (O.box (is := [_, _, _, _]) 101 rfl rfl (by simp) rfl rfl Taken.no) rfl rfl (S' := (101, _) :: _) rfl ?_
 refine SL.memS (O.alloc (z := .agg #[.int .i64 0, .slice none 0 0, .int .i64 0, .slice none 0 0]) (is := [.u (.sc (.int .i64 0)), .u (.sc (.slice none 0 0)), .u (.sc (.int .i64 0)), .u (.sc (.slice none 0 0))]) 102 (by kernel_rfl) rfl rfl rfl Taken.no) rfl rfl (S' := (102, _) :: _) rfl ?_
 refine SL.val (O.assign rfl rfl Taken.no) ?_
 refine SL.nil ?_
 refine E.to ?_
 refine W.seq ?_
 refine W.seq ?_
 refine W.region ?_
 refine SL.val (O.ldN (m := 4) (PtI.ref rfl rfl) (js := [_, _, _, _]) rfl (Nat.le_of_ble_eq_true rfl) Try.underlying46 rfl (by kernel_rfl) rfl Taken.no) ?_
 refine SL.val (O.callp rfl rfl rfl (svalid_h h) (.cons (ArgOk.aggU (.cons (ArgOk.same rfl) (.cons (ArgOk.same rfl) (.cons (ArgOk.same rfl) (.cons (ArgOk.same rfl) .nil))))) .nil) hcallOk21 rfl Taken.no) ?_
 refine SL.as (i' := vB true) 9 rfl (by rfl) ?_
 refine SL.val (O.det (fun _ => G.R.mv (G.R.not rfl) rfl) rfl Taken.no) ?_
 refine SL.nil ?_
 refine E.to ?_
 refine W.cond_f rfl ?_
 refine W.skip ?_
 refine E.to ?_
 refine W.seq ?_
 refine W.region ?_
 refine SL.val (O.fld_ref (o' := 1) rfl Try.underlying46 rfl (m := 1) (by kernel_rfl) rfl rfl Taken.no) ?_
 refine SL.val (O.ldN (m := 2) (PtI.ref rfl rfl) (js := [_, _]) rfl (Nat.le_of_ble_eq_true rfl) Try.underlying44 rfl (by kernel_rfl) rfl Taken.no) ?_
 refine SL.val (O.move rfl rfl Taken.no) ?_
 refine SL.memS (O.call (rn []) [] rfl rfl rfl (append_h (l := a.file) (p := p) a.sy (by omega) (by omega)) (.cons (ArgOk.aggU (.cons (ArgOk.same rfl) (.cons (ArgOk.same rfl) .nil))) (.cons (ArgOk.same rfl) .nil)) SubS.nil rfl rfl rfl rfl rfl (.inl rfl) hcallOk44 (r' := .tup [.agg [.u _, .u _], .u _]) rfl rfl Taken.no) rfl rfl (S' := _) rfl ?_
 refine SL.as (i' := .tup [.agg [vL 1 ((a.app p).file.map eB), vI (a.app p).sy], vI 0]) 16 rfl (by rw [hf.1, hf.2.1, hf.2.2]) ?_
 refine SL.val (O.move rfl rfl Taken.no) ?_
 refine SL.val (O.extract rfl rfl rfl Taken.no) ?_
 refine SL.val (O.extract rfl rfl rfl Taken.no) ?_
 refine SL.memS (O.alloc (z := .agg #[.slice none 0 0, .int .i64 0]) (is := [.u (.sc (.slice none 0 0)), .u (.sc (.int .i64 0))]) 103 (by kernel_rfl) rfl rfl rfl Taken.no) rfl rfl (S' := (103, _) :: _) rfl ?_
 refine SL.effS (O.st_ref (m := 2) rfl rfl rfl (js := [_, _]) rfl rfl (by kernel_rfl) (by simp) (Nat.le_of_ble_eq_true rfl) rfl (is' := [_, _]) rfl Taken.no) (S' := (103, _) :: _) rfl ?_
 refine SL.val (O.assign rfl rfl Taken.no) ?_
 refine SL.nil ?_
 refine E.to ?_
 refine W.seq ?_
 refine W.seq ?_
 refine W.region ?_
 refine SL.val (O.move rfl rfl Taken.no) ?_
 refine SL.val (O.det (fun _ => G.R.mv (G.R.neq rfl rfl) (congrArg Value.bool (decide_eq_false (by decide)))) rfl Taken.no) ?_
 refine SL.nil ?_
 refine E.to ?_
 refine W.cond_f rfl ?_
 refine W.skip ?_
 refine E.to ?_
 refine W.seq ?_
 refine W.seq ?_
 refine W.draw [⟨[], [], [], [101]⟩, ⟨[101], [], [], []⟩, ⟨[103], [], [], []⟩, ⟨[], [], [], []⟩, ⟨[], [], [], []⟩, ⟨[], [], [], []⟩, ⟨[], [], [], []⟩] rfl (by kernel_rfl) (by kernel_rfl) rfl rfl ?_
 refine WH.val (O.fld_ref (o' := 0) rfl Try.underlying46 rfl (m := 0) (by kernel_rfl) rfl rfl Taken.no) rfl rfl ?_
 refine WH.val (O.ld1 (PtI.ref rfl rfl) rfl Try.underlying3 rfl rfl Taken.no) rfl rfl ?_
 refine WH.val (O.ldN (m := 2) (PtI.ref rfl rfl) (js := [_, _]) rfl (Nat.le_of_ble_eq_true rfl) Try.underlying44 rfl (by kernel_rfl) rfl Taken.no) rfl rfl ?_
 refine WH.val (OpOk.re (i' := vL 1 ((a.app p).lg.map eL)) (O.callp rfl rfl rfl (payloads_h (l := (a.app p).file) (a.app p).sy (by omega)) (.cons (ArgOk.aggU (.cons (ArgOk.same rfl) (.cons (ArgOk.same rfl) .nil))) .nil) hcallOk43 rfl Taken.no) (by rw [if_pos hvw2, hpy2])) rfl rfl ?_
 refine WH.val (O.lenE (SlOf.fz rfl (by decide)) (by first | exact List.length_map _ | rfl) Try.underlying32 rfl Taken.no) rfl rfl ?_
 have hl3 : (a.app p).lg.length = a.lg.length + 1 := by rw [hll2, List.length_append]; rfl
 refine WH.val (O.det (fun _ => by first | exact G.R.add64 rfl rfl (by omega) | exact G.R.add rfl rfl) rfl Taken.no) rfl rfl ?_
 refine WH.val (O.det (fun _ => G.R.gtr rfl rfl) rfl Taken.no) rfl rfl ?_
 refine WH.nil ?_
 refine E.to ?_
 refine W.pick (.cons (t := 2) rfl (.cons (t := 4) rfl (.cons (t := 5) rfl (.cons (t := 6) rfl (.cons (t := 29) rfl .nil))))) (.cons (t := 101) rfl (.cons (t := 102) rfl (.cons (t := 103) rfl .nil))) ?_
 first | refine W.cond_d rfl (fun hc1 => ?_) (fun hc1 => ?_) | refine W.cond_nd rfl (fun hc1 => ?_) (fun hc1 => ?_) | refine W.cond rfl (fun hc1 => ?_) (fun hc1 => ?_)
 ·skip
  exfalso; omega
 ·skip
  refine W.skip ?_
  refine E.to ?_
  refine W.seq ?_
  refine W.draw [⟨[], [], [], [101]⟩, ⟨[101], [], [], []⟩, ⟨[103], [], [], []⟩, ⟨[], [], [], [101]⟩, ⟨[101], [], [], []⟩, ⟨[], [], [], []⟩, ⟨[], [], [], []⟩, ⟨[102], [102], [], []⟩, ⟨[], [], [], []⟩] rfl (by kernel_rfl) (by kernel_rfl) rfl rfl ?_
  refine WH.val (O.fld_ref (o' := 0) rfl Try.underlying46 rfl (m := 0) (by kernel_rfl) rfl rfl Taken.no) rfl rfl ?_
  refine WH.val (O.ld1 (PtI.ref rfl rfl) rfl Try.underlying3 rfl rfl Taken.no) rfl rfl ?_
  refine WH.val (O.ldN (m := 2) (PtI.ref rfl rfl) (js := [_, _]) rfl (Nat.le_of_ble_eq_true rfl) Try.underlying44 rfl (by kernel_rfl) rfl Taken.no) rfl rfl ?_
  refine WH.val (O.fld_ref (o' := 3) rfl Try.underlying46 rfl (m := 0) (by kernel_rfl) rfl rfl Taken.no) rfl rfl ?_
  refine WH.val (O.ld1 (PtI.ref rfl rfl) rfl Try.underlying32 rfl rfl Taken.no) rfl rfl ?_
  refine WH.val (O.callp rfl rfl rfl (Con.fz (clones_h (l := a.snaps) (by omega) (AS.sn_sm h)) rfl rfl) (.cons (ArgOk.same rfl) .nil) hcallOk46 rfl Taken.no) rfl rfl ?_
  refine WH.val (O.build (res := [_, _, _, _]) (z := .agg #[.int .i64 0, .slice none 0 0, .int .i64 0, .slice none 0 0]) (places := [(0, 1), (1, 2), (3, 1)]) rfl rfl Try.underlying46 (by kernel_rfl) (fun _ => by kernel_rfl) rfl rfl Taken.no) rfl rfl ?_
  refine WH.effS (O.st_ref (m := 4) rfl rfl rfl (js := [_, _, _, _]) rfl rfl (by kernel_rfl) (by simp) (Nat.le_of_ble_eq_true rfl) rfl (is' := [_, _, _, _]) rfl Taken.no) rfl rfl rfl (S' := (102, _) :: _) rfl ?_
  refine WH.val (O.assign rfl rfl Taken.no) rfl rfl ?_
  refine WH.nil ?_
  refine E.to ?_
  refine W.ret ?_
  refine E.fin (rs := [_, _]) (rn []) (.inl rfl) rfl (.cons (ResOne.cellN (m := 4) (PtI.ref rfl rfl) (js := [_, _, _, _]) rfl (Nat.le_of_ble_eq_true rfl) Try.underlying46 rfl (by kernel_rfl)) (.cons (ResOne.tmp rfl) .nil)) ?_ ?_ rfl (fixL_spec rfl)
  ·skip
   rfl
  · exact SubS.nil

set_option maxRecDepth 8000 in
/-- bookplate/snapshot.Sync. -/
theorem ssync_h {a : AS} (h : a.Ok) :
    Con Try.prog 41 [vA [uI (a.base : Int), .sl 1 (a.file.map eB), uI a.sy, .sl 1 (a.snaps.map eL)]] [] (.tup [.agg [vI (a.sync.base : Int), vL 1 (a.sync.file.map eB), vI a.sync.sy, .own 0], vI 0]) [(0, .data 22 1 (a.sync.snaps.map eL))] := by
 have hfl := AS.flen h
 have hbs := h.bs
 have hsh := h.sh
 have hsm := h.sm.2
 have htw := h.two
 have hsl := a.sn_len
 have hll := a.lg_len
 have hvw := AS.valid h
 have hpy := AS.pays h
 have hne : 0 < a.base → 0 < a.sn.length := fun q => List.length_pos_iff.2 (h.ne q)
 have hsy := valid_range hvw
 have hf := AS.sync_facts h
 refine Con.enterL (n := 24) Try.func41 rfl rfl rfl (fun τ w ok vs hin => ?_)
 have hl0_1 := hin.lenA (i := 0) (j := 1) rfl rfl
 try rw [List.length_map] at hl0_1
 have hl0_3 := hin.lenA (i := 0) (j := 3) rfl rfl
 try rw [List.length_map] at hl0_3
 clear hin
 refine W.seq ?_
 refine W.region ?_
 refine SL.memS (O.box (is := [_, _, _, _]) 101 rfl rfl (by simp) rfl rfl Taken.no) rfl rfl (S' := (101, _) :: _) rfl ?_
 refine SL.memS (O.alloc (z := .agg #[.int .i64 0, .slice none 0 0, .int .i64 0, .slice none 0 0]) (is := [.u (.sc (.int .i64 0)), .u (.sc (.slice none 0 0)), .u (.sc (.int .i64 0)), .u (.sc (.slice none 0 0))]) 102 (by kernel_rfl) rfl rfl rfl Taken.no) rfl rfl (S' := (102, _) :: _) rfl ?_
 refine SL.val (O.assign rfl rfl Taken.no) ?_
 refine SL.nil ?_
 refine E.to ?_
 refine W.seq ?_
 refine W.seq ?_
 refine W.region ?_
 refine SL.val (O.ldN (m := 4) (PtI.ref rfl rfl) (js := [_, _, _, _]) rfl (Nat.le_of_ble_eq_true rfl) Try.underlying46 rfl (by kernel_rfl) rfl Taken.no) ?_
 refine SL.val (O.callp rfl rfl rfl (svalid_h h) (.cons (ArgOk.aggU (.cons (ArgOk.same rfl) (.cons (ArgOk.same rfl) (.cons (ArgOk.same rfl) (.cons (ArgOk.same rfl) .nil))))) .nil) hcallOk21 rfl Taken.no) ?_
 refine SL.as (i' := vB true) 7 rfl (by rfl) ?_
 refine SL.val (O.det (fun _ => G.R.mv (G.R.not rfl) rfl) rfl Taken.no) ?_
 refine SL.nil ?_
 refine E.to ?_
 refine W.cond_f rfl ?_
 refine W.skip ?_
 refine E.to ?_
 refine W.seq ?_
 refine W.region ?_
 refine SL.val (O.fld_ref (o' := 1) rfl Try.underlying46 rfl (m := 1) (by kernel_rfl) rfl rfl Taken.no) ?_
 refine SL.val (O.ldN (m := 2) (PtI.ref rfl rfl) (js := [_, _]) rfl (Nat.le_of_ble_eq_true rfl) Try.underlying44 rfl (by kernel_rfl) rfl Taken.no) ?_
 refine SL.memS (O.call (rn []) [] rfl rfl rfl (sync_h (l := a.file) a.sy (by omega)) (.cons (ArgOk.aggU (.cons (ArgOk.same rfl) (.cons (ArgOk.same rfl) .nil))) .nil) SubS.nil rfl rfl rfl rfl rfl (.inl rfl) hcallOk45 (r' := .tup [.agg [.u _, .u _], .u _]) rfl rfl Taken.no) rfl rfl (S' := _) rfl ?_
 refine SL.as (i' := .tup [.agg [vL 1 (a.sync.file.map eB), vI a.sync.sy], vI 0]) 13 rfl (by rw [hf.1, hf.2.1, hf.2.2.1]; rfl) ?_
 refine SL.val (O.move rfl rfl Taken.no) ?_
 refine SL.val (O.extract rfl rfl rfl Taken.no) ?_
 refine SL.val (O.extract rfl rfl rfl Taken.no) ?_
 refine SL.memS (O.alloc (z := .agg #[.slice none 0 0, .int .i64 0]) (is := [.u (.sc (.slice none 0 0)), .u (.sc (.int .i64 0))]) 103 (by kernel_rfl) rfl rfl rfl Taken.no) rfl rfl (S' := (103, _) :: _) rfl ?_
 refine SL.effS (O.st_ref (m := 2) rfl rfl rfl (js := [_, _]) rfl rfl (by kernel_rfl) (by simp) (Nat.le_of_ble_eq_true rfl) rfl (is' := [_, _]) rfl Taken.no) (S' := (103, _) :: _) rfl ?_
 refine SL.val (O.assign rfl rfl Taken.no) ?_
 refine SL.nil ?_
 refine E.to ?_
 refine W.seq ?_
 refine W.draw [⟨[], [], [], [101]⟩, ⟨[101], [], [], []⟩, ⟨[103], [], [], []⟩, ⟨[], [], [], [101]⟩, ⟨[101], [], [], []⟩, ⟨[104], [104], [104], []⟩, ⟨[], [], [], [104]⟩, ⟨[], [], [], []⟩, ⟨[102, 104], [102], [], []⟩, ⟨[], [], [], []⟩] rfl (by kernel_rfl) (by kernel_rfl) rfl rfl ?_
 refine WH.val (O.fld_ref (o' := 0) rfl Try.underlying46 rfl (m := 0) (by kernel_rfl) rfl rfl Taken.no) rfl rfl ?_
 refine WH.val (O.ld1 (PtI.ref rfl rfl) rfl Try.underlying3 rfl rfl Taken.no) rfl rfl ?_
 refine WH.val (O.ldN (m := 2) (PtI.ref rfl rfl) (js := [_, _]) rfl (Nat.le_of_ble_eq_true rfl) Try.underlying44 rfl (by kernel_rfl) rfl Taken.no) rfl rfl ?_
 refine WH.val (O.fld_ref (o' := 3) rfl Try.underlying46 rfl (m := 0) (by kernel_rfl) rfl rfl Taken.no) rfl rfl ?_
 refine WH.val (O.ld1 (PtI.ref rfl rfl) rfl Try.underlying32 rfl rfl Taken.no) rfl rfl ?_
 refine WH.memS (O.call (rn [(0, 104)]) [] rfl rfl rfl (clones_h (l := a.snaps) (by omega) (AS.sn_sm h)) (.cons (ArgOk.same rfl) .nil) SubS.nil rfl rfl rfl rfl rfl (.inl rfl) hcallOk46 (r' := .own 104) rfl rfl Taken.no) rfl rfl rfl rfl rfl (S' := (104, .data _ _ _) :: _) rfl ?_
 refine WH.val (O.build (res := [_, _, _, _]) (z := .agg #[.int .i64 0, .slice none 0 0, .int .i64 0, .slice none 0 0]) (places := [(0, 1), (1, 2), (3, 1)]) rfl rfl Try.underlying46 (by kernel_rfl) (fun _ => by kernel_rfl) rfl rfl Taken.no) rfl rfl ?_
 refine WH.val (O.move rfl rfl Taken.no) rfl rfl ?_
 refine WH.effS (O.st_ref (m := 4) rfl rfl rfl (js := [_, _, _, _]) rfl rfl (by kernel_rfl) (by simp) (Nat.le_of_ble_eq_true rfl) rfl (is' := [_, _, _, _]) rfl Taken.no) rfl rfl rfl (S' := (102, _) :: _) rfl ?_
 refine WH.val (O.assign rfl rfl Taken.no) rfl rfl ?_
 refine WH.nil ?_
 refine E.to ?_
 refine W.pick (.cons (t := 2) rfl (.cons (t := 3) rfl .nil)) (.cons (t := 101) rfl (.cons (t := 102) rfl (.cons (t := 103) rfl (.cons (t := 104) rfl .nil)))) ?_
 refine W.ret ?_
 refine E.fin (rs := [_, _]) (rn [(0, 104)]) (.inl rfl) rfl (.cons (ResOne.cellN (m := 4) (PtI.ref rfl rfl) (js := [_, _, _, _]) rfl (Nat.le_of_ble_eq_true rfl) Try.underlying46 rfl (by kernel_rfl)) (.cons (ResOne.tmp rfl) .nil)) ?_ ?_ rfl (fixL_spec rfl)
 ·skip
  rfl
 · exact (SubS.cons rfl SubS.nil)

set_option maxRecDepth 8000 in
/-- bookplate/snapshot.Take. -/
theorem stake_h {a : AS} {d : Bs} (h : a.Ok) (hd : d.length ≤ 100) :
    Con Try.prog 24 [vA [uI (a.base : Int), .sl 1 (a.file.map eB), uI a.sy, .sl 1 (a.snaps.map eL)], vL 1 (d.map eB)] [] (.tup [.agg [vI ((a.take d).base : Int), vL 1 ((a.take d).file.map eB), vI (a.take d).sy, vL 1 ((a.take d).snaps.map eL)], vI 0]) [] := by
 have hfl := AS.flen h
 have hbs := h.bs
 have hsh := h.sh
 have hsm := h.sm.2
 have htw := h.two
 have hsl := a.sn_len
 have hll := a.lg_len
 have hvw := AS.valid h
 have hpy := AS.pays h
 have hne : 0 < a.base → 0 < a.sn.length := fun q => List.length_pos_iff.2 (h.ne q)
 have hsy := valid_range hvw
 have hf := AS.sync_facts h
 have hm0 := make_0 (n := (a.hist.length : Int)) (d := d) (by omega) (by omega)
 obtain ⟨i22, hi22, hz22, hs22, hb22⟩ := hinf22
 refine Con.enterL (n := 80) Try.func24 rfl rfl rfl (fun τ w ok vs hin => ?_)
 have hl0_1 := hin.lenA (i := 0) (j := 1) rfl rfl
 try rw [List.length_map] at hl0_1
 have hl0_3 := hin.lenA (i := 0) (j := 3) rfl rfl
 try rw [List.length_map] at hl0_3
 have hl1 := hin.len (i := 1) rfl
 try rw [List.length_map] at hl1
 clear hin
 refine W.seq ?_
 refine W.region ?_
 refine SL.memS (O.box (is := [_, _, _, _]) 101 rfl rfl (by simp) rfl rfl Taken.no) rfl rfl (S' := (101, _) :: _) rfl ?_
 refine SL.memS (O.alloc (z := .agg #[.int .i64 0, .slice none 0 0, .int .i64 0, .slice none 0 0]) (is := [.u (.sc (.int .i64 0)), .u (.sc (.slice none 0 0)), .u (.sc (.int .i64 0)), .u (.sc (.slice none 0 0))]) 102 (by kernel_rfl) rfl rfl rfl Taken.no) rfl rfl (S' := (102, _) :: _) rfl ?_
 refine SL.val (O.assign rfl rfl Taken.no) ?_
 refine SL.nil ?_
 refine E.to ?_
 refine W.seq ?_
 refine W.region ?_
 refine SL.val (O.ldN (m := 4) (PtI.ref rfl rfl) (js := [_, _, _, _]) rfl (Nat.le_of_ble_eq_true rfl) Try.underlying46 rfl (by kernel_rfl) rfl Taken.no) ?_
 refine SL.memS (O.call (rn [(0, 103)]) [] rfl rfl rfl (ssync_h h) (.cons (ArgOk.aggU (.cons (ArgOk.same rfl) (.cons (ArgOk.same rfl) (.cons (ArgOk.same rfl) (.cons (ArgOk.same rfl) .nil))))) .nil) SubS.nil rfl rfl rfl rfl rfl (.inl rfl) hcallOk41 (r' := .tup [.agg [.u _, .u _, .u _, .own 103], .u _]) rfl rfl Taken.no) rfl rfl (S' := (103, .data _ _ _) :: _) rfl ?_
 refine SL.val (O.move rfl rfl Taken.no) ?_
 refine SL.val (O.extract rfl rfl rfl Taken.no) ?_
 refine SL.val (O.extract rfl rfl rfl Taken.no) ?_
 refine SL.memS (O.alloc (z := .agg #[.int .i64 0, .slice none 0 0, .int .i64 0, .slice none 0 0]) (is := [.u (.sc (.int .i64 0)), .u (.sc (.slice none 0 0)), .u (.sc (.int .i64 0)), .u (.sc (.slice none 0 0))]) 104 (by kernel_rfl) rfl rfl rfl Taken.no) rfl rfl (S' := (104, _) :: _) rfl ?_
 refine SL.effS (O.st_ref (m := 4) rfl rfl rfl (js := [_, _, _, _]) rfl rfl (by kernel_rfl) (by simp) (Nat.le_of_ble_eq_true rfl) rfl (is' := [_, _, _, _]) rfl Taken.no) (S' := (104, _) :: _) rfl ?_
 refine SL.val (O.assign rfl rfl Taken.no) ?_
 refine SL.nil ?_
 refine E.to ?_
 refine W.seq ?_
 refine W.seq ?_
 refine W.region ?_
 refine SL.val (O.move rfl rfl Taken.no) ?_
 refine SL.val (O.det (fun _ => G.R.mv (G.R.neq rfl rfl) (congrArg Value.bool (decide_eq_false (by decide)))) rfl Taken.no) ?_
 refine SL.nil ?_
 refine E.to ?_
 refine W.cond_f rfl ?_
 refine W.skip ?_
 refine E.to ?_
 refine W.seq ?_
 refine W.draw [⟨[], [], [], [101]⟩, ⟨[101], [], [], []⟩, ⟨[], [], [], [101]⟩, ⟨[101], [], [], []⟩, ⟨[], [], [], []⟩, ⟨[], [], [], []⟩, ⟨[], [], [], []⟩, ⟨[], [], [], []⟩] rfl (by kernel_rfl) (by kernel_rfl) rfl rfl ?_
 refine WH.val (O.fld_ref (o' := 0) rfl Try.underlying46 rfl (m := 0) (by kernel_rfl) rfl rfl Taken.no) rfl rfl ?_
 refine WH.val (O.ld1 (PtI.ref rfl rfl) rfl Try.underlying3 rfl rfl Taken.no) rfl rfl ?_
 refine WH.val (O.fld_ref (o' := 1) rfl Try.underlying46 rfl (m := 1) (by kernel_rfl) rfl rfl Taken.no) rfl rfl ?_
 refine WH.val (O.ldN (m := 2) (PtI.ref rfl rfl) (js := [_, _]) rfl (Nat.le_of_ble_eq_true rfl) Try.underlying44 rfl (by kernel_rfl) rfl Taken.no) rfl rfl ?_
 refine WH.val (OpOk.re (i' := vL 1 (a.lg.map eL)) (O.callp rfl rfl rfl (payloads_h (l := a.file) a.sy (by omega)) (.cons (ArgOk.aggU (.cons (ArgOk.same rfl) (.cons (ArgOk.same rfl) .nil))) .nil) hcallOk43 rfl Taken.no) (by rw [if_pos hvw, hpy])) rfl rfl ?_
 refine WH.val (O.lenE (SlOf.fz rfl (by decide)) (by first | exact List.length_map _ | rfl) Try.underlying32 rfl Taken.no) rfl rfl ?_
 refine WH.val (O.det (fun _ => G.R.mv (G.R.add64 rfl rfl (by omega)) (congrArg (Value.int .i64) (show _ = (a.hist.length : Int) by omega))) rfl Taken.no) rfl rfl ?_
 refine WH.val (O.assign rfl rfl Taken.no) rfl rfl ?_
 refine WH.nil ?_
 refine E.to ?_
 refine W.seq ?_
 refine W.region ?_
 refine SL.val (O.move rfl rfl Taken.no) ?_
 refine SL.val (O.move rfl rfl Taken.no) ?_
 refine SL.memS (O.call (rn []) [] rfl rfl rfl (make_h (n := (a.hist.length : Int)) (d := d) (by omega)) (.cons (ArgOk.same rfl) (.cons (ArgOk.same rfl) .nil)) SubS.nil rfl rfl rfl rfl rfl (.inl rfl) hcallOk12 (r' := .tup [.u _, .u _]) rfl rfl Taken.no) rfl rfl (S' := _) rfl ?_
 refine SL.as (i' := .tup [vL 1 ((Go.D21.mk (a.hist.length : Int) d).map eB), vI 0]) 33 rfl (by rw [hm0.1, hm0.2]) ?_
 refine SL.val (O.move rfl rfl Taken.no) ?_
 refine SL.val (O.extract rfl rfl rfl Taken.no) ?_
 refine SL.val (O.extract rfl rfl rfl Taken.no) ?_
 refine SL.val (O.assign rfl rfl Taken.no) ?_
 refine SL.val (O.assign rfl rfl Taken.no) ?_
 refine SL.nil ?_
 refine E.to ?_
 refine W.pick (.cons (t := 4) rfl (.cons (t := 5) rfl (.cons (t := 6) rfl (.cons (t := 7) rfl (.cons (t := 8) rfl (.cons (t := 9) rfl .nil)))))) (.cons (t := 101) rfl (.cons (t := 102) rfl (.cons (t := 103) rfl (.cons (t := 104) rfl .nil)))) ?_
 refine W.seq ?_
 refine W.seq ?_
 refine W.region ?_
 refine SL.val (O.move rfl rfl Taken.no) ?_
 refine SL.val (O.det (fun _ => G.R.mv (G.R.neq rfl rfl) (congrArg Value.bool (decide_eq_false (by decide)))) rfl Taken.no) ?_
 refine SL.nil ?_
 refine E.to ?_
 refine W.cond_f rfl ?_
 refine W.skip ?_
 refine E.to ?_
 refine W.seq ?_
 refine W.seq ?_
 refine W.region ?_
 refine SL.val (O.fld_ref (o' := 3) rfl Try.underlying46 rfl (m := 0) (by kernel_rfl) rfl rfl Taken.no) ?_
 refine SL.val (O.ld1 (PtI.ref rfl rfl) rfl Try.underlying32 rfl rfl Taken.no) ?_
 refine SL.val (O.lenE (n := a.sn.length) (SlOf.own rfl rfl) (by rw [List.length_map]; exact hsl) Try.underlying32 rfl Taken.no) ?_
 refine SL.val (O.assign rfl rfl Taken.no) ?_
 refine SL.nil ?_
 refine E.to ?_
 refine W.seq ?_
 refine W.region ?_
 refine SL.val (O.move rfl rfl Taken.no) ?_
 refine SL.val (O.det (fun _ => G.R.gtr rfl rfl) rfl Taken.no) ?_
 refine SL.nil ?_
 refine E.to ?_
 first | refine W.cond_d rfl (fun hc1 => ?_) (fun hc1 => ?_) | refine W.cond_nd rfl (fun hc1 => ?_) (fun hc1 => ?_) | refine W.cond rfl (fun hc1 => ?_) (fun hc1 => ?_)
 ·skip
  have hk2 : (a.sn.length - 1) < a.sn.length := by omega
  have hat := AS.sn_at h hk2
  refine W.seq ?_
  refine W.region ?_
  refine SL.val (O.fld_ref (o' := 3) rfl Try.underlying46 rfl (m := 0) (by kernel_rfl) rfl rfl Taken.no) ?_
  refine SL.val (O.ld1 (PtI.ref rfl rfl) rfl Try.underlying32 rfl rfl Taken.no) ?_
  refine SL.val (O.move rfl rfl Taken.no) ?_
  refine SL.val (O.det (fun _ => by first | exact G.R.sub64 rfl rfl (by omega) | exact G.R.sub rfl rfl) rfl Taken.no) ?_
  refine SL.val (O.idx_own (i := (a.sn.length - 1)) rfl rfl rfl (by omega) (by rw [List.length_map]; show _ < a.snaps.length; omega) Try.underlying32 hi22 hs22 rfl Taken.no) ?_
  refine SL.val (O.ld1 (PtI.ofU (PtU.el rfl rfl (row_get (by show _ < a.snaps.length; omega)))) rfl Try.underlying22 rfl rfl Taken.no) ?_
  refine SL.memS (O.call (rn []) [] rfl rfl rfl (read_h (l := a.snaps[(a.sn.length - 1)]!) (by omega)) (.cons (ArgOk.same rfl) .nil) SubS.nil rfl rfl rfl rfl rfl (.inl rfl) hcallOk10 (r' := .tup [.u _, .u _, .u _]) rfl rfl Taken.no) rfl rfl (S' := _) rfl ?_
  refine SL.val (O.move rfl rfl Taken.no) ?_
  refine SL.val (O.extract rfl rfl rfl Taken.no) ?_
  refine SL.val (O.extract rfl rfl rfl Taken.no) ?_
  refine SL.val (O.extract rfl rfl rfl Taken.no) ?_
  refine SL.val (O.assign rfl rfl Taken.no) ?_
  refine SL.val (O.assign rfl rfl Taken.no) ?_
  refine SL.val (O.assign rfl rfl Taken.no) ?_
  refine SL.nil ?_
  refine E.to ?_
  refine W.pick (.cons (t := 4) rfl (.cons (t := 5) rfl (.cons (t := 6) rfl (.cons (t := 8) rfl (.cons (t := 9) rfl (.cons (t := 10) rfl (.cons (t := 11) rfl .nil))))))) (.cons (t := 101) rfl (.cons (t := 102) rfl (.cons (t := 103) rfl (.cons (t := 104) rfl .nil)))) ?_
  refine W.seq ?_
  refine W.region ?_
  refine SL.val (O.move rfl rfl Taken.no) ?_
  refine SL.val (O.move rfl rfl Taken.no) ?_
  refine SL.val (O.det (fun _ => G.R.eql rfl rfl) rfl Taken.no) ?_
  refine SL.nil ?_
  refine E.to ?_
  first | refine W.cond_d rfl (fun hc2 => ?_) (fun hc2 => ?_) | refine W.cond_nd rfl (fun hc2 => ?_) (fun hc2 => ?_) | refine W.cond rfl (fun hc2 => ?_) (fun hc2 => ?_)
  ·skip
   have hT := AS.take_y (d := d) (show 0 < a.sn.length ∧ (a.sn[(a.sn.length - 1)]!).1 = a.hist.length by omega)
   refine W.region ?_
   refine SL.val (O.fld_ref (o' := 3) rfl Try.underlying46 rfl (m := 0) (by kernel_rfl) rfl rfl Taken.no) ?_
   refine SL.val (O.ld1 (PtI.ref rfl rfl) rfl Try.underlying32 rfl rfl Taken.no) ?_
   refine SL.val (O.move rfl rfl Taken.no) ?_
   refine SL.val (O.det (fun _ => by first | exact G.R.sub64 rfl rfl (by omega) | exact G.R.sub rfl rfl) rfl Taken.no) ?_
   refine SL.val (O.sub_own (j := (a.sn.length - 1)) rfl rfl Bnd.no (Bnd.at rfl (by omega)) (by omega) (by rw [List.length_map]; show _ ≤ a.snaps.length; omega) Try.underlying32 hi22 hs22 rfl Taken.no) ?_
   refine SL.trunc 62 105 rfl rfl (rows' := (a.snaps.take (a.sn.length - 1)).map eL) (by rw [← List.map_take]; rfl) rfl rfl ?_
   refine SL.val (O.fld_ref (o' := 3) rfl Try.underlying46 rfl (m := 0) (by kernel_rfl) rfl rfl Taken.no) ?_
   refine SL.effS (O.st_ref (m := 1) rfl rfl rfl (js := [_]) rfl rfl (by kernel_rfl) (by simp) (Nat.le_of_ble_eq_true rfl) rfl (is' := [_, _, _, _]) rfl Taken.no) (S' := (104, _) :: _) rfl ?_
   refine SL.nil ?_
   refine E.to ?_
   refine W.seq ?_
   refine W.region ?_
   refine SL.val (O.fld_ref (o' := 3) rfl Try.underlying46 rfl (m := 0) (by kernel_rfl) rfl rfl Taken.no) ?_
   refine SL.val (O.ld1 (PtI.ref rfl rfl) rfl Try.underlying32 rfl rfl Taken.no) ?_
   refine SL.val (O.move rfl rfl Taken.no) ?_
   refine SL.memS (O.buildSlice 106 (rows := [(Go.D21.mk (a.hist.length : Int) d)].map eL) rfl rfl Try.underlying32 hi22 hz22 hs22 (by decide) rfl (by decide) rfl rfl rfl Taken.no) rfl rfl (S' := (106, .data 22 1 ([(Go.D21.mk (a.hist.length : Int) d)].map eL)) :: _) rfl ?_
   refine SL.memS (O.app (k' := 107) rfl rfl (SlOf.own rfl rfl) Try.underlying32 hi22 hz22 hs22 rfl rfl (by exact app_map) (by rw [hb22]; (simp only [List.length_map, List.length_take, List.length_singleton]; have : a.sync.snaps.length = a.sn.length := hsl; omega)) (by (simp only [List.length_map, List.length_take, List.length_singleton]; have : a.sync.snaps.length = a.sn.length := hsl; omega)) rfl Taken.no) rfl rfl (S' := (107, _) :: (105, .dead) :: _) rfl ?_
   refine SL.val (O.fld_ref (o' := 3) rfl Try.underlying46 rfl (m := 0) (by kernel_rfl) rfl rfl Taken.no) ?_
   refine SL.effS (O.st_ref (m := 1) rfl rfl rfl (js := [_]) rfl rfl (by kernel_rfl) (by simp) (Nat.le_of_ble_eq_true rfl) rfl (is' := [_, _, _, _]) rfl Taken.no) (S' := (104, _) :: _) rfl ?_
   refine SL.nil ?_
   refine E.to ?_
   refine W.seq ?_
   refine W.region ?_
   refine SL.freezeC 104 3 107 (is' := [_, _, _, _]) rfl rfl rfl rfl ?_
   refine SL.val (O.fld_ref (o' := 3) rfl Try.underlying46 rfl (m := 0) (by kernel_rfl) rfl rfl Taken.no) ?_
   refine SL.val (O.ld1 (PtI.ref rfl rfl) rfl Try.underlying32 rfl rfl Taken.no) ?_
   refine SL.val (O.fld_ref (o' := 3) rfl Try.underlying46 rfl (m := 0) (by kernel_rfl) rfl rfl Taken.no) ?_
   refine SL.val (O.ld1 (PtI.ref rfl rfl) rfl Try.underlying32 rfl rfl Taken.no) ?_
   refine SL.val (O.lenE (n := ((a.sn.length - 1) + 1)) (SlOf.fz rfl (by decide)) (by rw [List.length_map, List.length_append, List.length_take]; show _ + 1 = _; omega) Try.underlying32 rfl Taken.no) ?_
   refine SL.val (O.det (fun _ => by first | exact G.R.sub64 rfl rfl (by omega) | exact G.R.sub rfl rfl) rfl Taken.no) ?_
   refine SL.val (O.det (fun _ => G.R.max2 rfl rfl) rfl Taken.no) ?_
   refine SL.val (O.sub_fz (i := ((a.sn.length - 1) + 1 - 2)) rfl (Bnd.at rfl (by first | omega | (split <;> omega))) Bnd.no (by rw [List.length_map, List.length_append, List.length_take]; show _ ≤ _ + 1; omega) (by first | omega | (simp only [List.length_map, Nat.le_refl, Nat.zero_le] <;> omega) | (simp <;> omega)) sub_lo Try.underlying32 hi22 hs22 rfl Taken.no) ?_
   refine SL.val (O.fld_ref (o' := 3) rfl Try.underlying46 rfl (m := 0) (by kernel_rfl) rfl rfl Taken.no) ?_
   refine SL.effS (O.st_ref (m := 1) rfl rfl rfl (js := [_]) rfl rfl (by kernel_rfl) (by simp) (Nat.le_of_ble_eq_true rfl) rfl (is' := [_, _, _, _]) rfl Taken.no) (S' := (104, _) :: _) rfl ?_
   refine SL.nil ?_
   refine E.to ?_
   refine W.pick (.cons (t := 4) rfl (.cons (t := 5) rfl (.cons (t := 6) rfl .nil))) (.cons (t := 101) rfl (.cons (t := 102) rfl (.cons (t := 104) rfl (.cons (t := 106) rfl .nil)))) ?_
   refine W.seq ?_
   refine W.region ?_
   refine SL.val (O.ldN (m := 4) (PtI.ref rfl rfl) (js := [_, _, _, _]) rfl (Nat.le_of_ble_eq_true rfl) Try.underlying46 rfl (by kernel_rfl) rfl Taken.no) ?_
   refine SL.effS (O.st_ref (m := 4) rfl rfl rfl (js := [_, _, _, _]) rfl rfl (by kernel_rfl) (by simp) (Nat.le_of_ble_eq_true rfl) rfl (is' := [_, _, _, _]) rfl Taken.no) (S' := (102, _) :: _) rfl ?_
   refine SL.val (O.assign rfl rfl Taken.no) ?_
   refine SL.nil ?_
   refine E.to ?_
   refine W.ret ?_
   refine E.fin (rs := [_, _]) (rn []) (.inl rfl) rfl (.cons (ResOne.cellN (m := 4) (PtI.ref rfl rfl) (js := [_, _, _, _]) rfl (Nat.le_of_ble_eq_true rfl) Try.underlying46 rfl (by kernel_rfl)) (.cons (ResOne.tmp rfl) .nil)) ?_ ?_ rfl (fixL_spec rfl)
   ·skip
    rw [hT]; rfl
   · exact SubS.nil
  ·skip
   have hT := AS.take_n (d := d) (show ¬ (0 < a.sn.length ∧ (a.sn[(a.sn.length - 1)]!).1 = a.hist.length) by omega)
   refine W.skip ?_
   refine E.to ?_
   refine W.seq ?_
   refine W.region ?_
   refine SL.val (O.fld_ref (o' := 3) rfl Try.underlying46 rfl (m := 0) (by kernel_rfl) rfl rfl Taken.no) ?_
   refine SL.val (O.ld1 (PtI.ref rfl rfl) rfl Try.underlying32 rfl rfl Taken.no) ?_
   refine SL.val (O.move rfl rfl Taken.no) ?_
   refine SL.memS (O.buildSlice 108 (rows := [(Go.D21.mk (a.hist.length : Int) d)].map eL) rfl rfl Try.underlying32 hi22 hz22 hs22 (by decide) rfl (by decide) rfl rfl rfl Taken.no) rfl rfl (S' := (108, .data 22 1 ([(Go.D21.mk (a.hist.length : Int) d)].map eL)) :: _) rfl ?_
   refine SL.memS (O.app (k' := 109) rfl rfl (SlOf.own rfl rfl) Try.underlying32 hi22 hz22 hs22 rfl rfl (by exact app_map) (by rw [hb22]; (simp only [List.length_map, List.length_singleton]; have : a.sync.snaps.length = a.sn.length := hsl; omega)) (by (simp only [List.length_map, List.length_singleton]; have : a.sync.snaps.length = a.sn.length := hsl; omega)) rfl Taken.no) rfl rfl (S' := (109, _) :: (103, .dead) :: _) rfl ?_
   refine SL.val (O.fld_ref (o' := 3) rfl Try.underlying46 rfl (m := 0) (by kernel_rfl) rfl rfl Taken.no) ?_
   refine SL.effS (O.st_ref (m := 1) rfl rfl rfl (js := [_]) rfl rfl (by kernel_rfl) (by simp) (Nat.le_of_ble_eq_true rfl) rfl (is' := [_, _, _, _]) rfl Taken.no) (S' := (104, _) :: _) rfl ?_
   refine SL.nil ?_
   refine E.to ?_
   refine W.seq ?_
   refine W.region ?_
   refine SL.freezeC 104 3 109 (is' := [_, _, _, _]) rfl rfl rfl rfl ?_
   refine SL.val (O.fld_ref (o' := 3) rfl Try.underlying46 rfl (m := 0) (by kernel_rfl) rfl rfl Taken.no) ?_
   refine SL.val (O.ld1 (PtI.ref rfl rfl) rfl Try.underlying32 rfl rfl Taken.no) ?_
   refine SL.val (O.fld_ref (o' := 3) rfl Try.underlying46 rfl (m := 0) (by kernel_rfl) rfl rfl Taken.no) ?_
   refine SL.val (O.ld1 (PtI.ref rfl rfl) rfl Try.underlying32 rfl rfl Taken.no) ?_
   refine SL.val (O.lenE (n := (a.sn.length + 1)) (SlOf.fz rfl (by decide)) (by rw [List.length_map, List.length_append]; show a.snaps.length + 1 = _; omega) Try.underlying32 rfl Taken.no) ?_
   refine SL.val (O.det (fun _ => by first | exact G.R.sub64 rfl rfl (by omega) | exact G.R.sub rfl rfl) rfl Taken.no) ?_
   refine SL.val (O.det (fun _ => G.R.max2 rfl rfl) rfl Taken.no) ?_
   refine SL.val (O.sub_fz (i := (a.sn.length + 1 - 2)) rfl (Bnd.at rfl (by first | omega | (split <;> omega))) Bnd.no (by rw [List.length_map, List.length_append]; show _ ≤ a.snaps.length + 1; omega) (by first | omega | (simp only [List.length_map, Nat.le_refl, Nat.zero_le] <;> omega) | (simp <;> omega)) sub_lo Try.underlying32 hi22 hs22 rfl Taken.no) ?_
   refine SL.val (O.fld_ref (o' := 3) rfl Try.underlying46 rfl (m := 0) (by kernel_rfl) rfl rfl Taken.no) ?_
   refine SL.effS (O.st_ref (m := 1) rfl rfl rfl (js := [_]) rfl rfl (by kernel_rfl) (by simp) (Nat.le_of_ble_eq_true rfl) rfl (is' := [_, _, _, _]) rfl Taken.no) (S' := (104, _) :: _) rfl ?_
   refine SL.nil ?_
   refine E.to ?_
   refine W.pick (.cons (t := 4) rfl (.cons (t := 5) rfl (.cons (t := 6) rfl .nil))) (.cons (t := 101) rfl (.cons (t := 102) rfl (.cons (t := 104) rfl (.cons (t := 108) rfl .nil)))) ?_
   refine W.seq ?_
   refine W.region ?_
   refine SL.val (O.ldN (m := 4) (PtI.ref rfl rfl) (js := [_, _, _, _]) rfl (Nat.le_of_ble_eq_true rfl) Try.underlying46 rfl (by kernel_rfl) rfl Taken.no) ?_
   refine SL.effS (O.st_ref (m := 4) rfl rfl rfl (js := [_, _, _, _]) rfl rfl (by kernel_rfl) (by simp) (Nat.le_of_ble_eq_true rfl) rfl (is' := [_, _, _, _]) rfl Taken.no) (S' := (102, _) :: _) rfl ?_
   refine SL.val (O.assign rfl rfl Taken.no) ?_
   refine SL.nil ?_
   refine E.to ?_
   refine W.ret ?_
   refine E.fin (rs := [_, _]) (rn []) (.inl rfl) rfl (.cons (ResOne.cellN (m := 4) (PtI.ref rfl rfl) (js := [_, _, _, _]) rfl (Nat.le_of_ble_eq_true rfl) Try.underlying46 rfl (by kernel_rfl)) (.cons (ResOne.tmp rfl) .nil)) ?_ ?_ rfl (fixL_spec rfl)
   ·skip
    rw [hT]; rfl
   · exact SubS.nil
 ·skip
  have hT := AS.take_n (d := d) (show ¬ (0 < a.sn.length ∧ (a.sn[(a.sn.length - 1)]!).1 = a.hist.length) by omega)
  refine W.skip ?_
  refine E.to ?_
  refine W.seq ?_
  refine W.region ?_
  refine SL.val (O.fld_ref (o' := 3) rfl Try.underlying46 rfl (m := 0) (by kernel_rfl) rfl rfl Taken.no) ?_
  refine SL.val (O.ld1 (PtI.ref rfl rfl) rfl Try.underlying32 rfl rfl Taken.no) ?_
  refine SL.val (O.move rfl rfl Taken.no) ?_
  refine SL.memS (O.buildSlice 110 (rows := [(Go.D21.mk (a.hist.length : Int) d)].map eL) rfl rfl Try.underlying32 hi22 hz22 hs22 (by decide) rfl (by decide) rfl rfl rfl Taken.no) rfl rfl (S' := (110, .data 22 1 ([(Go.D21.mk (a.hist.length : Int) d)].map eL)) :: _) rfl ?_
  refine SL.memS (O.app (k' := 111) rfl rfl (SlOf.own rfl rfl) Try.underlying32 hi22 hz22 hs22 rfl rfl (by exact app_map) (by rw [hb22]; (simp only [List.length_map, List.length_singleton]; have : a.sync.snaps.length = a.sn.length := hsl; omega)) (by (simp only [List.length_map, List.length_singleton]; have : a.sync.snaps.length = a.sn.length := hsl; omega)) rfl Taken.no) rfl rfl (S' := (111, _) :: (103, .dead) :: _) rfl ?_
  refine SL.val (O.fld_ref (o' := 3) rfl Try.underlying46 rfl (m := 0) (by kernel_rfl) rfl rfl Taken.no) ?_
  refine SL.effS (O.st_ref (m := 1) rfl rfl rfl (js := [_]) rfl rfl (by kernel_rfl) (by simp) (Nat.le_of_ble_eq_true rfl) rfl (is' := [_, _, _, _]) rfl Taken.no) (S' := (104, _) :: _) rfl ?_
  refine SL.nil ?_
  refine E.to ?_
  refine W.seq ?_
  refine W.region ?_
  refine SL.freezeC 104 3 111 (is' := [_, _, _, _]) rfl rfl rfl rfl ?_
  refine SL.val (O.fld_ref (o' := 3) rfl Try.underlying46 rfl (m := 0) (by kernel_rfl) rfl rfl Taken.no) ?_
  refine SL.val (O.ld1 (PtI.ref rfl rfl) rfl Try.underlying32 rfl rfl Taken.no) ?_
  refine SL.val (O.fld_ref (o' := 3) rfl Try.underlying46 rfl (m := 0) (by kernel_rfl) rfl rfl Taken.no) ?_
  refine SL.val (O.ld1 (PtI.ref rfl rfl) rfl Try.underlying32 rfl rfl Taken.no) ?_
  refine SL.val (O.lenE (n := (a.sn.length + 1)) (SlOf.fz rfl (by decide)) (by rw [List.length_map, List.length_append]; show a.snaps.length + 1 = _; omega) Try.underlying32 rfl Taken.no) ?_
  refine SL.val (O.det (fun _ => by first | exact G.R.sub64 rfl rfl (by omega) | exact G.R.sub rfl rfl) rfl Taken.no) ?_
  refine SL.val (O.det (fun _ => G.R.max2 rfl rfl) rfl Taken.no) ?_
  refine SL.val (O.sub_fz (i := (a.sn.length + 1 - 2)) rfl (Bnd.at rfl (by first | omega | (split <;> omega))) Bnd.no (by rw [List.length_map, List.length_append]; show _ ≤ a.snaps.length + 1; omega) (by first | omega | (simp only [List.length_map, Nat.le_refl, Nat.zero_le] <;> omega) | (simp <;> omega)) sub_lo Try.underlying32 hi22 hs22 rfl Taken.no) ?_
  refine SL.val (O.fld_ref (o' := 3) rfl Try.underlying46 rfl (m := 0) (by kernel_rfl) rfl rfl Taken.no) ?_
  refine SL.effS (O.st_ref (m := 1) rfl rfl rfl (js := [_]) rfl rfl (by kernel_rfl) (by simp) (Nat.le_of_ble_eq_true rfl) rfl (is' := [_, _, _, _]) rfl Taken.no) (S' := (104, _) :: _) rfl ?_
  refine SL.nil ?_
  refine E.to ?_
  refine W.pick (.cons (t := 4) rfl (.cons (t := 5) rfl (.cons (t := 6) rfl .nil))) (.cons (t := 101) rfl (.cons (t := 102) rfl (.cons (t := 104) rfl (.cons (t := 110) rfl .nil)))) ?_
  refine W.seq ?_
  refine W.region ?_
  refine SL.val (O.ldN (m := 4) (PtI.ref rfl rfl) (js := [_, _, _, _]) rfl (Nat.le_of_ble_eq_true rfl) Try.underlying46 rfl (by kernel_rfl) rfl Taken.no) ?_
  refine SL.effS (O.st_ref (m := 4) rfl rfl rfl (js := [_, _, _, _]) rfl rfl (by kernel_rfl) (by simp) (Nat.le_of_ble_eq_true rfl) rfl (is' := [_, _, _, _]) rfl Taken.no) (S' := (102, _) :: _) rfl ?_
  refine SL.val (O.assign rfl rfl Taken.no) ?_
  refine SL.nil ?_
  refine E.to ?_
  refine W.ret ?_
  refine E.fin (rs := [_, _]) (rn []) (.inl rfl) rfl (.cons (ResOne.cellN (m := 4) (PtI.ref rfl rfl) (js := [_, _, _, _]) rfl (Nat.le_of_ble_eq_true rfl) Try.underlying46 rfl (by kernel_rfl)) (.cons (ResOne.tmp rfl) .nil)) ?_ ?_ rfl (fixL_spec rfl)
  ·skip
   rw [hT]; rfl
  · exact SubS.nil

set_option maxRecDepth 8000 in
/-- bookplate/snapshot.Trim. -/
theorem strim_h {a : AS} (h : a.Ok) :
    Con Try.prog 22 [vA [uI (a.base : Int), .sl 1 (a.file.map eB), uI a.sy, .sl 1 (a.snaps.map eL)]] [] (.tup [.agg [vI (a.trim.base : Int), vL 1 (a.trim.file.map eB), vI a.trim.sy, vL 1 (a.trim.snaps.map eL)], vI 0]) [] := by
 have hfl := AS.flen h
 have hbs := h.bs
 have hsh := h.sh
 have hsm := h.sm.2
 have htw := h.two
 have hsl := a.sn_len
 have hll := a.lg_len
 have hvw := AS.valid h
 have hpy := AS.pays h
 have hne : 0 < a.base → 0 < a.sn.length := fun q => List.length_pos_iff.2 (h.ne q)
 have hsy := valid_range hvw
 have hf := AS.sync_facts h
 have hrs := AS.rl_sm h
 have hrl := hrs.2
 have hso := AS.sync_ok h
 obtain ⟨i22, hi22, hz22, hs22, hb22⟩ := hinf22
 refine Con.enterL (n := 70) Try.func22 rfl rfl rfl (fun τ w ok vs hin => ?_)
 have hl0_1 := hin.lenA (i := 0) (j := 1) rfl rfl
 try rw [List.length_map] at hl0_1
 have hl0_3 := hin.lenA (i := 0) (j := 3) rfl rfl
 try rw [List.length_map] at hl0_3
 clear hin
 refine W.seq ?_
 refine W.region ?_
 refine SL.memS (O.box (is := [_, _, _, _]) 101 rfl rfl (by simp) rfl rfl Taken.no) rfl rfl (S' := (101, _) :: _) rfl ?_
 refine SL.memS (O.alloc (z := .agg #[.int .i64 0, .slice none 0 0, .int .i64 0, .slice none 0 0]) (is := [.u (.sc (.int .i64 0)), .u (.sc (.slice none 0 0)), .u (.sc (.int .i64 0)), .u (.sc (.slice none 0 0))]) 102 (by kernel_rfl) rfl rfl rfl Taken.no) rfl rfl (S' := (102, _) :: _) rfl ?_
 refine SL.val (O.assign rfl rfl Taken.no) ?_
 refine SL.nil ?_
 refine E.to ?_
 refine W.seq ?_
 refine W.region ?_
 refine SL.val (O.ldN (m := 4) (PtI.ref rfl rfl) (js := [_, _, _, _]) rfl (Nat.le_of_ble_eq_true rfl) Try.underlying46 rfl (by kernel_rfl) rfl Taken.no) ?_
 refine SL.memS (O.call (rn []) [] rfl rfl rfl (Con.fz (ssync_h h) rfl rfl) (.cons (ArgOk.aggU (.cons (ArgOk.same rfl) (.cons (ArgOk.same rfl) (.cons (ArgOk.same rfl) (.cons (ArgOk.same rfl) .nil))))) .nil) SubS.nil rfl rfl rfl rfl rfl (.inl rfl) hcallOk41 (r' := .tup [.agg [.u _, .u _, .u _, .u _], .u _]) rfl rfl Taken.no) rfl rfl (S' := _) rfl ?_
 refine SL.val (O.move rfl rfl Taken.no) ?_
 refine SL.val (O.extract rfl rfl rfl Taken.no) ?_
 refine SL.val (O.extract rfl rfl rfl Taken.no) ?_
 refine SL.memS (O.alloc (z := .agg #[.int .i64 0, .slice none 0 0, .int .i64 0, .slice none 0 0]) (is := [.u (.sc (.int .i64 0)), .u (.sc (.slice none 0 0)), .u (.sc (.int .i64 0)), .u (.sc (.slice none 0 0))]) 103 (by kernel_rfl) rfl rfl rfl Taken.no) rfl rfl (S' := (103, _) :: _) rfl ?_
 refine SL.effS (O.st_ref (m := 4) rfl rfl rfl (js := [_, _, _, _]) rfl rfl (by kernel_rfl) (by simp) (Nat.le_of_ble_eq_true rfl) rfl (is' := [_, _, _, _]) rfl Taken.no) (S' := (103, _) :: _) rfl ?_
 refine SL.val (O.assign rfl rfl Taken.no) ?_
 refine SL.nil ?_
 refine E.to ?_
 refine W.seq ?_
 refine W.seq ?_
 refine W.region ?_
 refine SL.val (O.move rfl rfl Taken.no) ?_
 refine SL.val (O.det (fun _ => G.R.mv (G.R.neq rfl rfl) (congrArg Value.bool (decide_eq_false (by decide)))) rfl Taken.no) ?_
 refine SL.val (O.move rfl rfl Taken.no) ?_
 have hg1 : false = false := by decide
 refine SL.val (O.fld_ref (o' := 3) rfl Try.underlying46 rfl (m := 0) (by kernel_rfl) rfl rfl (Taken.yes rfl rfl hg1)) ?_
 refine SL.val (O.ld1 (PtI.ref rfl rfl) rfl Try.underlying32 rfl rfl (Taken.yes rfl rfl hg1)) ?_
 refine SL.val (O.lenE (n := a.sn.length) (SlOf.fz rfl (by decide)) (by rw [List.length_map]; exact hsl) Try.underlying32 rfl (Taken.yes rfl rfl hg1)) ?_
 refine SL.val (O.det (fun _ => G.R.eql rfl rfl) rfl (Taken.yes rfl rfl hg1)) ?_
 refine SL.val (O.pick_f rfl rfl rfl rfl Taken.no) ?_
 refine SL.nil ?_
 refine E.to ?_
 first | refine W.cond_d rfl (fun hc2 => ?_) (fun hc2 => ?_) | refine W.cond_nd rfl (fun hc2 => ?_) (fun hc2 => ?_) | refine W.cond rfl (fun hc2 => ?_) (fun hc2 => ?_)
 ·skip
  refine W.seq ?_
  refine W.region ?_
  refine SL.val (O.ldN (m := 4) (PtI.ref rfl rfl) (js := [_, _, _, _]) rfl (Nat.le_of_ble_eq_true rfl) Try.underlying46 rfl (by kernel_rfl) rfl Taken.no) ?_
  refine SL.val (O.move rfl rfl Taken.no) ?_
  refine SL.effS (O.st_ref (m := 4) rfl rfl rfl (js := [_, _, _, _]) rfl rfl (by kernel_rfl) (by simp) (Nat.le_of_ble_eq_true rfl) rfl (is' := [_, _, _, _]) rfl Taken.no) (S' := (102, _) :: _) rfl ?_
  refine SL.val (O.assign rfl rfl Taken.no) ?_
  refine SL.nil ?_
  refine E.to ?_
  refine W.ret ?_
  refine E.thr ?_
  refine E.fin (rs := [_, _]) (rn []) (.inl rfl) rfl (.cons (ResOne.cellN (m := 4) (PtI.ref rfl rfl) (js := [_, _, _, _]) rfl (Nat.le_of_ble_eq_true rfl) Try.underlying46 rfl (by kernel_rfl)) (.cons (ResOne.tmp rfl) .nil)) ?_ ?_ rfl (fixL_spec rfl)
  ·skip
   rw [AS.trim, if_pos (show a.sn.length = 0 by omega)]; rfl
  · exact SubS.nil
 ·skip
  have hn0 : ¬ a.sn.length = 0 := by omega
  have hat := AS.sn_at h (k := 0) (by omega)
  have hT := AS.trim_facts h hn0
  refine W.skip ?_
  refine E.to ?_
  refine W.seq ?_
  refine W.region ?_
  refine SL.val (O.fld_ref (o' := 3) rfl Try.underlying46 rfl (m := 0) (by kernel_rfl) rfl rfl Taken.no) ?_
  refine SL.val (O.ld1 (PtI.ref rfl rfl) rfl Try.underlying32 rfl rfl Taken.no) ?_
  refine SL.val (O.idx_fz (i := 0) rfl rfl (rfl) (row_get (by show _ < a.snaps.length; omega)) Try.underlying32 hi22 hs22 rfl Taken.no) ?_
  refine SL.val (O.ld1 (PtI.ofU (PtU.fz rfl)) rfl Try.underlying22 rfl rfl Taken.no) ?_
  refine SL.memS (O.call (rn []) [] rfl rfl rfl (read_h (l := a.snaps[0]!) (by omega)) (.cons (ArgOk.same rfl) .nil) SubS.nil rfl rfl rfl rfl rfl (.inl rfl) hcallOk10 (r' := .tup [.u _, .u _, .u _]) rfl rfl Taken.no) rfl rfl (S' := _) rfl ?_
  refine SL.val (O.move rfl rfl Taken.no) ?_
  refine SL.val (O.extract rfl rfl rfl Taken.no) ?_
  refine SL.val (O.extract rfl rfl rfl Taken.no) ?_
  refine SL.val (O.extract rfl rfl rfl Taken.no) ?_
  refine SL.val (O.assign rfl rfl Taken.no) ?_
  refine SL.val (O.assign rfl rfl Taken.no) ?_
  refine SL.val (O.assign rfl rfl Taken.no) ?_
  refine SL.nil ?_
  refine E.to ?_
  refine W.pick (.cons (t := 1) rfl (.cons (t := 2) rfl (.cons (t := 3) rfl (.cons (t := 4) rfl (.cons (t := 5) rfl (.cons (t := 6) rfl .nil)))))) (.cons (t := 101) rfl (.cons (t := 102) rfl (.cons (t := 103) rfl .nil))) ?_
  refine W.seq ?_
  refine W.region ?_
  refine SL.memS (O.alloc (z := .agg #[.slice none 0 0, .int .i64 0]) (is := [.u (.sc (.slice none 0 0)), .u (.sc (.int .i64 0))]) 104 (by kernel_rfl) rfl rfl rfl Taken.no) rfl rfl (S' := (104, _) :: _) rfl ?_
  refine SL.nil ?_
  refine E.to ?_
  refine W.seq ?_
  refine W.seq ?_
  refine W.draw [⟨[], [], [], [101]⟩, ⟨[101], [], [], []⟩, ⟨[], [], [], []⟩, ⟨[], [], [], []⟩, ⟨[], [], [], [101]⟩, ⟨[101], [], [], []⟩, ⟨[], [], [], []⟩, ⟨[], [], [], []⟩, ⟨[], [], [], []⟩, ⟨[], [], [], []⟩] rfl (by kernel_rfl) (by kernel_rfl) rfl rfl ?_
  refine WH.val (O.fld_ref (o' := 1) rfl Try.underlying46 rfl (m := 1) (by kernel_rfl) rfl rfl Taken.no) rfl rfl ?_
  refine WH.val (O.ldN (m := 2) (PtI.ref rfl rfl) (js := [_, _]) rfl (Nat.le_of_ble_eq_true rfl) Try.underlying44 rfl (by kernel_rfl) rfl Taken.no) rfl rfl ?_
  refine WH.val (OpOk.re (i' := vL 1 (a.lg.map eL)) (O.callp rfl rfl rfl (payloads_h (l := a.file) a.sy (by omega)) (.cons (ArgOk.aggU (.cons (ArgOk.same rfl) (.cons (ArgOk.same rfl) .nil))) .nil) hcallOk43 rfl Taken.no) (by rw [if_pos hvw, hpy])) rfl rfl ?_
  refine WH.val (O.move rfl rfl Taken.no) rfl rfl ?_
  refine WH.val (O.fld_ref (o' := 0) rfl Try.underlying46 rfl (m := 0) (by kernel_rfl) rfl rfl Taken.no) rfl rfl ?_
  refine WH.val (O.ld1 (PtI.ref rfl rfl) rfl Try.underlying3 rfl rfl Taken.no) rfl rfl ?_
  refine WH.val (O.det (fun _ => by first | exact G.R.sub64 rfl rfl (by omega) | exact G.R.sub rfl rfl) rfl Taken.no) rfl rfl ?_
  refine WH.val (O.sub_fz (i := ((a.sn[0]!).1 - a.base)) rfl (Bnd.at rfl (by omega)) Bnd.no (by rw [List.length_map]; omega) (by first | omega | (simp only [List.length_map, Nat.le_refl, Nat.zero_le] <;> omega) | (simp <;> omega)) sub_lo Try.underlying32 hi22 hs22 rfl Taken.no) rfl rfl ?_
  refine WH.val (O.lenE (n := a.rl.length) (SlOf.fz rfl (by decide)) (by exact List.length_map _) Try.underlying32 rfl Taken.no) rfl rfl ?_
  refine WH.val (O.move rfl rfl Taken.no) rfl rfl ?_
  refine WH.nil ?_
  refine E.to ?_
  refine W.block ?_
  refine W.nilslC 104 0 1 (is' := [_, _]) rfl rfl rfl ?_
  refine W.loopx1 (fun (k : Nat) => [(45, vI (k : Int))]) (fun (k : Nat) => [(104, .cells 44 [.u (.sl 1 ((wr (a.rl.take k)).map eB)), vI 0])]) (fun (k : Nat) => k ≤ a.rl.length) (fun (k : Nat) => a.rl.length - k) (0) (rn []) (.cons (t := 2) rfl (.cons (t := 4) rfl (.cons (t := 6) rfl (.cons (t := 9) rfl (.cons (t := 43) rfl (.cons (t := 44) rfl .nil)))))) (.cons (t := 101) rfl (.cons (t := 102) rfl (.cons (t := 103) rfl .nil))) rfl ?_ ?_ rfl rfl ?_ ?_
  · exact (SubF.cons rfl SubF.nil)
  · exact (SubS.cons rfl SubS.nil)
  ·skip
   omega
  intro k hinv
  have hk := hinv
  have hwl := wr_len hrs k
  refine W.seq ?_
  refine W.region ?_
  refine SL.val (O.det (fun _ => G.R.lss rfl rfl) rfl Taken.no) ?_
  refine SL.nil ?_
  refine E.to ?_
  refine W.seq ?_
  first | refine W.cond_d rfl (fun hc3 => ?_) (fun hc3 => ?_) | refine W.cond_nd rfl (fun hc3 => ?_) (fun hc3 => ?_) | refine W.cond rfl (fun hc3 => ?_) (fun hc3 => ?_)
  ·skip
   have hk2 : k < a.rl.length := by omega
   have ha0 := wr_app0 hrs hk2
   have hpk : (a.rl[k]!).length ≤ 100 := hrs.1 _ (by rw [getElem!_pos a.rl k hk2]; exact List.getElem_mem _)
   refine W.skip ?_
   refine E.to ?_
   refine W.seq ?_
   refine W.block ?_
   refine W.seq ?_
   refine W.region ?_
   refine SL.val (O.idx_fz (i := k) rfl rfl (rfl) (row_get (xs := a.rl) hk2) Try.underlying32 hi22 hs22 rfl Taken.no) ?_
   refine SL.val (O.ld1 (PtI.ofU (PtU.fz rfl)) rfl Try.underlying22 rfl rfl Taken.no) ?_
   refine SL.val (O.assign rfl rfl Taken.no) ?_
   refine SL.nil ?_
   refine E.to ?_
   refine W.seq ?_
   refine W.region ?_
   refine SL.val (O.ldN (m := 2) (PtI.ref rfl rfl) (js := [_, _]) rfl (Nat.le_of_ble_eq_true rfl) Try.underlying44 rfl (by kernel_rfl) rfl Taken.no) ?_
   refine SL.val (O.move rfl rfl Taken.no) ?_
   refine SL.memS (O.call (rn []) [] rfl rfl rfl (append_h (l := wr (a.rl.take k)) (p := a.rl[k]!) 0 (by omega) (by omega)) (.cons (ArgOk.aggU (.cons (ArgOk.same rfl) (.cons (ArgOk.same rfl) .nil))) (.cons (ArgOk.same rfl) .nil)) SubS.nil rfl rfl rfl rfl rfl (.inl rfl) hcallOk44 (r' := .tup [.agg [.u _, .u _], .u _]) rfl rfl Taken.no) rfl rfl (S' := _) rfl ?_
   refine SL.as (i' := .tup [.agg [vL 1 ((wr (a.rl.take (k + 1))).map eB), vI 0], vI 0]) 52 rfl (by rw [ha0.1, ha0.2.1, ha0.2.2]) ?_
   refine SL.val (O.move rfl rfl Taken.no) ?_
   refine SL.val (O.extract rfl rfl rfl Taken.no) ?_
   refine SL.val (O.extract rfl rfl rfl Taken.no) ?_
   refine SL.effS (O.st_ref (m := 2) rfl rfl rfl (js := [_, _]) rfl rfl (by kernel_rfl) (by simp) (Nat.le_of_ble_eq_true rfl) rfl (is' := [_, _]) rfl Taken.no) (S' := (104, _) :: _) rfl ?_
   refine SL.val (O.assign rfl rfl Taken.no) ?_
   refine SL.nil ?_
   refine E.to ?_
   refine W.seq ?_
   refine W.region ?_
   refine SL.val (O.move rfl rfl Taken.no) ?_
   refine SL.val (O.det (fun _ => G.R.mv (G.R.neq rfl rfl) (congrArg Value.bool (decide_eq_false (by decide)))) rfl Taken.no) ?_
   refine SL.nil ?_
   refine E.to ?_
   refine W.cond_f rfl ?_
   refine W.skip ?_
   refine E.inn ?_
   refine E.to ?_
   refine W.region ?_
   refine SL.val (O.det (fun _ => by first | exact G.R.add64 rfl rfl (by omega) | exact G.R.add rfl rfl) rfl Taken.no) ?_
   refine SL.val (O.move rfl rfl Taken.no) ?_
   refine SL.nil ?_
   refine E.again ((k + 1)) (rn []) ?_ ?_ rfl (fixL_spec rfl) ?_ ?_
   · exact (SubF.cons rfl (SubF.cons rfl (SubF.cons rfl (SubF.cons rfl (SubF.cons rfl (SubF.cons rfl (SubF.cons rfl SubF.nil)))))))
   · exact (SubS.cons rfl (SubS.cons rfl (SubS.cons rfl (SubS.cons rfl SubS.nil))))
   ·try dsimp only
    omega
   · (try dsimp only); omega
  ·skip
   refine W.exit ?_
   refine E.th ?_
   refine E.th ?_
   refine E.hit ?_
   refine E.to ?_
   refine W.seq ?_
   refine W.region ?_
   obtain rfl : k = a.rl.length := by omega
   rw [List.take_length] at hwl ⊢
   have hs0 := wr_sync0 hrs
   refine SL.val (O.move rfl rfl Taken.no) ?_
   refine SL.val (O.fld_ref (o' := 0) rfl Try.underlying46 rfl (m := 0) (by kernel_rfl) rfl rfl Taken.no) ?_
   refine SL.effS (O.st_ref (m := 1) rfl rfl rfl (js := [_]) rfl rfl (by kernel_rfl) (by simp) (Nat.le_of_ble_eq_true rfl) rfl (is' := [_, _, _, _]) rfl Taken.no) (S' := (103, _) :: _) rfl ?_
   refine SL.nil ?_
   refine E.to ?_
   refine W.seq ?_
   refine W.region ?_
   refine SL.val (O.ldN (m := 2) (PtI.ref rfl rfl) (js := [_, _]) rfl (Nat.le_of_ble_eq_true rfl) Try.underlying44 rfl (by kernel_rfl) rfl Taken.no) ?_
   refine SL.memS (O.call (rn []) [] rfl rfl rfl (sync_h (l := wr a.rl) 0 (by omega)) (.cons (ArgOk.aggU (.cons (ArgOk.same rfl) (.cons (ArgOk.same rfl) .nil))) .nil) SubS.nil rfl rfl rfl rfl rfl (.inl rfl) hcallOk45 (r' := .tup [.agg [.u _, .u _], .u _]) rfl rfl Taken.no) rfl rfl (S' := _) rfl ?_
   refine SL.as (i' := .tup [.agg [vL 1 ((wr a.rl).map eB), vI ((wr a.rl).length : Int)], vI 0]) 64 rfl (by rw [hs0.1, hs0.2]) ?_
   refine SL.val (O.move rfl rfl Taken.no) ?_
   refine SL.val (O.extract rfl rfl rfl Taken.no) ?_
   refine SL.val (O.extract rfl rfl rfl Taken.no) ?_
   refine SL.val (O.fld_ref (o' := 1) rfl Try.underlying46 rfl (m := 1) (by kernel_rfl) rfl rfl Taken.no) ?_
   refine SL.effS (O.st_ref (m := 2) rfl rfl rfl (js := [_, _]) rfl rfl (by kernel_rfl) (by simp) (Nat.le_of_ble_eq_true rfl) rfl (is' := [_, _, _, _]) rfl Taken.no) (S' := (103, _) :: _) rfl ?_
   refine SL.val (O.assign rfl rfl Taken.no) ?_
   refine SL.nil ?_
   refine E.to ?_
   refine W.seq ?_
   refine W.region ?_
   refine SL.val (O.ldN (m := 4) (PtI.ref rfl rfl) (js := [_, _, _, _]) rfl (Nat.le_of_ble_eq_true rfl) Try.underlying46 rfl (by kernel_rfl) rfl Taken.no) ?_
   refine SL.val (O.move rfl rfl Taken.no) ?_
   refine SL.effS (O.st_ref (m := 4) rfl rfl rfl (js := [_, _, _, _]) rfl rfl (by kernel_rfl) (by simp) (Nat.le_of_ble_eq_true rfl) rfl (is' := [_, _, _, _]) rfl Taken.no) (S' := (102, _) :: _) rfl ?_
   refine SL.val (O.assign rfl rfl Taken.no) ?_
   refine SL.nil ?_
   refine E.to ?_
   refine W.ret ?_
   refine E.fin (rs := [_, _]) (rn []) (.inl rfl) rfl (.cons (ResOne.cellN (m := 4) (PtI.ref rfl rfl) (js := [_, _, _, _]) rfl (Nat.le_of_ble_eq_true rfl) Try.underlying46 rfl (by kernel_rfl)) (.cons (ResOne.tmp rfl) .nil)) ?_ ?_ rfl (fixL_spec rfl)
   ·skip
    rw [hT.1, hT.2.1, hT.2.2.1, hT.2.2.2, ← hat.2.2.1]; rfl
   · exact SubS.nil

end Go.Proofs.Ytemclhhlafjohaa
